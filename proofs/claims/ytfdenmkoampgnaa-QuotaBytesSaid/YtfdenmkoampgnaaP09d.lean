import Derived.Test.YtfdenmkoampgnaaP09c
import Derived.Test.YtfdenmkoampgnaaV09a
import Derived.Test.YtfdenmkoampgnaaTrGM
set_option linter.unusedSimpArgs false
set_option linter.unusedVariables false
namespace Go.Proofs.Ytfdenmkoampgnaa
open Go.Am Go.Tr

theorem dir_ents {t : Tr.Tree} (w : WFt t) {d : Int} {x : Tr.Node} (hx : find t.nodes d = some x) : x.ents.length ≤ 1000 := (wbt w).ents _ (find_mem hx).1
theorem may_cases (t : Tr.Tree) (l : List Qu) (d a b : Int) : may t l d a b = 90 ∨ may t l d a b = 0 := by
  unfold may
  split
  · exact .inl rfl
  · exact .inr rfl
/-- QuotaBytes -/
theorem lp7 (l : List Sd) (hl : l.length ≤ 9223372036854775807) (hd : ∀ s ∈ l, s.data.length ≤ 9223372036854775807) (f : Bool) (gs : List Gi) (hg : gs.length ≤ 9223372036854775807) (g : Bool) (a b : UInt8) (ds : List UInt8) (hds : ds.length ≤ 9223372036854775807) (fd : Bool) :
    runP (C09.tab 75) c7 [.lst f (l.map Sv), .lst g (gs.map Gv), .int .u8 a.toNat, .int .u8 b.toNat, .lst fd (ds.map B)] = some (.bool true) := by
  rw [runP_eq, runH_eq]
  have h8 := s8 (n := 75) (by decide)
  have h9 := s9 (n := 75) (by decide) l hl hd f
  cases hgr : greatT l with
  | true =>
    rw [hgr] at h9
    simp -implicitDefEqProofs (disch := omega) [wrap_of, ilt_t, ilt_f, ile_t, ile_f, nlt_t, nlt_f, nle_t, nle_f, ieq_t, ieq_f, imin_l, imin_r, imax_l, imax_r, take_app1, take_map_all, c7, a8, h8, a9, h9]
  | false =>
    rw [hgr] at h9
    by_cases hdl : 4096 < ds.length
    · simp -implicitDefEqProofs (disch := omega) [wrap_of, ilt_t, ilt_f, ile_t, ile_f, nlt_t, nlt_f, nle_t, nle_f, ieq_t, ieq_f, imin_l, imin_r, imax_l, imax_r, take_app1, take_map_all, c7, a8, h8, a9, h9, hdl]
    · have hl' : l.length ≤ 1000000 := by
        unfold greatT at hgr
        simp at hgr
        omega
      have h10 := s10 (n := 75) (by decide) l hl' hd f
      have w : WFt (Tr.made okN sLess (l.map Sd.st)) := WF.made ord_sLess _
      generalize Tr.made okN sLess (l.map Sd.st) = t at *
      have h11 := s11 (n := 75) (by decide) t w gs hg g
      have hv := quo_inv t gs
      generalize quoL t gs = q at *
      obtain ⟨q, fq⟩ := q
      simp only at h11 hv
      have hq16 := hv.len
      have hql : q.length ≤ 1000 := by omega
      have h20 := s20 (n := 75) (by decide) t w a.toNat (u8lt a)
      have hda := dirAt_dir w a.toNat
      generalize dirAt t a.toNat = d at *
      obtain ⟨x, hx, hxk⟩ := dirE_iff.1 hda
      have hxi := find_ino hx
      have hG := s26 (n := 75) (by decide) t (wbt w) d
      rw [hx] at hG
      unfold getV at hG
      have hxe := dir_ents w hx
      by_cases he : x.ents.length = 0
      · simp only [Tv, Nd, Option.elim_some] at h10 h11 h20 hG
        simp -implicitDefEqProofs (disch := omega) [wrap_of, ilt_t, ilt_f, ile_t, ile_f, nlt_t, nlt_f, nle_t, nle_f, ieq_t, ieq_f, imin_l, imin_r, imax_l, imax_r, take_app1, take_map_all, c7, a8, h8, a9, h9, hdl, a10, h10, a11, h11, h20, hG, he]
      · obtain ⟨j, hj⟩ : ∃ j, j = b.toNat % x.ents.length := ⟨_, rfl⟩
        have hjl : j < x.ents.length := by rw [hj]; exact Nat.mod_lt _ (by omega)
        have hj' : (b.toNat : Int).tmod (x.ents.length : Int) = (j : Int) := by rw [hj]; rfl
        have hbl := u8lt b
        obtain ⟨en, hen⟩ : ∃ en, en = x.ents[j] := ⟨_, rfl⟩
        have hem : en ∈ x.ents := by rw [hen]; exact List.getElem_mem hjl
        obtain ⟨⟨y, hy⟩, _, _⟩ := ent_node w hx hem
        have hG2 := s26 (n := 75) (by decide) t (wbt w) en.ino
        rw [hy] at hG2
        unfold getV at hG2
        by_cases c1 : y.kind = 1
        · by_cases c2 : y.links = 1
          · have hyi := find_ino hy
            have hin : inE t d en.ino := ⟨en, by rw [getZ_of hx]; exact hem, rfl⟩
            have hbr := bytes_right w hv hda hin hy c1 c2 (data := ds) (by omega)
            have hyd := dat_le w en.ino
            unfold dat at hyd
            rw [getZ_of hy] at hyd
            have h28 := s28 (n := 75) (by decide) t w.wf.srt (wbt w).len en.ino fd ds hds
            have h24 := s24 (n := 75) (by decide) t w q hv.srt hql fq 0 ((ds.length : Int) - (y.data.length : Int)) (by omega) (by omega) (by omega) (by omega) hda
            have wp : WFt (put t en.ino ds).1 := w.put _ _
            have h18 := s18 (n := 75) (by decide) (put t en.ino ds).1 wp q hql fq
            have hpe : (put t en.ino ds).2 = 0 := by
              unfold put
              rw [hy]
              simp only
              rw [if_neg (by omega), if_neg hdl]
            rw [hpe] at h28
            have hm := may_cases t q d 0 ((ds.length : Int) - (y.data.length : Int))
            generalize (put t en.ino ds).1 = u at *
            generalize may t q d 0 ((ds.length : Int) - (y.data.length : Int)) = mm at *
            have hrr : rightQ u q = decide (mm = 0) := by
              rcases hm with rfl | rfl
              · cases h : rightQ u q with
                | false => rfl
                | true => exact absurd rfl (hbr.1 h)
              · exact hbr.2 (by decide)
            rw [hrr] at h18
            subst hxi
            rw [← hyi] at h28
            simp only [Tv, Nd, Option.elim_some] at h10 h11 h20 hG hG2 h28 h24 h18
            rcases hm with rfl | rfl
            · simp -implicitDefEqProofs (disch := omega) [wrap_of, ilt_t, ilt_f, ile_t, ile_f, nlt_t, nlt_f, nle_t, nle_f, ieq_t, ieq_f, imin_l, imin_r, imax_l, imax_r, take_app1, take_map_all, c7, a8, h8, a9, h9, hdl, a10, h10, a11, h11, h20, hG, he, hj', hjl, ← hen, hG2, c1, c2, a28, h28, a24, h24, a18, h18]
            · simp -implicitDefEqProofs (disch := omega) [wrap_of, ilt_t, ilt_f, ile_t, ile_f, nlt_t, nlt_f, nle_t, nle_f, ieq_t, ieq_f, imin_l, imin_r, imax_l, imax_r, take_app1, take_map_all, c7, a8, h8, a9, h9, hdl, a10, h10, a11, h11, h20, hG, he, hj', hjl, ← hen, hG2, c1, c2, a28, h28, a24, h24, a18, h18]
          · simp only [Tv, Nd, Option.elim_some] at h10 h11 h20 hG hG2
            simp -implicitDefEqProofs (disch := omega) [wrap_of, ilt_t, ilt_f, ile_t, ile_f, nlt_t, nlt_f, nle_t, nle_f, ieq_t, ieq_f, imin_l, imin_r, imax_l, imax_r, take_app1, take_map_all, c7, a8, h8, a9, h9, hdl, a10, h10, a11, h11, h20, hG, he, hj', hjl, ← hen, hG2, c1, c2]
        · simp only [Tv, Nd, Option.elim_some] at h10 h11 h20 hG hG2
          simp -implicitDefEqProofs (disch := omega) [wrap_of, ilt_t, ilt_f, ile_t, ile_f, nlt_t, nlt_f, nle_t, nle_f, ieq_t, ieq_f, imin_l, imin_r, imax_l, imax_r, take_app1, take_map_all, c7, a8, h8, a9, h9, hdl, a10, h10, a11, h11, h20, hG, he, hj', hjl, ← hen, hG2, c1]
end Go.Proofs.Ytfdenmkoampgnaa
