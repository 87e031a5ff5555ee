import Derived.Test.YtfdenmkoampgnaaP09c
import Derived.Test.YtfdenmkoampgnaaV09a
import Derived.Test.YtfdenmkoampgnaaTrGM
set_option linter.unusedSimpArgs false
set_option linter.unusedVariables false
namespace Go.Proofs.Ytfdenmkoampgnaa
open Go.Am Go.Tr

theorem l4_1 {Γ : Tab} (t : Tr.Tree) (w : WFt t) (e0 : Env) (h6 : e0 6 = .ptr 0 0 0 0) :
    iter (round Γ [7, 8, 9] [(.exit 0, [7, 8])] c4_1 e0 1 []) ([.int .i64 0, .int .i64 0, .int .i64 0], [.var (Tb t)]) = some (.exit 0, [I (usedN t 1), I (usedB t 1)], [.var (Tb t)]) := by
  have hl := (wbt w).len
  have h := for_list (f := round Γ [7, 8, 9] [(.exit 0, [7, 8])] c4_1 e0 1 []) (fun k (s : Int × Int) => ([.int .i64 s.1, .int .i64 s.2, .int .i64 (k : Int)], [.var (Tb t)])) t.nodes cntL (fun s => (.exit 0, [.int .i64 s.1, .int .i64 s.2], [.var (Tb t)])) (fun k s => 0 ≤ s.1 ∧ s.1 ≤ k ∧ 0 ≤ s.2 ∧ s.2 ≤ 4096 * (k : Int))
    (fun k hk s hs => by
      obtain ⟨q, hq⟩ : ∃ q, q = t.nodes[k] := ⟨_, rfl⟩
      have hqd := dat_le w q.ino
      unfold dat at hqd
      rw [getZ_of (find_of w.wf.srt (by rw [hq]; exact List.getElem_mem hk))] at hqd
      rw [← hq]
      unfold cntL
      by_cases c : 0 < q.links
      · rw [if_pos c]
        refine ⟨⟨by simp only; omega, by simp only; omega, by simp only; omega, by simp only; omega⟩, ?_⟩
        simp -implicitDefEqProofs (disch := omega) [wrap_of, ilt_t, ilt_f, ile_t, ile_f, nlt_t, nlt_f, nle_t, nle_f, ieq_t, ieq_f, imin_l, imin_r, imax_l, imax_r, take_app1, take_map_all, round_eq, b4_1, h6, hk, ← hq, c]
      · rw [if_neg c]
        refine ⟨⟨by omega, by omega, by omega, by omega⟩, ?_⟩
        simp -implicitDefEqProofs (disch := omega) [wrap_of, ilt_t, ilt_f, ile_t, ile_f, nlt_t, nlt_f, nle_t, nle_f, ieq_t, ieq_f, imin_l, imin_r, imax_l, imax_r, take_app1, take_map_all, round_eq, b4_1, h6, hk, ← hq, c])
    (fun s hs => by simp -implicitDefEqProofs (disch := omega) [wrap_of, ilt_t, ilt_f, ile_t, ile_f, nlt_t, nlt_f, nle_t, nle_f, ieq_t, ieq_f, imin_l, imin_r, imax_l, imax_r, take_app1, take_map_all, round_eq, b4_1, h6]) (0, 0) ⟨Int.le_refl _, Int.le_refl _, Int.le_refl _, Int.le_refl _⟩
  rw [all_root w] at h
  exact h
/-- Directories among entries, counted. -/
def dirC (t : Tr.Tree) (s : Int) (e : Tr.Ent) : Int := if (getZ t e.ino).kind = 2 then s + 1 else s
theorem dirC_fold (t : Tr.Tree) : ∀ (l : List Tr.Ent) (s : Int), l.foldl (dirC t) s = s + ((dirsIn t l).length : Int)
  | [], s => by simp [dirsIn]
  | e :: l, s => by
    rw [List.foldl_cons, dirC_fold t l]
    unfold dirC dirsIn
    rw [List.filter_cons]
    by_cases c : (getZ t e.ino).kind = 2
    · rw [if_pos c, if_pos (by simp [c])]
      simp
      omega
    · rw [if_neg c, if_neg (by simp [c])]
theorem l4_2 {n : Nat} (hn : 54 < n) (t : Tr.Tree) (w : WFt t) (d : Int) (x : Tr.Node) (hx : find t.nodes d = some x) (hda : dirE t d = 0) (e0 : Env) (h6 : e0 6 = .ptr 0 0 0 0) (h12 : e0 12 = .ptr 1 0 0 0) (h14 : e0 14 = I (usedN t d)) (h15 : e0 15 = I (usedB t d)) :
    iter (round (C09.tab n) [16, 17] [(.exit 2, [16]), (.ret, [4])] c4_2 e0 2 []) ([.int .i64 0, .int .i64 0], [.var (Tb t), .var (Nc x)]) = some (.exit 2, [I ((dirsIn t x.ents).length : Int)], [.var (Tb t), .var (Nc x)]) := by
  have hl := (wbt w).ents _ (find_mem hx).1
  have h := for_list (f := round (C09.tab n) [16, 17] [(.exit 2, [16]), (.ret, [4])] c4_2 e0 2 []) (fun k (s : Int) => ([.int .i64 s, .int .i64 (k : Int)], [.var (Tb t), .var (Nc x)])) x.ents (dirC t) (fun s => (.exit 2, [.int .i64 s], [.var (Tb t), .var (Nc x)])) (fun k s => 0 ≤ s ∧ s ≤ k)
    (fun k hk s hs => by
      obtain ⟨e, he⟩ : ∃ e, e = x.ents[k] := ⟨_, rfl⟩
      rw [← he]
      have hem : e ∈ x.ents := by rw [he]; exact List.getElem_mem hk
      obtain ⟨⟨y, hy⟩, _, _⟩ := ent_node w hx hem
      have hG := s26 (n := n) (by omega) t (wbt w) e.ino
      rw [hy] at hG
      unfold getV at hG
      unfold dirC
      rw [getZ_of hy]
      have hyi := find_ino hy
      by_cases c : y.kind = 2
      · rw [if_pos c]
        refine ⟨⟨by omega, by omega⟩, ?_⟩
        have h13 := s13 (n := n) (by omega) t w e.ino
        have hdy : dirE t e.ino = 0 := dirE_iff.2 ⟨y, hy, c⟩
        obtain ⟨u1, u2⟩ := used_in w hda hdy ⟨e, by rw [getZ_of hx]; exact hem, rfl⟩
        have hu := used_le w e.ino
        have hv := used_le w d
        rw [← hyi] at h13 u1 u2 hu
        generalize usedN t d = un at *
        generalize usedB t d = ub at *
        rw [hyi] at h13 u1 u2 hu
        generalize usedN t e.ino = vn at *
        generalize usedB t e.ino = vb at *
        rw [← hyi] at h13
        simp only [Tv, Nd, Option.elim_some] at hG h13
        simp -implicitDefEqProofs (disch := omega) [wrap_of, ilt_t, ilt_f, ile_t, ile_f, nlt_t, nlt_f, nle_t, nle_f, ieq_t, ieq_f, imin_l, imin_r, imax_l, imax_r, take_app1, take_map_all, round_eq, b4_2, h6, h12, h14, h15, hk, ← he, hG, c, a13, h13]
      · rw [if_neg c]
        refine ⟨⟨by omega, by omega⟩, ?_⟩
        simp only [Tv, Nd, Option.elim_some] at hG
        simp -implicitDefEqProofs (disch := omega) [wrap_of, ilt_t, ilt_f, ile_t, ile_f, nlt_t, nlt_f, nle_t, nle_f, ieq_t, ieq_f, imin_l, imin_r, imax_l, imax_r, take_app1, take_map_all, round_eq, b4_2, h6, h12, h14, h15, hk, ← he, hG, c])
    (fun s hs => by simp -implicitDefEqProofs (disch := omega) [wrap_of, ilt_t, ilt_f, ile_t, ile_f, nlt_t, nlt_f, nle_t, nle_f, ieq_t, ieq_f, imin_l, imin_r, imax_l, imax_r, take_app1, take_map_all, round_eq, b4_2, h12]) 0 ⟨Int.le_refl _, Int.le_refl _⟩
  rw [dirC_fold, Int.zero_add] at h
  exact h
/-- QuotaAll -/
theorem lp4 (l : List Sd) (hl : l.length ≤ 9223372036854775807) (hd : ∀ s ∈ l, s.data.length ≤ 9223372036854775807) (f : Bool) (a : UInt8) :
    runP (C09.tab 67) c4 [.lst f (l.map Sv), .int .u8 a.toNat] = some (.bool true) := by
  rw [runP_eq, runH_eq]
  have h8 := s8 (n := 67) (by decide)
  have h9 := s9 (n := 67) (by decide) l hl hd f
  cases hgr : greatT l with
  | true =>
    rw [hgr] at h9
    simp -implicitDefEqProofs (disch := omega) [wrap_of, ilt_t, ilt_f, ile_t, ile_f, nlt_t, nlt_f, nle_t, nle_f, ieq_t, ieq_f, imin_l, imin_r, imax_l, imax_r, take_app1, take_map_all, c4, a8, h8, a9, h9]
  | false =>
    rw [hgr] at h9
    have hl' : l.length ≤ 1000000 := by
      unfold greatT at hgr
      simp at hgr
      omega
    have h10 := s10 (n := 67) (by decide) l hl' hd f
    have w : WFt (Tr.made okN sLess (l.map Sd.st)) := WF.made ord_sLess _
    generalize Tr.made okN sLess (l.map Sd.st) = t at *
    have h20 := s20 (n := 67) (by decide) t w a.toNat (u8lt a)
    have hda := dirAt_dir w a.toNat
    generalize dirAt t a.toNat = d at *
    obtain ⟨x, hx, hxk⟩ := dirE_iff.1 hda
    have hxi := find_ino hx
    have hG := s26 (n := 67) (by decide) t (wbt w) d
    rw [hx] at hG
    unfold getV at hG
    have h13a := s13 (n := 67) (by decide) t w 1
    have h13b := s13 (n := 67) (by decide) t w d
    have L1 := fun e0 h6 => l4_1 (Γ := C09.tab 67) t w e0 h6
    have L2 := fun e0 h6 h12 h14 h15 => l4_2 (n := 67) (by decide) t w d x hx hda e0 h6 h12 h14 h15
    have hle := dirs_le w hx hda
    have hno := fun h => used_none w hx hda h
    have hu1 := used_le w 1
    have hu := used_le w d
    have hxe := (wbt w).ents _ (find_mem hx).1
    generalize usedN t 1 = u1 at *
    generalize usedB t 1 = v1 at *
    generalize usedN t d = un at *
    generalize usedB t d = ub at *
    generalize (dirsIn t x.ents).length = k at *
    subst hxi
    simp only [Tv, Nd, Nc, Tb, Option.elim_some] at h10 h20 hG h13a h13b L1 L2
    simp -implicitDefEqProofs (disch := omega) [wrap_of, ilt_t, ilt_f, ile_t, ile_f, nlt_t, nlt_f, nle_t, nle_f, ieq_t, ieq_f, imin_l, imin_r, imax_l, imax_r, take_app1, take_map_all, c4, a8, h8, a9, h9, a10, h10]
    rw [L1 _ (by simp -implicitDefEqProofs (disch := omega) [wrap_of, ilt_t, ilt_f, ile_t, ile_f, nlt_t, nlt_f, nle_t, nle_f, ieq_t, ieq_f, imin_l, imin_r, imax_l, imax_r, take_app1, take_map_all, ])]
    simp -implicitDefEqProofs (disch := omega) [wrap_of, ilt_t, ilt_f, ile_t, ile_f, nlt_t, nlt_f, nle_t, nle_f, ieq_t, ieq_f, imin_l, imin_r, imax_l, imax_r, take_app1, take_map_all, a13, h13a, h20, hG, h13b]
    rw [L2 _ (by simp -implicitDefEqProofs (disch := omega) [wrap_of, ilt_t, ilt_f, ile_t, ile_f, nlt_t, nlt_f, nle_t, nle_f, ieq_t, ieq_f, imin_l, imin_r, imax_l, imax_r, take_app1, take_map_all, ]) (by simp -implicitDefEqProofs (disch := omega) [wrap_of, ilt_t, ilt_f, ile_t, ile_f, nlt_t, nlt_f, nle_t, nle_f, ieq_t, ieq_f, imin_l, imin_r, imax_l, imax_r, take_app1, take_map_all, ]) (by simp -implicitDefEqProofs (disch := omega) [wrap_of, ilt_t, ilt_f, ile_t, ile_f, nlt_t, nlt_f, nle_t, nle_f, ieq_t, ieq_f, imin_l, imin_r, imax_l, imax_r, take_app1, take_map_all, ]) (by simp -implicitDefEqProofs (disch := omega) [wrap_of, ilt_t, ilt_f, ile_t, ile_f, nlt_t, nlt_f, nle_t, nle_f, ieq_t, ieq_f, imin_l, imin_r, imax_l, imax_r, take_app1, take_map_all, ])]
    by_cases he : x.ents.length = 0
    · obtain ⟨z1, z2⟩ := hno (List.eq_nil_of_length_eq_zero he)
      have hk0 : k = 0 := by omega
      subst hk0
      simp -implicitDefEqProofs (disch := omega) [wrap_of, ilt_t, ilt_f, ile_t, ile_f, nlt_t, nlt_f, nle_t, nle_f, ieq_t, ieq_f, imin_l, imin_r, imax_l, imax_r, take_app1, take_map_all, he, z1, z2]
    · simp -implicitDefEqProofs (disch := omega) [wrap_of, ilt_t, ilt_f, ile_t, ile_f, nlt_t, nlt_f, nle_t, nle_f, ieq_t, ieq_f, imin_l, imin_r, imax_l, imax_r, take_app1, take_map_all, he, hle]
end Go.Proofs.Ytfdenmkoampgnaa
