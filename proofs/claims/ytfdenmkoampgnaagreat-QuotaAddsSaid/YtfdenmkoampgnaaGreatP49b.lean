import Derived.Test.YtfdenmkoampgnaaGreatP49a
import Derived.Test.YtfdenmkoampgnaaGreatV49GE
import Derived.Test.YtfdenmkoampgnaaGreatTrGM
set_option linter.unusedSimpArgs false
set_option linter.unusedVariables false
namespace Go.Proofs.YtfdenmkoampgnaaGreat
open Go.Am Go.Tr

def onG (a : Int) (s : Bool) (x : Qu) : Bool := s || decide (x.ino = a)
theorem onG_fold (a : Int) : ∀ (l : List Qu) (s : Bool), l.foldl (onG a) s = (s || (findQ l a).isSome)
  | [], s => by simp [findQ]
  | x :: l, s => by
    rw [List.foldl_cons, onG_fold a l]
    unfold onG findQ
    rw [List.find?_cons]
    generalize decide (x.ino = a) = u
    cases u <;> simp
theorem l3 {Γ : Tab} (l : List Qu) (hl : l.length ≤ 1000) (f : Bool) (a : Int) (X : AH) (hX : X.all plainB = true) (L : Nat) (hL : X.length = L) (e0 : Env) (h13 : e0 13 = .lst f (l.map Qv)) (h19 : e0 19 = I a) :
    iter (round Γ [23, 24] [(.exit 0, [23])] c3_1 e0 L []) ([.bool false, .int .i64 0], X) = some (.exit 0, [.bool (findQ l a).isSome], X) := by
  subst hL
  have h := for_list (f := round Γ [23, 24] [(.exit 0, [23])] c3_1 e0 X.length []) (fun k (s : Bool) => ([.bool s, .int .i64 (k : Int)], X)) l (onG a) (fun s => (.exit 0, [.bool s], X)) (fun _ _ => True)
    (fun k hk s _ => by
      refine ⟨trivial, ?_⟩
      obtain ⟨y, hy⟩ : ∃ y, y = l[k] := ⟨_, rfl⟩
      rw [← hy]
      unfold onG
      by_cases c1 : y.ino = a
      · cases s <;> simp -implicitDefEqProofs (disch := omega) [wrap_of, ilt_t, ilt_f, ile_t, ile_f, nlt_t, nlt_f, nle_t, nle_f, ieq_t, ieq_f, imin_l, imin_r, imax_l, imax_r, take_app1, take_map_all, round_eq, b3_1, h13, h19, hk, ← hy, c1, normH_plain _ _ X _ hX]
      · cases s <;> simp -implicitDefEqProofs (disch := omega) [wrap_of, ilt_t, ilt_f, ile_t, ile_f, nlt_t, nlt_f, nle_t, nle_f, ieq_t, ieq_f, imin_l, imin_r, imax_l, imax_r, take_app1, take_map_all, round_eq, b3_1, h13, h19, hk, ← hy, c1, normH_plain _ _ X _ hX])
    (fun s _ => by simp -implicitDefEqProofs (disch := omega) [wrap_of, ilt_t, ilt_f, ile_t, ile_f, nlt_t, nlt_f, nle_t, nle_f, ieq_t, ieq_f, imin_l, imin_r, imax_l, imax_r, take_app1, take_map_all, round_eq, b3_1, h13, normH_plain _ _ X _ hX]) false trivial
  rw [onG_fold] at h
  simpa using h
/-- QuotaAdds -/
theorem lp3 (l : List Sd) (hl : l.length ≤ 9223372036854775807) (hd : ∀ s ∈ l, s.data.length ≤ 9223372036854775807) (f : Bool) (gs : List Gi) (hg : gs.length ≤ 9223372036854775807) (g : Bool) (a b c : UInt8) :
    runP (C49.tab 87) c3 [.lst f (l.map Sv), .lst g (gs.map Gv), .int .u8 a.toNat, .int .u8 b.toNat, .int .u8 c.toNat] = some (.bool true) := by
  rw [runP_eq, runH_eq]
  have h4 := s4 (n := 87) (by decide)
  have h5 := s5 (n := 87) (by decide) l hl hd f
  cases hgr : greatT l with
  | true =>
    rw [hgr] at h5
    simp -implicitDefEqProofs (disch := omega) [wrap_of, ilt_t, ilt_f, ile_t, ile_f, nlt_t, nlt_f, nle_t, nle_f, ieq_t, ieq_f, imin_l, imin_r, imax_l, imax_r, take_app1, take_map_all, c3, a4, h4, a5, h5]
  | false =>
    rw [hgr] at h5
    have hl' : l.length ≤ 1000000 := by
      unfold greatT at hgr
      simp at hgr
      omega
    have h6 := s6 (n := 87) (by decide) l hl' hd f
    have w : WFt (Tr.made okN sLess (l.map Sd.st)) := WF.made ord_sLess _
    generalize Tr.made okN sLess (l.map Sd.st) = t at *
    have h7 := s7 (n := 87) (by decide) t w gs hg g
    have hv := quo_inv t gs
    generalize quoL t gs = q at *
    obtain ⟨q, fq⟩ := q
    simp only at h7 hv
    have hq16 := hv.len
    have hql : q.length ≤ 1000 := by omega
    have h8 := s8 (n := 87) (by decide) t w a.toNat (u8lt a)
    have hda := dirAt_dir w a.toNat
    generalize dirAt t a.toNat = d at *
    have h10 := s10 (n := 87) (by decide) b.toNat (u8lt b)
    have h9 := s9 (n := 87) (by decide) t w d (nameOf b.toNat) ((c.toNat % 2 : Nat) + 1 : Int)
    have hc := u8lt c
    have hcm : (c.toNat : Int).tmod 2 = ((c.toNat % 2 : Nat) : Int) := rfl
    have hcb : c.toNat % 2 < 2 := Nat.mod_lt _ (by omega)
    generalize c.toNat % 2 = cm at *
    have h12 := s12 (n := 87) (by decide) t w q hv.srt hql fq 1 0 (by omega) (by omega) (by omega) (by omega) hda
    have h11 := s11 (n := 87) (by decide) t w q hql fq
    rw [(rightQ_iff t q).2 hv] at h11
    have wa : WFt (Tr.add okN sLess t d (nameOf b.toNat) ((cm : Nat) + 1 : Int)).1 := w.add ord_sLess _ _ _
    have h11a := s11 (n := 87) (by decide) _ wa q hql fq
    have har := fun h => adds_right (ok := okN) ord_sLess w hv (d := d) (s := nameOf b.toNat) (kind := ((cm : Nat) + 1 : Int)) h
    have h13 := s13 (n := 87) (by decide) t w d (nameOf b.toNat)
    have wu : WFt (Tr.un okN t d (nameOf b.toNat)).1 := w.un ord_sLess _ _
    have h11u := s11 (n := 87) (by decide) _ wu q hql fq
    have hur := fun h => un_right (ok := okN) ord_sLess w hv (d := d) (s := nameOf b.toNat) h
    have hm : may t q d 1 0 = 90 ∨ may t q d 1 0 = 0 := by
      unfold may
      split
      · exact .inl rfl
      · exact .inr rfl
    generalize hu' : Tr.un okN t d (nameOf b.toNat) = un at *
    generalize Tr.add okN sLess t d (nameOf b.toNat) ((cm : Nat) + 1 : Int) = ad at *
    generalize nameOf b.toNat = nm at *
    generalize may t q d 1 0 = mm at *
    have hrr : ad.2.2 = 0 → rightQ ad.1 q = decide (mm = 0) := fun h => by
      have hbr := har h
      rcases hm with rfl | rfl
      · cases h : rightQ ad.1 q with
        | false => rfl
        | true => exact absurd rfl (hbr.1 h)
      · exact hbr.2 (by decide)
    clear har
    generalize rightQ ad.1 q = r1 at *
    have hG := s14 (n := 87) (by decide) t (wbt w) un.2.1
    obtain ⟨ad1, ad2, ad3⟩ := ad
    obtain ⟨un1, un2, un3⟩ := un
    simp only at *
    have L3 := fun X hX L hL e0 h13 h19 => l3 (Γ := C49.tab 87) q hql fq un2 X hX L hL e0 h13 h19
    have first : ad3 = 0 → r1 = decide (mm = 0) := hrr
    clear hrr
    simp only [Tv] at h6 h7 h8 h9 h11 h11a h11u h12 h13 hG
    by_cases e1 : ad3 = 0
    · have fst1 := first e1
      subst e1
      rw [fst1] at h11a
      by_cases e2 : un3 = 0
      · subst e2
        obtain ⟨z, hz, hcase⟩ := hur rfl
        rw [hz] at hG
        unfold getV at hG
        have L3' := fun e0 h13 h19 => L3 [.var (Tb t), .var (Tb ad1), .var (Tb un1), .var (Nc z)] rfl 4 rfl e0 h13 h19
        generalize (findQ q un2).isSome = gone at *
        generalize rightQ un1 q = r2 at *
        simp only [Option.elim_some, Nd, Nc, Tb] at hG L3'
        rcases hm with rfl | rfl
        · simp -implicitDefEqProofs (disch := omega) [wrap_of, ilt_t, ilt_f, ile_t, ile_f, nlt_t, nlt_f, nle_t, nle_f, ieq_t, ieq_f, imin_l, imin_r, imax_l, imax_r, take_app1, take_map_all, c3, a4, h4, a5, h5, a6, h6, a7, h7, a8, h8, h10, h9, hcm, h11a, h12, h13, a14, hG]
          rw [L3' _ (by simp -implicitDefEqProofs (disch := omega) [wrap_of, ilt_t, ilt_f, ile_t, ile_f, nlt_t, nlt_f, nle_t, nle_f, ieq_t, ieq_f, imin_l, imin_r, imax_l, imax_r, take_app1, take_map_all, ]) (by simp -implicitDefEqProofs (disch := omega) [wrap_of, ilt_t, ilt_f, ile_t, ile_f, nlt_t, nlt_f, nle_t, nle_f, ieq_t, ieq_f, imin_l, imin_r, imax_l, imax_r, take_app1, take_map_all, ])]
          rcases hcase with ⟨k1, rfl⟩ | rfl
          · simp -implicitDefEqProofs (disch := omega) [wrap_of, ilt_t, ilt_f, ile_t, ile_f, nlt_t, nlt_f, nle_t, nle_f, ieq_t, ieq_f, imin_l, imin_r, imax_l, imax_r, take_app1, take_map_all, k1, a11, h11u]
          · by_cases k1 : z.kind = 2
            · cases gone <;> simp -implicitDefEqProofs (disch := omega) [wrap_of, ilt_t, ilt_f, ile_t, ile_f, nlt_t, nlt_f, nle_t, nle_f, ieq_t, ieq_f, imin_l, imin_r, imax_l, imax_r, take_app1, take_map_all, k1, a11, h11u]
            · simp -implicitDefEqProofs (disch := omega) [wrap_of, ilt_t, ilt_f, ile_t, ile_f, nlt_t, nlt_f, nle_t, nle_f, ieq_t, ieq_f, imin_l, imin_r, imax_l, imax_r, take_app1, take_map_all, k1, a11, h11u]
        · simp -implicitDefEqProofs (disch := omega) [wrap_of, ilt_t, ilt_f, ile_t, ile_f, nlt_t, nlt_f, nle_t, nle_f, ieq_t, ieq_f, imin_l, imin_r, imax_l, imax_r, take_app1, take_map_all, c3, a4, h4, a5, h5, a6, h6, a7, h7, a8, h8, h10, h9, hcm, h11a, h12, h13, a14, hG]
          rw [L3' _ (by simp -implicitDefEqProofs (disch := omega) [wrap_of, ilt_t, ilt_f, ile_t, ile_f, nlt_t, nlt_f, nle_t, nle_f, ieq_t, ieq_f, imin_l, imin_r, imax_l, imax_r, take_app1, take_map_all, ]) (by simp -implicitDefEqProofs (disch := omega) [wrap_of, ilt_t, ilt_f, ile_t, ile_f, nlt_t, nlt_f, nle_t, nle_f, ieq_t, ieq_f, imin_l, imin_r, imax_l, imax_r, take_app1, take_map_all, ])]
          rcases hcase with ⟨k1, rfl⟩ | rfl
          · simp -implicitDefEqProofs (disch := omega) [wrap_of, ilt_t, ilt_f, ile_t, ile_f, nlt_t, nlt_f, nle_t, nle_f, ieq_t, ieq_f, imin_l, imin_r, imax_l, imax_r, take_app1, take_map_all, k1, a11, h11u]
          · by_cases k1 : z.kind = 2
            · cases gone <;> simp -implicitDefEqProofs (disch := omega) [wrap_of, ilt_t, ilt_f, ile_t, ile_f, nlt_t, nlt_f, nle_t, nle_f, ieq_t, ieq_f, imin_l, imin_r, imax_l, imax_r, take_app1, take_map_all, k1, a11, h11u]
            · simp -implicitDefEqProofs (disch := omega) [wrap_of, ilt_t, ilt_f, ile_t, ile_f, nlt_t, nlt_f, nle_t, nle_f, ieq_t, ieq_f, imin_l, imin_r, imax_l, imax_r, take_app1, take_map_all, k1, a11, h11u]
      · rcases hm with rfl | rfl
        · simp -implicitDefEqProofs (disch := omega) [wrap_of, ilt_t, ilt_f, ile_t, ile_f, nlt_t, nlt_f, nle_t, nle_f, ieq_t, ieq_f, imin_l, imin_r, imax_l, imax_r, take_app1, take_map_all, c3, a4, h4, a5, h5, a6, h6, a7, h7, a8, h8, h10, h9, hcm, h11a, h12, h13, e2, a11, h11]
        · simp -implicitDefEqProofs (disch := omega) [wrap_of, ilt_t, ilt_f, ile_t, ile_f, nlt_t, nlt_f, nle_t, nle_f, ieq_t, ieq_f, imin_l, imin_r, imax_l, imax_r, take_app1, take_map_all, c3, a4, h4, a5, h5, a6, h6, a7, h7, a8, h8, h10, h9, hcm, h11a, h12, h13, e2, a11, h11]
    · by_cases e2 : un3 = 0
      · subst e2
        obtain ⟨z, hz, hcase⟩ := hur rfl
        rw [hz] at hG
        unfold getV at hG
        have L3' := fun e0 h13 h19 => L3 [.var (Tb t), .var (Tb ad1), .var (Tb un1), .var (Nc z)] rfl 4 rfl e0 h13 h19
        generalize (findQ q un2).isSome = gone at *
        generalize rightQ un1 q = r2 at *
        simp only [Option.elim_some, Nd, Nc, Tb] at hG L3'
        simp -implicitDefEqProofs (disch := omega) [wrap_of, ilt_t, ilt_f, ile_t, ile_f, nlt_t, nlt_f, nle_t, nle_f, ieq_t, ieq_f, imin_l, imin_r, imax_l, imax_r, take_app1, take_map_all, c3, a4, h4, a5, h5, a6, h6, a7, h7, a8, h8, h10, h9, hcm, e1, h13, a14, hG]
        rw [L3' _ (by simp -implicitDefEqProofs (disch := omega) [wrap_of, ilt_t, ilt_f, ile_t, ile_f, nlt_t, nlt_f, nle_t, nle_f, ieq_t, ieq_f, imin_l, imin_r, imax_l, imax_r, take_app1, take_map_all, ]) (by simp -implicitDefEqProofs (disch := omega) [wrap_of, ilt_t, ilt_f, ile_t, ile_f, nlt_t, nlt_f, nle_t, nle_f, ieq_t, ieq_f, imin_l, imin_r, imax_l, imax_r, take_app1, take_map_all, ])]
        rcases hcase with ⟨k1, rfl⟩ | rfl
        · simp -implicitDefEqProofs (disch := omega) [wrap_of, ilt_t, ilt_f, ile_t, ile_f, nlt_t, nlt_f, nle_t, nle_f, ieq_t, ieq_f, imin_l, imin_r, imax_l, imax_r, take_app1, take_map_all, k1, a11, h11u]
        · by_cases k1 : z.kind = 2
          · cases gone <;> simp -implicitDefEqProofs (disch := omega) [wrap_of, ilt_t, ilt_f, ile_t, ile_f, nlt_t, nlt_f, nle_t, nle_f, ieq_t, ieq_f, imin_l, imin_r, imax_l, imax_r, take_app1, take_map_all, k1, a11, h11u]
          · simp -implicitDefEqProofs (disch := omega) [wrap_of, ilt_t, ilt_f, ile_t, ile_f, nlt_t, nlt_f, nle_t, nle_f, ieq_t, ieq_f, imin_l, imin_r, imax_l, imax_r, take_app1, take_map_all, k1, a11, h11u]
      · simp -implicitDefEqProofs (disch := omega) [wrap_of, ilt_t, ilt_f, ile_t, ile_f, nlt_t, nlt_f, nle_t, nle_f, ieq_t, ieq_f, imin_l, imin_r, imax_l, imax_r, take_app1, take_map_all, c3, a4, h4, a5, h5, a6, h6, a7, h7, a8, h8, h10, h9, hcm, e1, h13, e2, a11, h11]
end Go.Proofs.YtfdenmkoampgnaaGreat
