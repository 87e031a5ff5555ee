import Derived.Test.YtlooipgkklaijaaE18
set_option linter.unusedSimpArgs false
set_option linter.unusedVariables false
namespace Go.Proofs.Ytlooipgkklaijaa
open Go.Am Go.Am.Nm Go.Lib Go.Am.Sh

/-- May pieces be so? -/
def rightA (l : List P) : Bool := decide (0 < l.length) && (decide (l.length ≤ 16) && (decide (pat l 0 = [47]) && (upB l && (l.all okOne && neB l))))
theorem s12 {n : Nat} (hn : 21 < n) (l : List P) (hl : l.length ≤ 9223372036854775807) (f : Bool) : (C18.tab n).p 12 [.lst f (l.map D)] = some (.bool (rightA l)) := by
  rw [p12 hn, runP_eq, runH_eq]
  unfold rightA
  by_cases h0 : 0 < l.length
  · have hne : l ≠ [] := List.length_pos_iff.1 h0
    by_cases h16 : l.length ≤ 16
    · have h36 := s36 (n := 21) (by decide) l h0 (by omega) f
      have h37 := s37 (n := 21) (by decide) l (by omega) f
      obtain ⟨m, h', h38, hm, hm6⟩ := s38 (n := 21) (by decide) l (by omega)
      have h39 := fun args h => p39 (n := 21) (by decide) args h
      have hp0 := pat_of h0
      have hmi : decide ((m : Int) = (l.length : Int)) = neB l := by
        rw [← hm]
        by_cases h : m = l.length
        · rw [decide_eq_true h, decide_eq_true (by omega)]
        · rw [decide_eq_false h, decide_eq_false (by omega)]
      by_cases h47 : l[0].pa = [47]
      · cases hu : upB l with
        | false =>
          rw [hu] at h36
          simp -implicitDefEqProofs (disch := omega) [wrap_of, ilt_t, ilt_f, ile_t, ile_f, nlt_t, nlt_f, nle_t, nle_f, ieq_t, ieq_f, imin_l, imin_r, imax_l, imax_r, take_app1, take_map_all, c12, h0, hne, h16, h36, hp0, h47, strBin]
        | true =>
          rw [hu] at h36
          cases ha : l.all okOne with
          | false =>
            rw [ha] at h37
            simp -implicitDefEqProofs (disch := omega) [wrap_of, ilt_t, ilt_f, ile_t, ile_f, nlt_t, nlt_f, nle_t, nle_f, ieq_t, ieq_f, imin_l, imin_r, imax_l, imax_r, take_app1, take_map_all, c12, h0, hne, h16, h36, h37, hp0, h47, strBin]
          | true =>
            rw [ha] at h37
            simp -implicitDefEqProofs (disch := omega) [wrap_of, ilt_t, ilt_f, ile_t, ile_f, nlt_t, nlt_f, nle_t, nle_f, ieq_t, ieq_f, imin_l, imin_r, imax_l, imax_r, take_app1, take_map_all, c12, h0, hne, h16, h36, h37, h39, h38, hp0, h47, strBin, hmi]
      · simp -implicitDefEqProofs (disch := omega) [wrap_of, ilt_t, ilt_f, ile_t, ile_f, nlt_t, nlt_f, nle_t, nle_f, ieq_t, ieq_f, imin_l, imin_r, imax_l, imax_r, take_app1, take_map_all, c12, h0, hne, h16, hp0, h47, strBin]
    · simp -implicitDefEqProofs (disch := omega) [wrap_of, ilt_t, ilt_f, ile_t, ile_f, nlt_t, nlt_f, nle_t, nle_f, ieq_t, ieq_f, imin_l, imin_r, imax_l, imax_r, take_app1, take_map_all, c12, h0, hne, h16]
  · have hne : l = [] := List.eq_nil_of_length_eq_zero (by omega)
    subst hne
    simp -implicitDefEqProofs (disch := omega) [wrap_of, ilt_t, ilt_f, ile_t, ile_f, nlt_t, nlt_f, nle_t, nle_f, ieq_t, ieq_f, imin_l, imin_r, imax_l, imax_r, take_app1, take_map_all, c12]
theorem less_iff {a b : List UInt8} : sLess a b = true ↔ ¬ (sLess b a = true ∨ b = a) := by
  constructor
  · intro h
    rintro (h' | rfl)
    · have := Kp.sLess_trans h h'
      rw [Kp.sLess_irrefl] at this; cases this
    · rw [Kp.sLess_irrefl] at h; cases h
  · intro h
    cases h1 : sLess a b with
    | true => rfl
    | false =>
      exfalso
      apply h
      cases h2 : sLess b a with
      | true => exact .inl rfl
      | false => exact .inr (Kp.sLess_tri h2 h1)
/-- What is asked of a piece behind another one. -/
def okAt (l : List P) (i : Nat) : Bool := ((l[i]?).elim false okOne) && (decide (i = 0) || sLess (pat l (i - 1)) (pat l i))
theorem l13' {n : Nat} (hn : 42 < n) (l : List P) (hl : l.length ≤ 16) (hs : ∀ p ∈ l, p.pa.length ≤ 1000000) (f : Bool) (e0 : Env) (h0 : e0 0 = .lst f (l.map D)) :
    iter (round (C18.tab n) [3] [(.exit 0, []), (.ret, [2])] c13_1 e0 0 []) ([.int .i64 0], []) = some (if (List.range l.length).all (okAt l) = true then (.exit 0, [], []) else (.ret, [.bool false], [])) := by
  refine for_all (f := round (C18.tab n) [3] [(.exit 0, []), (.ret, [2])] c13_1 e0 0 []) (fun i => ([.int .i64 (i : Int)], [])) (List.range l.length) (okAt l) _ _ (fun i hi => ?_) (by simp -implicitDefEqProofs (disch := omega) [wrap_of, ilt_t, ilt_f, ile_t, ile_f, nlt_t, nlt_f, nle_t, nle_f, ieq_t, ieq_f, imin_l, imin_r, imax_l, imax_r, take_app1, take_map_all, round_eq, b13_1, h0])
  rw [List.getElem_range]
  have hi' : i < l.length := by simpa using hi
  obtain ⟨x, hx⟩ : ∃ x, x = l[i] := ⟨_, rfl⟩
  have hxl : x.pa.length ≤ 1000000 := by rw [hx]; exact hs _ (List.getElem_mem hi')
  have h25 := s25 (n := n) hn x.pa (by omega)
  unfold spV at h25
  have hpi := pat_of hi'
  rw [← hx] at hpi
  have hok : okAt l i = (okOne x && (decide (i = 0) || sLess (pat l (i - 1)) x.pa)) := by
    unfold okAt
    rw [List.getElem?_eq_getElem hi', ← hx, hpi]; rfl
  rw [hok]
  unfold okOne okG okE isP
  cases hp : split x.pa with
  | none =>
    rw [hp] at h25
    simp -implicitDefEqProofs (disch := omega) [wrap_of, ilt_t, ilt_f, ile_t, ile_f, nlt_t, nlt_f, nle_t, nle_f, ieq_t, ieq_f, imin_l, imin_r, imax_l, imax_r, take_app1, take_map_all, round_eq, b13_1, h0, hi', ← hx, a25, h25]
  | some w =>
    rw [hp] at h25
    by_cases g1 : 0 ≤ x.gr
    · by_cases g2 : x.gr < 8
      · by_cases e1 : 1 ≤ x.ep
        · by_cases e2 : x.ep ≤ 1099511627776
          · by_cases hi0 : i = 0
            · subst hi0
              simp -implicitDefEqProofs (disch := omega) [wrap_of, ilt_t, ilt_f, ile_t, ile_f, nlt_t, nlt_f, nle_t, nle_f, ieq_t, ieq_f, imin_l, imin_r, imax_l, imax_r, take_app1, take_map_all, round_eq, b13_1, h0, hi', ← hx, a25, h25, g1, g2, e1, e2]
            · have him : i - 1 < l.length := by omega
              have hip : 0 < i := by omega
              have ei : (i : Int) - 1 = ((i - 1 : Nat) : Int) := by omega
              have hpm := pat_of him
              cases hsl : sLess (pat l (i - 1)) x.pa with
              | true =>
                rw [hpm] at hsl
                have hno := less_iff.1 hsl
                simp -implicitDefEqProofs (disch := omega) [wrap_of, ilt_t, ilt_f, ile_t, ile_f, nlt_t, nlt_f, nle_t, nle_f, ieq_t, ieq_f, imin_l, imin_r, imax_l, imax_r, take_app1, take_map_all, round_eq, b13_1, h0, hi', ← hx, a25, h25, g1, g2, e1, e2, hip, ei, him, hpm, hsl, strBin, hno]
              | false =>
                rw [hpm] at hsl
                have hno : sLess x.pa l[i - 1].pa = true ∨ x.pa = l[i - 1].pa := by
                  cases h1 : decide (sLess x.pa l[i - 1].pa = true ∨ x.pa = l[i - 1].pa) with
                  | true => exact of_decide_eq_true h1
                  | false =>
                    have := less_iff.2 (of_decide_eq_false h1)
                    rw [hsl] at this; cases this
                simp -implicitDefEqProofs (disch := omega) [wrap_of, ilt_t, ilt_f, ile_t, ile_f, nlt_t, nlt_f, nle_t, nle_f, ieq_t, ieq_f, imin_l, imin_r, imax_l, imax_r, take_app1, take_map_all, round_eq, b13_1, h0, hi', ← hx, a25, h25, g1, g2, e1, e2, hip, ei, him, hpm, hsl, strBin, hno, hi0]
          · simp -implicitDefEqProofs (disch := omega) [wrap_of, ilt_t, ilt_f, ile_t, ile_f, nlt_t, nlt_f, nle_t, nle_f, ieq_t, ieq_f, imin_l, imin_r, imax_l, imax_r, take_app1, take_map_all, round_eq, b13_1, h0, hi', ← hx, a25, h25, g1, g2, e1, e2]
        · simp -implicitDefEqProofs (disch := omega) [wrap_of, ilt_t, ilt_f, ile_t, ile_f, nlt_t, nlt_f, nle_t, nle_f, ieq_t, ieq_f, imin_l, imin_r, imax_l, imax_r, take_app1, take_map_all, round_eq, b13_1, h0, hi', ← hx, a25, h25, g1, g2, e1]
      · simp -implicitDefEqProofs (disch := omega) [wrap_of, ilt_t, ilt_f, ile_t, ile_f, nlt_t, nlt_f, nle_t, nle_f, ieq_t, ieq_f, imin_l, imin_r, imax_l, imax_r, take_app1, take_map_all, round_eq, b13_1, h0, hi', ← hx, a25, h25, g1, g2]
    · simp -implicitDefEqProofs (disch := omega) [wrap_of, ilt_t, ilt_f, ile_t, ile_f, nlt_t, nlt_f, nle_t, nle_f, ieq_t, ieq_f, imin_l, imin_r, imax_l, imax_r, take_app1, take_map_all, round_eq, b13_1, h0, hi', ← hx, a25, h25, g1]
/-- The document's. -/
def rightB (l : List P) : Bool := decide (0 < l.length) && (decide (l.length ≤ 16) && (decide (pat l 0 = [47]) && (List.range l.length).all (okAt l)))
theorem s13' {n : Nat} (hn : 43 < n) (l : List P) (hl : l.length ≤ 9223372036854775807) (hs : ∀ p ∈ l, p.pa.length ≤ 1000000) (f : Bool) : (C18.tab n).p 13 [.lst f (l.map D)] = some (.bool (rightB l)) := by
  rw [p13 hn, runP_eq, runH_eq]
  unfold rightB
  by_cases h0 : 0 < l.length
  · have hne : l ≠ [] := List.length_pos_iff.1 h0
    by_cases h16 : l.length ≤ 16
    · have hp0 := pat_of h0
      have hg : ¬ (l.length < 1) := by omega
      by_cases h47 : l[0].pa = [47]
      · simp -implicitDefEqProofs (disch := omega) [wrap_of, ilt_t, ilt_f, ile_t, ile_f, nlt_t, nlt_f, nle_t, nle_f, ieq_t, ieq_f, imin_l, imin_r, imax_l, imax_r, take_app1, take_map_all, c13, h0, hne, h16, hp0, h47, strBin, hg]
        rw [l13' (by decide) l h16 hs f _ (by simp -implicitDefEqProofs (disch := omega) [wrap_of, ilt_t, ilt_f, ile_t, ile_f, nlt_t, nlt_f, nle_t, nle_f, ieq_t, ieq_f, imin_l, imin_r, imax_l, imax_r, take_app1, take_map_all, ])]
        cases hu : (List.range l.length).all (okAt l) with
        | false => simp -implicitDefEqProofs (disch := omega) [wrap_of, ilt_t, ilt_f, ile_t, ile_f, nlt_t, nlt_f, nle_t, nle_f, ieq_t, ieq_f, imin_l, imin_r, imax_l, imax_r, take_app1, take_map_all, ]
        | true => simp -implicitDefEqProofs (disch := omega) [wrap_of, ilt_t, ilt_f, ile_t, ile_f, nlt_t, nlt_f, nle_t, nle_f, ieq_t, ieq_f, imin_l, imin_r, imax_l, imax_r, take_app1, take_map_all, ]
      · simp -implicitDefEqProofs (disch := omega) [wrap_of, ilt_t, ilt_f, ile_t, ile_f, nlt_t, nlt_f, nle_t, nle_f, ieq_t, ieq_f, imin_l, imin_r, imax_l, imax_r, take_app1, take_map_all, c13, h0, hne, h16, hp0, h47, strBin, hg]
    · have hg : ¬ (l.length < 1) := by omega
      simp -implicitDefEqProofs (disch := omega) [wrap_of, ilt_t, ilt_f, ile_t, ile_f, nlt_t, nlt_f, nle_t, nle_f, ieq_t, ieq_f, imin_l, imin_r, imax_l, imax_r, take_app1, take_map_all, c13, h0, hne, h16, hg]
  · have hne : l = [] := List.eq_nil_of_length_eq_zero (by omega)
    subst hne
    simp -implicitDefEqProofs (disch := omega) [wrap_of, ilt_t, ilt_f, ile_t, ile_f, nlt_t, nlt_f, nle_t, nle_f, ieq_t, ieq_f, imin_l, imin_r, imax_l, imax_r, take_app1, take_map_all, c13]
end Go.Proofs.Ytlooipgkklaijaa
