import Derived.Test.YtalckkfoplaeeaaC06t
set_option linter.unusedSimpArgs false
set_option linter.unusedVariables false
namespace Go.Proofs.Ytalckkfoplaeeaa
open Go.Am Go.Am.Nm Go.Lib

@[simp] theorem szS (l : List (List UInt8)) : szOk 1 (l.map AV.str) = true := by simp [szOk]
@[simp] theorem last_get (m : List (List UInt8)) (x : List UInt8) : (m.map AV.str ++ [AV.str x])[m.length]? = some (.str x) := by simp
@[simp] theorem last_take (m : List (List UInt8)) (x : List UInt8) : (m.map AV.str ++ [AV.str x]).take m.length = m.map AV.str := by
  rw [List.take_append_of_le_length (by simp), List.take_of_length_le (by simp)]
theorem joinTail_jn {l : List (List UInt8)} (h : l ≠ []) : joinTail [47] l = jn l := by
  unfold jn
  rw [if_neg h]
  cases l with
  | nil => exact absurd rfl h
  | cons x r => rw [join_cons, joinTail_cons]
theorem fits_nil : Fits [] := by simp [Fits, joinTail]
theorem fits_of {p : List UInt8} {l : List (List UInt8)} (h : split p = some l) (hp : p.length ≤ 1000000) : Fits l := by
  obtain ⟨h1, _⟩ := split_some h
  by_cases h0 : l = []
  · rw [h0]; exact fits_nil
  · unfold Fits
    rw [joinTail_jn h0, h1]
    exact hp
theorem Fits.take {l : List (List UInt8)} (h : Fits l) (k : Nat) : Fits (l.take k) := Nat.le_trans (joinTail_take_le [47] l k) h
/-- A path's last name, and the path to it. -/
def lastP (p : List UInt8) : Option (List UInt8 × List UInt8) := match split p with
  | some l => if l = [] then none else some (l.getLast?.getD [], jn l.dropLast)
  | none => none
def lastV (p : List UInt8) : AV := match lastP p with
  | some x => .tup [.str x.1, .str x.2, .int .i64 0]
  | none => .tup [.str [], .str [], .int .i64 60]
theorem s14 {n : Nat} (hn : 3 < n) (p : List UInt8) (hp : p.length ≤ 1000000) : (C06.tab n).p 14 [.str p] = some (lastV p) := by
  rw [p14 hn, runP_eq, runH_eq]
  have h12 := s12 (n := 3) (by decide) p
  unfold lastV lastP
  unfold spV at h12
  cases hs : split p with
  | none =>
    rw [hs] at h12
    simp -implicitDefEqProofs (disch := omega) [wrap_of, ilt_t, ilt_f, ile_t, ile_f, nlt_t, nlt_f, nle_t, nle_f, ieq_t, ieq_f, imin_l, imin_r, imax_l, imax_r, take_app1, take_map_all, c14, a12, h12]
  | some l =>
    rw [hs] at h12
    have hf := fits_of hs hp
    rcases List.eq_nil_or_concat l with h0 | ⟨m, x, h0⟩
    · subst h0
      simp -implicitDefEqProofs (disch := omega) [wrap_of, ilt_t, ilt_f, ile_t, ile_f, nlt_t, nlt_f, nle_t, nle_f, ieq_t, ieq_f, imin_l, imin_r, imax_l, imax_r, take_app1, take_map_all, c14, a12, h12]
    · have hm : Fits m := by
        have := hf.take m.length
        rw [h0] at this
        simpa using this
      have hl := hf.two.1
      rw [h0] at hl h12 ⊢
      simp only [List.concat_eq_append, List.length_append, List.length_cons, List.length_nil] at hl
      have h21 := fun f => s21 (n := 3) (by decide) m f hm
      simp only [List.concat_eq_append, List.map_append, List.map_cons, List.map_nil] at h12 ⊢
      have e1 : m ++ [x] ≠ [] := by simp
      rw [if_neg e1]
      simp -implicitDefEqProofs (disch := omega) [wrap_of, ilt_t, ilt_f, ile_t, ile_f, nlt_t, nlt_f, nle_t, nle_f, ieq_t, ieq_f, imin_l, imin_r, imax_l, imax_r, take_app1, take_map_all, c14, a12, h12, a21, h21]
theorem s15 {n : Nat} (hn : 13 < n) (p : List UInt8) (hp : p.length ≤ 1000000) : (C06.tab n).p 15 [.str p] = some (lastV p) := by
  rw [p15 hn, runP_eq, runH_eq]
  have h13 := s13 (n := 13) (by decide) p (by omega)
  unfold lastV lastP
  unfold spV at h13
  cases hs : split p with
  | none =>
    rw [hs] at h13
    simp -implicitDefEqProofs (disch := omega) [wrap_of, ilt_t, ilt_f, ile_t, ile_f, nlt_t, nlt_f, nle_t, nle_f, ieq_t, ieq_f, imin_l, imin_r, imax_l, imax_r, take_app1, take_map_all, c15, a13, h13]
  | some l =>
    rw [hs] at h13
    have hf := fits_of hs hp
    rcases List.eq_nil_or_concat l with h0 | ⟨m, x, h0⟩
    · subst h0
      simp -implicitDefEqProofs (disch := omega) [wrap_of, ilt_t, ilt_f, ile_t, ile_f, nlt_t, nlt_f, nle_t, nle_f, ieq_t, ieq_f, imin_l, imin_r, imax_l, imax_r, take_app1, take_map_all, c15, a13, h13]
    · have hm : Fits m := by
        have := hf.take m.length
        rw [h0] at this
        simpa using this
      have hl := hf.two.1
      rw [h0] at hl h13 ⊢
      simp only [List.concat_eq_append, List.length_append, List.length_cons, List.length_nil] at hl
      have h22 := fun f => s22 (n := 13) (by decide) m f hm
      simp only [List.concat_eq_append, List.map_append, List.map_cons, List.map_nil] at h13 ⊢
      have e1 : m ++ [x] ≠ [] := by simp
      rw [if_neg e1]
      simp -implicitDefEqProofs (disch := omega) [wrap_of, ilt_t, ilt_f, ile_t, ile_f, nlt_t, nlt_f, nle_t, nle_f, ieq_t, ieq_f, imin_l, imin_r, imax_l, imax_r, take_app1, take_map_all, c15, a13, h13, a22, h22]
theorem split_le {p : List UInt8} {l : List (List UInt8)} (h : split p = some l) : l.length ≤ 12 := (split_some h).2.1
theorem s19 {n : Nat} (hn : 7 < n) (a b : List UInt8) : (C06.tab n).p 19 [.str a, .str b] = some (.bool (abv a b)) := by
  rw [p19 hn, runP_eq, runH_eq]
  have ha := s12 (n := 7) (by decide) a
  have hb := s12 (n := 7) (by decide) b
  unfold abv
  unfold spV at ha hb
  cases hsa : split a with
  | none =>
    rw [hsa] at ha
    cases hsb : split b with
    | none => rw [hsb] at hb; simp -implicitDefEqProofs (disch := omega) [wrap_of, ilt_t, ilt_f, ile_t, ile_f, nlt_t, nlt_f, nle_t, nle_f, ieq_t, ieq_f, imin_l, imin_r, imax_l, imax_r, take_app1, take_map_all, c19, a12, ha, hb]
    | some y => rw [hsb] at hb; simp -implicitDefEqProofs (disch := omega) [wrap_of, ilt_t, ilt_f, ile_t, ile_f, nlt_t, nlt_f, nle_t, nle_f, ieq_t, ieq_f, imin_l, imin_r, imax_l, imax_r, take_app1, take_map_all, c19, a12, ha, hb]
  | some x =>
    rw [hsa] at ha
    have h1 := split_le hsa
    cases hsb : split b with
    | none => rw [hsb] at hb; simp -implicitDefEqProofs (disch := omega) [wrap_of, ilt_t, ilt_f, ile_t, ile_f, nlt_t, nlt_f, nle_t, nle_f, ieq_t, ieq_f, imin_l, imin_r, imax_l, imax_r, take_app1, take_map_all, c19, a12, ha, hb]
    | some y =>
      rw [hsb] at hb
      have h2 := split_le hsb
      by_cases hl : x.length ≤ y.length
      · have h25 := fun f g => s25 (n := 7) (by decide) x (y.take x.length) f g (by omega) (by simp; omega)
        simp only [List.map_take] at h25
        simp -implicitDefEqProofs (disch := omega) [wrap_of, ilt_t, ilt_f, ile_t, ile_f, nlt_t, nlt_f, nle_t, nle_f, ieq_t, ieq_f, imin_l, imin_r, imax_l, imax_r, take_app1, take_map_all, c19, a12, ha, hb, a25, h25, hl]
      · simp -implicitDefEqProofs (disch := omega) [wrap_of, ilt_t, ilt_f, ile_t, ile_f, nlt_t, nlt_f, nle_t, nle_f, ieq_t, ieq_f, imin_l, imin_r, imax_l, imax_r, take_app1, take_map_all, c19, a12, ha, hb, hl]
theorem l20 {n : Nat} (x y : List (List UInt8)) (hl : x.length ≤ y.length) (hx : x.length ≤ 1000000) (f g : Bool) (e0 : Env) (h5 : e0 5 = .lst f (x.map AV.str)) (h7 : e0 7 = .lst g (y.map AV.str)) :
    iter (round (C06.tab n) [9] [(.exit 0, []), (.ret, [4])] c20_1 e0 0 []) ([.int .i64 0], []) = some (if (x.zip (y.take x.length)).all (fun x => decide (x.1 = x.2)) = true then (.exit 0, [], []) else (.ret, [.bool false], [])) :=
  for_cmp (f := round (C06.tab n) [9] [(.exit 0, []), (.ret, [4])] c20_1 e0 0 []) (fun i => ([.int .i64 i], [])) x (y.take x.length) (by simp; omega) (fun x y => decide (x = y)) _ _
    (fun i hi hi' => by
      have e : (y.take x.length)[i] = y[i]'(by omega) := by simp
      rw [e]
      have hiy : i < y.length := by omega
      obtain ⟨u, hu⟩ : ∃ u, u = x[i] := ⟨_, rfl⟩
      obtain ⟨v, hv⟩ : ∃ v, v = y[i] := ⟨_, rfl⟩
      rw [← hu, ← hv]
      by_cases huv : u = v
      · simp -implicitDefEqProofs (disch := omega) [wrap_of, ilt_t, ilt_f, ile_t, ile_f, nlt_t, nlt_f, nle_t, nle_f, ieq_t, ieq_f, imin_l, imin_r, imax_l, imax_r, take_app1, take_map_all, round_eq, b20_1, h5, h7, hi, hiy, ← hu, ← hv, strBin, huv]
      · simp -implicitDefEqProofs (disch := omega) [wrap_of, ilt_t, ilt_f, ile_t, ile_f, nlt_t, nlt_f, nle_t, nle_f, ieq_t, ieq_f, imin_l, imin_r, imax_l, imax_r, take_app1, take_map_all, round_eq, b20_1, h5, h7, hi, hiy, ← hu, ← hv, strBin, huv])
    (by simp -implicitDefEqProofs (disch := omega) [wrap_of, ilt_t, ilt_f, ile_t, ile_f, nlt_t, nlt_f, nle_t, nle_f, ieq_t, ieq_f, imin_l, imin_r, imax_l, imax_r, take_app1, take_map_all, round_eq, b20_1, h5, h7])
theorem s20 {n : Nat} (hn : 14 < n) (a b : List UInt8) (hla : a.length ≤ 1000000000) (hlb : b.length ≤ 1000000000) : (C06.tab n).p 20 [.str a, .str b] = some (.bool (abv a b)) := by
  rw [p20 hn, runP_eq, runH_eq]
  have ha := s13 (n := 14) (by decide) a hla
  have hb := s13 (n := 14) (by decide) b hlb
  unfold abv
  unfold spV at ha hb
  cases hsa : split a with
  | none =>
    rw [hsa] at ha
    cases hsb : split b with
    | none => rw [hsb] at hb; simp -implicitDefEqProofs (disch := omega) [wrap_of, ilt_t, ilt_f, ile_t, ile_f, nlt_t, nlt_f, nle_t, nle_f, ieq_t, ieq_f, imin_l, imin_r, imax_l, imax_r, take_app1, take_map_all, c20, a13, ha, hb]
    | some y => rw [hsb] at hb; simp -implicitDefEqProofs (disch := omega) [wrap_of, ilt_t, ilt_f, ile_t, ile_f, nlt_t, nlt_f, nle_t, nle_f, ieq_t, ieq_f, imin_l, imin_r, imax_l, imax_r, take_app1, take_map_all, c20, a13, ha, hb]
  | some x =>
    rw [hsa] at ha
    have h1 := split_le hsa
    cases hsb : split b with
    | none => rw [hsb] at hb; simp -implicitDefEqProofs (disch := omega) [wrap_of, ilt_t, ilt_f, ile_t, ile_f, nlt_t, nlt_f, nle_t, nle_f, ieq_t, ieq_f, imin_l, imin_r, imax_l, imax_r, take_app1, take_map_all, c20, a13, ha, hb]
    | some y =>
      rw [hsb] at hb
      have h2 := split_le hsb
      by_cases hl : x.length ≤ y.length
      · have hz := zip_all (a := x) (b := y.take x.length) (by simp; omega)
        simp -implicitDefEqProofs (disch := omega) [wrap_of, ilt_t, ilt_f, ile_t, ile_f, nlt_t, nlt_f, nle_t, nle_f, ieq_t, ieq_f, imin_l, imin_r, imax_l, imax_r, take_app1, take_map_all, c20, a13, ha, hb, hl]
        rw [l20 x y hl (by omega) (decide (a = [47])) (decide (b = [47])) _ (by simp -implicitDefEqProofs (disch := omega) [wrap_of, ilt_t, ilt_f, ile_t, ile_f, nlt_t, nlt_f, nle_t, nle_f, ieq_t, ieq_f, imin_l, imin_r, imax_l, imax_r, take_app1, take_map_all, ]) (by simp -implicitDefEqProofs (disch := omega) [wrap_of, ilt_t, ilt_f, ile_t, ile_f, nlt_t, nlt_f, nle_t, nle_f, ieq_t, ieq_f, imin_l, imin_r, imax_l, imax_r, take_app1, take_map_all, ])]
        by_cases hxy : x = y.take x.length
        · rw [if_pos (hz.2 hxy)]
          have : decide (x.length ≤ y.length ∧ x = y.take x.length) = true := decide_eq_true ⟨hl, hxy⟩
          simp -implicitDefEqProofs (disch := omega) [wrap_of, ilt_t, ilt_f, ile_t, ile_f, nlt_t, nlt_f, nle_t, nle_f, ieq_t, ieq_f, imin_l, imin_r, imax_l, imax_r, take_app1, take_map_all, ← hxy, hl]
        · rw [if_neg (fun h => hxy (hz.1 h))]
          simp -implicitDefEqProofs (disch := omega) [wrap_of, ilt_t, ilt_f, ile_t, ile_f, nlt_t, nlt_f, nle_t, nle_f, ieq_t, ieq_f, imin_l, imin_r, imax_l, imax_r, take_app1, take_map_all, hxy, hl]
      · simp -implicitDefEqProofs (disch := omega) [wrap_of, ilt_t, ilt_f, ile_t, ile_f, nlt_t, nlt_f, nle_t, nle_f, ieq_t, ieq_f, imin_l, imin_r, imax_l, imax_r, take_app1, take_map_all, c20, a13, ha, hb, hl]
end Go.Proofs.Ytalckkfoplaeeaa
