import Derived.Test.YtalckkfoplaeeaaE06
set_option linter.unusedSimpArgs false
set_option linter.unusedVariables false
namespace Go.Proofs.Ytalckkfoplaeeaa
open Go.Am Go.Am.Nm Go.Lib

theorem lens_le (k : Nat) : ∀ l : List (List UInt8), (∀ x ∈ l, x.length ≤ k) → lens l ≤ k * l.length
  | [], _ => by simp [lens]
  | x :: l, h => by
    have ih := lens_le k l fun y hy => h y (by simp [hy])
    have hx := h x (by simp)
    unfold lens at ih ⊢
    simp only [List.map_cons, List.sum_cons, List.length_cons, Nat.mul_succ]
    omega
theorem fits_le {k m : Nat} {l : List (List UInt8)} (h : ∀ x ∈ l, x.length ≤ k) (hl : l.length ≤ m) (hkm : m + k * m ≤ 1000000) : Fits l := by
  unfold Fits
  have h1 := joinTail_length [47] l
  have h2 : ([47] : List UInt8).length = 1 := rfl
  rw [h2, Nat.one_mul] at h1
  have h3 := lens_le k l h
  have h4 : k * l.length ≤ k * m := Nat.mul_le_mul_left k hl
  omega
theorem few_len (l : List (List UInt8)) : (few l).length ≤ 20 := by simp [few]; omega
theorem few_fits (l : List (List UInt8)) : Fits (few l) := fits_le (k := 40) (m := 20) (by
  intro x hx
  simp only [few, List.mem_map] at hx
  obtain ⟨y, _, rfl⟩ := hx
  simp; omega) (few_len l) (by decide)
theorem l3 {n : Nat} (hn : 10 < n) (l : List (List UInt8)) (hl : l.length ≤ 1000000) (f : Bool) (e0 : Env) (h10 : e0 10 = .lst f (l.map AV.str)) :
    iter (round (C06.tab n) [21] [(.exit 0, []), (.ret, [6])] c3_1 e0 0 []) ([.int .i64 0], []) = some (.exit 0, [], []) := by
  have := for_all (f := round (C06.tab n) [21] [(.exit 0, []), (.ret, [6])] c3_1 e0 0 []) (fun i => ([.int .i64 i], [])) l (fun _ => true) (.exit 0, [], []) (.ret, [.bool false], [])
    (fun i hi => by
      obtain ⟨x, hx⟩ : ∃ x, x = l[i] := ⟨_, rfl⟩
      have h16 := s16 (n := n) (by omega) x
      have h17 := s17 (n := n) (by omega) x
      simp -implicitDefEqProofs (disch := omega) [wrap_of, ilt_t, ilt_f, ile_t, ile_f, nlt_t, nlt_f, nle_t, nle_f, ieq_t, ieq_f, imin_l, imin_r, imax_l, imax_r, take_app1, take_map_all, round_eq, b3_1, h10, hi, ← hx, a16, h16, a17, h17])
    (by simp -implicitDefEqProofs (disch := omega) [wrap_of, ilt_t, ilt_f, ile_t, ile_f, nlt_t, nlt_f, nle_t, nle_f, ieq_t, ieq_f, imin_l, imin_r, imax_l, imax_r, take_app1, take_map_all, round_eq, b3_1, h10])
  rw [if_pos (by simp)] at this
  exact this
/-- The first 500 bytes of a text. -/
def x5 (a : List UInt8) : List UInt8 := a.take 500
theorem x5_le (a : List UInt8) : (x5 a).length ≤ 500 := by simp [x5]; omega
theorem take_min (a : List UInt8) : a.take (min a.length 500) = x5 a := by
  unfold x5
  rcases Nat.le_total a.length 500 with h | h
  · rw [Nat.min_eq_left h, List.take_length, List.take_of_length_le h]
  · rw [Nat.min_eq_right h]
set_option maxHeartbeats 2000000 in
theorem lp3 (a b : List UInt8) (l : List (List UInt8)) (f : Bool) (hl : l.length ≤ 9223372036854775807) : runP (C06.tab 15) c3 [.str a, .str b, .lst f (l.map AV.str)] = some (.bool true) := by
  rw [runP_eq, runH_eq]
  have h10 := s10 (n := 15) (by decide)
  have h11 := s11 (n := 15) (by decide) l f hl
  have hx := x5_le a
  have hy := x5_le b
  have h12 := s12 (n := 15) (by decide) (x5 a)
  have h13 := s13 (n := 15) (by decide) (x5 a) (by omega)
  have h14 := s14 (n := 15) (by decide) (x5 a) (by omega)
  have h15 := s15 (n := 15) (by decide) (x5 a) (by omega)
  have h16 := s16 (n := 15) (by decide) (x5 a)
  have h17 := s17 (n := 15) (by decide) (x5 a)
  have h19 := s19 (n := 15) (by decide) (x5 a) (x5 b)
  have h20 := s20 (n := 15) (by decide) (x5 a) (x5 b) (by omega) (by omega)
  have h21 := fun g => s21 (n := 15) (by decide) (few l) g (few_fits l)
  have h22 := fun g => s22 (n := 15) (by decide) (few l) g (few_fits l)
  have hfl := few_len l
  have e1 : a.take 500 = x5 a := rfl
  have e2 : b.take 500 = x5 b := rfl
  have g1 : a.length ≤ 500 → x5 a = a := fun h => List.take_of_length_le h
  have g2 : b.length ≤ 500 → x5 b = b := fun h => List.take_of_length_le h
  unfold spV at h12 h13
  unfold lastV at h14 h15
  have h18n := fun f g => s18 (n := 15) (by decide) [] [] f g (by simp) (by simp)
  simp only [List.map_nil] at h18n
  have hq0 : split (x5 a) = none → lastP (x5 a) = none := fun h => by unfold lastP; rw [h]
  have hs1 : ∀ s, split (x5 a) = some s → s.length ≤ 1000000000 := fun s hs => by have := split_le hs; omega
  generalize x5 a = x at *
  generalize x5 b = y at *
  generalize rightN x = rx at *
  generalize abv x y = av at *
  generalize split x = s at *
  generalize lastP x = q at *
  have hl20 : (few l).length ≤ 1000000 := by omega
  cases s with
  | none =>
    have := hq0 rfl
    subst this
    rcases Nat.le_total a.length 500 with h | h <;> rcases Nat.le_total b.length 500 with h' | h'
    · obtain rfl := g1 h
      obtain rfl := g2 h'
      simp -implicitDefEqProofs (disch := omega) [wrap_of, ilt_t, ilt_f, ile_t, ile_f, nlt_t, nlt_f, nle_t, nle_f, ieq_t, ieq_f, imin_l, imin_r, imax_l, imax_r, take_app1, take_map_all, c3, a10, h10, a11, h11, a12, h12, a13, h13, a14, h14, a15, h15, e1, e2]
      rw [l3 (by decide) (few l) hl20 false _ (by simp -implicitDefEqProofs (disch := omega) [wrap_of, ilt_t, ilt_f, ile_t, ile_f, nlt_t, nlt_f, nle_t, nle_f, ieq_t, ieq_f, imin_l, imin_r, imax_l, imax_r, take_app1, take_map_all, ])]
      simp -implicitDefEqProofs (disch := omega) [wrap_of, ilt_t, ilt_f, ile_t, ile_f, nlt_t, nlt_f, nle_t, nle_f, ieq_t, ieq_f, imin_l, imin_r, imax_l, imax_r, take_app1, take_map_all, a16, h16, a17, h17, a18, h18n, a19, h19, a20, h20, a21, h21, a22, h22, strBin]
    · obtain rfl := g1 h
      simp -implicitDefEqProofs (disch := omega) [wrap_of, ilt_t, ilt_f, ile_t, ile_f, nlt_t, nlt_f, nle_t, nle_f, ieq_t, ieq_f, imin_l, imin_r, imax_l, imax_r, take_app1, take_map_all, c3, a10, h10, a11, h11, a12, h12, a13, h13, a14, h14, a15, h15, e1, e2]
      rw [l3 (by decide) (few l) hl20 false _ (by simp -implicitDefEqProofs (disch := omega) [wrap_of, ilt_t, ilt_f, ile_t, ile_f, nlt_t, nlt_f, nle_t, nle_f, ieq_t, ieq_f, imin_l, imin_r, imax_l, imax_r, take_app1, take_map_all, ])]
      simp -implicitDefEqProofs (disch := omega) [wrap_of, ilt_t, ilt_f, ile_t, ile_f, nlt_t, nlt_f, nle_t, nle_f, ieq_t, ieq_f, imin_l, imin_r, imax_l, imax_r, take_app1, take_map_all, a16, h16, a17, h17, a18, h18n, a19, h19, a20, h20, a21, h21, a22, h22, strBin]
    · obtain rfl := g2 h'
      simp -implicitDefEqProofs (disch := omega) [wrap_of, ilt_t, ilt_f, ile_t, ile_f, nlt_t, nlt_f, nle_t, nle_f, ieq_t, ieq_f, imin_l, imin_r, imax_l, imax_r, take_app1, take_map_all, c3, a10, h10, a11, h11, a12, h12, a13, h13, a14, h14, a15, h15, e1, e2]
      rw [l3 (by decide) (few l) hl20 false _ (by simp -implicitDefEqProofs (disch := omega) [wrap_of, ilt_t, ilt_f, ile_t, ile_f, nlt_t, nlt_f, nle_t, nle_f, ieq_t, ieq_f, imin_l, imin_r, imax_l, imax_r, take_app1, take_map_all, ])]
      simp -implicitDefEqProofs (disch := omega) [wrap_of, ilt_t, ilt_f, ile_t, ile_f, nlt_t, nlt_f, nle_t, nle_f, ieq_t, ieq_f, imin_l, imin_r, imax_l, imax_r, take_app1, take_map_all, a16, h16, a17, h17, a18, h18n, a19, h19, a20, h20, a21, h21, a22, h22, strBin]
    · simp -implicitDefEqProofs (disch := omega) [wrap_of, ilt_t, ilt_f, ile_t, ile_f, nlt_t, nlt_f, nle_t, nle_f, ieq_t, ieq_f, imin_l, imin_r, imax_l, imax_r, take_app1, take_map_all, c3, a10, h10, a11, h11, a12, h12, a13, h13, a14, h14, a15, h15, e1, e2]
      rw [l3 (by decide) (few l) hl20 false _ (by simp -implicitDefEqProofs (disch := omega) [wrap_of, ilt_t, ilt_f, ile_t, ile_f, nlt_t, nlt_f, nle_t, nle_f, ieq_t, ieq_f, imin_l, imin_r, imax_l, imax_r, take_app1, take_map_all, ])]
      simp -implicitDefEqProofs (disch := omega) [wrap_of, ilt_t, ilt_f, ile_t, ile_f, nlt_t, nlt_f, nle_t, nle_f, ieq_t, ieq_f, imin_l, imin_r, imax_l, imax_r, take_app1, take_map_all, a16, h16, a17, h17, a18, h18n, a19, h19, a20, h20, a21, h21, a22, h22, strBin]
  | some s =>
    have h18s := fun f g => s18 (n := 15) (by decide) s s f g (hs1 s rfl) (hs1 s rfl)
    cases q with
    | none =>
      rcases Nat.le_total a.length 500 with h | h <;> rcases Nat.le_total b.length 500 with h' | h'
      · obtain rfl := g1 h
        obtain rfl := g2 h'
        simp -implicitDefEqProofs (disch := omega) [wrap_of, ilt_t, ilt_f, ile_t, ile_f, nlt_t, nlt_f, nle_t, nle_f, ieq_t, ieq_f, imin_l, imin_r, imax_l, imax_r, take_app1, take_map_all, c3, a10, h10, a11, h11, a12, h12, a13, h13, a14, h14, a15, h15, e1, e2]
        rw [l3 (by decide) (few l) hl20 false _ (by simp -implicitDefEqProofs (disch := omega) [wrap_of, ilt_t, ilt_f, ile_t, ile_f, nlt_t, nlt_f, nle_t, nle_f, ieq_t, ieq_f, imin_l, imin_r, imax_l, imax_r, take_app1, take_map_all, ])]
        simp -implicitDefEqProofs (disch := omega) [wrap_of, ilt_t, ilt_f, ile_t, ile_f, nlt_t, nlt_f, nle_t, nle_f, ieq_t, ieq_f, imin_l, imin_r, imax_l, imax_r, take_app1, take_map_all, a16, h16, a17, h17, a18, h18s, a19, h19, a20, h20, a21, h21, a22, h22, strBin]
      · obtain rfl := g1 h
        simp -implicitDefEqProofs (disch := omega) [wrap_of, ilt_t, ilt_f, ile_t, ile_f, nlt_t, nlt_f, nle_t, nle_f, ieq_t, ieq_f, imin_l, imin_r, imax_l, imax_r, take_app1, take_map_all, c3, a10, h10, a11, h11, a12, h12, a13, h13, a14, h14, a15, h15, e1, e2]
        rw [l3 (by decide) (few l) hl20 false _ (by simp -implicitDefEqProofs (disch := omega) [wrap_of, ilt_t, ilt_f, ile_t, ile_f, nlt_t, nlt_f, nle_t, nle_f, ieq_t, ieq_f, imin_l, imin_r, imax_l, imax_r, take_app1, take_map_all, ])]
        simp -implicitDefEqProofs (disch := omega) [wrap_of, ilt_t, ilt_f, ile_t, ile_f, nlt_t, nlt_f, nle_t, nle_f, ieq_t, ieq_f, imin_l, imin_r, imax_l, imax_r, take_app1, take_map_all, a16, h16, a17, h17, a18, h18s, a19, h19, a20, h20, a21, h21, a22, h22, strBin]
      · obtain rfl := g2 h'
        simp -implicitDefEqProofs (disch := omega) [wrap_of, ilt_t, ilt_f, ile_t, ile_f, nlt_t, nlt_f, nle_t, nle_f, ieq_t, ieq_f, imin_l, imin_r, imax_l, imax_r, take_app1, take_map_all, c3, a10, h10, a11, h11, a12, h12, a13, h13, a14, h14, a15, h15, e1, e2]
        rw [l3 (by decide) (few l) hl20 false _ (by simp -implicitDefEqProofs (disch := omega) [wrap_of, ilt_t, ilt_f, ile_t, ile_f, nlt_t, nlt_f, nle_t, nle_f, ieq_t, ieq_f, imin_l, imin_r, imax_l, imax_r, take_app1, take_map_all, ])]
        simp -implicitDefEqProofs (disch := omega) [wrap_of, ilt_t, ilt_f, ile_t, ile_f, nlt_t, nlt_f, nle_t, nle_f, ieq_t, ieq_f, imin_l, imin_r, imax_l, imax_r, take_app1, take_map_all, a16, h16, a17, h17, a18, h18s, a19, h19, a20, h20, a21, h21, a22, h22, strBin]
      · simp -implicitDefEqProofs (disch := omega) [wrap_of, ilt_t, ilt_f, ile_t, ile_f, nlt_t, nlt_f, nle_t, nle_f, ieq_t, ieq_f, imin_l, imin_r, imax_l, imax_r, take_app1, take_map_all, c3, a10, h10, a11, h11, a12, h12, a13, h13, a14, h14, a15, h15, e1, e2]
        rw [l3 (by decide) (few l) hl20 false _ (by simp -implicitDefEqProofs (disch := omega) [wrap_of, ilt_t, ilt_f, ile_t, ile_f, nlt_t, nlt_f, nle_t, nle_f, ieq_t, ieq_f, imin_l, imin_r, imax_l, imax_r, take_app1, take_map_all, ])]
        simp -implicitDefEqProofs (disch := omega) [wrap_of, ilt_t, ilt_f, ile_t, ile_f, nlt_t, nlt_f, nle_t, nle_f, ieq_t, ieq_f, imin_l, imin_r, imax_l, imax_r, take_app1, take_map_all, a16, h16, a17, h17, a18, h18s, a19, h19, a20, h20, a21, h21, a22, h22, strBin]
    | some z =>
      rcases Nat.le_total a.length 500 with h | h <;> rcases Nat.le_total b.length 500 with h' | h'
      · obtain rfl := g1 h
        obtain rfl := g2 h'
        simp -implicitDefEqProofs (disch := omega) [wrap_of, ilt_t, ilt_f, ile_t, ile_f, nlt_t, nlt_f, nle_t, nle_f, ieq_t, ieq_f, imin_l, imin_r, imax_l, imax_r, take_app1, take_map_all, c3, a10, h10, a11, h11, a12, h12, a13, h13, a14, h14, a15, h15, e1, e2]
        rw [l3 (by decide) (few l) hl20 false _ (by simp -implicitDefEqProofs (disch := omega) [wrap_of, ilt_t, ilt_f, ile_t, ile_f, nlt_t, nlt_f, nle_t, nle_f, ieq_t, ieq_f, imin_l, imin_r, imax_l, imax_r, take_app1, take_map_all, ])]
        simp -implicitDefEqProofs (disch := omega) [wrap_of, ilt_t, ilt_f, ile_t, ile_f, nlt_t, nlt_f, nle_t, nle_f, ieq_t, ieq_f, imin_l, imin_r, imax_l, imax_r, take_app1, take_map_all, a16, h16, a17, h17, a18, h18s, a19, h19, a20, h20, a21, h21, a22, h22, strBin]
      · obtain rfl := g1 h
        simp -implicitDefEqProofs (disch := omega) [wrap_of, ilt_t, ilt_f, ile_t, ile_f, nlt_t, nlt_f, nle_t, nle_f, ieq_t, ieq_f, imin_l, imin_r, imax_l, imax_r, take_app1, take_map_all, c3, a10, h10, a11, h11, a12, h12, a13, h13, a14, h14, a15, h15, e1, e2]
        rw [l3 (by decide) (few l) hl20 false _ (by simp -implicitDefEqProofs (disch := omega) [wrap_of, ilt_t, ilt_f, ile_t, ile_f, nlt_t, nlt_f, nle_t, nle_f, ieq_t, ieq_f, imin_l, imin_r, imax_l, imax_r, take_app1, take_map_all, ])]
        simp -implicitDefEqProofs (disch := omega) [wrap_of, ilt_t, ilt_f, ile_t, ile_f, nlt_t, nlt_f, nle_t, nle_f, ieq_t, ieq_f, imin_l, imin_r, imax_l, imax_r, take_app1, take_map_all, a16, h16, a17, h17, a18, h18s, a19, h19, a20, h20, a21, h21, a22, h22, strBin]
      · obtain rfl := g2 h'
        simp -implicitDefEqProofs (disch := omega) [wrap_of, ilt_t, ilt_f, ile_t, ile_f, nlt_t, nlt_f, nle_t, nle_f, ieq_t, ieq_f, imin_l, imin_r, imax_l, imax_r, take_app1, take_map_all, c3, a10, h10, a11, h11, a12, h12, a13, h13, a14, h14, a15, h15, e1, e2]
        rw [l3 (by decide) (few l) hl20 false _ (by simp -implicitDefEqProofs (disch := omega) [wrap_of, ilt_t, ilt_f, ile_t, ile_f, nlt_t, nlt_f, nle_t, nle_f, ieq_t, ieq_f, imin_l, imin_r, imax_l, imax_r, take_app1, take_map_all, ])]
        simp -implicitDefEqProofs (disch := omega) [wrap_of, ilt_t, ilt_f, ile_t, ile_f, nlt_t, nlt_f, nle_t, nle_f, ieq_t, ieq_f, imin_l, imin_r, imax_l, imax_r, take_app1, take_map_all, a16, h16, a17, h17, a18, h18s, a19, h19, a20, h20, a21, h21, a22, h22, strBin]
      · simp -implicitDefEqProofs (disch := omega) [wrap_of, ilt_t, ilt_f, ile_t, ile_f, nlt_t, nlt_f, nle_t, nle_f, ieq_t, ieq_f, imin_l, imin_r, imax_l, imax_r, take_app1, take_map_all, c3, a10, h10, a11, h11, a12, h12, a13, h13, a14, h14, a15, h15, e1, e2]
        rw [l3 (by decide) (few l) hl20 false _ (by simp -implicitDefEqProofs (disch := omega) [wrap_of, ilt_t, ilt_f, ile_t, ile_f, nlt_t, nlt_f, nle_t, nle_f, ieq_t, ieq_f, imin_l, imin_r, imax_l, imax_r, take_app1, take_map_all, ])]
        simp -implicitDefEqProofs (disch := omega) [wrap_of, ilt_t, ilt_f, ile_t, ile_f, nlt_t, nlt_f, nle_t, nle_f, ieq_t, ieq_f, imin_l, imin_r, imax_l, imax_r, take_app1, take_map_all, a16, h16, a17, h17, a18, h18s, a19, h19, a20, h20, a21, h21, a22, h22, strBin]
end Go.Proofs.Ytalckkfoplaeeaa
