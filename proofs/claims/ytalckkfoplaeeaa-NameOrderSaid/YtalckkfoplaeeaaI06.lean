import Derived.Test.YtalckkfoplaeeaaH06
set_option linter.unusedSimpArgs false
set_option linter.unusedVariables false
namespace Go.Proofs.Ytalckkfoplaeeaa
open Go.Am Go.Am.Nm Go.Lib

theorem jn_cons {m : List (List UInt8)} (h : m ≠ []) : jn m = 47 :: join m [47] := by unfold jn; rw [if_neg h]
theorem segs_len : ∀ (t : List UInt8), segs (t ++ [47]) = segs t ++ [[]]
  | [] => rfl
  | b :: t => by
    have ih := segs_len t
    obtain ⟨y, q, hy⟩ : ∃ y q, segs t = y :: q := by
      cases h : segs t with
      | nil => exact absurd h (segs_ne t)
      | cons x r => exact ⟨x, r, rfl⟩
    rw [hy] at ih
    by_cases hb : b = 47
    · subst hb
      rw [List.cons_append, segs_slash, segs_slash, ih, hy]; rfl
    · rw [List.cons_append, segs_other hb ih, segs_other hb hy]; rfl
theorem split_none1 {m : List (List UInt8)} (h0 : m ≠ []) : split (jn m ++ [47]) = none := by
  rw [jn_cons h0]
  unfold split
  rw [if_neg (by simp)]
  rw [if_neg]
  rintro ⟨_, _, h3⟩
  simp only [List.cons_append, List.tail_cons, segs_len] at h3
  simp only [List.all_append, Bool.and_eq_true, List.all_cons] at h3
  exact absurd h3.2.1 (by decide)
theorem split_none2 {m : List (List UInt8)} (h0 : m ≠ []) : split (47 :: jn m) = none := by
  rw [jn_cons h0]
  unfold split
  rw [if_neg (by simp)]
  rw [if_neg]
  rintro ⟨_, _, h3⟩
  simp only [List.tail_cons, segs_slash, List.all_cons, Bool.and_eq_true] at h3
  exact absurd h3.1 (by decide)
theorem join_head {m : List (List UInt8)} (h0 : m ≠ []) (h2 : m.all rightN = true) : ∃ b t, join m [47] = b :: t ∧ b ≠ 47 := by
  cases m with
  | nil => exact absurd rfl h0
  | cons x r =>
    simp only [List.all_cons, Bool.and_eq_true] at h2
    have hx := right_ne h2.1
    cases x with
    | nil => exact absurd rfl hx
    | cons b t =>
      rw [join_cons]
      exact ⟨b, t ++ joinTail [47] r, rfl, right_no h2.1 b (by simp)⟩
theorem split_none3 {m : List (List UInt8)} (h0 : m ≠ []) (h2 : m.all rightN = true) : split (join m [47]) = none := by
  obtain ⟨b, t, e, hb⟩ := join_head h0 h2
  rw [e]
  unfold split
  rw [if_neg (by simp [hb]), if_neg (by simp [hb])]
theorem jn_take {m : List (List UInt8)} (k : Nat) (hk : 0 < k) (h0 : m ≠ []) : jn (m.take k) = (jn m).take (jn (m.take k)).length ∧ (jn (m.take k)).length ≤ (jn m).length := by
  have ht : m.take k ≠ [] := by
    intro h
    rcases List.take_eq_nil_iff.1 h with h | h
    · omega
    · exact h0 h
  rw [← joinTail_jn h0, ← joinTail_jn ht]
  have e : joinTail [47] m = joinTail [47] (m.take k) ++ joinTail [47] (m.drop k) := by
    unfold joinTail
    rw [← List.flatten_append, ← List.map_append, List.take_append_drop]
  rw [e]
  refine ⟨by simp, by simp⟩
theorem lp9 (l : List (List UInt8)) (f : Bool) (hl : l.length ≤ 9223372036854775807) (c : Nat) (hc : c ≤ 255) : runP (C06.tab 22) c9 [.lst f (l.map AV.str), .int .u8 (c : Int)] = some (.bool true) := by
  rw [runP_eq, runH_eq]
  have h10 := s10 (n := 22) (by decide)
  have h23 := s23 (n := 22) (by decide) l f hl
  obtain ⟨n1, n2⟩ := namesF_ok l
  have nf := names_fits l
  have h21 := fun g => s21 (n := 22) (by decide) (namesF l) g nf
  generalize namesF l = m at *
  obtain ⟨k, hk⟩ : ∃ k, k = c % (m.length + 1) := ⟨_, rfl⟩
  have hkm : k ≤ m.length := by have := Nat.mod_lt c (show 0 < m.length + 1 by omega); omega
  have hmod : (c : Int).tmod ((m.length : Int) + 1) = (k : Int) := by rw [Int.tmod_eq_emod_of_nonneg (by omega), hk]; simp
  have h21k := fun g => s21 (n := 22) (by decide) (m.take k) g (nf.take k)
  simp only [List.map_take] at h21k
  have hjk := jn_len (nf.take k)
  have hjm := jn_len nf
  have t1 := take_len m k n1
  have t2 := all_take n2 k
  by_cases h0 : m = []
  · subst h0
    have hj : jn [] = [47] := rfl
    rw [hj] at h21
    have hk0 : k = 0 := by simpa using hkm
    subst hk0
    simp only [List.map_nil, List.take_nil] at h21 h23 h21k hmod
    rw [hj] at h21k
    simp -implicitDefEqProofs (disch := omega) [wrap_of, ilt_t, ilt_f, ile_t, ile_f, nlt_t, nlt_f, nle_t, nle_f, ieq_t, ieq_f, imin_l, imin_r, imax_l, imax_r, take_app1, take_map_all, c9, a10, h10, a23, h23, a21, h21, h21k, strBin, hmod]
  · have h12a := s12 (n := 22) (by decide) (jn m ++ [47])
    have h12b := s12 (n := 22) (by decide) (47 :: jn m)
    have h12c := s12 (n := 22) (by decide) (join m [47])
    unfold spV at h12a h12b h12c
    rw [split_none1 h0] at h12a
    rw [split_none2 h0] at h12b
    rw [split_none3 h0 n2] at h12c
    have h19 := s19 (n := 22) (by decide) (jn (m.take k)) (jn m)
    have hab := abv_take n1 n2 k m.length hkm (Nat.le_refl _)
    rw [List.take_length] at hab
    rw [hab] at h19
    have hd : (jn m).drop 1 = join m [47] := by rw [jn_cons h0]; rfl
    have hne := jn_ne m
    have hmp : 0 < m.length := List.length_pos_iff.2 h0
    have hjp : 0 < (jn m).length := List.length_pos_iff.2 hne
    by_cases hk0 : 0 < k
    · obtain ⟨w1, w2⟩ := jn_take k hk0 h0
      have w1' := w1.symm
      simp -implicitDefEqProofs (disch := omega) [wrap_of, ilt_t, ilt_f, ile_t, ile_f, nlt_t, nlt_f, nle_t, nle_f, ieq_t, ieq_f, imin_l, imin_r, imax_l, imax_r, take_app1, take_map_all, c9, a10, h10, a23, h23, a21, h21, h21k, a12, h12a, h12b, h12c, a19, h19, strBin, hmod, h0, hne, hd, hkm, hk0, w1', w2]
    · have : k = 0 := by omega
      subst this
      have hj0 : jn (m.take 0) = [47] := rfl
      rw [hj0] at h21k h19 hjk
      simp only [List.take_zero] at h21k
      simp -implicitDefEqProofs (disch := omega) [wrap_of, ilt_t, ilt_f, ile_t, ile_f, nlt_t, nlt_f, nle_t, nle_f, ieq_t, ieq_f, imin_l, imin_r, imax_l, imax_r, take_app1, take_map_all, c9, a10, h10, a23, h23, a21, h21, h21k, a12, h12a, h12b, h12c, a19, h19, strBin, hmod, h0, hne, hd]
end Go.Proofs.Ytalckkfoplaeeaa
