import Derived.Test.YtalckkfoplaeeaaG06
set_option linter.unusedSimpArgs false
set_option linter.unusedVariables false
namespace Go.Proofs.Ytalckkfoplaeeaa
open Go.Am Go.Am.Nm Go.Lib

theorem names_fits (l : List (List UInt8)) : Fits (namesF l) := fits_le (k := 32) (m := 12) (fun x hx => right_le (List.all_eq_true.1 (namesF_ok l).2 x hx)) (namesF_ok l).1 (by decide)
theorem all_take {l : List (List UInt8)} (h : l.all rightN = true) (k : Nat) : (l.take k).all rightN = true := by
  rw [List.all_eq_true] at h ⊢
  exact fun x hx => h x (List.mem_of_mem_take hx)
theorem take_len (l : List (List UInt8)) (k : Nat) (h : l.length ≤ 12) : (l.take k).length ≤ 12 := by simp; omega
theorem jn_ne (l : List (List UInt8)) : jn l ≠ [] := by unfold jn; split <;> simp
/-- NameLast -/
theorem lastV_jn {m : List (List UInt8)} {x : List UInt8} (h1 : (m ++ [x]).length ≤ 12) (h2 : (m ++ [x]).all rightN = true) : lastV (jn (m ++ [x])) = .tup [.str x, .str (jn m), .int .i64 0] := by
  unfold lastV lastP
  rw [split_jn h1 h2]
  simp
theorem jn_len {l : List (List UInt8)} (h : Fits l) : (jn l).length ≤ 1000001 := by
  unfold jn
  have := h.two.2
  split
  · simp
  · simp; omega
theorem abv_take {l : List (List UInt8)} (h1 : l.length ≤ 12) (h2 : l.all rightN = true) (i k : Nat) (hi : i ≤ l.length) (hk : k ≤ l.length) : abv (jn (l.take i)) (jn (l.take k)) = decide (i ≤ k) := by
  rw [abv_jn (take_len l i h1) (all_take h2 i) (take_len l k h1) (all_take h2 k)]
  simp only [List.length_take, Nat.min_eq_left hi, Nat.min_eq_left hk, List.take_take]
  by_cases h : i ≤ k
  · simp [h]
  · simp [h]
theorem lp7 (l : List (List UInt8)) (f : Bool) (hl : l.length ≤ 9223372036854775807) (a : List UInt8) : runP (C06.tab 20) c7 [.lst f (l.map AV.str), .str a] = some (.bool true) := by
  rw [runP_eq, runH_eq]
  have h10 := s10 (n := 20) (by decide)
  have h23 := s23 (n := 20) (by decide) l f hl
  have hx := x5_le a
  have h14 := s14 (n := 20) (by decide) (x5 a) (by omega)
  have e1 : a.take 500 = x5 a := rfl
  have g1 : a.length ≤ 500 → x5 a = a := fun h => List.take_of_length_le h
  obtain ⟨n1, n2⟩ := namesF_ok l
  have nf := names_fits l
  have hjl : (jn (namesF l)).length ≤ 1000 := by
    have h3 := lens_le 32 (namesF l) (fun x hx => right_le (List.all_eq_true.1 n2 x hx))
    unfold jn
    split
    · simp
    · have h1 := joinTail_length [47] (namesF l)
      have h2 : ([47] : List UInt8).length = 1 := rfl
      rw [h2, Nat.one_mul] at h1
      rename_i h0
      have := joinTail_jn h0
      unfold jn at this
      rw [if_neg h0] at this
      rw [← this]
      omega
  have h21 := fun g => s21 (n := 20) (by decide) (namesF l) g nf
  have h14' := s14 (n := 20) (by decide) (jn (namesF l)) (by omega)
  have hsx := fun s (hs : split (x5 a) = some s) => fits_of hs (by omega)
  generalize namesF l = m at *
  rcases List.eq_nil_or_concat m with h0 | ⟨m', z, h0⟩
  · subst h0
    have hj : jn [] = [47] := rfl
    rw [hj] at h21 h14'
    have hv : lastV [47] = .tup [.str [], .str [], .int .i64 60] := by unfold lastV lastP; rw [q2]; rfl
    rw [hv] at h14'
    simp only [List.map_nil] at h21 h23
    simp -implicitDefEqProofs (disch := omega) [wrap_of, ilt_t, ilt_f, ile_t, ile_f, nlt_t, nlt_f, nle_t, nle_f, ieq_t, ieq_f, imin_l, imin_r, imax_l, imax_r, take_app1, take_map_all, c7, a10, h10, a23, h23, a21, h21, a14, h14', strBin]
  · simp only [List.concat_eq_append] at h0
    subst h0
    have hv := lastV_jn n1 n2
    rw [hv] at h14'
    have k1 : m'.length ≤ 12 := by simp at n1; omega
    have k2 : m'.all rightN = true := by
      simp only [List.all_append, Bool.and_eq_true] at n2
      exact n2.1
    have hm : Fits m' := by
      have := nf.take m'.length
      simpa using this
    have h21' := fun g => s21 (n := 20) (by decide) m' g hm
    have w1 : abv (jn m') (jn (m' ++ [z])) = true := by
      rw [abv_jn k1 k2 n1 n2]
      simp
    have w2 : abv (jn (m' ++ [z])) (jn m') = false := by
      rw [abv_jn n1 n2 k1 k2]
      simp only [List.length_append, List.length_cons, List.length_nil, decide_eq_false_iff_not]
      rintro ⟨h, _⟩
      omega
    have h19 := s19 (n := 20) (by decide) (jn m') (jn (m' ++ [z]))
    have h19' := s19 (n := 20) (by decide) (jn (m' ++ [z])) (jn m')
    rw [w1] at h19
    rw [w2] at h19'
    simp only [List.map_append, List.map_cons, List.map_nil] at h21 h23
    simp only [List.length_append, List.length_cons, List.length_nil] at n1
    cases hq : lastP (x5 a) with
    | none =>
      have hv2 : lastV (x5 a) = .tup [.str [], .str [], .int .i64 60] := by unfold lastV; rw [hq]
      rw [hv2] at h14
      have h12 := s12 (n := 20) (by decide) []
      have hv3 : spV [] = .tup [.lst true [], .int .i64 60] := rfl
      rw [hv3] at h12
      generalize x5 a = x at *
      rcases Nat.le_total a.length 500 with h | h
      · obtain rfl := g1 h
        simp -implicitDefEqProofs (disch := omega) [wrap_of, ilt_t, ilt_f, ile_t, ile_f, nlt_t, nlt_f, nle_t, nle_f, ieq_t, ieq_f, imin_l, imin_r, imax_l, imax_r, take_app1, take_map_all, c7, a10, h10, a23, h23, a21, h21, h21', a14, h14, h14', a19, h19, h19', a12, h12, e1, strBin]
      · simp -implicitDefEqProofs (disch := omega) [wrap_of, ilt_t, ilt_f, ile_t, ile_f, nlt_t, nlt_f, nle_t, nle_f, ieq_t, ieq_f, imin_l, imin_r, imax_l, imax_r, take_app1, take_map_all, c7, a10, h10, a23, h23, a21, h21, h21', a14, h14, h14', a19, h19, h19', a12, h12, e1, strBin]
    | some q =>
      obtain ⟨s, hs, sne, hqe⟩ : ∃ s, split (x5 a) = some s ∧ s ≠ [] ∧ q = (s.getLast?.getD [], jn s.dropLast) := by
        unfold lastP at hq
        split at hq
        · rename_i s hs
          split at hq
          · cases hq
          · rename_i hne
            cases hq
            exact ⟨s, hs, hne, rfl⟩
        · cases hq
      obtain ⟨r1, r2, r3⟩ := split_some hs
      have hv2 : lastV (x5 a) = .tup [.str q.1, .str q.2, .int .i64 0] := by unfold lastV; rw [hq]
      rw [hv2] at h14
      have sf := hsx s hs
      rcases List.eq_nil_or_concat s with h0 | ⟨s', y, h0⟩
      · exact absurd h0 sne
      simp only [List.concat_eq_append] at h0
      subst h0
      have hq1 : q.1 = y := by rw [hqe]; simp
      have hq2 : q.2 = jn s' := by rw [hqe]; simp
      rw [hq1, hq2] at h14
      have t1 : s'.length ≤ 12 := by simp at r2; omega
      have t2 : s'.all rightN = true := by
        simp only [List.all_append, Bool.and_eq_true] at r3
        exact r3.1
      have h12 := s12 (n := 20) (by decide) (jn s')
      unfold spV at h12
      rw [split_jn t1 t2] at h12
      have k21 := fun g => s21 (n := 20) (by decide) (s' ++ [y]) g sf
      rw [r1] at k21
      simp only [List.map_append, List.map_cons, List.map_nil] at k21
      generalize x5 a = x at *
      rcases Nat.le_total a.length 500 with h | h
      · obtain rfl := g1 h
        simp -implicitDefEqProofs (disch := omega) [wrap_of, ilt_t, ilt_f, ile_t, ile_f, nlt_t, nlt_f, nle_t, nle_f, ieq_t, ieq_f, imin_l, imin_r, imax_l, imax_r, take_app1, take_map_all, c7, a10, h10, a23, h23, a21, h21, h21', a14, h14, h14', a19, h19, h19', a12, h12, k21, e1, strBin]
      · simp -implicitDefEqProofs (disch := omega) [wrap_of, ilt_t, ilt_f, ile_t, ile_f, nlt_t, nlt_f, nle_t, nle_f, ieq_t, ieq_f, imin_l, imin_r, imax_l, imax_r, take_app1, take_map_all, c7, a10, h10, a23, h23, a21, h21, h21', a14, h14, h14', a19, h19, h19', a12, h12, k21, e1, strBin]
end Go.Proofs.Ytalckkfoplaeeaa
