import Derived.Test.YtnokdfhhnjmeoaaF23
set_option linter.unusedSimpArgs false
set_option linter.unusedVariables false
namespace Go.Proofs.Ytnokdfhhnjmeoaa
open Go.Am Go.Am.Kp

theorem half {i j : Nat} : bin .shr (.int .u64 ((i : Int) + j)) (.int .u64 1) = some (.int .u64 (((i + j) / 2 : Nat) : Int)) := by
  have h : ((i : Int) + j).fdiv 2 = (((i + j) / 2 : Nat) : Int) := by
    rw [Int.fdiv_eq_ediv_of_nonneg _ (by omega)]
    omega
  simp only [bin]
  rw [← h]
  rfl
theorem ordI_zero {a b : K} (h : lt a b = false) (h' : lt b a = false) : ordI a b = 0 := by simp [ordI, h, h']
theorem ordI_one {a b : K} (h : lt a b = false) (h' : lt b a = true) : ordI a b = 1 := by simp [ordI, h, h']
theorem l49 {n : Nat} (hn : 5 < n) (l : List K) (hs : Sorted l) (hl : l.length ≤ 1000000) (f : Bool) (k : K) (e0 : Env) (h0 : e0 0 = .lst f (l.map D)) (h2 : e0 2 = .fn (.func 25) [] []) (h4 : e0 4 = .ptr 1 0 0 0) :
    iter (round (C23.tab n) [9, 10] [(.exit 0, [9])] c49_1 e0 2 []) ([.int .i64 0, .int .i64 l.length], [.var (D k).cells, .var (D k).cells]) = some (.exit 0, [.int .i64 (cnt l k)], [.var (D k).cells, .var (D k).cells]) :=
  for_half (f := round (C23.tab n) [9, 10] [(.exit 0, [9])] c49_1 e0 2 []) (fun i j => ([.int .i64 i, .int .i64 j], [.var (D k).cells, .var (D k).cells])) l.length (cnt l k) (cnt_le l k) (fun c => (.exit 0, [.int .i64 c], [.var (D k).cells, .var (D k).cells]))
    (fun i j hij hj => by
      have hh := half (i := i) (j := j)
      obtain ⟨m, hmm⟩ : ∃ m, m = (i + j) / 2 := ⟨_, rfl⟩
      rw [← hmm] at hh ⊢
      have hm : m < l.length := by omega
      have hlt := lt_get (k := k) hs _ hm
      by_cases h : m < cnt l k
      · rw [decide_eq_true h] at hlt
        simp -implicitDefEqProofs (disch := omega) [wrap_of, ilt_t, ilt_f, ile_t, ile_f, nlt_t, nlt_f, nle_t, nle_f, ieq_t, ieq_f, imin_l, imin_r, imax_l, imax_r, take_app1, take_map_all, round_eq, b49_1, h0, h2, h4, wrap_u64, hh, a25, s25 hn, hm, h, hlt, ordI_neg hlt]
      · rw [decide_eq_false h] at hlt
        cases h' : lt k l[m] with
        | true => simp -implicitDefEqProofs (disch := omega) [wrap_of, ilt_t, ilt_f, ile_t, ile_f, nlt_t, nlt_f, nle_t, nle_f, ieq_t, ieq_f, imin_l, imin_r, imax_l, imax_r, take_app1, take_map_all, round_eq, b49_1, h0, h2, h4, wrap_u64, hh, a25, s25 hn, hm, h, hlt, ordI_one hlt h']
        | false => simp -implicitDefEqProofs (disch := omega) [wrap_of, ilt_t, ilt_f, ile_t, ile_f, nlt_t, nlt_f, nle_t, nle_f, ieq_t, ieq_f, imin_l, imin_r, imax_l, imax_r, take_app1, take_map_all, round_eq, b49_1, h0, h2, h4, wrap_u64, hh, a25, s25 hn, hm, h, hlt, ordI_zero hlt h'])
    (fun i hi => by simp -implicitDefEqProofs (disch := omega) [wrap_of, ilt_t, ilt_f, ile_t, ile_f, nlt_t, nlt_f, nle_t, nle_f, ieq_t, ieq_f, imin_l, imin_r, imax_l, imax_r, take_app1, take_map_all, round_eq, b49_1, h0]) _ 0 l.length rfl (Nat.zero_le _) (cnt_le l k) (Nat.le_refl _)
/-- slices.BinarySearchFunc -/
theorem s49 {n : Nat} (hn : 16 < n) (l : List K) (hs : Sorted l) (hl : l.length ≤ 1000000) (f : Bool) (k : K) :
    callA (C23.tab n) 49 [.lst f (l.map D), D k, .fn (.func 25) [] []] [.var (D k).cells] = some (.tup [.int .i64 (cnt l k), .bool (fnd l k)], [.var (D k).cells, .var (D k).cells]) := by
  rw [p49 hn, runH_eq]
  have hc := cnt_le l k
  have h1 := l49 (n := 16) (by omega) l hs hl f k
  simp only [D, AV.cells] at h1
  simp -implicitDefEqProofs (disch := omega) [wrap_of, ilt_t, ilt_f, ile_t, ile_f, nlt_t, nlt_f, nle_t, nle_f, ieq_t, ieq_f, imin_l, imin_r, imax_l, imax_r, take_app1, take_map_all, c49]
  rw [h1 _ (by simp -implicitDefEqProofs (disch := omega) [wrap_of, ilt_t, ilt_f, ile_t, ile_f, nlt_t, nlt_f, nle_t, nle_f, ieq_t, ieq_f, imin_l, imin_r, imax_l, imax_r, take_app1, take_map_all, ]) (by simp -implicitDefEqProofs (disch := omega) [wrap_of, ilt_t, ilt_f, ile_t, ile_f, nlt_t, nlt_f, nle_t, nle_f, ieq_t, ieq_f, imin_l, imin_r, imax_l, imax_r, take_app1, take_map_all, ]) (by simp -implicitDefEqProofs (disch := omega) [wrap_of, ilt_t, ilt_f, ile_t, ile_f, nlt_t, nlt_f, nle_t, nle_f, ieq_t, ieq_f, imin_l, imin_r, imax_l, imax_r, take_app1, take_map_all, ])]
  unfold fnd
  by_cases h : cnt l k < l.length
  · have hlt := lt_get (k := k) hs _ h
    simp only [Nat.lt_irrefl, decide_false] at hlt
    rw [List.getElem?_eq_getElem h]
    cases h' : lt k l[cnt l k] with
    | true => simp -implicitDefEqProofs (disch := omega) [wrap_of, ilt_t, ilt_f, ile_t, ile_f, nlt_t, nlt_f, nle_t, nle_f, ieq_t, ieq_f, imin_l, imin_r, imax_l, imax_r, take_app1, take_map_all, h, a25, s25 (by omega : 5 < 16), ordI_one hlt h', h']
    | false => simp -implicitDefEqProofs (disch := omega) [wrap_of, ilt_t, ilt_f, ile_t, ile_f, nlt_t, nlt_f, nle_t, nle_f, ieq_t, ieq_f, imin_l, imin_r, imax_l, imax_r, take_app1, take_map_all, h, a25, s25 (by omega : 5 < 16), ordI_zero hlt h', h']
  · rw [List.getElem?_eq_none (by omega)]
    simp -implicitDefEqProofs (disch := omega) [wrap_of, ilt_t, ilt_f, ile_t, ile_f, nlt_t, nlt_f, nle_t, nle_f, ieq_t, ieq_f, imin_l, imin_r, imax_l, imax_r, take_app1, take_map_all, h]
end Go.Proofs.Ytnokdfhhnjmeoaa
