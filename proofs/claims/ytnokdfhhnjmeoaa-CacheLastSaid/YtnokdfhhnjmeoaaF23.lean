import Derived.Test.YtnokdfhhnjmeoaaE23
set_option linter.unusedSimpArgs false
set_option linter.unusedVariables false
namespace Go.Proofs.Ytnokdfhhnjmeoaa
open Go.Am Go.Am.Kp

theorem l48a {n : Nat} (hn : 34 < n) (l : List K) (hl : l.length ≤ 1000000) (f : Bool) (k : K) (e0 : Env) (h0 : e0 0 = .lst f (l.map D)) (h3 : e0 3 = .ptr 0 0 0 0) :
    iter (round (C23.tab n) [5, 6] [(.exit 0, [5, 6])] c48_1 e0 2 [1]) ([.own 1 0 0 0, .int .i64 0], [.var (D k).cells, .row 0 6 []]) = some (.exit 0, [.own 1 0 0 (cnt l k), .int .i64 (cnt l k)], [.var (D k).cells, .row 0 6 ((l.take (cnt l k)).map D)]) := by
  have := for_upto (f := round (C23.tab n) [5, 6] [(.exit 0, [5, 6])] c48_1 e0 2 [1]) (fun i => ([.own 1 0 0 i, .int .i64 i], [.var (D k).cells, .row 0 6 ((l.take i).map D)])) l (fun x => !lt x k) (fun i => (.exit 0, [.own 1 0 0 i, .int .i64 i], [.var (D k).cells, .row 0 6 ((l.take i).map D)]))
    (fun i hi => by
      have e1 : min i l.length = i := by omega
      cases h : lt l[i] k with
      | true =>
        simp -implicitDefEqProofs (disch := omega) [wrap_of, ilt_t, ilt_f, ile_t, ile_f, nlt_t, nlt_f, nle_t, nle_f, ieq_t, ieq_f, imin_l, imin_r, imax_l, imax_r, take_app1, take_map_all, round_eq, b48_1, h0, h3, hi, s30 hn, h, e1]
        rw [List.take_succ_eq_append_getElem (by simpa using hi), List.take_take, Nat.min_self]
        simp
      | false => simp -implicitDefEqProofs (disch := omega) [wrap_of, ilt_t, ilt_f, ile_t, ile_f, nlt_t, nlt_f, nle_t, nle_f, ieq_t, ieq_f, imin_l, imin_r, imax_l, imax_r, take_app1, take_map_all, round_eq, b48_1, h0, h3, hi, s30 hn, h, e1])
    (by simp -implicitDefEqProofs (disch := omega) [wrap_of, ilt_t, ilt_f, ile_t, ile_f, nlt_t, nlt_f, nle_t, nle_f, ieq_t, ieq_f, imin_l, imin_r, imax_l, imax_r, take_app1, take_map_all, round_eq, b48_1, h0, h3])
  rw [← cnt_idx] at this
  exact this
theorem l48b {n : Nat} (hn : 34 < n) (l : List K) (hl : l.length ≤ 1000000) (f : Bool) (k : K) (c : Nat) (hc : c ≤ l.length) (a : List K) (ha : a.length ≤ c + 1) (e0 : Env) (h0 : e0 0 = .lst f (l.map D)) (h3 : e0 3 = .ptr 0 0 0 0) :
    iter (round (C23.tab n) [5, 6] [(.exit 2, [5])] c48_2 e0 2 [1]) ([.own 1 0 0 a.length, .int .i64 c], [.var (D k).cells, .row 0 6 (a.map D)]) =
      some (.exit 2, [.own 1 0 0 (a ++ (l.drop c).filter (fun x => lt k x)).length], [.var (D k).cells, .row 0 6 ((a ++ (l.drop c).filter (fun x => lt k x)).map D)]) := by
  have := for_list (f := round (C23.tab n) [5, 6] [(.exit 2, [5])] c48_2 e0 2 [1]) (fun i (es : List K) => ([.own 1 0 0 es.length, .int .i64 ((c : Int) + i)], [.var (D k).cells, .row 0 6 (es.map D)])) (l.drop c) (fun es x => if lt k x = true then es ++ [x] else es) (fun es => (.exit 2, [.own 1 0 0 es.length], [.var (D k).cells, .row 0 6 (es.map D)])) (fun i es => es.length ≤ c + 1 + i)
    (fun i hi es he => by
      have hi' : c + i < l.length := by simp at hi; omega
      have e1 : ((c : Int) + i).toNat = c + i := by omega
      have e2 : ((c : Int) + i + 1) = (c : Int) + ((i : Int) + 1) := by omega
      rw [List.getElem_drop]
      cases h : lt k l[c + i] with
      | true =>
        refine ⟨by simp; omega, ?_⟩
        simp -implicitDefEqProofs (disch := omega) [wrap_of, ilt_t, ilt_f, ile_t, ile_f, nlt_t, nlt_f, nle_t, nle_f, ieq_t, ieq_f, imin_l, imin_r, imax_l, imax_r, take_app1, take_map_all, round_eq, b48_2, h0, h3, hi', s30 hn, h, e1, e2]
      | false =>
        refine ⟨by simp; omega, ?_⟩
        simp -implicitDefEqProofs (disch := omega) [wrap_of, ilt_t, ilt_f, ile_t, ile_f, nlt_t, nlt_f, nle_t, nle_f, ieq_t, ieq_f, imin_l, imin_r, imax_l, imax_r, take_app1, take_map_all, round_eq, b48_2, h0, h3, hi', s30 hn, h, e1, e2])
    (fun es he => by
      have e : ¬ ((c : Int) + ((l.drop c).length : Nat) < l.length) := by simp; omega
      simp -implicitDefEqProofs (disch := omega) [wrap_of, ilt_t, ilt_f, ile_t, ile_f, nlt_t, nlt_f, nle_t, nle_f, ieq_t, ieq_f, imin_l, imin_r, imax_l, imax_r, take_app1, take_map_all, round_eq, b48_2, h0, e]) a (by omega)
  rw [fold_filter] at this
  have e : (c : Int) + ((0 : Nat) : Int) = c := by omega
  rw [e] at this
  exact this
/-- catacombref23.put -/
theorem s48 {n : Nat} (hn : 37 < n) (l : List K) (hs : Sorted l) (hl : l.length ≤ 100000) (f : Bool) (k : K) :
    (C23.tab n).p 48 [.lst f (l.map D), D k] = some (.lst false ((put l k).map D)) := by
  rw [p48 hn, runP_eq, runH_eq]
  have hc := cnt_le l k
  simp -implicitDefEqProofs (disch := omega) [wrap_of, ilt_t, ilt_f, ile_t, ile_f, nlt_t, nlt_f, nle_t, nle_f, ieq_t, ieq_f, imin_l, imin_r, imax_l, imax_r, take_app1, take_map_all, c48]
  have h1 := l48a (n := 37) (by omega) l (by omega) f k
  obtain ⟨a, ha⟩ : ∃ a, a = l.take (cnt l k) := ⟨_, rfl⟩
  have hal : a.length = cnt l k := by rw [ha, List.length_take]; omega
  have hr := put_ref (k := k) hs
  rw [← ha, ← hal] at h1 hr
  rw [← hal] at hc
  simp only [D, AV.cells] at h1
  rw [h1 _ (by simp -implicitDefEqProofs (disch := omega) [wrap_of, ilt_t, ilt_f, ile_t, ile_f, nlt_t, nlt_f, nle_t, nle_f, ieq_t, ieq_f, imin_l, imin_r, imax_l, imax_r, take_app1, take_map_all, ]) (by simp -implicitDefEqProofs (disch := omega) [wrap_of, ilt_t, ilt_f, ile_t, ile_f, nlt_t, nlt_f, nle_t, nle_f, ieq_t, ieq_f, imin_l, imin_r, imax_l, imax_r, take_app1, take_map_all, ])]
  simp -implicitDefEqProofs (disch := omega) [wrap_of, ilt_t, ilt_f, ile_t, ile_f, nlt_t, nlt_f, nle_t, nle_f, ieq_t, ieq_f, imin_l, imin_r, imax_l, imax_r, take_app1, take_map_all, ]
  have h2 := l48b (n := 37) (by omega) l (by omega) f k a.length hc (a ++ [k]) (by simp)
  simp only [List.append_assoc, List.cons_append, List.nil_append, hr] at h2
  simp only [D, AV.cells, List.map_append, List.map_cons, List.map_nil, List.length_append, List.length_cons, List.length_nil, Nat.zero_add] at h2
  rw [h2 _ (by simp -implicitDefEqProofs (disch := omega) [wrap_of, ilt_t, ilt_f, ile_t, ile_f, nlt_t, nlt_f, nle_t, nle_f, ieq_t, ieq_f, imin_l, imin_r, imax_l, imax_r, take_app1, take_map_all, ]) (by simp -implicitDefEqProofs (disch := omega) [wrap_of, ilt_t, ilt_f, ile_t, ile_f, nlt_t, nlt_f, nle_t, nle_f, ieq_t, ieq_f, imin_l, imin_r, imax_l, imax_r, take_app1, take_map_all, ])]
  have hp : (put l k).length = (put l k).length := rfl
  simp -implicitDefEqProofs (disch := omega) [wrap_of, ilt_t, ilt_f, ile_t, ile_f, nlt_t, nlt_f, nle_t, nle_f, ieq_t, ieq_f, imin_l, imin_r, imax_l, imax_r, take_app1, take_map_all, ]
/-- catacombref23.Page -/
theorem s31 {n : Nat} (hn : 38 < n) (l : List K) (hs : Sorted l) (hl : l.length ≤ 100000) (f g : Bool) (ino page til : Int) (d : List Int) :
    (C23.tab n).p 31 [.lst f (l.map D), .int .i64 ino, .int .i64 page, .lst g (d.map B), .int .i64 til] = some (.lst false ((put l ⟨ino, [], page, 0, g, d, til⟩).map D)) := by
  rw [p31 hn, runP_eq, runH_eq]
  have h := s48 (n := 38) (by omega) l hs hl f ⟨ino, [], page, 0, g, d, til⟩
  simp only [D] at h
  simp -implicitDefEqProofs (disch := omega) [wrap_of, ilt_t, ilt_f, ile_t, ile_f, nlt_t, nlt_f, nle_t, nle_f, ieq_t, ieq_f, imin_l, imin_r, imax_l, imax_r, take_app1, take_map_all, c31, a48, h]
/-- catacombref23.Name -/
theorem s32 {n : Nat} (hn : 39 < n) (l : List K) (hs : Sorted l) (hl : l.length ≤ 100000) (f : Bool) (ino is til : Int) (m : List UInt8) :
    (C23.tab n).p 32 [.lst f (l.map D), .int .i64 ino, .str m, .int .i64 is, .int .i64 til] = some (if m = [] then .lst f (l.map D) else .lst false ((put l ⟨ino, m, 0, is, true, [], til⟩).map D)) := by
  rw [p32 hn, runP_eq, runH_eq]
  have h := s48 (n := 39) (by omega) l hs hl f ⟨ino, m, 0, is, true, [], til⟩
  simp only [D, List.map_nil] at h
  by_cases hm : m = []
  · simp -implicitDefEqProofs (disch := omega) [wrap_of, ilt_t, ilt_f, ile_t, ile_f, nlt_t, nlt_f, nle_t, nle_f, ieq_t, ieq_f, imin_l, imin_r, imax_l, imax_r, take_app1, take_map_all, c32, strBin, hm]
  · simp -implicitDefEqProofs (disch := omega) [wrap_of, ilt_t, ilt_f, ile_t, ile_f, nlt_t, nlt_f, nle_t, nle_f, ieq_t, ieq_f, imin_l, imin_r, imax_l, imax_r, take_app1, take_map_all, c32, strBin, hm, a48, h]
end Go.Proofs.Ytnokdfhhnjmeoaa
