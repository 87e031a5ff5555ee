import Derived.Test.YtnokdfhhnjmeoaaG23
set_option linter.unusedSimpArgs false
set_option linter.unusedVariables false
namespace Go.Proofs.Ytnokdfhhnjmeoaa
open Go.Am Go.Am.Kp

theorem fnd_lt {l : List K} {k : K} (h : fnd l k = true) : cnt l k < l.length := by
  unfold fnd at h
  by_cases hc : cnt l k < l.length
  · exact hc
  · rw [List.getElem?_eq_none (by omega)] at h; cases h
theorem put_set {l : List K} {k : K} (hs : Sorted l) (h : fnd l k = true) : put l k = l.set (cnt l k) k := by
  rw [put_eq hs, h, List.set_eq_take_append_cons_drop, if_pos (fnd_lt h)]; rfl
theorem put_ins {l : List K} {k : K} (hs : Sorted l) (h : fnd l k = false) : put l k = l.take (cnt l k) ++ k :: l.drop (cnt l k) := by
  rw [put_eq hs, h]; rfl
/-- cache.put -/
theorem s43 {n : Nat} (hn : 28 < n) (l : List K) (hs : Sorted l) (hl : l.length ≤ 100000) (f : Bool) (k : K) :
    (C23.tab n).p 43 [.lst f (l.map D), D k] = some (.lst false ((put l k).map D)) := by
  rw [p43 hn, runP_eq, runH_eq]
  have hc := cnt_le l k
  have h := s49 (n := 28) (by omega) l hs (by omega) f k
  simp only [D, AV.cells] at h
  cases hf : fnd l k with
  | true =>
    have hlt := fnd_lt hf
    rw [hf] at h
    rw [put_set hs hf]
    simp -implicitDefEqProofs (disch := omega) [wrap_of, ilt_t, ilt_f, ile_t, ile_f, nlt_t, nlt_f, nle_t, nle_f, ieq_t, ieq_f, imin_l, imin_r, imax_l, imax_r, take_app1, take_map_all, c43, h, p51, hlt]
    exact List.take_of_length_le (by simp; try omega)
  | false =>
    rw [hf] at h
    rw [put_ins hs hf]
    simp -implicitDefEqProofs (disch := omega) [wrap_of, ilt_t, ilt_f, ile_t, ile_f, nlt_t, nlt_f, nle_t, nle_f, ieq_t, ieq_f, imin_l, imin_r, imax_l, imax_r, take_app1, take_map_all, c43, h, p51, p52, insertH]
    exact List.take_of_length_le (by simp; try omega)
/-- cache.Page -/
theorem s24 {n : Nat} (hn : 30 < n) (l : List K) (hs : Sorted l) (hl : l.length ≤ 100000) (f g : Bool) (ino page til : Int) (d : List Int) (hd : d.length ≤ 1000000) :
    (C23.tab n).p 24 [.lst f (l.map D), .int .i64 ino, .int .i64 page, .lst g (d.map B), .int .i64 til] = some (.lst false ((put l ⟨ino, [], page, 0, false, d, til⟩).map D)) := by
  rw [p24 hn, runP_eq, runH_eq]
  have h := s43 (n := 30) (by omega) l hs hl f ⟨ino, [], page, 0, false, d, til⟩
  simp only [D] at h
  simp -implicitDefEqProofs (disch := omega) [wrap_of, ilt_t, ilt_f, ile_t, ile_f, nlt_t, nlt_f, nle_t, nle_f, ieq_t, ieq_f, imin_l, imin_r, imax_l, imax_r, take_app1, take_map_all, c24, p37, a43, h]
/-- cache.Name -/
theorem s23 {n : Nat} (hn : 29 < n) (l : List K) (hs : Sorted l) (hl : l.length ≤ 100000) (f : Bool) (ino is til : Int) (m : List UInt8) :
    (C23.tab n).p 23 [.lst f (l.map D), .int .i64 ino, .str m, .int .i64 is, .int .i64 til] = some (if m = [] then .lst f (l.map D) else .lst false ((put l ⟨ino, m, 0, is, true, [], til⟩).map D)) := by
  rw [p23 hn, runP_eq, runH_eq]
  have h := s43 (n := 29) (by omega) l hs hl f ⟨ino, m, 0, is, true, [], til⟩
  simp only [D, List.map_nil] at h
  by_cases hm : m = []
  · simp -implicitDefEqProofs (disch := omega) [wrap_of, ilt_t, ilt_f, ile_t, ile_f, nlt_t, nlt_f, nle_t, nle_f, ieq_t, ieq_f, imin_l, imin_r, imax_l, imax_r, take_app1, take_map_all, c23, strBin, hm]
  · simp -implicitDefEqProofs (disch := omega) [wrap_of, ilt_t, ilt_f, ile_t, ile_f, nlt_t, nlt_f, nle_t, nle_f, ieq_t, ieq_f, imin_l, imin_r, imax_l, imax_r, take_app1, take_map_all, c23, strBin, hm, a43, h]
theorem s36 {n : Nat} (hn : 9 < n) (i p s t : Int) (m : List UInt8) (f : Bool) (d : List Int) (hd : d.length ≤ 1000000) :
    (C23.tab n).p 36 [.agg [.int .i64 i, .str m, .int .i64 p, .int .i64 s, .lst f (d.map B), .int .i64 t]] = some (.lst false (d.map B)) := by
  rw [p36 hn, runP_eq, runH_eq]
  simp -implicitDefEqProofs (disch := omega) [wrap_of, ilt_t, ilt_f, ile_t, ile_f, nlt_t, nlt_f, nle_t, nle_f, ieq_t, ieq_f, imin_l, imin_r, imax_l, imax_r, take_app1, take_map_all, c36, p37]
theorem s39 {n : Nat} (hn : 10 < n) (i p s t : Int) (m : List UInt8) (f : Bool) (d : List Int) :
    (C23.tab n).p 39 [.agg [.int .i64 i, .str m, .int .i64 p, .int .i64 s, .lst f (d.map B), .int .i64 t]] = some (.int .i64 s) := by
  rw [p39 hn, runP_eq, runH_eq]
  simp -implicitDefEqProofs (disch := omega) [wrap_of, ilt_t, ilt_f, ile_t, ile_f, nlt_t, nlt_f, nle_t, nle_f, ieq_t, ieq_f, imin_l, imin_r, imax_l, imax_r, take_app1, take_map_all, c39]
/-- cache.GetPage -/
theorem s16 {n : Nat} (hn : 18 < n) (l : List K) (hs : Sorted l) (hl : l.length ≤ 100000) (hd : ∀ k ∈ l, k.dat.length ≤ 1000000) (f : Bool) (ino page now : Int) :
    (C23.tab n).p 16 [.lst f (l.map D), .int .i64 ino, .int .i64 page, .int .i64 now] = some (((get l ⟨ino, [], page, 0, true, [], 0⟩).filter (fun x => decide (now < x.til))).elim (.tup [.lst true [], .bool false]) (fun x => .tup [.lst false (x.dat.map B), .bool true])) := by
  rw [p16 hn, runP_eq, runH_eq]
  obtain ⟨k, hk⟩ : ∃ k : K, k = ⟨ino, [], page, 0, true, [], 0⟩ := ⟨_, rfl⟩
  have h := s49 (n := 17) (by omega) l hs (by omega) f k
  rw [get_eq hs]
  rw [← hk]
  simp only [D, AV.cells] at h
  have e1 : k.ino = ino := by rw [hk]
  have e2 : k.name = [] := by rw [hk]
  have e3 : k.page = page := by rw [hk]
  have e4 : k.is = 0 := by rw [hk]
  have e5 : k.fl = true := by rw [hk]
  have e6 : k.dat = [] := by rw [hk]
  have e7 : k.til = 0 := by rw [hk]
  rw [e1, e2, e3, e4, e5, e6, e7] at h
  simp only [List.map_nil] at h
  cases hf : fnd l k with
  | true =>
    have hlt := fnd_lt hf
    have hd := hd _ (List.getElem_mem hlt)
    rw [hf] at h
    rw [if_pos rfl, List.getElem?_eq_getElem hlt]
    by_cases ht : now < l[cnt l k].til
    · simp -implicitDefEqProofs (disch := omega) [wrap_of, ilt_t, ilt_f, ile_t, ile_f, nlt_t, nlt_f, nle_t, nle_f, ieq_t, ieq_f, imin_l, imin_r, imax_l, imax_r, take_app1, take_map_all, c16, p35, runH_eq, c35, h, hlt, ht, a36, s36 (by omega : 9 < 17) _ _ _ _ _ _ _ hd, Option.filter]
    · simp -implicitDefEqProofs (disch := omega) [wrap_of, ilt_t, ilt_f, ile_t, ile_f, nlt_t, nlt_f, nle_t, nle_f, ieq_t, ieq_f, imin_l, imin_r, imax_l, imax_r, take_app1, take_map_all, c16, p35, runH_eq, c35, h, hlt, ht, Option.filter]
  | false =>
    rw [hf] at h
    simp -implicitDefEqProofs (disch := omega) [wrap_of, ilt_t, ilt_f, ile_t, ile_f, nlt_t, nlt_f, nle_t, nle_f, ieq_t, ieq_f, imin_l, imin_r, imax_l, imax_r, take_app1, take_map_all, c16, p35, runH_eq, c35, h]
/-- cache.GetName -/
theorem s18 {n : Nat} (hn : 20 < n) (l : List K) (hs : Sorted l) (hl : l.length ≤ 100000) (f : Bool) (ino now : Int) (m : List UInt8) :
    (C23.tab n).p 18 [.lst f (l.map D), .int .i64 ino, .str m, .int .i64 now] = some (if m = [] then .tup [.int .i64 0, .bool false] else ((get l ⟨ino, m, 0, 0, true, [], 0⟩).filter (fun x => decide (now < x.til))).elim (.tup [.int .i64 0, .bool false]) (fun x => .tup [.int .i64 x.is, .bool true])) := by
  rw [p18 hn, runP_eq, runH_eq]
  by_cases hm : m = []
  · simp -implicitDefEqProofs (disch := omega) [wrap_of, ilt_t, ilt_f, ile_t, ile_f, nlt_t, nlt_f, nle_t, nle_f, ieq_t, ieq_f, imin_l, imin_r, imax_l, imax_r, take_app1, take_map_all, c18, strBin, hm]
  rw [if_neg hm]
  obtain ⟨k, hk⟩ : ∃ k : K, k = ⟨ino, m, 0, 0, true, [], 0⟩ := ⟨_, rfl⟩
  have h := s49 (n := 19) (by omega) l hs (by omega) f k
  rw [get_eq hs]
  rw [← hk]
  simp only [D, AV.cells] at h
  have e1 : k.ino = ino := by rw [hk]
  have e2 : k.name = m := by rw [hk]
  have e3 : k.page = 0 := by rw [hk]
  have e4 : k.is = 0 := by rw [hk]
  have e5 : k.fl = true := by rw [hk]
  have e6 : k.dat = [] := by rw [hk]
  have e7 : k.til = 0 := by rw [hk]
  rw [e1, e2, e3, e4, e5, e6, e7] at h
  simp only [List.map_nil] at h
  cases hf : fnd l k with
  | true =>
    have hlt := fnd_lt hf
    rw [hf] at h
    rw [if_pos rfl, List.getElem?_eq_getElem hlt]
    by_cases ht : now < l[cnt l k].til
    · simp -implicitDefEqProofs (disch := omega) [wrap_of, ilt_t, ilt_f, ile_t, ile_f, nlt_t, nlt_f, nle_t, nle_f, ieq_t, ieq_f, imin_l, imin_r, imax_l, imax_r, take_app1, take_map_all, c18, strBin, hm, p38, runH_eq, c38, h, hlt, ht, a39, s39 (by omega : 10 < 19), Option.filter]
    · simp -implicitDefEqProofs (disch := omega) [wrap_of, ilt_t, ilt_f, ile_t, ile_f, nlt_t, nlt_f, nle_t, nle_f, ieq_t, ieq_f, imin_l, imin_r, imax_l, imax_r, take_app1, take_map_all, c18, strBin, hm, p38, runH_eq, c38, h, hlt, ht, Option.filter]
  | false =>
    rw [hf] at h
    simp -implicitDefEqProofs (disch := omega) [wrap_of, ilt_t, ilt_f, ile_t, ile_f, nlt_t, nlt_f, nle_t, nle_f, ieq_t, ieq_f, imin_l, imin_r, imax_l, imax_r, take_app1, take_map_all, c18, strBin, hm, p38, runH_eq, c38, h]
end Go.Proofs.Ytnokdfhhnjmeoaa
