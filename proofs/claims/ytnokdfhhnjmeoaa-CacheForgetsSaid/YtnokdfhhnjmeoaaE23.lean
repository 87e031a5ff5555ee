import Derived.Test.YtnokdfhhnjmeoaaC23
set_option linter.unusedSimpArgs false
set_option linter.unusedVariables false
namespace Go.Proofs.Ytnokdfhhnjmeoaa
open Go.Am Go.Am.Kp

def Short (k : K) : Prop := k.dat.length ≤ 9223372036854775807
/-- Alike, but for the flag. -/
def alike (x y : K) : Bool := decide (x.ino = y.ino) && (decide (x.name = y.name) && (decide (x.page = y.page) && (decide (x.is = y.is) && (decide (x.til = y.til) && decide (x.dat = y.dat)))))
theorem l15 {n : Nat} (hn : 21 < n) (a b : List K) (f g : Bool) (e0 : Env) (h0 : e0 0 = .lst f (a.map D)) (h1 : e0 1 = .lst g (b.map D)) (hl : a.length = b.length) (hb : a.length ≤ 9223372036854775807) (hs : ∀ k ∈ a, Short k) :
    iter (round (C23.tab n) [5] [(.exit 0, []), (.ret, [4])] c15_1 e0 0 []) ([.int .i64 0], []) = some (((a.zip b).find? (fun x => !alike x.1 x.2)).elim (.exit 0, [], []) (fun x => (.ret, [.bool false], [.var (D x.1).cells, .var (D x.2).cells]))) := by
  have hz : (a.zip b).length = a.length := by simp [hl]
  exact for_idx (f := round (C23.tab n) [5] [(.exit 0, []), (.ret, [4])] c15_1 e0 0 []) (fun i => ([.int .i64 i], [])) (a.zip b) (fun x => !alike x.1 x.2) (fun _ x => (.ret, [.bool false], [.var (D x.1).cells, .var (D x.2).cells])) (.exit 0, [], [])
    (fun i hi => by
      rw [hz] at hi
      have hi' : i < b.length := by omega
      have hs := hs _ (List.getElem_mem hi)
      unfold Short at hs
      rw [List.getElem_zip]
      unfold alike
      by_cases e1 : a[i].ino = b[i].ino
      · by_cases e2 : a[i].name = b[i].name
        · by_cases e3 : a[i].page = b[i].page
          · by_cases e4 : a[i].is = b[i].is
            · by_cases e5 : a[i].til = b[i].til
              · by_cases e6 : a[i].dat = b[i].dat
                · simp -implicitDefEqProofs (disch := omega) [wrap_of, ilt_t, ilt_f, ile_t, ile_f, nlt_t, nlt_f, nle_t, nle_f, ieq_t, ieq_f, imin_l, imin_r, imax_l, imax_r, take_app1, take_map_all, round_eq, b15_1, h0, h1, hi, hi', a20, s20 hn _ _ _ _ hs, strBin, e1, e2, e3, e4, e5, e6]
                  rw [← e6, s20 hn _ _ _ _ hs]
                  simp -implicitDefEqProofs (disch := omega) [wrap_of, ilt_t, ilt_f, ile_t, ile_f, nlt_t, nlt_f, nle_t, nle_f, ieq_t, ieq_f, imin_l, imin_r, imax_l, imax_r, take_app1, take_map_all, ]
                · simp -implicitDefEqProofs (disch := omega) [wrap_of, ilt_t, ilt_f, ile_t, ile_f, nlt_t, nlt_f, nle_t, nle_f, ieq_t, ieq_f, imin_l, imin_r, imax_l, imax_r, take_app1, take_map_all, round_eq, b15_1, h0, h1, hi, hi', a20, s20 hn _ _ _ _ hs, strBin, e1, e2, e3, e4, e5, e6]
              · simp -implicitDefEqProofs (disch := omega) [wrap_of, ilt_t, ilt_f, ile_t, ile_f, nlt_t, nlt_f, nle_t, nle_f, ieq_t, ieq_f, imin_l, imin_r, imax_l, imax_r, take_app1, take_map_all, round_eq, b15_1, h0, h1, hi, hi', strBin, e1, e2, e3, e4, e5]
            · simp -implicitDefEqProofs (disch := omega) [wrap_of, ilt_t, ilt_f, ile_t, ile_f, nlt_t, nlt_f, nle_t, nle_f, ieq_t, ieq_f, imin_l, imin_r, imax_l, imax_r, take_app1, take_map_all, round_eq, b15_1, h0, h1, hi, hi', strBin, e1, e2, e3, e4]
          · simp -implicitDefEqProofs (disch := omega) [wrap_of, ilt_t, ilt_f, ile_t, ile_f, nlt_t, nlt_f, nle_t, nle_f, ieq_t, ieq_f, imin_l, imin_r, imax_l, imax_r, take_app1, take_map_all, round_eq, b15_1, h0, h1, hi, hi', strBin, e1, e2, e3]
        · simp -implicitDefEqProofs (disch := omega) [wrap_of, ilt_t, ilt_f, ile_t, ile_f, nlt_t, nlt_f, nle_t, nle_f, ieq_t, ieq_f, imin_l, imin_r, imax_l, imax_r, take_app1, take_map_all, round_eq, b15_1, h0, h1, hi, hi', strBin, e1, e2]
      · simp -implicitDefEqProofs (disch := omega) [wrap_of, ilt_t, ilt_f, ile_t, ile_f, nlt_t, nlt_f, nle_t, nle_f, ieq_t, ieq_f, imin_l, imin_r, imax_l, imax_r, take_app1, take_map_all, round_eq, b15_1, h0, h1, hi, hi', strBin, e1])
    (by rw [hz]; simp -implicitDefEqProofs (disch := omega) [wrap_of, ilt_t, ilt_f, ile_t, ile_f, nlt_t, nlt_f, nle_t, nle_f, ieq_t, ieq_f, imin_l, imin_r, imax_l, imax_r, take_app1, take_map_all, round_eq, b15_1, h0])
/-- Two rows of rows: the same? -/
def sameL (a b : List K) : Bool := decide (a.length = b.length) && (a.zip b).all (fun x => alike x.1 x.2)
/-- catacombref23.Same -/
theorem s15 {n : Nat} (hn : 43 < n) (a b : List K) (f g : Bool) (hb : a.length ≤ 9223372036854775807) (hs : ∀ k ∈ a, Short k) : (C23.tab n).p 15 [.lst f (a.map D), .lst g (b.map D)] = some (.bool (sameL a b)) := by
  rw [p15 hn, runP_eq, runH_eq]
  unfold sameL
  by_cases hl : a.length = b.length
  · simp -implicitDefEqProofs (disch := omega) [wrap_of, ilt_t, ilt_f, ile_t, ile_f, nlt_t, nlt_f, nle_t, nle_f, ieq_t, ieq_f, imin_l, imin_r, imax_l, imax_r, take_app1, take_map_all, c15, hl]
    rw [l15 (by omega) a b f g _ (by simp -implicitDefEqProofs (disch := omega) [wrap_of, ilt_t, ilt_f, ile_t, ile_f, nlt_t, nlt_f, nle_t, nle_f, ieq_t, ieq_f, imin_l, imin_r, imax_l, imax_r, take_app1, take_map_all, ]) (by simp -implicitDefEqProofs (disch := omega) [wrap_of, ilt_t, ilt_f, ile_t, ile_f, nlt_t, nlt_f, nle_t, nle_f, ieq_t, ieq_f, imin_l, imin_r, imax_l, imax_r, take_app1, take_map_all, ]) hl hb hs]
    cases h : (a.zip b).find? (fun x => !alike x.1 x.2) with
    | none =>
      have e : (a.zip b).all (fun x => alike x.1 x.2) = true := by
        rw [List.find?_eq_none] at h
        rw [List.all_eq_true]
        intro x hx
        simpa using h x hx
      rw [e]
      simp -implicitDefEqProofs (disch := omega) [wrap_of, ilt_t, ilt_f, ile_t, ile_f, nlt_t, nlt_f, nle_t, nle_f, ieq_t, ieq_f, imin_l, imin_r, imax_l, imax_r, take_app1, take_map_all, ]
    | some x =>
      have e : (a.zip b).all (fun x => alike x.1 x.2) = false := by
        rw [List.all_eq_false]
        exact ⟨x, List.mem_of_find?_eq_some h, by simpa using List.find?_some (p := fun x : K × K => !alike x.1 x.2) h⟩
      rw [e]
      simp -implicitDefEqProofs (disch := omega) [wrap_of, ilt_t, ilt_f, ile_t, ile_f, nlt_t, nlt_f, nle_t, nle_f, ieq_t, ieq_f, imin_l, imin_r, imax_l, imax_r, take_app1, take_map_all, ]
  · simp -implicitDefEqProofs (disch := omega) [wrap_of, ilt_t, ilt_f, ile_t, ile_f, nlt_t, nlt_f, nle_t, nle_f, ieq_t, ieq_f, imin_l, imin_r, imax_l, imax_r, take_app1, take_map_all, c15, hl]
theorem l17 {Γ : Tab} (l : List K) (hl : l.length ≤ 9223372036854775807) (f : Bool) (ino page now : Int) (e0 : Env) (h0 : e0 0 = .lst f (l.map D)) (h1 : e0 1 = .int .i64 ino) (h2 : e0 2 = .int .i64 page) (h3 : e0 3 = .int .i64 now) :
    iter (round Γ [10] [(.exit 0, []), (.ret, [8, 9])] c17_1 e0 0 []) ([.int .i64 0], []) = some ((l.find? (fun x => same x ⟨ino, [], page, 0, true, [], 0⟩ && decide (now < x.til))).elim (.exit 0, [], []) (fun x => (.ret, [.lst x.fl (x.dat.map B), .bool true], []))) :=
  for_idx (f := round Γ [10] [(.exit 0, []), (.ret, [8, 9])] c17_1 e0 0 []) (fun i => ([.int .i64 i], [])) l (fun x => same x ⟨ino, [], page, 0, true, [], 0⟩ && decide (now < x.til)) (fun _ x => (.ret, [.lst x.fl (x.dat.map B), .bool true], [])) (.exit 0, [], [])
    (fun i hi => by
      simp only [same]
      by_cases e1 : l[i].ino = ino
      · by_cases e2 : l[i].name = []
        · by_cases e3 : l[i].page = page
          · by_cases e4 : now < l[i].til <;> simp -implicitDefEqProofs (disch := omega) [wrap_of, ilt_t, ilt_f, ile_t, ile_f, nlt_t, nlt_f, nle_t, nle_f, ieq_t, ieq_f, imin_l, imin_r, imax_l, imax_r, take_app1, take_map_all, round_eq, b17_1, h0, h1, h2, h3, hi, strBin, e1, e2, e3, e4]
          · simp -implicitDefEqProofs (disch := omega) [wrap_of, ilt_t, ilt_f, ile_t, ile_f, nlt_t, nlt_f, nle_t, nle_f, ieq_t, ieq_f, imin_l, imin_r, imax_l, imax_r, take_app1, take_map_all, round_eq, b17_1, h0, h1, h2, h3, hi, strBin, e1, e2, e3]
        · simp -implicitDefEqProofs (disch := omega) [wrap_of, ilt_t, ilt_f, ile_t, ile_f, nlt_t, nlt_f, nle_t, nle_f, ieq_t, ieq_f, imin_l, imin_r, imax_l, imax_r, take_app1, take_map_all, round_eq, b17_1, h0, h1, h2, h3, hi, strBin, e1, e2]
      · simp -implicitDefEqProofs (disch := omega) [wrap_of, ilt_t, ilt_f, ile_t, ile_f, nlt_t, nlt_f, nle_t, nle_f, ieq_t, ieq_f, imin_l, imin_r, imax_l, imax_r, take_app1, take_map_all, round_eq, b17_1, h0, h1, h2, h3, hi, strBin, e1])
    (by simp -implicitDefEqProofs (disch := omega) [wrap_of, ilt_t, ilt_f, ile_t, ile_f, nlt_t, nlt_f, nle_t, nle_f, ieq_t, ieq_f, imin_l, imin_r, imax_l, imax_r, take_app1, take_map_all, round_eq, b17_1, h0])
/-- catacombref23.GetPage -/
theorem s17 {n : Nat} (hn : 44 < n) (l : List K) (hl : l.length ≤ 9223372036854775807) (f : Bool) (ino page now : Int) :
    (C23.tab n).p 17 [.lst f (l.map D), .int .i64 ino, .int .i64 page, .int .i64 now] = some ((l.find? (fun x => same x ⟨ino, [], page, 0, true, [], 0⟩ && decide (now < x.til))).elim (.tup [.lst true [], .bool false]) (fun x => .tup [.lst x.fl (x.dat.map B), .bool true])) := by
  rw [p17 hn, runP_eq, runH_eq]
  simp -implicitDefEqProofs (disch := omega) [wrap_of, ilt_t, ilt_f, ile_t, ile_f, nlt_t, nlt_f, nle_t, nle_f, ieq_t, ieq_f, imin_l, imin_r, imax_l, imax_r, take_app1, take_map_all, c17]
  rw [l17 l hl f ino page now _ (by simp -implicitDefEqProofs (disch := omega) [wrap_of, ilt_t, ilt_f, ile_t, ile_f, nlt_t, nlt_f, nle_t, nle_f, ieq_t, ieq_f, imin_l, imin_r, imax_l, imax_r, take_app1, take_map_all, ]) (by simp -implicitDefEqProofs (disch := omega) [wrap_of, ilt_t, ilt_f, ile_t, ile_f, nlt_t, nlt_f, nle_t, nle_f, ieq_t, ieq_f, imin_l, imin_r, imax_l, imax_r, take_app1, take_map_all, ]) (by simp -implicitDefEqProofs (disch := omega) [wrap_of, ilt_t, ilt_f, ile_t, ile_f, nlt_t, nlt_f, nle_t, nle_f, ieq_t, ieq_f, imin_l, imin_r, imax_l, imax_r, take_app1, take_map_all, ]) (by simp -implicitDefEqProofs (disch := omega) [wrap_of, ilt_t, ilt_f, ile_t, ile_f, nlt_t, nlt_f, nle_t, nle_f, ieq_t, ieq_f, imin_l, imin_r, imax_l, imax_r, take_app1, take_map_all, ])]
  cases l.find? (fun x => same x ⟨ino, [], page, 0, true, [], 0⟩ && decide (now < x.til)) <;> simp -implicitDefEqProofs (disch := omega) [wrap_of, ilt_t, ilt_f, ile_t, ile_f, nlt_t, nlt_f, nle_t, nle_f, ieq_t, ieq_f, imin_l, imin_r, imax_l, imax_r, take_app1, take_map_all, ]
theorem l19 {Γ : Tab} (l : List K) (hl : l.length ≤ 9223372036854775807) (f : Bool) (ino now : Int) (m : List UInt8) (e0 : Env) (h0 : e0 0 = .lst f (l.map D)) (h1 : e0 1 = .int .i64 ino) (h2 : e0 2 = .str m) (h3 : e0 3 = .int .i64 now) :
    iter (round Γ [10] [(.exit 0, []), (.ret, [8, 9])] c19_1 e0 0 []) ([.int .i64 0], []) = some ((l.find? (fun x => !decide (m = []) && (decide (x.ino = ino) && (decide (x.name = m) && decide (now < x.til))))).elim (.exit 0, [], []) (fun x => (.ret, [.int .i64 x.is, .bool true], []))) :=
  for_idx (f := round Γ [10] [(.exit 0, []), (.ret, [8, 9])] c19_1 e0 0 []) (fun i => ([.int .i64 i], [])) l (fun x => !decide (m = []) && (decide (x.ino = ino) && (decide (x.name = m) && decide (now < x.til)))) (fun _ x => (.ret, [.int .i64 x.is, .bool true], [])) (.exit 0, [], [])
    (fun i hi => by
      by_cases e0 : m = []
      · simp -implicitDefEqProofs (disch := omega) [wrap_of, ilt_t, ilt_f, ile_t, ile_f, nlt_t, nlt_f, nle_t, nle_f, ieq_t, ieq_f, imin_l, imin_r, imax_l, imax_r, take_app1, take_map_all, round_eq, b19_1, h0, h1, h2, h3, hi, strBin, e0]
      · by_cases e1 : l[i].ino = ino
        · by_cases e2 : l[i].name = m
          · by_cases e4 : now < l[i].til <;> simp -implicitDefEqProofs (disch := omega) [wrap_of, ilt_t, ilt_f, ile_t, ile_f, nlt_t, nlt_f, nle_t, nle_f, ieq_t, ieq_f, imin_l, imin_r, imax_l, imax_r, take_app1, take_map_all, round_eq, b19_1, h0, h1, h2, h3, hi, strBin, e0, e1, e2, e4]
          · simp -implicitDefEqProofs (disch := omega) [wrap_of, ilt_t, ilt_f, ile_t, ile_f, nlt_t, nlt_f, nle_t, nle_f, ieq_t, ieq_f, imin_l, imin_r, imax_l, imax_r, take_app1, take_map_all, round_eq, b19_1, h0, h1, h2, h3, hi, strBin, e0, e1, e2]
        · simp -implicitDefEqProofs (disch := omega) [wrap_of, ilt_t, ilt_f, ile_t, ile_f, nlt_t, nlt_f, nle_t, nle_f, ieq_t, ieq_f, imin_l, imin_r, imax_l, imax_r, take_app1, take_map_all, round_eq, b19_1, h0, h1, h2, h3, hi, strBin, e0, e1])
    (by simp -implicitDefEqProofs (disch := omega) [wrap_of, ilt_t, ilt_f, ile_t, ile_f, nlt_t, nlt_f, nle_t, nle_f, ieq_t, ieq_f, imin_l, imin_r, imax_l, imax_r, take_app1, take_map_all, round_eq, b19_1, h0])
/-- catacombref23.GetName -/
theorem s19 {n : Nat} (hn : 45 < n) (l : List K) (hl : l.length ≤ 9223372036854775807) (f : Bool) (ino now : Int) (m : List UInt8) :
    (C23.tab n).p 19 [.lst f (l.map D), .int .i64 ino, .str m, .int .i64 now] = some ((l.find? (fun x => !decide (m = []) && (decide (x.ino = ino) && (decide (x.name = m) && decide (now < x.til))))).elim (.tup [.int .i64 0, .bool false]) (fun x => .tup [.int .i64 x.is, .bool true])) := by
  rw [p19 hn, runP_eq, runH_eq]
  simp -implicitDefEqProofs (disch := omega) [wrap_of, ilt_t, ilt_f, ile_t, ile_f, nlt_t, nlt_f, nle_t, nle_f, ieq_t, ieq_f, imin_l, imin_r, imax_l, imax_r, take_app1, take_map_all, c19]
  rw [l19 l hl f ino now m _ (by simp -implicitDefEqProofs (disch := omega) [wrap_of, ilt_t, ilt_f, ile_t, ile_f, nlt_t, nlt_f, nle_t, nle_f, ieq_t, ieq_f, imin_l, imin_r, imax_l, imax_r, take_app1, take_map_all, ]) (by simp -implicitDefEqProofs (disch := omega) [wrap_of, ilt_t, ilt_f, ile_t, ile_f, nlt_t, nlt_f, nle_t, nle_f, ieq_t, ieq_f, imin_l, imin_r, imax_l, imax_r, take_app1, take_map_all, ]) (by simp -implicitDefEqProofs (disch := omega) [wrap_of, ilt_t, ilt_f, ile_t, ile_f, nlt_t, nlt_f, nle_t, nle_f, ieq_t, ieq_f, imin_l, imin_r, imax_l, imax_r, take_app1, take_map_all, ]) (by simp -implicitDefEqProofs (disch := omega) [wrap_of, ilt_t, ilt_f, ile_t, ile_f, nlt_t, nlt_f, nle_t, nle_f, ieq_t, ieq_f, imin_l, imin_r, imax_l, imax_r, take_app1, take_map_all, ])]
  cases l.find? (fun x => !decide (m = []) && (decide (x.ino = ino) && (decide (x.name = m) && decide (now < x.til)))) <;> simp -implicitDefEqProofs (disch := omega) [wrap_of, ilt_t, ilt_f, ile_t, ile_f, nlt_t, nlt_f, nle_t, nle_f, ieq_t, ieq_f, imin_l, imin_r, imax_l, imax_r, take_app1, take_map_all, ]
theorem l33 {Γ : Tab} (l : List K) (hl : l.length ≤ 1000000) (f : Bool) (ino : Int) (e0 : Env) (h0 : e0 0 = .lst f (l.map D)) (h1 : e0 1 = .int .i64 ino) :
    iter (round Γ [5, 6] [(.exit 0, [5])] c33_1 e0 1 [0]) ([.own 0 0 0 0, .int .i64 0], [.row 0 6 []]) = some (.exit 0, [.own 0 0 0 (l.filter fun x => !decide (x.ino = ino)).length], [.row 0 6 ((l.filter fun x => !decide (x.ino = ino)).map D)]) := by
  have := for_list (f := round Γ [5, 6] [(.exit 0, [5])] c33_1 e0 1 [0]) (fun i (es : List K) => ([.own 0 0 0 es.length, .int .i64 i], [.row 0 6 (es.map D)])) l (fun es x => if (!decide (x.ino = ino)) = true then es ++ [x] else es) (fun es => (.exit 0, [.own 0 0 0 es.length], [.row 0 6 (es.map D)])) (fun i es => es.length ≤ i)
    (fun i hi es he => by
      by_cases h : l[i].ino = ino
      · refine ⟨by simp only [h, decide_true]; simp; omega, ?_⟩
        simp -implicitDefEqProofs (disch := omega) [wrap_of, ilt_t, ilt_f, ile_t, ile_f, nlt_t, nlt_f, nle_t, nle_f, ieq_t, ieq_f, imin_l, imin_r, imax_l, imax_r, take_app1, take_map_all, round_eq, b33_1, h0, h1, hi, h]
      · refine ⟨by simp only [h, decide_false]; simp; omega, ?_⟩
        simp -implicitDefEqProofs (disch := omega) [wrap_of, ilt_t, ilt_f, ile_t, ile_f, nlt_t, nlt_f, nle_t, nle_f, ieq_t, ieq_f, imin_l, imin_r, imax_l, imax_r, take_app1, take_map_all, round_eq, b33_1, h0, h1, hi, h])
    (fun es he => by simp -implicitDefEqProofs (disch := omega) [wrap_of, ilt_t, ilt_f, ile_t, ile_f, nlt_t, nlt_f, nle_t, nle_f, ieq_t, ieq_f, imin_l, imin_r, imax_l, imax_r, take_app1, take_map_all, round_eq, b33_1, h0]) [] (by simp)
  rw [fold_filter] at this
  exact this
/-- catacombref23.Forget -/
theorem s33 {n : Nat} (hn : 40 < n) (l : List K) (hl : l.length ≤ 1000000) (f : Bool) (ino : Int) :
    (C23.tab n).p 33 [.lst f (l.map D), .int .i64 ino] = some (.lst false ((l.filter fun x => !decide (x.ino = ino)).map D)) := by
  rw [p33 hn, runP_eq, runH_eq]
  simp -implicitDefEqProofs (disch := omega) [wrap_of, ilt_t, ilt_f, ile_t, ile_f, nlt_t, nlt_f, nle_t, nle_f, ieq_t, ieq_f, imin_l, imin_r, imax_l, imax_r, take_app1, take_map_all, c33]
  rw [l33 l hl f ino _ (by simp -implicitDefEqProofs (disch := omega) [wrap_of, ilt_t, ilt_f, ile_t, ile_f, nlt_t, nlt_f, nle_t, nle_f, ieq_t, ieq_f, imin_l, imin_r, imax_l, imax_r, take_app1, take_map_all, ]) (by simp -implicitDefEqProofs (disch := omega) [wrap_of, ilt_t, ilt_f, ile_t, ile_f, nlt_t, nlt_f, nle_t, nle_f, ieq_t, ieq_f, imin_l, imin_r, imax_l, imax_r, take_app1, take_map_all, ])]
  simp -implicitDefEqProofs (disch := omega) [wrap_of, ilt_t, ilt_f, ile_t, ile_f, nlt_t, nlt_f, nle_t, nle_f, ieq_t, ieq_f, imin_l, imin_r, imax_l, imax_r, take_app1, take_map_all, ]
theorem l34 {Γ : Tab} (l : List K) (hl : l.length ≤ 1000000) (f : Bool) (now : Int) (e0 : Env) (h0 : e0 0 = .lst f (l.map D)) (h1 : e0 1 = .int .i64 now) :
    iter (round Γ [5, 6] [(.exit 0, [5])] c34_1 e0 1 [0]) ([.own 0 0 0 0, .int .i64 0], [.row 0 6 []]) = some (.exit 0, [.own 0 0 0 (l.filter fun x => decide (now < x.til)).length], [.row 0 6 ((l.filter fun x => decide (now < x.til)).map D)]) := by
  have := for_list (f := round Γ [5, 6] [(.exit 0, [5])] c34_1 e0 1 [0]) (fun i (es : List K) => ([.own 0 0 0 es.length, .int .i64 i], [.row 0 6 (es.map D)])) l (fun es x => if (decide (now < x.til)) = true then es ++ [x] else es) (fun es => (.exit 0, [.own 0 0 0 es.length], [.row 0 6 (es.map D)])) (fun i es => es.length ≤ i)
    (fun i hi es he => by
      by_cases h : now < l[i].til
      · refine ⟨by simp only [h, decide_true]; simp; omega, ?_⟩
        simp -implicitDefEqProofs (disch := omega) [wrap_of, ilt_t, ilt_f, ile_t, ile_f, nlt_t, nlt_f, nle_t, nle_f, ieq_t, ieq_f, imin_l, imin_r, imax_l, imax_r, take_app1, take_map_all, round_eq, b34_1, h0, h1, hi, h]
      · refine ⟨by simp only [h, decide_false]; simp; omega, ?_⟩
        simp -implicitDefEqProofs (disch := omega) [wrap_of, ilt_t, ilt_f, ile_t, ile_f, nlt_t, nlt_f, nle_t, nle_f, ieq_t, ieq_f, imin_l, imin_r, imax_l, imax_r, take_app1, take_map_all, round_eq, b34_1, h0, h1, hi, h])
    (fun es he => by simp -implicitDefEqProofs (disch := omega) [wrap_of, ilt_t, ilt_f, ile_t, ile_f, nlt_t, nlt_f, nle_t, nle_f, ieq_t, ieq_f, imin_l, imin_r, imax_l, imax_r, take_app1, take_map_all, round_eq, b34_1, h0]) [] (by simp)
  rw [fold_filter] at this
  exact this
/-- catacombref23.Age -/
theorem s34 {n : Nat} (hn : 41 < n) (l : List K) (hl : l.length ≤ 1000000) (f : Bool) (now : Int) :
    (C23.tab n).p 34 [.lst f (l.map D), .int .i64 now] = some (.lst false ((l.filter fun x => decide (now < x.til)).map D)) := by
  rw [p34 hn, runP_eq, runH_eq]
  simp -implicitDefEqProofs (disch := omega) [wrap_of, ilt_t, ilt_f, ile_t, ile_f, nlt_t, nlt_f, nle_t, nle_f, ieq_t, ieq_f, imin_l, imin_r, imax_l, imax_r, take_app1, take_map_all, c34]
  rw [l34 l hl f now _ (by simp -implicitDefEqProofs (disch := omega) [wrap_of, ilt_t, ilt_f, ile_t, ile_f, nlt_t, nlt_f, nle_t, nle_f, ieq_t, ieq_f, imin_l, imin_r, imax_l, imax_r, take_app1, take_map_all, ]) (by simp -implicitDefEqProofs (disch := omega) [wrap_of, ilt_t, ilt_f, ile_t, ile_f, nlt_t, nlt_f, nle_t, nle_f, ieq_t, ieq_f, imin_l, imin_r, imax_l, imax_r, take_app1, take_map_all, ])]
  simp -implicitDefEqProofs (disch := omega) [wrap_of, ilt_t, ilt_f, ile_t, ile_f, nlt_t, nlt_f, nle_t, nle_f, ieq_t, ieq_f, imin_l, imin_r, imax_l, imax_r, take_app1, take_map_all, ]
end Go.Proofs.Ytnokdfhhnjmeoaa
