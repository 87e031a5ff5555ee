import Derived.Test.YtnokdfhhnjmeoaaB23
set_option linter.unusedSimpArgs false
set_option linter.unusedVariables false
namespace Go.Proofs.Ytnokdfhhnjmeoaa
open Go.Am Go.Am.Kp

theorem fold_filter {α : Type} (p : α → Bool) : ∀ (l a : List α), l.foldl (fun es x => if p x = true then es ++ [x] else es) a = a ++ l.filter p
  | [], a => by simp
  | x :: l, a => by
    rw [List.foldl_cons, fold_filter p l]
    cases h : p x <;> simp [h]
/-- catacombref23.one -/
theorem s29 {n : Nat} (hn : 33 < n) (i p s t : Int) (m : List UInt8) (f : Bool) (d : List Int) :
    (C23.tab n).p 29 [.agg [.int .i64 i, .str m, .int .i64 p, .int .i64 s, .lst f (d.map B), .int .i64 t]] = some (.bool (rightB ⟨i, m, p, s, f, d, t⟩)) := by
  rw [p29 hn, runP_eq, runH_eq]
  unfold rightB
  by_cases h : m = []
  · simp -implicitDefEqProofs (disch := omega) [wrap_of, ilt_t, ilt_f, ile_t, ile_f, nlt_t, nlt_f, nle_t, nle_f, ieq_t, ieq_f, imin_l, imin_r, imax_l, imax_r, take_app1, take_map_all, c29, strBin, h]
  · by_cases h2 : p = 0
    · simp -implicitDefEqProofs (disch := omega) [wrap_of, ilt_t, ilt_f, ile_t, ile_f, nlt_t, nlt_f, nle_t, nle_f, ieq_t, ieq_f, imin_l, imin_r, imax_l, imax_r, take_app1, take_map_all, c29, strBin, h, h2]
    · simp -implicitDefEqProofs (disch := omega) [wrap_of, ilt_t, ilt_f, ile_t, ile_f, nlt_t, nlt_f, nle_t, nle_f, ieq_t, ieq_f, imin_l, imin_r, imax_l, imax_r, take_app1, take_map_all, c29, strBin, h, h2]
def ltC (i1 : Int) (m1 : List UInt8) (p1 i2 : Int) (m2 : List UInt8) (p2 : Int) : Bool := lt ⟨i1, m1, p1, 0, true, [], 0⟩ ⟨i2, m2, p2, 0, true, [], 0⟩
@[simp] theorem ltC_fold (a b : K) : ltC a.ino a.name a.page b.ino b.name b.page = lt a b := rfl
/-- catacombref23.ahead -/
theorem s30 {n : Nat} (hn : 34 < n) (i1 p1 s1 t1 i2 p2 s2 t2 : Int) (m1 m2 : List UInt8) (f1 f2 : Bool) (d1 d2 : List AV) :
    (C23.tab n).p 30 [.agg [.int .i64 i1, .str m1, .int .i64 p1, .int .i64 s1, .lst f1 d1, .int .i64 t1], .agg [.int .i64 i2, .str m2, .int .i64 p2, .int .i64 s2, .lst f2 d2, .int .i64 t2]] = some (.bool (ltC i1 m1 p1 i2 m2 p2)) := by
  rw [p30 hn, runP_eq, runH_eq]
  unfold ltC lt
  by_cases h : i1 = i2
  · by_cases h' : m1 = m2
    · simp -implicitDefEqProofs (disch := omega) [wrap_of, ilt_t, ilt_f, ile_t, ile_f, nlt_t, nlt_f, nle_t, nle_f, ieq_t, ieq_f, imin_l, imin_r, imax_l, imax_r, take_app1, take_map_all, c30, strBin, h, h']
    · simp -implicitDefEqProofs (disch := omega) [wrap_of, ilt_t, ilt_f, ile_t, ile_f, nlt_t, nlt_f, nle_t, nle_f, ieq_t, ieq_f, imin_l, imin_r, imax_l, imax_r, take_app1, take_map_all, c30, strBin, h, h']
  · simp -implicitDefEqProofs (disch := omega) [wrap_of, ilt_t, ilt_f, ile_t, ile_f, nlt_t, nlt_f, nle_t, nle_f, ieq_t, ieq_f, imin_l, imin_r, imax_l, imax_r, take_app1, take_map_all, c30, strBin, h]
def prev : List K → List (Option K) := fun l => none :: l.map some
theorem l12 {n : Nat} (hn : 34 < n) (l : List K) (hl : l.length ≤ 9223372036854775807) (f : Bool) (e0 : Env) (h0 : e0 0 = .lst f (l.map D)) :
    iter (round (C23.tab n) [3] [(.exit 0, []), (.ret, [2])] c12_1 e0 0 []) ([.int .i64 0], []) = some (if (l.zip (none :: l.map some)).all (fun p => rightB p.1 && (p.2.elim true fun y => lt y p.1)) = true then (.exit 0, [], []) else (.ret, [.bool false], [])) := by
  have hz : (l.zip (none :: l.map some)).length = l.length := by simp
  have := for_all (f := round (C23.tab n) [3] [(.exit 0, []), (.ret, [2])] c12_1 e0 0 []) (fun i => ([.int .i64 i], [])) (l.zip (none :: l.map some)) (fun p => rightB p.1 && (p.2.elim true fun y => lt y p.1)) (.exit 0, [], []) (.ret, [.bool false], [])
    (fun i hi => by
      rw [hz] at hi
      have eta : ∀ k : K, rightB ⟨k.ino, k.name, k.page, k.is, k.fl, k.dat, k.til⟩ = rightB k := fun _ => rfl
      rw [List.getElem_zip]
      cases i with
      | zero =>
        simp only [List.getElem_cons_zero, Option.elim]
        cases h : rightB l[0] <;> simp -implicitDefEqProofs (disch := omega) [wrap_of, ilt_t, ilt_f, ile_t, ile_f, nlt_t, nlt_f, nle_t, nle_f, ieq_t, ieq_f, imin_l, imin_r, imax_l, imax_r, take_app1, take_map_all, round_eq, b12_1, h0, hi, s29 (by omega : 33 < n), eta, h]
      | succ i =>
        have hi' : i < l.length := by omega
        have e1 : ((i : Int) + 1).toNat = i + 1 := by omega
        have e2 : ((i : Int) + 1 - 1).toNat = i := by omega
        simp only [List.getElem_cons_succ, List.getElem_map, Option.elim]
        cases h : rightB l[i + 1] with
        | false => simp -implicitDefEqProofs (disch := omega) [wrap_of, ilt_t, ilt_f, ile_t, ile_f, nlt_t, nlt_f, nle_t, nle_f, ieq_t, ieq_f, imin_l, imin_r, imax_l, imax_r, take_app1, take_map_all, round_eq, b12_1, h0, hi, hi', e1, e2, s29 (by omega : 33 < n), eta, h]
        | true =>
          cases h' : lt l[i] l[i + 1] <;> simp -implicitDefEqProofs (disch := omega) [wrap_of, ilt_t, ilt_f, ile_t, ile_f, nlt_t, nlt_f, nle_t, nle_f, ieq_t, ieq_f, imin_l, imin_r, imax_l, imax_r, take_app1, take_map_all, round_eq, b12_1, h0, hi, hi', e1, e2, s29 (by omega : 33 < n), s30 hn, eta, h, h'])
    (by rw [hz]; simp -implicitDefEqProofs (disch := omega) [wrap_of, ilt_t, ilt_f, ile_t, ile_f, nlt_t, nlt_f, nle_t, nle_f, ieq_t, ieq_f, imin_l, imin_r, imax_l, imax_r, take_app1, take_map_all, round_eq, b12_1, h0])
  exact this
theorem zip_prev : ∀ (l : List K) (q : Option K), (l.zip (q :: l.map some)).all (fun p => rightB p.1 && (p.2.elim true fun y => lt y p.1)) = (l.all rightB && (adj l && (match q, l with | some y, x :: _ => lt y x | _, _ => true)))
  | [], q => by cases q <;> rfl
  | [x], q => by cases q <;> simp [adj]
  | x :: y :: l, q => by
    have := zip_prev (y :: l) (some x)
    rw [List.map_cons, List.zip_cons_cons, List.all_cons, this]
    cases q <;> simp only [Option.elim, adj, List.all_cons] <;> cases rightB x <;> cases rightB y <;> cases lt x y <;> cases adj (y :: l) <;> simp [Bool.and_comm]
/-- catacombref23.Right -/
theorem s12 {n : Nat} (hn : 35 < n) (l : List K) (hl : l.length ≤ 9223372036854775807) (f : Bool) :
    (C23.tab n).p 12 [.lst f (l.map D)] = some (.bool (rightL l)) := by
  rw [p12 hn, runP_eq, runH_eq]
  simp -implicitDefEqProofs (disch := omega) [wrap_of, ilt_t, ilt_f, ile_t, ile_f, nlt_t, nlt_f, nle_t, nle_f, ieq_t, ieq_f, imin_l, imin_r, imax_l, imax_r, take_app1, take_map_all, c12]
  rw [l12 (by omega) l hl f _ (by simp -implicitDefEqProofs (disch := omega) [wrap_of, ilt_t, ilt_f, ile_t, ile_f, nlt_t, nlt_f, nle_t, nle_f, ieq_t, ieq_f, imin_l, imin_r, imax_l, imax_r, take_app1, take_map_all, ]), zip_prev]
  unfold rightL
  simp only [Bool.and_true]
  rw [Bool.and_comm]
  cases h : (adj l && l.all rightB) <;> simp -implicitDefEqProofs (disch := omega) [wrap_of, ilt_t, ilt_f, ile_t, ile_f, nlt_t, nlt_f, nle_t, nle_f, ieq_t, ieq_f, imin_l, imin_r, imax_l, imax_r, take_app1, take_map_all, ]
theorem l20 {Γ : Tab} (a b : List Int) (f g : Bool) (e0 : Env) (h0 : e0 0 = .lst f (a.map B)) (h1 : e0 1 = .lst g (b.map B)) (hl : a.length = b.length) (hb : a.length ≤ 9223372036854775807) :
    iter (round Γ [5] [(.exit 0, []), (.ret, [4])] c20_1 e0 0 []) ([.int .i64 0], []) = some (if (a.zip b).all (fun x => decide (x.1 = x.2)) = true then (.exit 0, [], []) else (.ret, [.bool false], [])) :=
  for_cmp (f := round Γ [5] [(.exit 0, []), (.ret, [4])] c20_1 e0 0 []) (fun i => ([.int .i64 i], [])) a b hl (fun x y => decide (x = y)) _ _
    (fun i hi hi' => by simp -implicitDefEqProofs (disch := omega) [wrap_of, ilt_t, ilt_f, ile_t, ile_f, nlt_t, nlt_f, nle_t, nle_f, ieq_t, ieq_f, imin_l, imin_r, imax_l, imax_r, take_app1, take_map_all, round_eq, b20_1, h0, h1, hi, hi'])
    (by simp -implicitDefEqProofs (disch := omega) [wrap_of, ilt_t, ilt_f, ile_t, ile_f, nlt_t, nlt_f, nle_t, nle_f, ieq_t, ieq_f, imin_l, imin_r, imax_l, imax_r, take_app1, take_map_all, round_eq, b20_1, h0])
theorem zip_all_eq {α : Type} [DecidableEq α] : ∀ (a b : List α), a.length = b.length → (a.zip b).all (fun x => decide (x.1 = x.2)) = decide (a = b)
  | [], [], _ => rfl
  | x :: a, y :: b, h => by
    rw [List.zip_cons_cons, List.all_cons, zip_all_eq a b (by simpa using h)]
    simp only [List.cons.injEq, Bool.decide_and]
/-- catacombref02.Bytes -/
theorem s20 {n : Nat} (hn : 21 < n) (a b : List Int) (f g : Bool) (hb : a.length ≤ 9223372036854775807) : (C23.tab n).p 20 [.lst f (a.map B), .lst g (b.map B)] = some (.bool (decide (a = b))) := by
  rw [p20 hn, runP_eq, runH_eq]
  by_cases hl : a.length = b.length
  · simp -implicitDefEqProofs (disch := omega) [wrap_of, ilt_t, ilt_f, ile_t, ile_f, nlt_t, nlt_f, nle_t, nle_f, ieq_t, ieq_f, imin_l, imin_r, imax_l, imax_r, take_app1, take_map_all, c20, hl]
    rw [l20 a b f g _ (by simp -implicitDefEqProofs (disch := omega) [wrap_of, ilt_t, ilt_f, ile_t, ile_f, nlt_t, nlt_f, nle_t, nle_f, ieq_t, ieq_f, imin_l, imin_r, imax_l, imax_r, take_app1, take_map_all, ]) (by simp -implicitDefEqProofs (disch := omega) [wrap_of, ilt_t, ilt_f, ile_t, ile_f, nlt_t, nlt_f, nle_t, nle_f, ieq_t, ieq_f, imin_l, imin_r, imax_l, imax_r, take_app1, take_map_all, ]) hl hb, zip_all_eq a b hl]
    by_cases h : a = b <;> simp -implicitDefEqProofs (disch := omega) [wrap_of, ilt_t, ilt_f, ile_t, ile_f, nlt_t, nlt_f, nle_t, nle_f, ieq_t, ieq_f, imin_l, imin_r, imax_l, imax_r, take_app1, take_map_all, h]
  · have h : a ≠ b := fun e => hl (by rw [e])
    simp -implicitDefEqProofs (disch := omega) [wrap_of, ilt_t, ilt_f, ile_t, ile_f, nlt_t, nlt_f, nle_t, nle_f, ieq_t, ieq_f, imin_l, imin_r, imax_l, imax_r, take_app1, take_map_all, c20, hl, h]
end Go.Proofs.Ytnokdfhhnjmeoaa
