import Derived.Test.YtnokdfhhnjmeoaaK23
import Derived.Test.YtnokdfhhnjmeoaaN23
set_option linter.unusedSimpArgs false
set_option linter.unusedVariables false
namespace Go.Proofs.Ytnokdfhhnjmeoaa
open Go.Am Go.Am.Kp

theorem find_congr {α : Type} {p q : α → Bool} : ∀ {l : List α}, (∀ x ∈ l, p x = q x) → l.find? p = l.find? q
  | [], _ => rfl
  | x :: l, h => by
    rw [List.find?_cons, List.find?_cons, h x (by simp), find_congr fun y hy => h y (by simp [hy])]
/-- What is told of a page, and of a name. -/
def pg (l : List K) (ino page now : Int) : Option K := (get l ⟨ino, [], page, 0, true, [], 0⟩).filter (fun x => decide (now < x.til))
def nm (l : List K) (ino : Int) (m : List UInt8) (now : Int) : Option K := if m = [] then none else (get l ⟨ino, m, 0, 0, true, [], 0⟩).filter (fun x => decide (now < x.til))
def datO (o : Option K) : List Int := o.elim [] (·.dat)
def isO (o : Option K) : Int := o.elim 0 (·.is)
theorem find_name {N : Nat} {l : List K} (h : Ok N l) (ino now : Int) (m : List UInt8) :
    l.find? (fun x => !decide (m = []) && (decide (x.ino = ino) && (decide (x.name = m) && decide (now < x.til)))) = nm l ino m now := by
  unfold nm
  by_cases hm : m = []
  · rw [if_pos hm, hm]; simp
  rw [if_neg hm, ← find_and h.s]
  refine find_congr fun x hx => ?_
  have hr := h.r x hx
  simp only [same, hm, decide_false, Bool.not_false, Bool.true_and]
  by_cases e1 : x.ino = ino
  · by_cases e2 : x.name = m
    · have : x.page = 0 := by
        unfold rightB at hr
        rw [if_neg (by rw [e2]; exact hm)] at hr
        simp only [Bool.and_eq_true, decide_eq_true_eq] at hr
        exact hr.1
      simp [e1, e2, this]
    · simp [e1, e2]
  · simp [e1]
theorem t16 {n : Nat} (hn : 18 < n) {N : Nat} {l : List K} (h : Ok N l) (hN : N ≤ 1000) (f : Bool) (ino page now : Int) :
    (C23.tab n).p 16 [.lst f (l.map D), .int .i64 ino, .int .i64 page, .int .i64 now] = some (.tup [.lst (pg l ino page now).isNone ((datO (pg l ino page now)).map B), .bool (pg l ino page now).isSome]) := by
  have := h.n
  rw [s16 hn l h.s (by omega) (fun k hk => by have := h.d k hk; omega)]
  unfold pg
  cases (get l ⟨ino, [], page, 0, true, [], 0⟩).filter (fun x => decide (now < x.til)) <;> rfl
theorem t17 {n : Nat} (hn : 44 < n) {N : Nat} {l : List K} (h : Ok N l) (hN : N ≤ 1000) (f : Bool) (ino page now : Int) :
    (C23.tab n).p 17 [.lst f (l.map D), .int .i64 ino, .int .i64 page, .int .i64 now] = some (.tup [.lst ((pg l ino page now).elim true (·.fl)) ((datO (pg l ino page now)).map B), .bool (pg l ino page now).isSome]) := by
  have := h.n
  rw [s17 hn l (by omega), find_and h.s]
  unfold pg
  cases (get l ⟨ino, [], page, 0, true, [], 0⟩).filter (fun x => decide (now < x.til)) <;> rfl
theorem t18 {n : Nat} (hn : 20 < n) {N : Nat} {l : List K} (h : Ok N l) (hN : N ≤ 1000) (f : Bool) (ino now : Int) (m : List UInt8) :
    (C23.tab n).p 18 [.lst f (l.map D), .int .i64 ino, .str m, .int .i64 now] = some (.tup [.int .i64 (isO (nm l ino m now)), .bool (nm l ino m now).isSome]) := by
  have := h.n
  rw [s18 hn l h.s (by omega)]
  unfold nm
  split
  · rfl
  · cases (get l ⟨ino, m, 0, 0, true, [], 0⟩).filter (fun x => decide (now < x.til)) <;> rfl
theorem t19 {n : Nat} (hn : 45 < n) {N : Nat} {l : List K} (h : Ok N l) (hN : N ≤ 1000) (f : Bool) (ino now : Int) (m : List UInt8) :
    (C23.tab n).p 19 [.lst f (l.map D), .int .i64 ino, .str m, .int .i64 now] = some (.tup [.int .i64 (isO (nm l ino m now)), .bool (nm l ino m now).isSome]) := by
  have := h.n
  rw [s19 hn l (by omega), find_name h]
  cases nm l ino m now <;> rfl
theorem filter_nrm (o : Option K) (t : Int) : (o.map nrm).filter (fun x => decide (t < x.til)) = (o.filter (fun x => decide (t < x.til))).map nrm := by
  cases o with
  | none => rfl
  | some x =>
    by_cases h : t < x.til <;> simp [Option.filter, nrm, h]
theorem pg_nrm {l m : List K} (h : l.map nrm = m.map nrm) (ino page now : Int) : (pg l ino page now).map nrm = (pg m ino page now).map nrm := by
  unfold pg
  rw [← filter_nrm, ← filter_nrm, ← get_nrm, ← get_nrm, h]
theorem nm_nrm {l m : List K} (h : l.map nrm = m.map nrm) (ino now : Int) (x : List UInt8) : (nm l ino x now).map nrm = (nm m ino x now).map nrm := by
  unfold nm
  split
  · rfl
  · rw [← filter_nrm, ← filter_nrm, ← get_nrm, ← get_nrm, h]
theorem some_nrm {o p : Option K} (h : o.map nrm = p.map nrm) : o.isSome = p.isSome ∧ datO o = datO p ∧ isO o = isO p := by
  cases o <;> cases p <;> simp [datO, isO, nrm] at h ⊢
  exact ⟨h.2.2.2.2.1, h.2.2.2.1⟩
theorem dat_le {N : Nat} {l : List K} (h : Ok N l) (ino page now : Int) : (datO (pg l ino page now)).length ≤ 9223372036854775807 := by
  unfold pg datO
  cases hg : get l ⟨ino, [], page, 0, true, [], 0⟩ with
  | none => simp
  | some x =>
    have := h.d x ((get_some h.s).1 hg).1
    by_cases ht : now < x.til <;> simp [Option.filter, ht]; omega
/-- Rows behind acts. -/
def stp (s : Bool × List K) (a : Act) : Bool × List K := (doF s.1 a, doG false s.2 a)
def runL (l : List Act) : Bool × List K := l.foldl stp (true, [])
theorem run_ok {l : List Act} (hs : ∀ a ∈ l, Small a) : Ok l.length (runL l).2 := by
  have := fold_inv l stp (fun i s => Ok i s.2) 0 (true, []) (fun i hi s h => h.step (hs _ (List.getElem_mem hi)) false) Ok.nil
  rwa [Nat.zero_add] at this
structure Act.Rng (a : Act) : Prop where
  r : Range a
  lo : 0 ≤ a.dO
  hi : a.dO ≤ 255
end Go.Proofs.Ytnokdfhhnjmeoaa
