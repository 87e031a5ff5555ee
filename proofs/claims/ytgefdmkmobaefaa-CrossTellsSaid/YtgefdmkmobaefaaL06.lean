/-
 Names and paths, without the program.
-/
import Derived.Test.YtgefdmkmobaefaaAmSm
import Derived.Test.YtgefdmkmobaefaaAmBl
set_option linter.unusedSimpArgs false
set_option linter.unusedVariables false
namespace Go.Am.Nm
open Go.Am Go.Lib
def segs : List UInt8 → List (List UInt8)
 | [] => [[]]
 | b :: t => if b = 47 then [] :: segs t else match segs t with
  | [] => [[b]]
  | s :: r => (b :: s) :: r
theorem segs_ne (t : List UInt8) : segs t ≠ [] := by
 cases t with
 | nil => simp [segs]
 | cons b t =>
  unfold segs
  split
  ·simp
  ·split <;> simp
theorem segs_slash (t : List UInt8) : segs (47 :: t) = [] :: segs t := by
 rw [segs, if_pos rfl]
theorem segs_other {b : UInt8} (hb : b ≠ 47) {t s : List UInt8} {r : List (List UInt8)} (h : segs t = s :: r) : segs (b :: t) = (b :: s) :: r := by
 rw [segs, if_neg hb, h]
theorem segs_app : ∀ {x : List UInt8}, (∀ b ∈ x, b ≠ 47) → ∀ t, segs (x ++ 47 :: t) = x :: segs t
 | [], _, t => segs_slash t
 | b :: x, h, t => segs_other (h b (by simp)) (segs_app (fun c hc => h c (by simp [hc])) t)
theorem segs_one : ∀ {x : List UInt8}, (∀ b ∈ x, b ≠ 47) → segs x = [x]
 | [], _ => rfl
 | b :: x, h => segs_other (h b (by simp)) (segs_one (fun c hc => h c (by simp [hc])))
theorem up_no (s : List UInt8) : ∀ b ∈ upTo s, b ≠ 47 := by
 induction s with
 | nil => intro b hb; cases hb
 | cons c s ih =>
  intro b hb
  unfold upTo at hb ih
  rw [List.takeWhile_cons] at hb
  split at hb
  ·rename_i hc
   rcases List.mem_cons.1 hb with rfl | hb
   ·simpa using hc
   ·exact ih b hb
  ·cases hb
theorem from_head (s : List UInt8) : from_ s = [] ∨ ∃ t, from_ s = 47 :: t := by
 induction s with
 | nil => exact .inl rfl
 | cons c s ih =>
  unfold from_ at ih ⊢
  rw [List.dropWhile_cons]
  split
  ·exact ih
  ·rename_i hc
   have : c = 47 := by simpa using hc
   exact .inr ⟨s, by rw [this]⟩
theorem pcs_slash : ∀ (n : Nat) (t : List UInt8), t.length ≤ n → pcs (47 :: t) = (segs t).map fun s => (s, true) := by
 intro n
 induction n with
 | zero =>
  intro t ht
  have : t = [] := List.eq_nil_of_length_eq_zero (by omega)
  subst this
  rw [pcs_cons (by simp)]
  simp [cutR, cutB, upTo, from_, segs, pcs_nil]
 | succ n ih =>
  intro t ht
  rw [pcs_cons (by simp)]
  have e1 : cutR (47 :: t) = t := by simp [cutR]
  have e2 : cutB (47 :: t) = true := by simp [cutB]
  rw [e1, e2]
  have hap := up_app t
  rcases from_head t with h0 | ⟨t', h0⟩
  ·rw [h0, pcs_nil]
   rw [h0, List.append_nil] at hap
   have := segs_one (up_no t)
   rw [hap] at this ⊢
   rw [this]; rfl
  ·rw [h0] at hap ⊢
   have hlen := congrArg List.length hap
   simp only [List.length_append, List.length_cons] at hlen
   rw [ih t' (by omega)]
   have := segs_app (up_no t) t'
   rw [hap] at this
   rw [this]; rfl
theorem joinTail_cons (x : List UInt8) (r : List (List UInt8)) : joinTail [47] (x :: r) = 47 :: (x ++ joinTail [47] r) := by simp [joinTail]
theorem join_segs : ∀ t : List UInt8, join (segs t) [47] = t
 | [] => rfl
 | b :: t => by
  have ih := join_segs t
  obtain ⟨x, r, hx⟩ : ∃ x r, segs t = x :: r := by
   cases h : segs t with
   | nil => exact absurd h (segs_ne t)
   | cons x r => exact ⟨x, r, rfl⟩
  rw [hx, join_cons] at ih
  by_cases hb : b = 47
  ·subst hb
   rw [segs_slash, hx, join_cons, joinTail_cons, ih]; rfl
  ·rw [segs_other hb hx, join_cons, List.cons_append, ih]
def split (p : List UInt8) : Option (List (List UInt8)) :=
 if p = [47] then some [] else if p.head? = some 47 ∧ (segs p.tail).length ≤ 12 ∧ (segs p.tail).all rightN = true then some (segs p.tail) else none
def jn (l : List (List UInt8)) : List UInt8 := if l = [] then [47] else 47 :: join l [47]
theorem split_eq (p : List UInt8) : splitL rightN p = split p := by
 unfold splitL split
 by_cases h : p = [47]
 ·rw [if_pos h, if_pos h]
 rw [if_neg h, if_neg h]
 cases p with
 | nil => simp [pcs_nil]
 | cons b t =>
  by_cases hb : b = 47
  ·subst hb
   rw [pcs_slash _ t (Nat.le_refl _)]
   have e1 : ((segs t).map fun s => (s, true)) ≠ [] := by simp [segs_ne]
   have e2 : ((segs t).map fun s => (s, true)).all (goodP rightN) = (segs t).all rightN := by
    rw [List.all_map]
    congr 1
   have e3 : ((segs t).map fun s => (s, true)).map (·.1) = segs t := by
    rw [List.map_map]; exact List.map_id _
   simp only [e1, e2, e3, List.length_map, List.head?_cons, List.tail_cons, ne_eq, not_false_eq_true, true_and]
  ·rw [if_neg, if_neg]
   ·simp [hb]
   ·rintro ⟨_, _, h3⟩
    rw [pcs_cons (by simp)] at h3
    simp [goodP, cutB, hb] at h3
theorem split_some {p : List UInt8} {l : List (List UInt8)} (h : split p = some l) : jn l = p ∧ l.length ≤ 12 ∧ l.all rightN = true := by
 unfold split at h
 split at h
 ·rename_i hp
  cases h
  exact ⟨by rw [hp]; rfl, by simp, rfl⟩
 ·split at h
  ·rename_i hc
   cases h
   obtain ⟨h1, h2, h3⟩ := hc
   refine ⟨?_, h2, h3⟩
   unfold jn
   rw [if_neg (segs_ne _), join_segs]
   cases p with
   | nil => cases h1
   | cons b t => simp at h1; simp [h1]
  ·cases h
def abv (a b : List UInt8) : Bool := match split a, split b with
 | some x, some y => decide (x.length ≤ y.length ∧ x = y.take x.length)
 | _, _ => false
end Go.Am.Nm
