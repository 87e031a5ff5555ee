/-
  What a client keeps: rows that rise, without the program.
-/
import Derived.Test.YtlooipgkklaijaaAmGS
set_option linter.unusedSimpArgs false
set_option linter.unusedVariables false
namespace Go.Am.Kp
open Go.Am

theorem sLess_cons {a b : UInt8} {x y : List UInt8} : sLess (a :: x) (b :: y) = true ↔ a.toNat < b.toNat ∨ a.toNat = b.toNat ∧ sLess x y = true := by
  simp only [sLess, Bool.or_eq_true, decide_eq_true_eq, Bool.and_eq_true, beq_iff_eq, UInt8.lt_iff_toNat_lt, ← UInt8.toNat_inj]
theorem sLess_irrefl : ∀ x : List UInt8, sLess x x = false
  | [] => rfl
  | a :: x => by
    cases h : sLess (a :: x) (a :: x) with
    | false => rfl
    | true =>
      rcases sLess_cons.1 h with h | ⟨_, h⟩
      · omega
      · rw [sLess_irrefl x] at h; cases h
theorem sLess_trans : ∀ {x y z : List UInt8}, sLess x y = true → sLess y z = true → sLess x z = true
  | _, _, [], _, h => by simp [sLess] at h
  | _, [], _ :: _, h, _ => by simp [sLess] at h
  | [], _ :: _, _ :: _, _, _ => rfl
  | a :: x, b :: y, c :: z, h1, h2 => by
    rw [sLess_cons] at h1 h2 ⊢
    rcases h1 with h1 | ⟨h1, h1'⟩ <;> rcases h2 with h2 | ⟨h2, h2'⟩
    · left; omega
    · left; omega
    · left; omega
    · right; exact ⟨by omega, sLess_trans h1' h2'⟩
theorem sLess_tri : ∀ {x y : List UInt8}, sLess x y = false → sLess y x = false → x = y
  | [], [], _, _ => rfl
  | [], _ :: _, h, _ => by simp [sLess] at h
  | _ :: _, [], _, h => by simp [sLess] at h
  | a :: x, b :: y, h1, h2 => by
    have g1 := mt (sLess_cons (a := a) (b := b) (x := x) (y := y)).2 (by simp [h1])
    have g2 := mt (sLess_cons (a := b) (b := a) (x := y) (y := x)).2 (by simp [h2])
    have e : a.toNat = b.toNat := by omega
    have e' : a = b := UInt8.toNat_inj.1 e
    subst e'
    simp only [Nat.lt_irrefl, true_and, false_or, Bool.not_eq_true] at g1 g2
    rw [sLess_tri g1 g2]

/-- A row that is kept. -/
structure K where
  ino : Int
  name : List UInt8
  page : Int
  is : Int
  fl : Bool
  dat : List Int
  til : Int

/-- Is a row ahead of another one? -/
def lt (a b : K) : Bool := if a.ino = b.ino then (if a.name = b.name then decide (a.page < b.page) else sLess a.name b.name) else decide (a.ino < b.ino)
def same (a b : K) : Bool := decide (a.ino = b.ino) && (decide (a.name = b.name) && decide (a.page = b.page))
theorem lt_irrefl (a : K) : lt a a = false := by simp [lt]
theorem lt_trans {a b c : K} (h1 : lt a b = true) (h2 : lt b c = true) : lt a c = true := by
  unfold lt at *
  by_cases e1 : a.ino = b.ino
  · by_cases e2 : b.ino = c.ino
    · simp only [e1, e2, if_true] at h1 h2 ⊢
      by_cases f1 : a.name = b.name
      · by_cases f2 : b.name = c.name
        · simp only [f1, f2, if_true, decide_eq_true_eq] at h1 h2 ⊢; omega
        · simp only [f1, f2, if_true, if_false] at h1 h2 ⊢; exact h2
      · by_cases f2 : b.name = c.name
        · rw [f2] at f1 h1
          simp only [f1, if_false] at h1 ⊢; exact h1
        · simp only [f1, f2, if_false] at h1 h2
          have h3 := sLess_trans h1 h2
          by_cases f3 : a.name = c.name
          · rw [f3, sLess_irrefl] at h3; cases h3
          · simp only [f3, if_false]; exact h3
    · simp only [e1, e2, if_false] at h2 ⊢; exact h2
  · by_cases e2 : b.ino = c.ino
    · simp only [e1, if_false, decide_eq_true_eq] at h1
      have : ¬ a.ino = c.ino := by omega
      simp only [this, if_false, decide_eq_true_eq]; omega
    · simp only [e1, e2, if_false, decide_eq_true_eq] at h1 h2
      have : ¬ a.ino = c.ino := by omega
      simp only [this, if_false, decide_eq_true_eq]; omega
theorem lt_asymm {a b : K} (h : lt a b = true) : lt b a = false := by
  cases h2 : lt b a with
  | false => rfl
  | true => have := lt_trans h h2; rw [lt_irrefl] at this; cases this
theorem lt_tri {a b : K} (h1 : lt a b = false) (h2 : lt b a = false) : same a b = true := by
  unfold lt at h1 h2
  unfold same
  by_cases e1 : a.ino = b.ino
  · simp only [e1, if_true] at h1 h2
    by_cases f1 : a.name = b.name
    · simp only [f1, if_true, decide_eq_false_iff_not] at h1 h2
      simp only [e1, f1, decide_true, Bool.true_and, decide_eq_true_eq]; omega
    · have f2 : ¬ b.name = a.name := fun e => f1 e.symm
      simp only [f1, f2, if_false] at h1 h2
      exact absurd (sLess_tri h1 h2) f1
  · have e2 : ¬ b.ino = a.ino := fun e => e1 e.symm
    simp only [e1, e2, if_false, decide_eq_false_iff_not] at h1 h2
    omega
theorem same_iff {a b : K} : same a b = true ↔ a.ino = b.ino ∧ a.name = b.name ∧ a.page = b.page := by simp [same]
theorem not_lt_of_same {a b : K} (h : same a b = true) : lt a b = false := by
  obtain ⟨h1, h2, h3⟩ := same_iff.1 h
  simp [lt, h1, h2, h3]
theorem same_symm {a b : K} (h : same a b = true) : same b a = true := by
  obtain ⟨h1, h2, h3⟩ := same_iff.1 h
  exact same_iff.2 ⟨h1.symm, h2.symm, h3.symm⟩
theorem same_trans {a b c : K} (h : same a b = true) (h' : same b c = true) : same a c = true := by
  obtain ⟨h1, h2, h3⟩ := same_iff.1 h
  obtain ⟨g1, g2, g3⟩ := same_iff.1 h'
  exact same_iff.2 ⟨h1.trans g1, h2.trans g2, h3.trans g3⟩
theorem ne_iff {a b : K} : same a b = false ↔ lt a b = true ∨ lt b a = true := by
  constructor
  · intro h
    cases h1 : lt a b with
    | true => exact .inl rfl
    | false =>
      cases h2 : lt b a with
      | true => exact .inr rfl
      | false => rw [lt_tri h1 h2] at h; cases h
  · intro h
    cases hs : same a b with
    | false => rfl
    | true =>
      rcases h with h | h
      · rw [not_lt_of_same hs] at h; cases h
      · rw [not_lt_of_same (same_symm hs)] at h; cases h
theorem lt_congr {a b c : K} (h : same a b = true) : lt a c = lt b c := by
  obtain ⟨h1, h2, h3⟩ := same_iff.1 h
  simp [lt, h1, h2, h3]
theorem lt_congr' {a b c : K} (h : same a b = true) : lt c a = lt c b := by
  obtain ⟨h1, h2, h3⟩ := same_iff.1 h
  simp [lt, h1, h2, h3]

/-- Rows that rise. -/
def Sorted (l : List K) : Prop := l.Pairwise fun a b => lt a b = true
def put (l : List K) (k : K) : List K := l.filter (fun x => lt x k) ++ k :: l.filter (fun x => lt k x)
theorem mem_put {l : List K} {k x : K} : x ∈ put l k ↔ x = k ∨ x ∈ l ∧ same x k = false := by
  unfold put
  simp only [List.mem_append, List.mem_cons, List.mem_filter]
  rw [ne_iff]
  constructor
  · rintro (⟨h1, h2⟩ | h | ⟨h1, h2⟩)
    · exact .inr ⟨h1, .inl h2⟩
    · exact .inl h
    · exact .inr ⟨h1, .inr h2⟩
  · rintro (h | ⟨h1, h2 | h2⟩)
    · exact .inr (.inl h)
    · exact .inl ⟨h1, h2⟩
    · exact .inr (.inr ⟨h1, h2⟩)
theorem put_sorted {l : List K} {k : K} (h : Sorted l) : Sorted (put l k) := by
  unfold Sorted put
  rw [List.pairwise_append]
  refine ⟨h.filter _, ?_, ?_⟩
  · rw [List.pairwise_cons]
    exact ⟨fun x hx => (List.mem_filter.1 hx).2, h.filter _⟩
  · intro a ha b hb
    have ha := (List.mem_filter.1 ha).2
    rcases List.mem_cons.1 hb with rfl | hb
    · exact ha
    · exact lt_trans ha (List.mem_filter.1 hb).2
theorem sorted_ext : ∀ {a b : List K}, Sorted a → Sorted b → (∀ x, x ∈ a ↔ x ∈ b) → a = b
  | [], [], _, _, _ => rfl
  | [], y :: b, _, _, h => by have := (h y).2 (List.mem_cons_self ..); simp at this
  | x :: a, [], _, _, h => by have := (h x).1 (List.mem_cons_self ..); simp at this
  | x :: a, y :: b, ha, hb, h => by
    unfold Sorted at ha hb
    rw [List.pairwise_cons] at ha hb
    have hxy : x = y := by
      rcases List.mem_cons.1 ((h x).1 (List.mem_cons_self ..)) with e | e
      · exact e
      · rcases List.mem_cons.1 ((h y).2 (List.mem_cons_self ..)) with e' | e'
        · exact e'.symm
        · have h1 := ha.1 y e'
          have h2 := hb.1 x e
          rw [lt_asymm h1] at h2; cases h2
    subst hxy
    congr 1
    refine sorted_ext ha.2 hb.2 fun z => ?_
    have hz := h z
    simp only [List.mem_cons] at hz
    constructor
    · intro hm
      rcases hz.1 (.inr hm) with rfl | h'
      · have := ha.1 z hm; rw [lt_irrefl] at this; cases this
      · exact h'
    · intro hm
      rcases hz.2 (.inr hm) with rfl | h'
      · have := hb.1 z hm; rw [lt_irrefl] at this; cases this
      · exact h'

/-- How many rows are ahead of one; is it there? -/
def cnt : List K → K → Nat
  | [], _ => 0
  | x :: l, k => if lt x k = true then cnt l k + 1 else 0
def fnd (l : List K) (k : K) : Bool := match l[cnt l k]? with
  | some x => !lt k x
  | none => false
theorem cnt_le : ∀ (l : List K) (k : K), cnt l k ≤ l.length
  | [], _ => Nat.le_refl _
  | x :: l, k => by simp only [cnt]; split <;> simp [cnt_le l k]
theorem lt_get : ∀ {l : List K} {k : K}, Sorted l → ∀ (i : Nat) (hi : i < l.length), lt l[i] k = decide (i < cnt l k)
  | x :: l, k, h, i, hi => by
    unfold Sorted at h
    rw [List.pairwise_cons] at h
    simp only [cnt]
    by_cases hx : lt x k = true
    · simp only [hx, if_true]
      cases i with
      | zero => simp [hx]
      | succ i => simp only [List.getElem_cons_succ, lt_get h.2 i (by simpa using hi)]; simp
    · simp only [Bool.not_eq_true] at hx
      simp only [hx, Bool.false_eq_true, if_false, Nat.not_lt_zero, decide_false]
      cases i with
      | zero => exact hx
      | succ i =>
        have hi' : i < l.length := by simpa using hi
        simp only [List.getElem_cons_succ]
        cases hz : lt l[i] k with
        | false => rfl
        | true => have := lt_trans (h.1 _ (List.getElem_mem (by simpa using hi))) hz; rw [hx] at this; cases this
theorem put_eq : ∀ {l : List K} {k : K}, Sorted l → put l k = l.take (cnt l k) ++ k :: l.drop (cnt l k + (fnd l k).toNat)
  | [], k, _ => rfl
  | x :: l, k, h => by
    have h' := h
    unfold Sorted at h
    rw [List.pairwise_cons] at h
    have ih := put_eq (k := k) h.2
    unfold put at ih ⊢
    cases hx : lt x k with
    | true =>
      have hk : lt k x = false := lt_asymm hx
      have hc : cnt (x :: l) k = cnt l k + 1 := by simp [cnt, hx]
      have hf : fnd (x :: l) k = fnd l k := by simp [fnd, hc]
      rw [hc, hf, List.filter_cons_of_pos (by simpa using hx), List.filter_cons_of_neg (by simp [hk]), List.cons_append, ih, List.take_succ_cons, Nat.add_right_comm, List.drop_succ_cons]
      rfl
    | false =>
      have hc : cnt (x :: l) k = 0 := by simp [cnt, hx]
      have h1 : ∀ y ∈ l, lt k y = true := fun y hy => by
        have hxy := h.1 y hy
        cases hkx : lt k x with
        | true => exact lt_trans hkx hxy
        | false => rw [← lt_congr (lt_tri hx hkx)]; exact hxy
      have e1 : l.filter (fun y => lt y k) = [] := List.filter_eq_nil_iff.2 fun y hy => by simp [lt_asymm (h1 y hy)]
      have e2 : l.filter (fun y => lt k y) = l := List.filter_eq_self.2 fun y hy => h1 y hy
      rw [hc, List.filter_cons_of_neg (by simp [hx]), e1]
      simp only [List.nil_append, List.take_zero, Nat.zero_add]
      cases hkx : lt k x with
      | true =>
        have hf : fnd (x :: l) k = false := by simp [fnd, hc, hkx]
        rw [List.filter_cons_of_pos (by simpa using hkx), e2, hf]; rfl
      | false =>
        have hf : fnd (x :: l) k = true := by simp [fnd, hc, hkx]
        rw [List.filter_cons_of_neg (by simp [hkx]), e2, hf]; rfl

theorem cnt_idx : ∀ (l : List K) (k : K), cnt l k = l.findIdx (fun x => !lt x k)
  | [], _ => rfl
  | x :: l, k => by
    cases h : lt x k <;> simp [cnt, List.findIdx_cons, h, cnt_idx l k]
theorem take_cnt : ∀ {l : List K} {k : K}, Sorted l → l.take (cnt l k) = l.filter (fun x => lt x k)
  | [], _, _ => by simp
  | x :: l, k, h => by
    unfold Sorted at h
    rw [List.pairwise_cons] at h
    by_cases hx : lt x k = true
    · simp only [cnt, hx, if_true, List.take_succ_cons, List.filter_cons_of_pos]
      rw [take_cnt h.2]
    · simp only [Bool.not_eq_true] at hx
      simp only [cnt, hx, Bool.false_eq_true, if_false, List.take_zero]
      symm
      rw [List.filter_eq_nil_iff]
      intro y hy hyk
      rcases List.mem_cons.1 hy with rfl | hy
      · rw [hx] at hyk; cases hyk
      · have := lt_trans (h.1 y hy) hyk; rw [hx] at this; cases this
theorem put_ref {l : List K} {k : K} (h : Sorted l) : l.take (cnt l k) ++ k :: (l.drop (cnt l k)).filter (fun x => lt k x) = put l k := by
  unfold put
  have e : l.filter (fun x => lt k x) = (l.take (cnt l k)).filter (fun x => lt k x) ++ (l.drop (cnt l k)).filter (fun x => lt k x) := by
    rw [← List.filter_append, List.take_append_drop]
  have e2 : (l.take (cnt l k)).filter (fun x => lt k x) = [] := by
    rw [List.filter_eq_nil_iff]
    intro x hx
    rw [take_cnt h, List.mem_filter] at hx
    rw [lt_asymm hx.2]; simp
  rw [e, e2, take_cnt h, List.nil_append]

/-- The row of a key. -/
def get (l : List K) (k : K) : Option K := l.find? fun x => same x k
theorem get_some {l : List K} (h : Sorted l) {k x : K} : get l k = some x ↔ x ∈ l ∧ same x k = true := by
  unfold get
  constructor
  · intro hg
    exact ⟨List.mem_of_find?_eq_some hg, List.find?_some (p := fun x => same x k) hg⟩
  · rintro ⟨hm, hs⟩
    induction l with
    | nil => simp at hm
    | cons y l ih =>
      unfold Sorted at h
      rw [List.pairwise_cons] at h
      rcases List.mem_cons.1 hm with rfl | hm'
      · simp [hs]
      · have hy : same y k = false := by
          cases hy : same y k with
          | false => rfl
          | true =>
            have := h.1 x hm'
            rw [not_lt_of_same (same_trans hy (same_symm hs))] at this; cases this
        rw [List.find?_cons_of_neg (by simp [hy])]
        exact ih h.2 hm'
theorem get_none {l : List K} {k : K} : get l k = none ↔ ∀ x ∈ l, same x k = false := by
  unfold get
  simp
theorem get_eq {l : List K} (h : Sorted l) (k : K) : get l k = if fnd l k = true then l[cnt l k]? else none := by
  cases hf : fnd l k with
  | true =>
    simp only [if_true]
    unfold fnd at hf
    cases hg : l[cnt l k]? with
    | none => rw [hg] at hf; cases hf
    | some x =>
      rw [hg] at hf
      simp only [Bool.not_eq_true'] at hf
      obtain ⟨hi, hx⟩ := List.getElem?_eq_some_iff.1 hg
      have h1 := lt_get (k := k) h _ hi
      rw [hx] at h1
      simp only [Nat.lt_irrefl, decide_false] at h1
      exact (get_some h).2 ⟨hx ▸ List.getElem_mem hi, lt_tri h1 hf⟩
  | false =>
    simp only [Bool.false_eq_true, if_false]
    rw [get_none]
    intro x hx
    obtain ⟨i, hi, rfl⟩ := List.mem_iff_getElem.1 hx
    have h1 := lt_get (k := k) h i hi
    rw [ne_iff]
    by_cases hc : i < cnt l k
    · left; rw [h1]; simp [hc]
    · right
      unfold fnd at hf
      have hc' : cnt l k < l.length := by omega
      rw [List.getElem?_eq_getElem hc'] at hf
      simp only [Bool.not_eq_false'] at hf
      by_cases e : i = cnt l k
      · subst e; exact hf
      · exact lt_trans hf (List.pairwise_iff_getElem.1 h _ _ hc' hi (by omega))
theorem find_and {l : List K} (h : Sorted l) (k : K) (p : K → Bool) : l.find? (fun x => same x k && p x) = (get l k).filter p := by
  cases hg : get l k with
  | none =>
    rw [get_none] at hg
    simp only [Option.filter_none, List.find?_eq_none]
    intro x hx
    simp [hg x hx]
  | some x =>
    obtain ⟨hm, hs⟩ := (get_some h).1 hg
    cases hp : p x with
    | true =>
      simp only [Option.filter_some, hp, if_true]
      have : ∀ y ∈ l, same y k = true → y = x := fun y hy hys => by
        have := (get_some h).2 ⟨hy, hys⟩
        rw [hg] at this; exact (Option.some.inj this).symm
      cases hf : l.find? (fun x => same x k && p x) with
      | none =>
        rw [List.find?_eq_none] at hf
        have := hf x hm
        simp [hs, hp] at this
      | some y =>
        have h1 := List.find?_some hf
        simp only [Bool.and_eq_true] at h1
        rw [this y (List.mem_of_find?_eq_some hf) h1.1]
    | false =>
      simp only [Option.filter_some, hp, Bool.false_eq_true, if_false, List.find?_eq_none]
      intro y hy
      cases hys : same y k with
      | false => simp
      | true =>
        have := (get_some h).2 ⟨hy, hys⟩
        rw [hg] at this
        rw [← Option.some.inj this, hp]; simp
theorem sorted_filter {l : List K} (h : Sorted l) (p : K → Bool) : Sorted (l.filter p) := h.filter p
end Go.Am.Kp
