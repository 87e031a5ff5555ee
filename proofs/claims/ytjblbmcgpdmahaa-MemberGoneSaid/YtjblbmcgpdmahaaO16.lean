import Derived.Test.YtjblbmcgpdmahaaN16
set_option linter.unusedSimpArgs false
set_option linter.unusedVariables false
namespace Go.Proofs.Ytjblbmcgpdmahaa
open Go.Am

/-! Seats and majorities. -/
theorem tog_iff (x : Int) : ∀ (l : List Int), Up l → ∀ y, y ∈ tog l x ↔ (y ∈ l ∧ y ≠ x) ∨ (y = x ∧ x ∉ l)
  | [], _, y => by rw [tog_nil]; simp
  | p :: l, h, y => by
    obtain ⟨h1, h2⟩ := List.pairwise_cons.1 h
    have ih := tog_iff x l h2 y
    have hx : ∀ q : Int, p ≥ q → q ∉ l := fun q hq hl => by have := h1 q hl; omega
    rw [tog_cons]
    by_cases c1 : p < x
    · rw [if_pos c1]
      simp only [List.mem_cons, ih]
      constructor
      · rintro (rfl | ⟨h, h'⟩ | ⟨rfl, h'⟩)
        · exact .inl ⟨.inl rfl, by omega⟩
        · exact .inl ⟨.inr h, h'⟩
        · exact .inr ⟨rfl, by rintro (h | h); omega; exact h' h⟩
      · rintro (⟨rfl | h, h'⟩ | ⟨rfl, h'⟩)
        · exact .inl rfl
        · exact .inr (.inl ⟨h, h'⟩)
        · exact .inr (.inr ⟨rfl, fun h => h' (.inr h)⟩)
    · rw [if_neg c1]
      by_cases c2 : p = x
      · subst c2
        rw [if_pos rfl]
        have := hx p (by omega)
        simp only [List.mem_cons]
        constructor
        · intro h
          exact .inl ⟨.inr h, fun e => this (e ▸ h)⟩
        · rintro (⟨rfl | h, h'⟩ | ⟨rfl, h'⟩)
          · exact absurd rfl h'
          · exact h
          · exact absurd (by simp) h'
      · rw [if_neg c2]
        have := hx x (by omega)
        simp only [List.mem_cons]
        constructor
        · rintro (rfl | rfl | h)
          · exact .inr ⟨rfl, by rintro (h | h); omega; exact this h⟩
          · exact .inl ⟨.inl rfl, c2⟩
          · exact .inl ⟨.inr h, fun e => this (e ▸ h)⟩
        · rintro (⟨rfl | h, h'⟩ | ⟨rfl, h'⟩)
          · exact .inr (.inl rfl)
          · exact .inr (.inr h)
          · simp
theorem up_nodup {l : List Int} (h : Up l) : l.Nodup := List.Pairwise.imp (fun h => by omega) h
theorem ne_len {l : List Int} (h : l.Nodup) (x : Int) : (l.filter fun y => decide (y ≠ x)).length + (if x ∈ l then 1 else 0) = l.length := by
  induction l with
  | nil => simp
  | cons p l ih =>
    obtain ⟨h1, h2⟩ := List.nodup_cons.1 h
    have ih := ih h2
    by_cases hp : p = x
    · subst hp
      have hf : (l.filter fun y => decide (y ≠ p)) = l := List.filter_eq_self.2 fun y hy => by
        have : y ≠ p := fun e => h1 (e ▸ hy)
        simp [this]
      simp only [List.filter_cons, ne_eq, not_true_eq_false, decide_false, Bool.false_eq_true, if_false, List.mem_cons, true_or, if_true, List.length_cons] at hf ⊢
      rw [hf]
    · have hp' : ¬ x = p := fun e => hp e.symm
      simp only [List.filter_cons, ne_eq, hp, not_false_eq_true, decide_true, if_true, List.length_cons, List.mem_cons, hp', false_or] at ih ⊢
      omega
theorem both_of {a b : List Int} {x : Int} (h : ∀ y ∈ a, y ∈ b ↔ y ≠ x) : both a b = (a.filter fun y => decide (y ≠ x)).length := by
  unfold both
  congr 1
  refine List.filter_congr fun y hy => ?_
  simp only [h y hy]
theorem tog_len {l : List Int} (h : Up l) (x : Int) : (tog l x).length = if x ∈ l then l.length - 1 else l.length + 1 := by
  have h1 := ne_len (up_nodup h) x
  have h2 := ne_len (up_nodup (tog_up x l h)) x
  have e1 : both l (tog l x) = (l.filter fun y => decide (y ≠ x)).length := both_of fun y hy => by
    rw [tog_iff x l h y]
    constructor
    · rintro (h | ⟨rfl, h⟩)
      · exact h.2
      · exact absurd hy h
    · exact fun h => .inl ⟨hy, h⟩
  have hf : ((tog l x).filter fun y => decide (y ≠ x)) = l.filter fun y => decide (y ≠ x) := by
    have key : ∀ l : List Int, Up l → ((tog l x).filter fun y => decide (y ≠ x)) = l.filter fun y => decide (y ≠ x) := by
      intro l
      induction l with
      | nil => intro _; rw [tog_nil]; simp
      | cons p l ih =>
        intro h
        obtain ⟨g1, g2⟩ := List.pairwise_cons.1 h
        have ih := ih g2
        rw [tog_cons]
        split
        · rw [List.filter_cons, List.filter_cons, ih]
        · split
          · rename_i hp
            rw [List.filter_cons]
            simp [hp]
          · rw [List.filter_cons]
            simp
    exact key l h
  rw [hf] at h2
  have hm : x ∈ tog l x ↔ x ∉ l := by rw [tog_iff x l h x]; simp
  by_cases hx : x ∈ l
  · rw [if_pos hx] at h1 ⊢
    rw [if_neg (fun h => hm.1 h hx)] at h2
    omega
  · rw [if_neg hx] at h1 ⊢
    rw [if_pos (hm.2 hx)] at h2
    omega
theorem both_tog {l : List Int} (h : Up l) (x : Int) : both l (tog l x) = (if x ∈ l then l.length - 1 else l.length) ∧ both (tog l x) l = (if x ∈ l then l.length - 1 else l.length) := by
  have h1 := ne_len (up_nodup h) x
  have h2 := ne_len (up_nodup (tog_up x l h)) x
  have h3 := tog_len h x
  have hm : x ∈ tog l x ↔ x ∉ l := by rw [tog_iff x l h x]; simp
  have e1 : both l (tog l x) = (l.filter fun y => decide (y ≠ x)).length := both_of fun y hy => by
    rw [tog_iff x l h y]
    constructor
    · rintro (h | ⟨rfl, h⟩)
      · exact h.2
      · exact absurd hy h
    · exact fun h => .inl ⟨hy, h⟩
  have e2 : both (tog l x) l = ((tog l x).filter fun y => decide (y ≠ x)).length := both_of fun y hy => by
    rw [tog_iff x l h y] at hy
    rcases hy with h | ⟨rfl, h⟩
    · exact ⟨fun _ => h.2, fun _ => h.1⟩
    · exact ⟨fun h' => absurd h' h, fun h' => absurd rfl h'⟩
  by_cases hx : x ∈ l
  · rw [if_pos hx] at h1 h3 ⊢
    rw [if_neg (fun h => hm.1 h hx)] at h2
    omega
  · rw [if_neg hx] at h1 h3 ⊢
    rw [if_pos (hm.2 hx)] at h2
    omega
theorem meet_tog {l : List Int} (h : Up l) (x : Int) (h1 : 1 ≤ (tog l x).length) : meetA l (tog l x) = true ∧ meetA (tog l x) l = true := by
  have h2 := tog_len h x
  obtain ⟨h3, h4⟩ := both_tog h x
  unfold meetA need
  by_cases hx : x ∈ l
  · rw [if_pos hx] at h2 h3 h4
    have : 1 ≤ l.length := by
      cases l with
      | nil => cases hx
      | cons _ _ => simp
    rw [h2] at h1 ⊢
    rw [h3, h4]
    constructor <;> rw [decide_eq_true_eq] <;> omega
  · rw [if_neg hx] at h2 h3 h4
    rw [h2] at h1 ⊢
    rw [h3, h4]
    constructor <;> rw [decide_eq_true_eq] <;> omega
theorem by8_back {x : Int} (h0 : 0 ≤ x) (h1 : x ≤ 199) : ((by8 x).toNat : Int) = x := by
  have := wrap_8 x
  rw [← this]
  unfold IntKind.wrap
  simp [IntKind.bits, IntKind.signed]
  omega
theorem of_ent {t : Int} {q : List Int} (h : right q = true) : ofE (entE t q) = some q := by
  have hq := (right_iff.1 h).1.2
  have ht : tl (entE t q) = q := by
    unfold tl entE
    simp only [List.drop_succ_cons, List.drop_zero, List.map_map]
    have : ∀ l : List Int, (∀ x ∈ l, 0 ≤ x ∧ x ≤ 199) → l.map ((fun b : UInt8 => (b.toNat : Int)) ∘ by8) = l := by
      intro l
      induction l with
      | nil => intro _; rfl
      | cons x l ih =>
        intro h
        rw [List.map_cons, ih fun y hy => h y (by simp [hy])]
        obtain ⟨h1, h2⟩ := h x (by simp)
        simp only [Function.comp_apply, by8_back h1 h2]
    exact this q hq
  unfold ofE
  rw [ht, if_pos ⟨by simp [entE], h⟩]
theorem tog_gap {l : List Int} (h : Up l) (x : Int) : ((l.length : Int) - (tog l x).length = 1 ∨ (l.length : Int) - (tog l x).length = -1) ∧ (x ∈ l ↔ ¬ x ∈ tog l x) := by
  have h2 := tog_len h x
  have hm : x ∈ tog l x ↔ x ∉ l := by rw [tog_iff x l h x]; simp
  refine ⟨?_, by rw [hm]; simp⟩
  by_cases hx : x ∈ l
  · rw [if_pos hx] at h2
    have : 1 ≤ l.length := by
      cases l with
      | nil => cases hx
      | cons _ _ => simp
    omega
  · rw [if_neg hx] at h2
    omega
end Go.Proofs.Ytjblbmcgpdmahaa
