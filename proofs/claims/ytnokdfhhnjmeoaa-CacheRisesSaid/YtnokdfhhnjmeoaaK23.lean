import Derived.Test.YtnokdfhhnjmeoaaJ23
set_option linter.unusedSimpArgs false
set_option linter.unusedVariables false
namespace Go.Proofs.Ytnokdfhhnjmeoaa
open Go.Am Go.Am.Kp

/-- Rows as acts leave them, at most so many. -/
structure Ok (N : Nat) (l : List K) : Prop where
  s : Sorted l
  r : ∀ k ∈ l, rightB k = true
  d : ∀ k ∈ l, k.dat.length ≤ 100
  n : l.length ≤ N
theorem Ok.nil : Ok 0 [] := ⟨List.Pairwise.nil, by simp, by simp, by simp⟩
theorem put_length {l : List K} {k : K} (h : Sorted l) : (put l k).length = l.length + 1 - (fnd l k).toNat := by
  have := cnt_le l k
  rw [put_eq h]
  cases hf : fnd l k with
  | true =>
    have := fnd_lt hf
    simp only [List.length_append, List.length_take, List.length_cons, List.length_drop, Bool.toNat_true]
    omega
  | false =>
    simp only [List.length_append, List.length_take, List.length_cons, List.length_drop, Bool.toNat_false]
    omega
theorem Ok.put {N : Nat} {l : List K} (h : Ok N l) {k : K} (hr : rightB k = true) (hd : k.dat.length ≤ 100) : Ok (N + 1) (put l k) := by
  refine ⟨put_sorted h.s, fun x hx => ?_, fun x hx => ?_, ?_⟩
  · rcases mem_put.1 hx with rfl | ⟨hx, _⟩
    · exact hr
    · exact h.r x hx
  · rcases mem_put.1 hx with rfl | ⟨hx, _⟩
    · exact hd
    · exact h.d x hx
  · rw [put_length h.s]
    have := h.n
    omega
theorem Ok.filter {N : Nat} {l : List K} (h : Ok N l) (p : K → Bool) : Ok N (l.filter p) :=
  ⟨sorted_filter h.s p, fun x hx => h.r x ((List.mem_filter.1 hx).1), fun x hx => h.d x ((List.mem_filter.1 hx).1), Nat.le_trans (List.length_filter_le _ _) h.n⟩
theorem Ok.le {N M : Nat} {l : List K} (h : Ok N l) (hm : N ≤ M) : Ok M l := ⟨h.s, h.r, h.d, Nat.le_trans h.n hm⟩
theorem right_page (i p t : Int) (g : Bool) (d : List Int) : rightB ⟨i, [], p, 0, g, d, t⟩ = true := by simp [rightB]
theorem right_name (i s t : Int) {m : List UInt8} (hm : m ≠ []) (g : Bool) : rightB ⟨i, m, 0, s, g, [], t⟩ = true := by simp [rightB, hm]
theorem Ok.step {N : Nat} {l : List K} (h : Ok N l) {a : Act} (ha : Small a) (g : Bool) : Ok (N + 1) (doG g l a) := by
  unfold doG
  split
  · exact h.put (right_page ..) ha.dat
  · split
    · exact h.le (by omega)
    · rename_i hm
      exact h.put (right_name _ _ _ hm _) (by simp)
  · exact (h.filter _).le (by omega)
  · exact (h.filter _).le (by omega)
theorem adj_of_sorted : ∀ {l : List K}, Sorted l → adj l = true
  | [], _ => rfl
  | [a], _ => rfl
  | a :: b :: l, h => by
    unfold Sorted at h
    rw [List.pairwise_cons] at h
    simp only [adj, Bool.and_eq_true]
    exact ⟨h.1 b (by simp), adj_of_sorted h.2⟩
theorem Ok.right {N : Nat} {l : List K} (h : Ok N l) : rightL l = true := by
  unfold rightL
  rw [adj_of_sorted h.s, Bool.true_and, List.all_eq_true]
  exact h.r
theorem Ok.short {N : Nat} {l : List K} (h : Ok N l) : ∀ k ∈ l, Short k := fun k hk => by
  have := h.d k hk
  unfold Short; omega

/-- A row, whatever the flag of its bytes. -/
def nrm (k : K) : K := { k with fl := true }
theorem alike_iff {x y : K} : alike x y = true ↔ nrm x = nrm y := by
  obtain ⟨i1, m1, p1, s1, f1, d1, t1⟩ := x
  obtain ⟨i2, m2, p2, s2, f2, d2, t2⟩ := y
  simp only [alike, nrm, Bool.and_eq_true, decide_eq_true_eq, K.mk.injEq, true_and]
  constructor
  · rintro ⟨h1, h2, h3, h4, h5, h6⟩; exact ⟨h1, h2, h3, h4, h6, h5⟩
  · rintro ⟨h1, h2, h3, h4, h5, h6⟩; exact ⟨h1, h2, h3, h4, h6, h5⟩
theorem sameL_iff : ∀ {a b : List K}, sameL a b = true ↔ a.map nrm = b.map nrm
  | [], [] => by simp [sameL]
  | [], _ :: _ => by simp [sameL]
  | _ :: _, [] => by simp [sameL]
  | x :: a, y :: b => by
    have := @sameL_iff a b
    unfold sameL at this ⊢
    simp only [Bool.and_eq_true, decide_eq_true_eq] at this
    simp only [List.length_cons, List.zip_cons_cons, List.all_cons, Bool.and_eq_true, decide_eq_true_eq, List.map_cons, List.cons.injEq, alike_iff, Nat.add_right_cancel_iff]
    rw [← this]
    constructor
    · rintro ⟨h1, h2, h3⟩; exact ⟨h2, h1, h3⟩
    · rintro ⟨h1, h2, h3⟩; exact ⟨h2, h1, h3⟩
theorem sameL_refl (a : List K) : sameL a a = true := sameL_iff.2 rfl
theorem put_nrm (l : List K) (k : K) : (put l k).map nrm = put (l.map nrm) (nrm k) := by
  unfold put
  rw [List.map_append, List.map_cons, List.filter_map, List.filter_map]
  rfl
theorem doG_nrm (g : Bool) (l : List K) (a : Act) : (doG g l a).map nrm = doG true (l.map nrm) a := by
  unfold doG
  split
  · rw [put_nrm]; rfl
  · split
    · rfl
    · rw [put_nrm]; rfl
  · rw [List.filter_map]; rfl
  · rw [List.filter_map]; rfl
theorem get_nrm (l : List K) (k : K) : get (l.map nrm) k = (get l k).map nrm := by
  unfold Kp.get
  rw [List.find?_map]; rfl
theorem get_put {l : List K} (h : Sorted l) (k q : K) : get (put l k) q = if same k q = true then some k else get l q := by
  by_cases hs : same k q = true
  · rw [if_pos hs]
    exact (get_some (put_sorted h)).2 ⟨mem_put.2 (.inl rfl), hs⟩
  · rw [if_neg hs]
    cases hg : get l q with
    | some x =>
      obtain ⟨h1, h2⟩ := (get_some h).1 hg
      refine (get_some (put_sorted h)).2 ⟨mem_put.2 (.inr ⟨h1, ?_⟩), h2⟩
      cases hxk : same x k with
      | false => rfl
      | true => exact absurd (same_trans (same_symm hxk) h2) hs
    | none =>
      rw [get_none] at hg ⊢
      intro x hx
      rcases mem_put.1 hx with rfl | ⟨hx, _⟩
      · simpa using hs
      · exact hg x hx
theorem get_filter {l : List K} (h : Sorted l) (p : K → Bool) (q : K) : get (l.filter p) q = (get l q).filter p := by
  rw [← find_and h]
  unfold Kp.get
  rw [List.find?_filter]
  congr 1; funext x; cases p x <;> simp
theorem put_put {l : List K} (h : Sorted l) {k q : K} (hs : same k q = true) : put (put l k) q = put l q := by
  refine sorted_ext (put_sorted (put_sorted h)) (put_sorted h) fun x => ?_
  rw [mem_put, mem_put, mem_put]
  constructor
  · rintro (h1 | ⟨h1 | ⟨h1, h3⟩, h2⟩)
    · exact .inl h1
    · subst h1; rw [hs] at h2; cases h2
    · exact .inr ⟨h1, h2⟩
  · rintro (h1 | ⟨h1, h2⟩)
    · exact .inl h1
    · refine .inr ⟨.inr ⟨h1, ?_⟩, h2⟩
      cases hx : same x k with
      | false => rfl
      | true => rw [same_trans hx hs] at h2; cases h2
theorem put_comm {l : List K} (h : Sorted l) {k q : K} (hs : same k q = false) : put (put l k) q = put (put l q) k := by
  have hs' : same q k = false := by
    cases e : same q k with
    | false => rfl
    | true => rw [same_symm e] at hs; cases hs
  refine sorted_ext (put_sorted (put_sorted h)) (put_sorted (put_sorted h)) fun x => ?_
  rw [mem_put, mem_put, mem_put, mem_put]
  constructor
  · rintro (h1 | ⟨h1 | ⟨h1, h3⟩, h2⟩)
    · subst h1; exact .inr ⟨.inl rfl, hs'⟩
    · exact .inl h1
    · exact .inr ⟨.inr ⟨h1, h2⟩, h3⟩
  · rintro (h1 | ⟨h1 | ⟨h1, h3⟩, h2⟩)
    · subst h1; exact .inr ⟨.inl rfl, hs⟩
    · exact .inl h1
    · exact .inr ⟨.inr ⟨h1, h2⟩, h3⟩
end Go.Proofs.Ytnokdfhhnjmeoaa
