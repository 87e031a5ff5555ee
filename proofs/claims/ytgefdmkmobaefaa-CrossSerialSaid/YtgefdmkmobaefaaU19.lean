import Derived.Test.YtgefdmkmobaefaaT19
set_option linter.unusedSimpArgs false
set_option linter.unusedVariables false
namespace Go.Proofs.Ytgefdmkmobaefaa
open Go.Am Go.Am.Nm Go.Lib Go.Cr
theorem for_anyF {ι σ X Y : Type} {f : ι → X → Option (X ⊕ Y)} (P : ι → Prop) (emb : Nat → σ → X) (n : Nat) (J : Nat → σ → Prop) (Q : Y → Prop)
  (hstep : ∀ i, i < n → ∀ s, J i s → (∃ s', J (i + 1) s' ∧ ∀ e, P e → f e (emb i s) = some (.inl (emb (i + 1) s'))) ∨ ∃ y, Q y ∧ ∀ e, P e → f e (emb i s) = some (.inr y))
  (hend : ∀ s, J n s → ∃ y, Q y ∧ ∀ e, P e → f e (emb n s) = some (.inr y)) : ∀ k i s, n - i = k → i ≤ n → J i s → ∃ y, Q y ∧ ∀ e, P e → iter (f e) (emb i s) = some y
 | 0, i, s, hk, hi, h => by
  have : i = n := by omega
  subst this
  obtain ⟨y, q, e⟩ := hend s h
  exact ⟨y, q, fun ι hι => by rw [iter_eq, e ι hι]⟩
 | k + 1, i, s, hk, hi, h => by
  rcases hstep i (by omega) s h with ⟨s', h', e⟩ | ⟨y, q, e⟩
  ·obtain ⟨y, q, e'⟩ := for_anyF P emb n J Q hstep hend k (i + 1) s' (by omega) (by omega) h'
   exact ⟨y, q, fun ι hι => by rw [iter_eq, e ι hι]; exact e' ι hι⟩
  ·exact ⟨y, q, fun ι hι => by rw [iter_eq, e ι hι]⟩
theorem for_any {ι σ X Y : Type} {f : ι → X → Option (X ⊕ Y)} (P : ι → Prop) (emb : Nat → σ → X) (n : Nat) (J : Nat → σ → Prop) (Q : Y → Prop)
  (hstep : ∀ i, i < n → ∀ s, J i s → (∃ s', J (i + 1) s' ∧ ∀ e, P e → f e (emb i s) = some (.inl (emb (i + 1) s'))) ∨ ∃ y, Q y ∧ ∀ e, P e → f e (emb i s) = some (.inr y))
  (hend : ∀ s, J n s → ∃ y, Q y ∧ ∀ e, P e → f e (emb n s) = some (.inr y)) (s : σ) (h : J 0 s) : ∃ y, Q y ∧ ∀ e, P e → iter (f e) (emb 0 s) = some y :=
 for_anyF P emb n J Q hstep hend _ 0 s rfl (Nat.zero_le _) h
end Go.Proofs.Ytgefdmkmobaefaa
