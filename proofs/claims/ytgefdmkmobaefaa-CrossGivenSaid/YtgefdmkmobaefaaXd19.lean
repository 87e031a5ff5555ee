import Derived.Test.YtgefdmkmobaefaaX19HB
set_option linter.unusedSimpArgs false
set_option linter.unusedVariables false
namespace Go.Proofs.Ytgefdmkmobaefaa
open Go.Am Go.Am.Nm Go.Lib Go.Deep Go.Cr
theorem acts_evs : ∀ (l : List Ac) {w : Wd}, Inv isPth clsh PSN w → Evs isPth clsh PSN w (actsW l w)
 | [], _, _ => .refl _
 | x :: l, _, H => (do_evs H pathN_mem x).trans (acts_evs l (H.do pathN_mem x))
theorem acts_inv : ∀ (l : List Ac) {w : Wd}, Inv isPth clsh PSN w → Inv isPth clsh PSN (actsW l w) ∧ (actsW l w).deeds.length ≤ w.deeds.length + l.length
 | [], w, H => ⟨H, Nat.le_refl _⟩
 | x :: l, w, H => by
  have h1 := acts_inv l (H.do pathN_mem x)
  have h2 := doW_dl H x
  refine ⟨h1.1, ?_⟩
  have h3 : (actsW (x :: l) w).deeds.length ≤ (doW isPth clsh w x).deeds.length + l.length := h1.2
  simp only [List.length_cons]
  omega
theorem deeds_calm {PS : List (List UInt8)} : ∀ (n : Nat) {w : Wd}, Inv isPth clsh PS w → (calmW isPth clsh n w).deeds = w.deeds
 | 0, _, _ => rfl
 | n + 1, _, H => (deeds_calm n H.round).trans (deeds_round H)
section
variable {PS : List (List UInt8)} {w : Wd} {n : Nat} {G : AH} {N : Nat} {b u : Nat → Nat}
end
end Go.Proofs.Ytgefdmkmobaefaa
