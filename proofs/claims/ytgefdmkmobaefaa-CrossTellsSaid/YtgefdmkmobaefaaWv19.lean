import Derived.Test.YtgefdmkmobaefaaX19GZ
set_option linter.unusedSimpArgs false
set_option linter.unusedVariables false
namespace Go.Proofs.Ytgefdmkmobaefaa
open Go.Am Go.Am.Nm Go.Lib Go.Deep Go.Cr
theorem acts_inv : ∀ (l : List Ac) {w : Wd}, Inv isPth clsh PSN w → Inv isPth clsh PSN (actsW l w) ∧ (actsW l w).deeds.length ≤ w.deeds.length + l.length
 | [], w, H => ⟨H, Nat.le_refl _⟩
 | x :: l, w, H => by
  have h1 := acts_inv l (H.do pathN_mem x)
  have h2 := doW_dl H x
  refine ⟨h1.1, ?_⟩
  have h3 : (actsW (x :: l) w).deeds.length ≤ (doW isPth clsh w x).deeds.length + l.length := h1.2
  simp only [List.length_cons]
  omega
end Go.Proofs.Ytgefdmkmobaefaa
