import Derived.Test.YtgefdmkmobaefaaU19
import Derived.Test.YtgefdmkmobaefaaAmLw
set_option linter.unusedSimpArgs false
set_option linter.unusedVariables false
namespace Go.Proofs.Ytgefdmkmobaefaa
open Go.Am Go.Am.Nm Go.Lib Go.Deep Go.Cr
theorem nat_of {c : Int} (h : IntKind.u8.min ≤ c ∧ c ≤ IntKind.u8.max) : ∃ k : Nat, c = (k : Int) ∧ k < 256 := by
 obtain ⟨c1, c2⟩ := h
 have e1 : IntKind.u8.min = 0 := rfl
 have e2 : IntKind.u8.max = 255 := rfl
 exact ⟨c.toNat, by omega, by omega⟩
end Go.Proofs.Ytgefdmkmobaefaa
