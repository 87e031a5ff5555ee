import Derived.Test.YtgefdmkmobaefaaWo19
import Derived.Test.YtgefdmkmobaefaaZ19
set_option linter.unusedSimpArgs false
set_option linter.unusedVariables false
namespace Go.Proofs.Ytgefdmkmobaefaa
open Go.Am Go.Am.Nm Go.Lib Go.Deep Go.Cr
theorem act_of {cs : List AV} (h : AllT [.i .u8, .i .u8, .i .u8, .i .u8, .i .u8, .i .u8] cs) : ∃ x : Ac, AV.agg cs = Xv x ∧ XOK x := by
 obtain ⟨a, r, rfl, h1, h⟩ := h.cons
 obtain ⟨b, r, rfl, h2, h⟩ := h.cons
 obtain ⟨c, r, rfl, h3, h⟩ := h.cons
 obtain ⟨d, r, rfl, h4, h⟩ := h.cons
 obtain ⟨e, r, rfl, h5, h⟩ := h.cons
 obtain ⟨g, r, rfl, h6, h⟩ := h.cons
 have := h.nil; subst this
 obtain ⟨a, rfl, k1⟩ := h1.int
 obtain ⟨b, rfl, k2⟩ := h2.int
 obtain ⟨c, rfl, k3⟩ := h3.int
 obtain ⟨d, rfl, k4⟩ := h4.int
 obtain ⟨e, rfl, k5⟩ := h5.int
 obtain ⟨g, rfl, k6⟩ := h6.int
 obtain ⟨a, rfl, m1⟩ := nat_of k1
 obtain ⟨b, rfl, m2⟩ := nat_of k2
 obtain ⟨c, rfl, m3⟩ := nat_of k3
 obtain ⟨d, rfl, m4⟩ := nat_of k4
 obtain ⟨e, rfl, m5⟩ := nat_of k5
 obtain ⟨g, rfl, m6⟩ := nat_of k6
 exact ⟨⟨a, b, c, d, e, g⟩, rfl, ⟨m1, m2, m3, m4, m5, m6⟩⟩
end Go.Proofs.Ytgefdmkmobaefaa
