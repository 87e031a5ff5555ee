import Derived.Test.YtalckkfoplaeeaaI06
import Derived.Test.YtalckkfoplaeeaaAmLw
set_option linter.unusedSimpArgs false
set_option linter.unusedVariables false
namespace Go.Proofs.Ytalckkfoplaeeaa
open Go.Am Go.Am.Nm Go.Lib Go.Deep

theorem law3 (args : List AV) (h : ArgsT [(false, [.s]), (false, [.s]), (false, [.l false [.s]])] args) : runP (C06.tab 15) c3 args = some (.bool true) := by
  obtain ⟨a, r, rfl, h1, h⟩ := h.inv
  obtain ⟨b, r, rfl, h2, h⟩ := h.inv
  obtain ⟨l, r, rfl, h3, h⟩ := h.inv
  have := h.inv0; subst this
  obtain ⟨a, rfl, _⟩ := h1.one.str
  obtain ⟨b, rfl, _⟩ := h2.one.str
  obtain ⟨f, l, rfl, hl, _⟩ := h3.one.strs
  exact lp3 a b l f hl
theorem law4 (args : List AV) (h : ArgsT [(false, [.l false [.s]])] args) : runP (C06.tab 16) c4 args = some (.bool true) := by
  obtain ⟨l, r, rfl, h3, h⟩ := h.inv
  have := h.inv0; subst this
  obtain ⟨f, l, rfl, hl, _⟩ := h3.one.strs
  exact lp4 l f hl
theorem law5 (args : List AV) (h : ArgsT [(false, [.s])] args) : runP (C06.tab 17) c5 args = some (.bool true) := by
  obtain ⟨a, r, rfl, h1, h⟩ := h.inv
  have := h.inv0; subst this
  obtain ⟨a, rfl, _⟩ := h1.one.str
  exact lp5 a
theorem law7 (args : List AV) (h : ArgsT [(false, [.l false [.s]]), (false, [.s])] args) : runP (C06.tab 20) c7 args = some (.bool true) := by
  obtain ⟨l, r, rfl, h3, h⟩ := h.inv
  obtain ⟨a, r, rfl, h1, h⟩ := h.inv
  have := h.inv0; subst this
  obtain ⟨f, l, rfl, hl, _⟩ := h3.one.strs
  obtain ⟨a, rfl, _⟩ := h1.one.str
  exact lp7 l f hl a
theorem law9 (args : List AV) (h : ArgsT [(false, [.l false [.s]]), (false, [.i .u8])] args) : runP (C06.tab 22) c9 args = some (.bool true) := by
  obtain ⟨l, r, rfl, h3, h⟩ := h.inv
  obtain ⟨a, r, rfl, h1, h⟩ := h.inv
  have := h.inv0; subst this
  obtain ⟨f, l, rfl, hl, _⟩ := h3.one.strs
  obtain ⟨c, rfl, c1, c2⟩ := h1.one.int
  obtain ⟨k, rfl⟩ : ∃ k : Nat, c = (k : Int) := ⟨c.toNat, (Int.toNat_of_nonneg c1).symm⟩
  exact lp9 l f hl k (by have : IntKind.u8.max = 255 := rfl; omega)
end Go.Proofs.Ytalckkfoplaeeaa
