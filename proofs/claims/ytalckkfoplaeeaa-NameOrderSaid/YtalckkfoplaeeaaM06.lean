import Derived.Test.YtalckkfoplaeeaaK06
import Derived.Test.YtalckkfoplaeeaaAmLw
set_option linter.unusedSimpArgs false
set_option linter.unusedVariables false
namespace Go.Proofs.Ytalckkfoplaeeaa
open Go.Am Go.Am.Nm Go.Lib Go.Deep

theorem two_u8 {cs : List AV} (h : AllT [.i .u8, .i .u8] cs) : ∃ a b : Nat, cs = [.int .u8 (a : Int), .int .u8 (b : Int)] ∧ a ≤ 255 ∧ b ≤ 255 := by
  obtain ⟨x, ys, rfl, hx, h⟩ := h.cons
  obtain ⟨y, ys, rfl, hy, h⟩ := h.cons
  have := h.nil; subst this
  obtain ⟨a, rfl, a1, a2⟩ := hx.int
  obtain ⟨b, rfl, b1, b2⟩ := hy.int
  obtain ⟨k, rfl⟩ : ∃ k : Nat, a = (k : Int) := ⟨a.toNat, (Int.toNat_of_nonneg a1).symm⟩
  obtain ⟨m, rfl⟩ : ∃ k : Nat, b = (k : Int) := ⟨b.toNat, (Int.toNat_of_nonneg b1).symm⟩
  have : IntKind.u8.max = 255 := rfl
  exact ⟨k, m, rfl, by omega, by omega⟩
theorem law6 (args : List AV) (h : ArgsT [(false, [.l false [.s]]), (false, [.l false [.s]]), (true, [.i .u8, .i .u8])] args) : runP (C06.tab 19) c6 args = some (.bool true) := by
  obtain ⟨l, r, rfl, h1, h⟩ := h.inv
  obtain ⟨m, r, rfl, h2, h⟩ := h.inv
  obtain ⟨a, r, rfl, h3, h⟩ := h.inv
  have := h.inv0; subst this
  obtain ⟨f, l, rfl, hl, _⟩ := h1.one.strs
  obtain ⟨g, m, rfl, hm, _⟩ := h2.one.strs
  obtain ⟨cs, rfl, hc⟩ := h3.agg
  obtain ⟨a, b, rfl, ha, hb⟩ := two_u8 hc
  exact lp6 l m f g hl hm a b ha hb
theorem law8 (args : List AV) (h : ArgsT [(false, [.l false [.s]]), (true, [.i .u8, .i .u8]), (false, [.i .u8])] args) : runP (C06.tab 21) c8 args = some (.bool true) := by
  obtain ⟨l, r, rfl, h1, h⟩ := h.inv
  obtain ⟨a, r, rfl, h3, h⟩ := h.inv
  obtain ⟨c, r, rfl, h2, h⟩ := h.inv
  have := h.inv0; subst this
  obtain ⟨f, l, rfl, hl, _⟩ := h1.one.strs
  obtain ⟨cs, rfl, hc⟩ := h3.agg
  obtain ⟨a, b, rfl, ha, hb⟩ := two_u8 hc
  obtain ⟨c, rfl, c1, c2⟩ := h2.one.int
  obtain ⟨k, rfl⟩ : ∃ k : Nat, c = (k : Int) := ⟨c.toNat, (Int.toNat_of_nonneg c1).symm⟩
  exact lp8 l f hl a b k ha hb (by have : IntKind.u8.max = 255 := rfl; omega)
end Go.Proofs.Ytalckkfoplaeeaa
