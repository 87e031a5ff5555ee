import Derived.Test.YtgefdmkmobaefaaU19
import Derived.Test.YtgefdmkmobaefaaAmLw
set_option linter.unusedSimpArgs false
set_option linter.unusedVariables false
namespace Go.Proofs.Ytgefdmkmobaefaa
open Go.Am Go.Am.Nm Go.Lib Go.Deep Go.Cr

theorem i64min : IntKind.i64.min = -9223372036854775808 := rfl
theorem nat_of {c : Int} (h : IntKind.u8.min ≤ c ∧ c ≤ IntKind.u8.max) : ∃ k : Nat, c = (k : Int) ∧ k < 256 := by
  obtain ⟨c1, c2⟩ := h
  have e1 : IntKind.u8.min = 0 := rfl
  have e2 : IntKind.u8.max = 255 := rfl
  exact ⟨c.toNat, by omega, by omega⟩
theorem deed_of {cs : List AV} (h : AllT [.i .i64, .l false [.i .i64], .l false [.s]] cs) : ∃ d : De, AV.agg cs = Dv d ∧ True := by
  obtain ⟨a, r, rfl, h1, h⟩ := h.cons
  obtain ⟨b, r, rfl, h2, h⟩ := h.cons
  obtain ⟨c, r, rfl, h3, h⟩ := h.cons
  have := h.nil; subst this
  obtain ⟨a, rfl, _⟩ := h1.int
  obtain ⟨f, b, rfl, _, _⟩ := h2.ints
  obtain ⟨g, c, rfl, _, _⟩ := h3.strs
  exact ⟨⟨a, f, b, g, c⟩, rfl, trivial⟩
theorem law3 (args : List AV) (h : ArgsT [(false, [.i .u8]), (false, [.l true [.i .i64, .l false [.i .i64], .l false [.s]]])] args) : runP (C19.tab 60) c3 args = some (.bool true) := by
  obtain ⟨a, r, rfl, h1, h⟩ := h.inv
  obtain ⟨b, r, rfl, h2, h⟩ := h.inv
  have := h.inv0; subst this
  obtain ⟨k, rfl, hk⟩ := h1.one.int
  obtain ⟨k, rfl, hk1⟩ := nat_of hk
  obtain ⟨f, l, rfl, _, _⟩ := h2.one.aggs Dv (fun _ => True) (fun _ => deed_of)
  rw [← p3 (n := 61) (by decide)]
  exact lp3 (by decide) k hk1 f l
end Go.Proofs.Ytgefdmkmobaefaa
