import Derived.Test.YtldgegojhaamoaaH24
import Derived.Test.YtldgegojhaamoaaAmLw
set_option linter.unusedSimpArgs false
set_option linter.unusedVariables false
namespace Go.Proofs.Ytldgegojhaamoaa
open Go.Am

abbrev tdD : List TD := [.i .i64, .i .i64, .l false [.i .u8]]
structure RngD (d : Dirty) : Prop where
  short : Short d
  frm : d.frm ≤ 9223372036854775807
theorem of_dirty {cs : List AV} (h : AllT tdD cs) : ∃ d : Dirty, AV.agg cs = D d ∧ RngD d := by
  obtain ⟨y1, r1, rfl, h1, h⟩ := h.cons
  obtain ⟨y2, r2, rfl, h2, h⟩ := h.cons
  obtain ⟨y3, r3, rfl, h3, h⟩ := h.cons
  obtain rfl := h.nil
  obtain ⟨n1, rfl, _, _⟩ := h1.int
  obtain ⟨n2, rfl, _, k2⟩ := h2.int
  obtain ⟨f, l, rfl, k3, _⟩ := h3.ints
  exact ⟨⟨n1, n2, f, l⟩, rfl, ⟨k3, k2⟩⟩
theorem law3 : ∀ args, ArgsT [(false, [.l true [.i .i64, .i .i64, .l false [.i .u8]]]), (false, [.i .i64]), (false, [.i .i64]), (false, [.l false [.i .u8]]), (false, [.l false [.i .u8]])] args → runP (C24.tab 25) c3 args = some (.bool true) := by
  intro args h
  obtain ⟨a1, r1, rfl, h1, h⟩ := h.inv
  obtain ⟨a2, r2, rfl, h2, h⟩ := h.inv
  obtain ⟨a3, r3, rfl, h3, h⟩ := h.inv
  obtain ⟨a4, r4, rfl, h4, h⟩ := h.inv
  obtain ⟨a5, r5, rfl, h5, h⟩ := h.inv
  obtain rfl := h.inv0
  obtain ⟨f1, l, rfl, k1, p1⟩ := h1.one.aggs D RngD fun cs hc => of_dirty hc
  obtain ⟨n2, rfl, _, _⟩ := h2.one.int
  obtain ⟨n3, rfl, _, k3⟩ := h3.one.int
  obtain ⟨f4, d, rfl, k4, _⟩ := h4.one.ints
  obtain ⟨f5, es, rfl, k5, _⟩ := h5.one.ints
  exact w3 l k1 (fun d hd => (p1 d hd).short) f1 f4 f5 n2 n3 k3 d es k4 k5
end Go.Proofs.Ytldgegojhaamoaa
