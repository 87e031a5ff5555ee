import Derived.Test.YtldgegojhaamoaaN24
import Derived.Test.YtldgegojhaamoaaL24a
set_option linter.unusedSimpArgs false
set_option linter.unusedVariables false
namespace Go.Proofs.Ytldgegojhaamoaa
open Go.Am

theorem of_stored {cs : List AV} (h : AllT tdD cs) : ∃ d : Stored, AV.agg cs = S d ∧ d.dat.length ≤ 9223372036854775807 := by
  obtain ⟨y1, r1, rfl, h1, h⟩ := h.cons
  obtain ⟨y2, r2, rfl, h2, h⟩ := h.cons
  obtain ⟨y3, r3, rfl, h3, h⟩ := h.cons
  obtain rfl := h.nil
  obtain ⟨n1, rfl, _, _⟩ := h1.int
  obtain ⟨n2, rfl, _, k2⟩ := h2.int
  obtain ⟨f, l, rfl, k3, _⟩ := h3.ints
  exact ⟨⟨n1, n2, f, l⟩, rfl, k3⟩
theorem law4 : ∀ args, ArgsT [(false, [.l true tdD]), (true, tdD), (false, [.i .i64])] args → runP (C24.tab 32) c4 args = some (.bool true) := by
  intro args h
  obtain ⟨a1, r1, rfl, h1, h⟩ := h.inv
  obtain ⟨a2, r2, rfl, h2, h⟩ := h.inv
  obtain ⟨a3, r3, rfl, h3, h⟩ := h.inv
  obtain rfl := h.inv0
  obtain ⟨f1, l, rfl, k1, p1⟩ := h1.one.aggs S (fun d => d.dat.length ≤ 9223372036854775807) fun cs hc => of_stored hc
  obtain ⟨cs, rfl, hc⟩ := h2.agg
  obtain ⟨d, hd, hr⟩ := of_dirty hc
  rw [hd]
  obtain ⟨n3, rfl, _, k3⟩ := h3.one.int
  exact w4 l k1 p1 f1 d hr.short n3
theorem law5 : ∀ args, ArgsT [(false, [.l true tdD]), (true, tdD), (false, [.l false [.i .u8]]), (false, [.i .i64])] args → runP (C24.tab 33) c5 args = some (.bool true) := by
  intro args h
  obtain ⟨a1, r1, rfl, h1, h⟩ := h.inv
  obtain ⟨a2, r2, rfl, h2, h⟩ := h.inv
  obtain ⟨a3, r3, rfl, h3, h⟩ := h.inv
  obtain ⟨a4, r4, rfl, h4, h⟩ := h.inv
  obtain rfl := h.inv0
  obtain ⟨f1, l, rfl, k1, p1⟩ := h1.one.aggs D RngD fun cs hc => of_dirty hc
  obtain ⟨cs, rfl, hc⟩ := h2.agg
  obtain ⟨d, hd, hr⟩ := of_dirty hc
  rw [hd]
  obtain ⟨f3, es, rfl, k3, _⟩ := h3.one.ints
  obtain ⟨n4, rfl, _, k4⟩ := h4.one.int
  exact w5 l k1 (fun d hd => (p1 d hd).short) f1 f3 d hr.short es k3 n4
theorem law6 : ∀ args, ArgsT [(false, [.l true tdD]), (false, [.i .i64]), (false, [.l false [.i .u8]])] args → runP (C24.tab 35) c6 args = some (.bool true) := by
  intro args h
  obtain ⟨a1, r1, rfl, h1, h⟩ := h.inv
  obtain ⟨a2, r2, rfl, h2, h⟩ := h.inv
  obtain ⟨a3, r3, rfl, h3, h⟩ := h.inv
  obtain rfl := h.inv0
  obtain ⟨f1, l, rfl, k1, p1⟩ := h1.one.aggs D RngD fun cs hc => of_dirty hc
  obtain ⟨n2, rfl, _, k2⟩ := h2.one.int
  obtain ⟨f3, es, rfl, k3, _⟩ := h3.one.ints
  exact w6 l k1 (fun d hd => (p1 d hd).short) f1 f3 n2 es k3
theorem law7 : ∀ args, ArgsT [(false, [.l true tdD]), (false, [.i .u8]), (false, [.l false [.i .u8]]), (false, [.i .i64])] args → runP (C24.tab 36) c7 args = some (.bool true) := by
  intro args h
  obtain ⟨a1, r1, rfl, h1, h⟩ := h.inv
  obtain ⟨a2, r2, rfl, h2, h⟩ := h.inv
  obtain ⟨a3, r3, rfl, h3, h⟩ := h.inv
  obtain ⟨a4, r4, rfl, h4, h⟩ := h.inv
  obtain rfl := h.inv0
  obtain ⟨f1, l, rfl, k1, p1⟩ := h1.one.aggs D RngD fun cs hc => of_dirty hc
  obtain ⟨n2, rfl, k2, k2'⟩ := h2.one.int
  obtain ⟨f3, es, rfl, k3, _⟩ := h3.one.ints
  obtain ⟨n4, rfl, _, k4⟩ := h4.one.int
  exact w7 l k1 (fun d hd => (p1 d hd).short) f1 f3 n2 k2 k2' es k3 n4
theorem law8 : ∀ args, ArgsT [(false, [.l true tdD]), (true, tdD), (false, [.l false [.i .u8]]), (false, [.i .u8]), (false, [.i .i64])] args → runP (C24.tab 37) c8 args = some (.bool true) := by
  intro args h
  obtain ⟨a1, r1, rfl, h1, h⟩ := h.inv
  obtain ⟨a2, r2, rfl, h2, h⟩ := h.inv
  obtain ⟨a3, r3, rfl, h3, h⟩ := h.inv
  obtain ⟨a4, r4, rfl, h4, h⟩ := h.inv
  obtain ⟨a5, r5, rfl, h5, h⟩ := h.inv
  obtain rfl := h.inv0
  obtain ⟨f1, l, rfl, k1, p1⟩ := h1.one.aggs S (fun d => d.dat.length ≤ 9223372036854775807) fun cs hc => of_stored hc
  obtain ⟨cs, rfl, hc⟩ := h2.agg
  obtain ⟨d, hd, hr⟩ := of_dirty hc
  rw [hd]
  obtain ⟨f3, eps, rfl, k3, p3⟩ := h3.one.ints
  obtain ⟨n4, rfl, k4, k4'⟩ := h4.one.int
  obtain ⟨n5, rfl, _, _⟩ := h5.one.int
  exact w8 l k1 p1 f1 d hr.short f3 eps k3 p3 n4 k4 k4' n5
end Go.Proofs.Ytldgegojhaamoaa
