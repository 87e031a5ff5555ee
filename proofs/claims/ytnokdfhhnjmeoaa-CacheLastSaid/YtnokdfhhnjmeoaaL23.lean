import Derived.Test.YtnokdfhhnjmeoaaO23
import Derived.Test.YtnokdfhhnjmeoaaQ23
import Derived.Test.YtnokdfhhnjmeoaaR23
import Derived.Test.YtnokdfhhnjmeoaaS23
import Derived.Test.YtnokdfhhnjmeoaaT23
import Derived.Test.YtnokdfhhnjmeoaaAmLw
set_option linter.unusedSimpArgs false
set_option linter.unusedVariables false
namespace Go.Proofs.Ytnokdfhhnjmeoaa
open Go.Am Go.Am.Kp

abbrev tdA : List TD := [.i .u8, .i .i64, .i .i64, .s, .i .i64, .l false [.i .u8], .i .i64]
abbrev tdK : List TD := [.i .i64, .s, .i .i64, .i .i64, .l false [.i .u8], .i .i64]
theorem of_act {cs : List AV} (h : AllT tdA cs) : ∃ a : Act, AV.agg cs = A a ∧ a.Rng := by
  obtain ⟨y1, r1, rfl, h1, h⟩ := h.cons
  obtain ⟨y2, r2, rfl, h2, h⟩ := h.cons
  obtain ⟨y3, r3, rfl, h3, h⟩ := h.cons
  obtain ⟨y4, r4, rfl, h4, h⟩ := h.cons
  obtain ⟨y5, r5, rfl, h5, h⟩ := h.cons
  obtain ⟨y6, r6, rfl, h6, h⟩ := h.cons
  obtain ⟨y7, r7, rfl, h7, h⟩ := h.cons
  obtain rfl := h.nil
  obtain ⟨n1, rfl, k1, k1'⟩ := h1.int
  obtain ⟨n2, rfl, _, _⟩ := h2.int
  obtain ⟨n3, rfl, _, _⟩ := h3.int
  obtain ⟨m, rfl, km⟩ := h4.str
  obtain ⟨n5, rfl, _, _⟩ := h5.int
  obtain ⟨f, l, rfl, k6, _⟩ := h6.ints
  obtain ⟨n7, rfl, _, _⟩ := h7.int
  exact ⟨⟨n1, n2, n3, m, n5, f, l, n7⟩, rfl, ⟨⟨km, k6⟩, k1, k1'⟩⟩
theorem of_row {cs : List AV} (h : AllT tdK cs) : ∃ k : K, AV.agg cs = D k ∧ (k.name.length ≤ 9223372036854775807 ∧ k.dat.length ≤ 9223372036854775807) := by
  obtain ⟨y1, r1, rfl, h1, h⟩ := h.cons
  obtain ⟨y2, r2, rfl, h2, h⟩ := h.cons
  obtain ⟨y3, r3, rfl, h3, h⟩ := h.cons
  obtain ⟨y4, r4, rfl, h4, h⟩ := h.cons
  obtain ⟨y5, r5, rfl, h5, h⟩ := h.cons
  obtain ⟨y6, r6, rfl, h6, h⟩ := h.cons
  obtain rfl := h.nil
  obtain ⟨n1, rfl, _, _⟩ := h1.int
  obtain ⟨m, rfl, km⟩ := h2.str
  obtain ⟨n3, rfl, _, _⟩ := h3.int
  obtain ⟨n4, rfl, _, _⟩ := h4.int
  obtain ⟨f, l, rfl, k5, _⟩ := h5.ints
  obtain ⟨n6, rfl, _, _⟩ := h6.int
  exact ⟨⟨n1, m, n3, n4, f, l, n6⟩, rfl, km, k5⟩
theorem law3 : ∀ args, ArgsT [(false, [.l true tdA]), (false, [.l true tdK]), (true, tdA), (false, [.i .i64])] args → runP (C23.tab 46) c3 args = some (.bool true) := by
  intro args h
  obtain ⟨a1, r1, rfl, h1, h⟩ := h.inv
  obtain ⟨a2, r2, rfl, h2, h⟩ := h.inv
  obtain ⟨a3, r3, rfl, h3, h⟩ := h.inv
  obtain ⟨a4, r4, rfl, h4, h⟩ := h.inv
  obtain rfl := h.inv0
  obtain ⟨f1, l, rfl, k1, p1⟩ := h1.one.aggs A Act.Rng fun cs hc => of_act hc
  obtain ⟨f2, m, rfl, k2, p2⟩ := h2.one.aggs D (fun k => k.name.length ≤ 9223372036854775807 ∧ k.dat.length ≤ 9223372036854775807) fun cs hc => of_row hc
  obtain ⟨cs, rfl, hc⟩ := h3.agg
  obtain ⟨x, hd, hr⟩ := of_act hc
  rw [hd]
  obtain ⟨n4, rfl, _, _⟩ := h4.one.int
  exact w3 l f1 k1 p1 m f2 k2 p2 x hr n4
theorem law4 : ∀ args, ArgsT [(false, [.l true tdA]), (true, tdA), (false, [.i .i64])] args → runP (C23.tab 47) c4 args = some (.bool true) := by
  intro args h
  obtain ⟨a1, r1, rfl, h1, h⟩ := h.inv
  obtain ⟨a3, r3, rfl, h3, h⟩ := h.inv
  obtain ⟨a4, r4, rfl, h4, h⟩ := h.inv
  obtain rfl := h.inv0
  obtain ⟨f1, l, rfl, k1, p1⟩ := h1.one.aggs A Act.Rng fun cs hc => of_act hc
  obtain ⟨cs, rfl, hc⟩ := h3.agg
  obtain ⟨x, hd, hr⟩ := of_act hc
  rw [hd]
  obtain ⟨n4, rfl, _, _⟩ := h4.one.int
  exact w4 l f1 k1 p1 x hr n4
theorem law5 : ∀ args, ArgsT [(false, [.l true tdA]), (true, tdA), (true, tdA)] args → runP (C23.tab 48) c5 args = some (.bool true) := by
  intro args h
  obtain ⟨a1, r1, rfl, h1, h⟩ := h.inv
  obtain ⟨a3, r3, rfl, h3, h⟩ := h.inv
  obtain ⟨a4, r4, rfl, h4, h⟩ := h.inv
  obtain rfl := h.inv0
  obtain ⟨f1, l, rfl, k1, p1⟩ := h1.one.aggs A Act.Rng fun cs hc => of_act hc
  obtain ⟨cs, rfl, hc⟩ := h3.agg
  obtain ⟨x, hd, hr⟩ := of_act hc
  rw [hd]
  obtain ⟨cs', rfl, hc'⟩ := h4.agg
  obtain ⟨y, hd', hr'⟩ := of_act hc'
  rw [hd']
  exact w5 l f1 k1 p1 x y hr hr'
theorem law6 : ∀ args, ArgsT [(false, [.l true tdA]), (true, tdA), (false, [.i .i64]), (false, [.i .u16])] args → runP (C23.tab 49) c6 args = some (.bool true) := by
  intro args h
  obtain ⟨a1, r1, rfl, h1, h⟩ := h.inv
  obtain ⟨a3, r3, rfl, h3, h⟩ := h.inv
  obtain ⟨a4, r4, rfl, h4, h⟩ := h.inv
  obtain ⟨a5, r5, rfl, h5, h⟩ := h.inv
  obtain rfl := h.inv0
  obtain ⟨f1, l, rfl, k1, p1⟩ := h1.one.aggs A Act.Rng fun cs hc => of_act hc
  obtain ⟨cs, rfl, hc⟩ := h3.agg
  obtain ⟨x, hd, hr⟩ := of_act hc
  rw [hd]
  obtain ⟨n4, rfl, _, _⟩ := h4.one.int
  obtain ⟨n5, rfl, k5, k5'⟩ := h5.one.int
  exact w6 l f1 k1 p1 x hr n4 n5 k5 k5'
theorem law7 : ∀ args, ArgsT [(false, [.l true tdA]), (true, tdA), (false, [.i .i64]), (false, [.i .i64])] args → runP (C23.tab 50) c7 args = some (.bool true) := by
  intro args h
  obtain ⟨a1, r1, rfl, h1, h⟩ := h.inv
  obtain ⟨a3, r3, rfl, h3, h⟩ := h.inv
  obtain ⟨a4, r4, rfl, h4, h⟩ := h.inv
  obtain ⟨a5, r5, rfl, h5, h⟩ := h.inv
  obtain rfl := h.inv0
  obtain ⟨f1, l, rfl, k1, p1⟩ := h1.one.aggs A Act.Rng fun cs hc => of_act hc
  obtain ⟨cs, rfl, hc⟩ := h3.agg
  obtain ⟨x, hd, hr⟩ := of_act hc
  rw [hd]
  obtain ⟨n4, rfl, _, _⟩ := h4.one.int
  obtain ⟨n5, rfl, _, _⟩ := h5.one.int
  exact w7 l f1 k1 p1 x hr n4 n5
theorem law8 : ∀ args, ArgsT [(false, [.l true tdA])] args → runP (C23.tab 51) c8 args = some (.bool true) := by
  intro args h
  obtain ⟨a1, r1, rfl, h1, h⟩ := h.inv
  obtain rfl := h.inv0
  obtain ⟨f1, l, rfl, k1, p1⟩ := h1.one.aggs A Act.Rng fun cs hc => of_act hc
  exact w8 l f1 k1 p1
end Go.Proofs.Ytnokdfhhnjmeoaa
