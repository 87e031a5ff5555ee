import Derived.Test.YtlooipgkklaijaaY18
import Derived.Test.YtlooipgkklaijaaAmLw
set_option linter.unusedSimpArgs false
set_option linter.unusedVariables false
namespace Go.Proofs.Ytlooipgkklaijaa
open Go.Am Go.Am.Nm Go.Lib Go.Deep Go.Am.Sh

theorem i64min : IntKind.i64.min = -9223372036854775808 := rfl
theorem nat_of {c : Int} (h : IntKind.u8.min ≤ c ∧ c ≤ IntKind.u8.max) : ∃ k : Nat, c = (k : Int) ∧ k < 256 := by
  obtain ⟨c1, c2⟩ := h
  have e1 : IntKind.u8.min = 0 := rfl
  have e2 : IntKind.u8.max = 255 := rfl
  exact ⟨c.toNat, by omega, by omega⟩
theorem piece_of {cs : List AV} (h : AllT [.s, .i .i64, .i .i64] cs) : ∃ d : P, AV.agg cs = D d ∧ d.pa.length ≤ maxLen := by
  obtain ⟨a, r, rfl, h1, h⟩ := h.cons
  obtain ⟨b, r, rfl, h2, h⟩ := h.cons
  obtain ⟨c, r, rfl, h3, h⟩ := h.cons
  have := h.nil; subst this
  obtain ⟨a, rfl, ha⟩ := h1.str
  obtain ⟨b, rfl, _⟩ := h2.int
  obtain ⟨c, rfl, _⟩ := h3.int
  exact ⟨⟨a, b, c⟩, rfl, ha⟩
theorem step_of {cs : List AV} (h : AllT [.i .u8, .s, .i .i64] cs) : ∃ d : Stp, AV.agg cs = T d ∧ d.pa.length ≤ maxLen := by
  obtain ⟨a, r, rfl, h1, h⟩ := h.cons
  obtain ⟨b, r, rfl, h2, h⟩ := h.cons
  obtain ⟨c, r, rfl, h3, h⟩ := h.cons
  have := h.nil; subst this
  obtain ⟨a, rfl, ha⟩ := h1.int
  obtain ⟨b, rfl, hb⟩ := h2.str
  obtain ⟨c, rfl, _⟩ := h3.int
  obtain ⟨k, rfl, _⟩ := nat_of ha
  exact ⟨⟨k, b, c⟩, rfl, hb⟩
theorem law3 (args : List AV) (h : ArgsT [(false, [.l true [.s, .i .i64, .i .i64]]), (false, [.i .u8]), (false, [.l true [.i .u8, .s, .i .i64]]), (true, [.i .u8, .s, .i .i64]), (false, [.s])] args) : runP (C18.tab 57) c3 args = some (.bool true) := by
  obtain ⟨r0, r, rfl, h1, h⟩ := h.inv
  obtain ⟨g, r, rfl, h2, h⟩ := h.inv
  obtain ⟨l, r, rfl, h3, h⟩ := h.inv
  obtain ⟨s, r, rfl, h4, h⟩ := h.inv
  obtain ⟨o, r, rfl, h5, h⟩ := h.inv
  have := h.inv0; subst this
  obtain ⟨f1, raw, rfl, hraw, _⟩ := h1.one.aggs D (fun d => d.pa.length ≤ maxLen) (fun _ => piece_of)
  obtain ⟨g, rfl, hg⟩ := h2.one.int
  obtain ⟨g, rfl, hg'⟩ := nat_of hg
  obtain ⟨f2, l, rfl, hl, _⟩ := h3.one.aggs T (fun d => d.pa.length ≤ maxLen) (fun _ => step_of)
  obtain ⟨cs, rfl, hcs⟩ := h4.agg
  obtain ⟨s, e, hs⟩ := step_of hcs
  obtain ⟨o, rfl, ho⟩ := h5.one.str
  rw [e]
  exact lp3 raw f1 hraw g hg' l f2 hl s hs o ho
theorem law4 (args : List AV) (h : ArgsT [(false, [.i .u8]), (false, [.l true [.i .u8, .s, .i .i64]]), (true, [.i .u8, .s, .i .i64])] args) : runP (C18.tab 58) c4 args = some (.bool true) := by
  obtain ⟨g, r, rfl, h2, h⟩ := h.inv
  obtain ⟨l, r, rfl, h3, h⟩ := h.inv
  obtain ⟨s, r, rfl, h4, h⟩ := h.inv
  have := h.inv0; subst this
  obtain ⟨g, rfl, hg⟩ := h2.one.int
  obtain ⟨g, rfl, hg'⟩ := nat_of hg
  obtain ⟨f2, l, rfl, hl, _⟩ := h3.one.aggs T (fun d => d.pa.length ≤ maxLen) (fun _ => step_of)
  obtain ⟨cs, rfl, hcs⟩ := h4.agg
  obtain ⟨s, e, hs⟩ := step_of hcs
  rw [e]
  exact lp4 g hg' l f2 hl s hs
theorem law5 (args : List AV) (h : ArgsT [(false, [.i .u8]), (false, [.l true [.i .u8, .s, .i .i64]]), (false, [.s])] args) : runP (C18.tab 59) c5 args = some (.bool true) := by
  obtain ⟨g, r, rfl, h2, h⟩ := h.inv
  obtain ⟨l, r, rfl, h3, h⟩ := h.inv
  obtain ⟨o, r, rfl, h5, h⟩ := h.inv
  have := h.inv0; subst this
  obtain ⟨g, rfl, hg⟩ := h2.one.int
  obtain ⟨g, rfl, hg'⟩ := nat_of hg
  obtain ⟨f2, l, rfl, hl, _⟩ := h3.one.aggs T (fun d => d.pa.length ≤ maxLen) (fun _ => step_of)
  obtain ⟨o, rfl, ho⟩ := h5.one.str
  exact lp5 g hg' l f2 hl o ho
theorem law6 (args : List AV) (h : ArgsT [(false, [.i .u8]), (false, [.l true [.i .u8, .s, .i .i64]]), (false, [.s]), (false, [.i .u8]), (false, [.s])] args) : runP (C18.tab 60) c6 args = some (.bool true) := by
  obtain ⟨g, r, rfl, h2, h⟩ := h.inv
  obtain ⟨l, r, rfl, h3, h⟩ := h.inv
  obtain ⟨s, r, rfl, h5, h⟩ := h.inv
  obtain ⟨t, r, rfl, h6, h⟩ := h.inv
  obtain ⟨o, r, rfl, h7, h⟩ := h.inv
  have := h.inv0; subst this
  obtain ⟨g, rfl, hg⟩ := h2.one.int
  obtain ⟨g, rfl, hg'⟩ := nat_of hg
  obtain ⟨f2, l, rfl, hl, _⟩ := h3.one.aggs T (fun d => d.pa.length ≤ maxLen) (fun _ => step_of)
  obtain ⟨s, rfl, hs⟩ := h5.one.str
  obtain ⟨t, rfl, ht⟩ := h6.one.int
  obtain ⟨t, rfl, ht'⟩ := nat_of ht
  obtain ⟨o, rfl, ho⟩ := h7.one.str
  exact lp6 g hg' l f2 hl s hs t ht' o ho
theorem law7 (args : List AV) (h : ArgsT [(false, [.i .u8]), (false, [.l true [.i .u8, .s, .i .i64]]), (true, [.i .u8, .s, .i .i64]), (false, [.s])] args) : runP (C18.tab 61) c7 args = some (.bool true) := by
  obtain ⟨g, r, rfl, h2, h⟩ := h.inv
  obtain ⟨l, r, rfl, h3, h⟩ := h.inv
  obtain ⟨s, r, rfl, h4, h⟩ := h.inv
  obtain ⟨o, r, rfl, h5, h⟩ := h.inv
  have := h.inv0; subst this
  obtain ⟨g, rfl, hg⟩ := h2.one.int
  obtain ⟨g, rfl, hg'⟩ := nat_of hg
  obtain ⟨f2, l, rfl, hl, _⟩ := h3.one.aggs T (fun d => d.pa.length ≤ maxLen) (fun _ => step_of)
  obtain ⟨cs, rfl, hcs⟩ := h4.agg
  obtain ⟨s, e, hs⟩ := step_of hcs
  obtain ⟨o, rfl, ho⟩ := h5.one.str
  rw [e]
  exact lp7 g hg' l f2 hl s hs o ho
theorem law8 (args : List AV) (h : ArgsT [(false, [.i .u8]), (false, [.l true [.i .u8, .s, .i .i64]]), (false, [.s]), (false, [.i .u8]), (false, [.s])] args) : runP (C18.tab 62) c8 args = some (.bool true) := by
  obtain ⟨g, r, rfl, h2, h⟩ := h.inv
  obtain ⟨l, r, rfl, h3, h⟩ := h.inv
  obtain ⟨s, r, rfl, h5, h⟩ := h.inv
  obtain ⟨t, r, rfl, h6, h⟩ := h.inv
  obtain ⟨o, r, rfl, h7, h⟩ := h.inv
  have := h.inv0; subst this
  obtain ⟨g, rfl, hg⟩ := h2.one.int
  obtain ⟨g, rfl, hg'⟩ := nat_of hg
  obtain ⟨f2, l, rfl, hl, _⟩ := h3.one.aggs T (fun d => d.pa.length ≤ maxLen) (fun _ => step_of)
  obtain ⟨s, rfl, hs⟩ := h5.one.str
  obtain ⟨t, rfl, ht⟩ := h6.one.int
  obtain ⟨t, rfl, ht'⟩ := nat_of ht
  obtain ⟨o, rfl, ho⟩ := h7.one.str
  exact lp8 g hg' l f2 hl s hs t ht' o ho
theorem law9 (args : List AV) (h : ArgsT [(false, [.i .u8]), (false, [.l true [.i .u8, .s, .i .i64]]), (false, [.s]), (false, [.s])] args) : runP (C18.tab 63) c9 args = some (.bool true) := by
  obtain ⟨g, r, rfl, h2, h⟩ := h.inv
  obtain ⟨l, r, rfl, h3, h⟩ := h.inv
  obtain ⟨s, r, rfl, h5, h⟩ := h.inv
  obtain ⟨o, r, rfl, h7, h⟩ := h.inv
  have := h.inv0; subst this
  obtain ⟨g, rfl, hg⟩ := h2.one.int
  obtain ⟨g, rfl, hg'⟩ := nat_of hg
  obtain ⟨f2, l, rfl, hl, _⟩ := h3.one.aggs T (fun d => d.pa.length ≤ maxLen) (fun _ => step_of)
  obtain ⟨s, rfl, hs⟩ := h5.one.str
  obtain ⟨o, rfl, ho⟩ := h7.one.str
  exact lp9 g hg' l f2 hl s hs o ho
end Go.Proofs.Ytlooipgkklaijaa
