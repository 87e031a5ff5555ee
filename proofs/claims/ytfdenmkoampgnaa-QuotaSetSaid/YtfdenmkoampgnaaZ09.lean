import Derived.Test.YtfdenmkoampgnaaP09d
import Derived.Test.YtfdenmkoampgnaaP09e
import Derived.Test.YtfdenmkoampgnaaAmLw
set_option linter.unusedSimpArgs false
set_option linter.unusedVariables false
namespace Go.Proofs.Ytfdenmkoampgnaa
open Go.Am Go.Tr

theorem u8_of {c : Int} (h : IntKind.u8.min ≤ c ∧ c ≤ IntKind.u8.max) : ∃ b : UInt8, c = (b.toNat : Int) := by
  obtain ⟨c1, c2⟩ := h
  have e1 : IntKind.u8.min = 0 := rfl
  have e2 : IntKind.u8.max = 255 := rfl
  refine ⟨UInt8.ofNat c.toNat, ?_⟩
  rw [UInt8.toNat_ofNat_of_lt' (show c.toNat < 2 ^ 8 by omega)]
  omega
theorem bytes_of : ∀ {l : List Int}, (∀ n ∈ l, IntKind.u8.min ≤ n ∧ n ≤ IntKind.u8.max) → ∃ r : List UInt8, l.map (AV.int .u8) = r.map B ∧ r.length = l.length
  | [], _ => ⟨[], rfl, rfl⟩
  | n :: l, h => by
    obtain ⟨b, hb⟩ := u8_of (h n List.mem_cons_self)
    obtain ⟨r, h1, h2⟩ := bytes_of (l := l) fun m hm => h m (List.mem_cons_of_mem _ hm)
    exact ⟨b :: r, by rw [List.map_cons, List.map_cons, h1, hb], by rw [List.length_cons, List.length_cons, h2]⟩
theorem step_of {cs : List AV} (h : AllT [.i .u8, .i .u8, .i .u8, .i .u8, .i .u8, .l false [.i .u8]] cs) : ∃ s : Sd, AV.agg cs = Sv s ∧ s.data.length ≤ 9223372036854775807 := by
  obtain ⟨a, r, rfl, h1, h⟩ := h.cons
  obtain ⟨b, r, rfl, h2, h⟩ := h.cons
  obtain ⟨c, r, rfl, h3, h⟩ := h.cons
  obtain ⟨d, r, rfl, h4, h⟩ := h.cons
  obtain ⟨e, r, rfl, h5, h⟩ := h.cons
  obtain ⟨k, r, rfl, h6, h⟩ := h.cons
  have := h.nil; subst this
  obtain ⟨a, rfl, q1⟩ := h1.int
  obtain ⟨b, rfl, q2⟩ := h2.int
  obtain ⟨c, rfl, q3⟩ := h3.int
  obtain ⟨d, rfl, q4⟩ := h4.int
  obtain ⟨e, rfl, q5⟩ := h5.int
  obtain ⟨f, l, rfl, hl, hb⟩ := h6.ints
  obtain ⟨a, rfl⟩ := u8_of q1
  obtain ⟨b, rfl⟩ := u8_of q2
  obtain ⟨c, rfl⟩ := u8_of q3
  obtain ⟨d, rfl⟩ := u8_of q4
  obtain ⟨e, rfl⟩ := u8_of q5
  obtain ⟨r, hr, hrl⟩ := bytes_of hb
  have hm : maxLen ≤ 9223372036854775807 := by decide
  rw [hr]
  exact ⟨⟨a, b, c, d, e, f, r⟩, rfl, by simp only; omega⟩
theorem steps_of {a : AV} (h : HasT (.l true [.i .u8, .i .u8, .i .u8, .i .u8, .i .u8, .l false [.i .u8]]) a) : ∃ (f : Bool) (l : List Sd), a = .lst f (l.map Sv) ∧ l.length ≤ 9223372036854775807 ∧ ∀ s ∈ l, s.data.length ≤ 9223372036854775807 := by
  obtain ⟨f, l, rfl, hl, hp⟩ := h.aggs Sv (fun e => e.data.length ≤ 9223372036854775807) (fun _ => step_of)
  have hx : maxLen ≤ 9223372036854775807 := by decide
  exact ⟨f, l, rfl, by omega, hp⟩
theorem i8min : IntKind.i8.min = -128 := rfl
theorem i8max : IntKind.i8.max = 127 := rfl
theorem give_of {cs : List AV} (h : AllT [.i .u8, .i .i8, .i .i8] cs) : ∃ s : Gi, AV.agg cs = Gv s ∧ True := by
  obtain ⟨a, r, rfl, h1, h⟩ := h.cons
  obtain ⟨b, r, rfl, h2, h⟩ := h.cons
  obtain ⟨c, r, rfl, h3, h⟩ := h.cons
  have := h.nil; subst this
  obtain ⟨a, rfl, q1⟩ := h1.int
  obtain ⟨b, rfl, q2⟩ := h2.int
  obtain ⟨c, rfl, q3⟩ := h3.int
  obtain ⟨a, rfl⟩ := u8_of q1
  rw [i8min, i8max] at q2 q3
  exact ⟨⟨a, b, c, q2.1, q2.2, q3.1, q3.2⟩, rfl, trivial⟩
theorem quota_of {cs : List AV} (h : AllT [.i .i64, .i .i64, .i .i64] cs) : ∃ s : Qu, AV.agg cs = Qv s ∧ True := by
  obtain ⟨a, r, rfl, h1, h⟩ := h.cons
  obtain ⟨b, r, rfl, h2, h⟩ := h.cons
  obtain ⟨c, r, rfl, h3, h⟩ := h.cons
  have := h.nil; subst this
  obtain ⟨a, rfl, _⟩ := h1.int
  obtain ⟨b, rfl, _⟩ := h2.int
  obtain ⟨c, rfl, _⟩ := h3.int
  exact ⟨⟨a, b, c⟩, rfl, trivial⟩
theorem gives_of {a : AV} (h : HasT (.l true [.i .u8, .i .i8, .i .i8]) a) : ∃ (f : Bool) (l : List Gi), a = .lst f (l.map Gv) ∧ l.length ≤ 9223372036854775807 := by
  obtain ⟨f, l, rfl, hl, _⟩ := h.aggs Gv (fun _ => True) (fun _ => give_of)
  have hx : maxLen ≤ 9223372036854775807 := by decide
  exact ⟨f, l, rfl, by omega⟩
theorem quotas_of {a : AV} (h : HasT (.l true [.i .i64, .i .i64, .i .i64]) a) : ∃ (f : Bool) (l : List Qu), a = .lst f (l.map Qv) ∧ l.length ≤ 9223372036854775807 := by
  obtain ⟨f, l, rfl, hl, _⟩ := h.aggs Qv (fun _ => True) (fun _ => quota_of)
  have hx : maxLen ≤ 9223372036854775807 := by decide
  exact ⟨f, l, rfl, by omega⟩
theorem pair_of {cs : List AV} (h : AllT [.i .i64, .i .i64] cs) : ∃ x y, AV.agg cs = .agg [I x, I y] := by
  obtain ⟨a, r, rfl, h1, h⟩ := h.cons
  obtain ⟨b, r, rfl, h2, h⟩ := h.cons
  have := h.nil; subst this
  obtain ⟨a, rfl, _⟩ := h1.int
  obtain ⟨b, rfl, _⟩ := h2.int
  exact ⟨a, b, rfl⟩
theorem law3 (args : List AV) (h : ArgsT [(false, [.l true [.i .u8, .i .u8, .i .u8, .i .u8, .i .u8, .l false [.i .u8]]]), (false, [.l true [.i .u8, .i .i8, .i .i8]]), (false, [.i .u8]), (false, [.i .u8]), (true, [.i .i64, .i .i64]), (false, [.l true [.i .i64, .i .i64, .i .i64]])] args) : runP (C09.tab 66) c3 args = some (.bool true) := by
  obtain ⟨x0, r, rfl, h0, h⟩ := h.inv
  obtain ⟨x1, r, rfl, h1, h⟩ := h.inv
  obtain ⟨x2, r, rfl, h2, h⟩ := h.inv
  obtain ⟨x3, r, rfl, h3, h⟩ := h.inv
  obtain ⟨x4, r, rfl, h4, h⟩ := h.inv
  obtain ⟨x5, r, rfl, h5, h⟩ := h.inv
  have := h.inv0; subst this
  obtain ⟨f, l, rfl, hl, hd⟩ := steps_of h0.one
  obtain ⟨g, gs, rfl, hg⟩ := gives_of h1.one
  obtain ⟨x2, rfl, k2⟩ := h2.one.int
  obtain ⟨x2, rfl⟩ := u8_of k2
  obtain ⟨x3, rfl, k3⟩ := h3.one.int
  obtain ⟨x3, rfl⟩ := u8_of k3
  obtain ⟨cs, rfl, k4⟩ := h4.agg
  obtain ⟨u, v, e4⟩ := pair_of k4
  rw [e4]
  obtain ⟨fq, q, rfl, hq⟩ := quotas_of h5.one
  exact lp3 l hl hd f gs hg g x2 x3 u v q hq fq
theorem law4 (args : List AV) (h : ArgsT [(false, [.l true [.i .u8, .i .u8, .i .u8, .i .u8, .i .u8, .l false [.i .u8]]]), (false, [.i .u8])] args) : runP (C09.tab 67) c4 args = some (.bool true) := by
  obtain ⟨x0, r, rfl, h0, h⟩ := h.inv
  obtain ⟨x1, r, rfl, h1, h⟩ := h.inv
  have := h.inv0; subst this
  obtain ⟨f, l, rfl, hl, hd⟩ := steps_of h0.one
  obtain ⟨x1, rfl, k1⟩ := h1.one.int
  obtain ⟨x1, rfl⟩ := u8_of k1
  exact lp4 l hl hd f x1
theorem law5 (args : List AV) (h : ArgsT [(false, [.l true [.i .u8, .i .u8, .i .u8, .i .u8, .i .u8, .l false [.i .u8]]]), (false, [.l true [.i .u8, .i .i8, .i .i8]]), (false, [.i .u8]), (false, [.i .i64]), (false, [.i .i64])] args) : runP (C09.tab 68) c5 args = some (.bool true) := by
  obtain ⟨x0, r, rfl, h0, h⟩ := h.inv
  obtain ⟨x1, r, rfl, h1, h⟩ := h.inv
  obtain ⟨x2, r, rfl, h2, h⟩ := h.inv
  obtain ⟨x3, r, rfl, h3, h⟩ := h.inv
  obtain ⟨x4, r, rfl, h4, h⟩ := h.inv
  have := h.inv0; subst this
  obtain ⟨f, l, rfl, hl, hd⟩ := steps_of h0.one
  obtain ⟨g, gs, rfl, hg⟩ := gives_of h1.one
  obtain ⟨x2, rfl, k2⟩ := h2.one.int
  obtain ⟨x2, rfl⟩ := u8_of k2
  obtain ⟨x3, rfl, _⟩ := h3.one.int
  obtain ⟨x4, rfl, _⟩ := h4.one.int
  exact lp5 l hl hd f gs hg g x2 x3 x4
theorem law6 (args : List AV) (h : ArgsT [(false, [.l true [.i .u8, .i .u8, .i .u8, .i .u8, .i .u8, .l false [.i .u8]]]), (false, [.l true [.i .u8, .i .i8, .i .i8]]), (false, [.i .u8])] args) : runP (C09.tab 69) c6 args = some (.bool true) := by
  obtain ⟨x0, r, rfl, h0, h⟩ := h.inv
  obtain ⟨x1, r, rfl, h1, h⟩ := h.inv
  obtain ⟨x2, r, rfl, h2, h⟩ := h.inv
  have := h.inv0; subst this
  obtain ⟨f, l, rfl, hl, hd⟩ := steps_of h0.one
  obtain ⟨g, gs, rfl, hg⟩ := gives_of h1.one
  obtain ⟨x2, rfl, k2⟩ := h2.one.int
  obtain ⟨x2, rfl⟩ := u8_of k2
  exact lp6 l hl hd f gs hg g x2
theorem law7 (args : List AV) (h : ArgsT [(false, [.l true [.i .u8, .i .u8, .i .u8, .i .u8, .i .u8, .l false [.i .u8]]]), (false, [.l true [.i .u8, .i .i8, .i .i8]]), (false, [.i .u8]), (false, [.i .u8]), (false, [.l false [.i .u8]])] args) : runP (C09.tab 75) c7 args = some (.bool true) := by
  obtain ⟨x0, r, rfl, h0, h⟩ := h.inv
  obtain ⟨x1, r, rfl, h1, h⟩ := h.inv
  obtain ⟨x2, r, rfl, h2, h⟩ := h.inv
  obtain ⟨x3, r, rfl, h3, h⟩ := h.inv
  obtain ⟨x4, r, rfl, h4, h⟩ := h.inv
  have := h.inv0; subst this
  obtain ⟨f, l, rfl, hl, hd⟩ := steps_of h0.one
  obtain ⟨g, gs, rfl, hg⟩ := gives_of h1.one
  obtain ⟨x2, rfl, k2⟩ := h2.one.int
  obtain ⟨x2, rfl⟩ := u8_of k2
  obtain ⟨x3, rfl, k3⟩ := h3.one.int
  obtain ⟨x3, rfl⟩ := u8_of k3
  obtain ⟨fb, bs, rfl, hb, kb⟩ := h4.one.ints
  obtain ⟨bs, e4, hbl⟩ := bytes_of kb
  have hx : maxLen ≤ 9223372036854775807 := by decide
  rw [e4]
  exact lp7 l hl hd f gs hg g x2 x3 bs (by omega) fb
end Go.Proofs.Ytfdenmkoampgnaa
