import Derived.Test.YtfdenmkoampgnaaGreatP49b
import Derived.Test.YtfdenmkoampgnaaGreatAmLw
set_option linter.unusedSimpArgs false
set_option linter.unusedVariables false
namespace Go.Proofs.YtfdenmkoampgnaaGreat
open Go.Am Go.Tr

theorem u8_of {c : Int} (h : IntKind.u8.min ≤ c ∧ c ≤ IntKind.u8.max) : ∃ b : UInt8, c = (b.toNat : Int) := by
  obtain ⟨c1, c2⟩ := h
  have e1 : IntKind.u8.min = 0 := rfl
  have e2 : IntKind.u8.max = 255 := rfl
  refine ⟨UInt8.ofNat c.toNat, ?_⟩
  rw [UInt8.toNat_ofNat_of_lt' (show c.toNat < 2 ^ 8 by omega)]
  omega
theorem bytes_of : ∀ {l : List Int}, (∀ n ∈ l, IntKind.u8.min ≤ n ∧ n ≤ IntKind.u8.max) → ∃ r : List UInt8, l.map (AV.int .u8) = r.map B ∧ r.length = l.length
  | [], _ => ⟨[], rfl, rfl⟩
  | n :: l, h => by
    obtain ⟨b, hb⟩ := u8_of (h n List.mem_cons_self)
    obtain ⟨r, h1, h2⟩ := bytes_of (l := l) fun m hm => h m (List.mem_cons_of_mem _ hm)
    exact ⟨b :: r, by rw [List.map_cons, List.map_cons, h1, hb], by rw [List.length_cons, List.length_cons, h2]⟩
theorem step_of {cs : List AV} (h : AllT [.i .u8, .i .u8, .i .u8, .i .u8, .i .u8, .l false [.i .u8]] cs) : ∃ s : Sd, AV.agg cs = Sv s ∧ s.data.length ≤ 9223372036854775807 := by
  obtain ⟨a, r, rfl, h1, h⟩ := h.cons
  obtain ⟨b, r, rfl, h2, h⟩ := h.cons
  obtain ⟨c, r, rfl, h3, h⟩ := h.cons
  obtain ⟨d, r, rfl, h4, h⟩ := h.cons
  obtain ⟨e, r, rfl, h5, h⟩ := h.cons
  obtain ⟨k, r, rfl, h6, h⟩ := h.cons
  have := h.nil; subst this
  obtain ⟨a, rfl, q1⟩ := h1.int
  obtain ⟨b, rfl, q2⟩ := h2.int
  obtain ⟨c, rfl, q3⟩ := h3.int
  obtain ⟨d, rfl, q4⟩ := h4.int
  obtain ⟨e, rfl, q5⟩ := h5.int
  obtain ⟨f, l, rfl, hl, hb⟩ := h6.ints
  obtain ⟨a, rfl⟩ := u8_of q1
  obtain ⟨b, rfl⟩ := u8_of q2
  obtain ⟨c, rfl⟩ := u8_of q3
  obtain ⟨d, rfl⟩ := u8_of q4
  obtain ⟨e, rfl⟩ := u8_of q5
  obtain ⟨r, hr, hrl⟩ := bytes_of hb
  have hm : maxLen ≤ 9223372036854775807 := by decide
  rw [hr]
  exact ⟨⟨a, b, c, d, e, f, r⟩, rfl, by simp only; omega⟩
theorem steps_of {a : AV} (h : HasT (.l true [.i .u8, .i .u8, .i .u8, .i .u8, .i .u8, .l false [.i .u8]]) a) : ∃ (f : Bool) (l : List Sd), a = .lst f (l.map Sv) ∧ l.length ≤ 9223372036854775807 ∧ ∀ s ∈ l, s.data.length ≤ 9223372036854775807 := by
  obtain ⟨f, l, rfl, hl, hp⟩ := h.aggs Sv (fun e => e.data.length ≤ 9223372036854775807) (fun _ => step_of)
  have hx : maxLen ≤ 9223372036854775807 := by decide
  exact ⟨f, l, rfl, by omega, hp⟩
theorem i8min : IntKind.i8.min = -128 := rfl
theorem i8max : IntKind.i8.max = 127 := rfl
theorem give_of {cs : List AV} (h : AllT [.i .u8, .i .i8, .i .i8] cs) : ∃ s : Gi, AV.agg cs = Gv s ∧ True := by
  obtain ⟨a, r, rfl, h1, h⟩ := h.cons
  obtain ⟨b, r, rfl, h2, h⟩ := h.cons
  obtain ⟨c, r, rfl, h3, h⟩ := h.cons
  have := h.nil; subst this
  obtain ⟨a, rfl, q1⟩ := h1.int
  obtain ⟨b, rfl, q2⟩ := h2.int
  obtain ⟨c, rfl, q3⟩ := h3.int
  obtain ⟨a, rfl⟩ := u8_of q1
  rw [i8min, i8max] at q2 q3
  exact ⟨⟨a, b, c, q2.1, q2.2, q3.1, q3.2⟩, rfl, trivial⟩
theorem gives_of {a : AV} (h : HasT (.l true [.i .u8, .i .i8, .i .i8]) a) : ∃ (f : Bool) (l : List Gi), a = .lst f (l.map Gv) ∧ l.length ≤ 9223372036854775807 := by
  obtain ⟨f, l, rfl, hl, _⟩ := h.aggs Gv (fun _ => True) (fun _ => give_of)
  have hx : maxLen ≤ 9223372036854775807 := by decide
  exact ⟨f, l, rfl, by omega⟩
theorem law3 (args : List AV) (h : ArgsT [(false, [.l true [.i .u8, .i .u8, .i .u8, .i .u8, .i .u8, .l false [.i .u8]]]), (false, [.l true [.i .u8, .i .i8, .i .i8]]), (false, [.i .u8]), (false, [.i .u8]), (false, [.i .u8])] args) : runP (C49.tab 87) c3 args = some (.bool true) := by
  obtain ⟨x0, r, rfl, h0, h⟩ := h.inv
  obtain ⟨x1, r, rfl, h1, h⟩ := h.inv
  obtain ⟨x2, r, rfl, h2, h⟩ := h.inv
  obtain ⟨x3, r, rfl, h3, h⟩ := h.inv
  obtain ⟨x4, r, rfl, h4, h⟩ := h.inv
  have := h.inv0; subst this
  obtain ⟨f, l, rfl, hl, hd⟩ := steps_of h0.one
  obtain ⟨g, gs, rfl, hg⟩ := gives_of h1.one
  obtain ⟨x2, rfl, k2⟩ := h2.one.int
  obtain ⟨x2, rfl⟩ := u8_of k2
  obtain ⟨x3, rfl, k3⟩ := h3.one.int
  obtain ⟨x3, rfl⟩ := u8_of k3
  obtain ⟨x4, rfl, k4⟩ := h4.one.int
  obtain ⟨x4, rfl⟩ := u8_of k4
  exact lp3 l hl hd f gs hg g x2 x3 x4
end Go.Proofs.YtfdenmkoampgnaaGreat
