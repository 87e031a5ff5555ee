import Derived.Test.YtdnoopjpkcmpjaaP08e
import Derived.Test.YtdnoopjpkcmpjaaAmLw
set_option linter.unusedSimpArgs false
set_option linter.unusedVariables false
namespace Go.Proofs.Ytdnoopjpkcmpjaa
open Go.Am Go.Tr

theorem u8_of {c : Int} (h : IntKind.u8.min ≤ c ∧ c ≤ IntKind.u8.max) : ∃ b : UInt8, c = (b.toNat : Int) := by
  obtain ⟨c1, c2⟩ := h
  have e1 : IntKind.u8.min = 0 := rfl
  have e2 : IntKind.u8.max = 255 := rfl
  refine ⟨UInt8.ofNat c.toNat, ?_⟩
  rw [UInt8.toNat_ofNat_of_lt' (show c.toNat < 2 ^ 8 by omega)]
  omega
theorem bytes_of : ∀ {l : List Int}, (∀ n ∈ l, IntKind.u8.min ≤ n ∧ n ≤ IntKind.u8.max) → ∃ r : List UInt8, l.map (AV.int .u8) = r.map B ∧ r.length = l.length
  | [], _ => ⟨[], rfl, rfl⟩
  | n :: l, h => by
    obtain ⟨b, hb⟩ := u8_of (h n List.mem_cons_self)
    obtain ⟨r, h1, h2⟩ := bytes_of (l := l) fun m hm => h m (List.mem_cons_of_mem _ hm)
    exact ⟨b :: r, by rw [List.map_cons, List.map_cons, h1, hb], by rw [List.length_cons, List.length_cons, h2]⟩
theorem step_of {cs : List AV} (h : AllT [.i .u8, .i .u8, .i .u8, .i .u8, .i .u8, .l false [.i .u8]] cs) : ∃ s : Sd, AV.agg cs = Sv s ∧ s.data.length ≤ 9223372036854775807 := by
  obtain ⟨a, r, rfl, h1, h⟩ := h.cons
  obtain ⟨b, r, rfl, h2, h⟩ := h.cons
  obtain ⟨c, r, rfl, h3, h⟩ := h.cons
  obtain ⟨d, r, rfl, h4, h⟩ := h.cons
  obtain ⟨e, r, rfl, h5, h⟩ := h.cons
  obtain ⟨k, r, rfl, h6, h⟩ := h.cons
  have := h.nil; subst this
  obtain ⟨a, rfl, q1⟩ := h1.int
  obtain ⟨b, rfl, q2⟩ := h2.int
  obtain ⟨c, rfl, q3⟩ := h3.int
  obtain ⟨d, rfl, q4⟩ := h4.int
  obtain ⟨e, rfl, q5⟩ := h5.int
  obtain ⟨f, l, rfl, hl, hb⟩ := h6.ints
  obtain ⟨a, rfl⟩ := u8_of q1
  obtain ⟨b, rfl⟩ := u8_of q2
  obtain ⟨c, rfl⟩ := u8_of q3
  obtain ⟨d, rfl⟩ := u8_of q4
  obtain ⟨e, rfl⟩ := u8_of q5
  obtain ⟨r, hr, hrl⟩ := bytes_of hb
  have hm : maxLen ≤ 9223372036854775807 := by decide
  rw [hr]
  exact ⟨⟨a, b, c, d, e, f, r⟩, rfl, by simp only; omega⟩
theorem act_of {cs : List AV} (h : AllT [.i .u8, .i .u8, .i .u8, .i .u8, .i .u8] cs) : ∃ s : Ad, AV.agg cs = Av s ∧ True := by
  obtain ⟨a, r, rfl, h1, h⟩ := h.cons
  obtain ⟨b, r, rfl, h2, h⟩ := h.cons
  obtain ⟨c, r, rfl, h3, h⟩ := h.cons
  obtain ⟨d, r, rfl, h4, h⟩ := h.cons
  obtain ⟨e, r, rfl, h5, h⟩ := h.cons
  have := h.nil; subst this
  obtain ⟨a, rfl, q1⟩ := h1.int
  obtain ⟨b, rfl, q2⟩ := h2.int
  obtain ⟨c, rfl, q3⟩ := h3.int
  obtain ⟨d, rfl, q4⟩ := h4.int
  obtain ⟨e, rfl, q5⟩ := h5.int
  obtain ⟨a, rfl⟩ := u8_of q1
  obtain ⟨b, rfl⟩ := u8_of q2
  obtain ⟨c, rfl⟩ := u8_of q3
  obtain ⟨d, rfl⟩ := u8_of q4
  obtain ⟨e, rfl⟩ := u8_of q5
  exact ⟨⟨a, b, c, d, e⟩, rfl, trivial⟩
theorem hold_of {cs : List AV} (h : AllT [.i .i64, .i .i64, .i .i64] cs) : ∃ s : Ho, AV.agg cs = Hv s ∧ True := by
  obtain ⟨a, r, rfl, h1, h⟩ := h.cons
  obtain ⟨b, r, rfl, h2, h⟩ := h.cons
  obtain ⟨c, r, rfl, h3, h⟩ := h.cons
  have := h.nil; subst this
  obtain ⟨a, rfl, _⟩ := h1.int
  obtain ⟨b, rfl, _⟩ := h2.int
  obtain ⟨c, rfl, _⟩ := h3.int
  exact ⟨⟨a, b, c⟩, rfl, trivial⟩
theorem steps_of {a : AV} (h : HasT (.l true [.i .u8, .i .u8, .i .u8, .i .u8, .i .u8, .l false [.i .u8]]) a) : ∃ (f : Bool) (l : List Sd), a = .lst f (l.map Sv) ∧ l.length ≤ 9223372036854775807 ∧ ∀ s ∈ l, s.data.length ≤ 9223372036854775807 := by
  obtain ⟨f, l, rfl, hl, hp⟩ := h.aggs Sv (fun e => e.data.length ≤ 9223372036854775807) (fun _ => step_of)
  have hx : maxLen ≤ 9223372036854775807 := by decide
  exact ⟨f, l, rfl, by omega, hp⟩
theorem acts_of {a : AV} (h : HasT (.l true [.i .u8, .i .u8, .i .u8, .i .u8, .i .u8]) a) : ∃ (f : Bool) (l : List Ad), a = .lst f (l.map Av) ∧ l.length ≤ 9223372036854775807 := by
  obtain ⟨f, l, rfl, hl, _⟩ := h.aggs Av (fun _ => True) (fun _ => act_of)
  have hx : maxLen ≤ 9223372036854775807 := by decide
  exact ⟨f, l, rfl, by omega⟩
theorem holds_of {a : AV} (h : HasT (.l true [.i .i64, .i .i64, .i .i64]) a) : ∃ (f : Bool) (l : List Ho), a = .lst f (l.map Hv) ∧ l.length ≤ 9223372036854775807 := by
  obtain ⟨f, l, rfl, hl, _⟩ := h.aggs Hv (fun _ => True) (fun _ => hold_of)
  have hx : maxLen ≤ 9223372036854775807 := by decide
  exact ⟨f, l, rfl, by omega⟩
theorem law3 (args : List AV) (h : ArgsT [(false, [.l true [.i .u8, .i .u8, .i .u8, .i .u8, .i .u8, .l false [.i .u8]]]), (false, [.l true [.i .u8, .i .u8, .i .u8, .i .u8, .i .u8]]), (true, [.i .u8, .i .u8, .i .u8, .i .u8, .i .u8])] args) : runP (C08.tab 83) c3 args = some (.bool true) := by
  obtain ⟨b, r, rfl, h1, h⟩ := h.inv
  obtain ⟨l, r, rfl, h2, h⟩ := h.inv
  obtain ⟨a, r, rfl, h3, h⟩ := h.inv
  have := h.inv0; subst this
  obtain ⟨f, l, rfl, hl, hd⟩ := steps_of h1.one
  obtain ⟨g, m, rfl, hm⟩ := acts_of h2.one
  obtain ⟨cs, rfl, k3⟩ := h3.agg
  obtain ⟨a, e3, _⟩ := act_of k3
  rw [e3]
  exact lp3 l hl hd f m hm g a
theorem law4 (args : List AV) (h : ArgsT [(false, [.l true [.i .u8, .i .u8, .i .u8, .i .u8, .i .u8, .l false [.i .u8]]]), (false, [.l true [.i .u8, .i .u8, .i .u8, .i .u8, .i .u8]]), (false, [.l true [.i .i64, .i .i64, .i .i64]]), (false, [.i .i64]), (false, [.i .i64])] args) : runP (C08.tab 88) c4 args = some (.bool true) := by
  obtain ⟨b, r, rfl, h1, h⟩ := h.inv
  obtain ⟨l, r, rfl, h2, h⟩ := h.inv
  obtain ⟨o, r, rfl, h3, h⟩ := h.inv
  obtain ⟨c, r, rfl, h4, h⟩ := h.inv
  obtain ⟨k, r, rfl, h5, h⟩ := h.inv
  have := h.inv0; subst this
  obtain ⟨f, l, rfl, hl, hd⟩ := steps_of h1.one
  obtain ⟨g, m, rfl, hm⟩ := acts_of h2.one
  obtain ⟨fr, o, rfl, ho⟩ := holds_of h3.one
  obtain ⟨c, rfl, _⟩ := h4.one.int
  obtain ⟨k, rfl, _⟩ := h5.one.int
  exact lp4 l hl hd f m hm g o ho fr c k
theorem law5 (args : List AV) (h : ArgsT [(false, [.l true [.i .u8, .i .u8, .i .u8, .i .u8, .i .u8, .l false [.i .u8]]]), (false, [.l true [.i .u8, .i .u8, .i .u8, .i .u8, .i .u8]]), (true, [.i .u8, .i .u8, .i .u8, .i .u8, .i .u8])] args) : runP (C08.tab 93) c5 args = some (.bool true) := by
  obtain ⟨b, r, rfl, h1, h⟩ := h.inv
  obtain ⟨l, r, rfl, h2, h⟩ := h.inv
  obtain ⟨a, r, rfl, h3, h⟩ := h.inv
  have := h.inv0; subst this
  obtain ⟨f, l, rfl, hl, hd⟩ := steps_of h1.one
  obtain ⟨g, m, rfl, hm⟩ := acts_of h2.one
  obtain ⟨cs, rfl, k3⟩ := h3.agg
  obtain ⟨a, e3, _⟩ := act_of k3
  rw [e3]
  exact lp5 l hl hd f m hm g a
theorem law6 (args : List AV) (h : ArgsT [(false, [.l true [.i .u8, .i .u8, .i .u8, .i .u8, .i .u8, .l false [.i .u8]]]), (false, [.l true [.i .u8, .i .u8, .i .u8, .i .u8, .i .u8]]), (true, [.i .u8, .i .u8, .i .u8, .i .u8, .i .u8])] args) : runP (C08.tab 94) c6 args = some (.bool true) := by
  obtain ⟨b, r, rfl, h1, h⟩ := h.inv
  obtain ⟨l, r, rfl, h2, h⟩ := h.inv
  obtain ⟨a, r, rfl, h3, h⟩ := h.inv
  have := h.inv0; subst this
  obtain ⟨f, l, rfl, hl, hd⟩ := steps_of h1.one
  obtain ⟨g, m, rfl, hm⟩ := acts_of h2.one
  obtain ⟨cs, rfl, k3⟩ := h3.agg
  obtain ⟨a, e3, _⟩ := act_of k3
  rw [e3]
  exact lp6 l hl hd f m hm g a
theorem law7 (args : List AV) (h : ArgsT [(false, [.l true [.i .u8, .i .u8, .i .u8, .i .u8, .i .u8, .l false [.i .u8]]]), (false, [.l true [.i .u8, .i .u8, .i .u8, .i .u8, .i .u8]]), (false, [.i .u8])] args) : runP (C08.tab 95) c7 args = some (.bool true) := by
  obtain ⟨b, r, rfl, h1, h⟩ := h.inv
  obtain ⟨l, r, rfl, h2, h⟩ := h.inv
  obtain ⟨c, r, rfl, h3, h⟩ := h.inv
  have := h.inv0; subst this
  obtain ⟨f, l, rfl, hl, hd⟩ := steps_of h1.one
  obtain ⟨g, m, rfl, hm⟩ := acts_of h2.one
  obtain ⟨c, rfl, hc⟩ := h3.one.int
  obtain ⟨c, rfl⟩ := u8_of hc
  exact lp7 l hl hd f m hm g c
theorem law8 (args : List AV) (h : ArgsT [(false, [.l true [.i .u8, .i .u8, .i .u8, .i .u8, .i .u8, .l false [.i .u8]]]), (false, [.l true [.i .u8, .i .u8, .i .u8, .i .u8, .i .u8]])] args) : runP (C08.tab 96) c8 args = some (.bool true) := by
  obtain ⟨b, r, rfl, h1, h⟩ := h.inv
  obtain ⟨l, r, rfl, h2, h⟩ := h.inv
  have := h.inv0; subst this
  obtain ⟨f, l, rfl, hl, hd⟩ := steps_of h1.one
  obtain ⟨g, m, rfl, hm⟩ := acts_of h2.one
  exact lp8 l hl hd f m hm g
end Go.Proofs.Ytdnoopjpkcmpjaa
