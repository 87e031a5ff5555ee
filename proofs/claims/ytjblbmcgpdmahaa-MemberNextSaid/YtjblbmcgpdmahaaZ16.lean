import Derived.Test.YtjblbmcgpdmahaaU16
import Derived.Test.YtjblbmcgpdmahaaAmLw
set_option linter.unusedSimpArgs false
set_option linter.unusedVariables false
namespace Go.Proofs.Ytjblbmcgpdmahaa
open Go.Am

theorem nat_of {c : Int} (h : IntKind.u8.min ≤ c ∧ c ≤ IntKind.u8.max) : ∃ k : Nat, c = (k : Int) ∧ k < 256 := by
  obtain ⟨c1, c2⟩ := h
  have e1 : IntKind.u8.min = 0 := rfl
  have e2 : IntKind.u8.max = 255 := rfl
  exact ⟨c.toNat, by omega, by omega⟩
theorem bytes_of {l : List Int} (h : ∀ n ∈ l, IntKind.u8.min ≤ n ∧ n ≤ IntKind.u8.max) : ∃ r : List UInt8, l.map (AV.int .u8) = r.map B ∧ r.length = l.length := by
  refine ⟨l.map by8, ?_, by simp⟩
  rw [List.map_map]
  refine List.map_congr_left fun n hn => ?_
  obtain ⟨k, rfl, hk⟩ := nat_of (h n hn)
  have := wrap_8 (k : Int)
  have e : IntKind.u8.wrap (k : Int) = (k : Int) := by
    unfold IntKind.wrap
    simp [IntKind.bits, IntKind.signed]
    omega
  rw [e] at this
  simp only [Function.comp_apply, B, ← this]
theorem entry_of {cs : List AV} (h : AllT [.i .i64, .l false [.i .u8]] cs) : ∃ e : En, AV.agg cs = E e ∧ e.da.length ≤ 9223372036854775807 := by
  obtain ⟨a, r, rfl, h1, h⟩ := h.cons
  obtain ⟨b, r, rfl, h2, h⟩ := h.cons
  have := h.nil; subst this
  obtain ⟨a, rfl, _⟩ := h1.int
  obtain ⟨f, l, rfl, hl, hb⟩ := h2.ints
  obtain ⟨r, hr, hrl⟩ := bytes_of hb
  have hm : maxLen ≤ 9223372036854775807 := by decide
  rw [hr]
  exact ⟨⟨a, f, r⟩, rfl, by simp only; omega⟩
theorem base_of {cs : List AV} (h : AllT [.i .i64, .i .i64, .l false [.i .i64], .l false [.i .u8]] cs) : ∃ b : Ba, AV.agg cs = Bs b ∧ BFin b := by
  obtain ⟨a, r, rfl, h1, h⟩ := h.cons
  obtain ⟨b, r, rfl, h2, h⟩ := h.cons
  obtain ⟨c, r, rfl, h3, h⟩ := h.cons
  obtain ⟨d, r, rfl, h4, h⟩ := h.cons
  have := h.nil; subst this
  obtain ⟨a, rfl, _⟩ := h1.int
  obtain ⟨b, rfl, _⟩ := h2.int
  obtain ⟨f, l, rfl, hl, _⟩ := h3.ints
  obtain ⟨g, m, rfl, hm, hb⟩ := h4.ints
  obtain ⟨r, hr, hrl⟩ := bytes_of hb
  have hx : maxLen ≤ 9223372036854775807 := by decide
  rw [hr]
  exact ⟨⟨a, b, f, l, g, r⟩, rfl, ⟨by simp only; omega, by simp only; omega⟩⟩
theorem log_of {a : AV} (h : HasT (.l true [.i .i64, .l false [.i .u8]]) a) : ∃ (f : Bool) (l : List En), a = .lst f (l.map E) ∧ Fin l := by
  obtain ⟨f, l, rfl, hl, hp⟩ := h.aggs E (fun e => e.da.length ≤ 9223372036854775807) (fun _ => entry_of)
  have hx : maxLen ≤ 9223372036854775807 := by decide
  exact ⟨f, l, rfl, by omega, hp⟩
theorem raw_of {a : AV} (h : HasT (.l false [.i .u8]) a) : ∃ (f : Bool) (l : List UInt8), a = .lst f (l.map B) ∧ l.length ≤ 9223372036854775807 := by
  obtain ⟨f, l, rfl, hl, hb⟩ := h.ints
  obtain ⟨r, hr, hrl⟩ := bytes_of hb
  have hx : maxLen ≤ 9223372036854775807 := by decide
  rw [hr]
  exact ⟨f, r, rfl, by omega⟩
theorem law3 (args : List AV) (h : ArgsT [(true, [.i .i64, .i .i64, .l false [.i .i64], .l false [.i .u8]]), (false, [.l true [.i .i64, .l false [.i .u8]]]), (false, [.i .i64]), (false, [.i .i64]), (false, [.l true [.i .i64, .l false [.i .u8]]]), (true, [.i .i64, .i .i64, .l false [.i .i64], .l false [.i .u8]])] args) : runP (C16.tab 47) c3 args = some (.bool true) := by
  obtain ⟨b, r, rfl, h1, h⟩ := h.inv
  obtain ⟨l, r, rfl, h2, h⟩ := h.inv
  obtain ⟨at_, r, rfl, h3, h⟩ := h.inv
  obtain ⟨t, r, rfl, h4, h⟩ := h.inv
  obtain ⟨m, r, rfl, h5, h⟩ := h.inv
  obtain ⟨d, r, rfl, h6, h⟩ := h.inv
  have := h.inv0; subst this
  obtain ⟨cs, rfl, k1⟩ := h1.agg
  obtain ⟨b, e1, hb⟩ := base_of k1
  obtain ⟨f, l, rfl, hl⟩ := log_of h2.one
  obtain ⟨at_, rfl, _⟩ := h3.one.int
  obtain ⟨t, rfl, _⟩ := h4.one.int
  obtain ⟨g, m, rfl, hm⟩ := log_of h5.one
  obtain ⟨ds, rfl, k6⟩ := h6.agg
  obtain ⟨d, e6, hd⟩ := base_of k6
  rw [e1, e6]
  exact lp3 b hb l hl f at_ t m hm g d hd
theorem law4 (args : List AV) (h : ArgsT [(true, [.i .i64, .i .i64, .l false [.i .i64], .l false [.i .u8]]), (false, [.l true [.i .i64, .l false [.i .u8]]]), (false, [.i .u8]), (false, [.i .i64]), (false, [.i .i64])] args) : runP (C16.tab 51) c4 args = some (.bool true) := by
  obtain ⟨b, r, rfl, h1, h⟩ := h.inv
  obtain ⟨l, r, rfl, h2, h⟩ := h.inv
  obtain ⟨c, r, rfl, h3, h⟩ := h.inv
  obtain ⟨t, r, rfl, h4, h⟩ := h.inv
  obtain ⟨w, r, rfl, h5, h⟩ := h.inv
  have := h.inv0; subst this
  obtain ⟨cs, rfl, k1⟩ := h1.agg
  obtain ⟨b, e1, hb⟩ := base_of k1
  obtain ⟨f, l, rfl, hl⟩ := log_of h2.one
  obtain ⟨c, rfl, hc⟩ := h3.one.int
  obtain ⟨c, rfl, hc'⟩ := nat_of hc
  obtain ⟨t, rfl, _⟩ := h4.one.int
  obtain ⟨w, rfl, _⟩ := h5.one.int
  rw [e1]
  exact lp4 b hb l hl f c hc' t w
theorem law5 (args : List AV) (h : ArgsT [(false, [.l false [.i .u8]]), (false, [.l false [.i .u8]]), (false, [.i .u8])] args) : runP (C16.tab 56) c5 args = some (.bool true) := by
  obtain ⟨a, r, rfl, h1, h⟩ := h.inv
  obtain ⟨b, r, rfl, h2, h⟩ := h.inv
  obtain ⟨c, r, rfl, h3, h⟩ := h.inv
  have := h.inv0; subst this
  obtain ⟨f, a, rfl, ha⟩ := raw_of h1.one
  obtain ⟨g, b, rfl, hb⟩ := raw_of h2.one
  obtain ⟨c, rfl, hc⟩ := h3.one.int
  obtain ⟨c, rfl, hc'⟩ := nat_of hc
  exact lp5 a b f g ha hb c hc'
theorem law6 (args : List AV) (h : ArgsT [(true, [.i .i64, .i .i64, .l false [.i .i64], .l false [.i .u8]]), (false, [.l true [.i .i64, .l false [.i .u8]]]), (false, [.i .u8]), (false, [.i .u8]), (false, [.i .i64]), (false, [.l true [.i .i64, .l false [.i .u8]]])] args) : runP (C16.tab 57) c6 args = some (.bool true) := by
  obtain ⟨b, r, rfl, h1, h⟩ := h.inv
  obtain ⟨l, r, rfl, h2, h⟩ := h.inv
  obtain ⟨u, r, rfl, h3, h⟩ := h.inv
  obtain ⟨c, r, rfl, h4, h⟩ := h.inv
  obtain ⟨t, r, rfl, h5, h⟩ := h.inv
  obtain ⟨m, r, rfl, h6, h⟩ := h.inv
  have := h.inv0; subst this
  obtain ⟨cs, rfl, k1⟩ := h1.agg
  obtain ⟨b, e1, hb⟩ := base_of k1
  obtain ⟨f, l, rfl, hl⟩ := log_of h2.one
  obtain ⟨u, rfl, hu⟩ := h3.one.int
  obtain ⟨u, rfl, hu'⟩ := nat_of hu
  obtain ⟨c, rfl, hc⟩ := h4.one.int
  obtain ⟨c, rfl, hc'⟩ := nat_of hc
  obtain ⟨t, rfl, _⟩ := h5.one.int
  obtain ⟨g, m, rfl, hm⟩ := log_of h6.one
  rw [e1]
  exact lp6 b hb l hl f u c hu' hc' t m hm g
theorem law7 (args : List AV) (h : ArgsT [(true, [.i .i64, .i .i64, .l false [.i .i64], .l false [.i .u8]]), (false, [.l true [.i .i64, .l false [.i .u8]]]), (false, [.i .u8]), (false, [.l true [.i .i64, .l false [.i .u8]]])] args) : runP (C16.tab 58) c7 args = some (.bool true) := by
  obtain ⟨b, r, rfl, h1, h⟩ := h.inv
  obtain ⟨l, r, rfl, h2, h⟩ := h.inv
  obtain ⟨c, r, rfl, h4, h⟩ := h.inv
  obtain ⟨m, r, rfl, h6, h⟩ := h.inv
  have := h.inv0; subst this
  obtain ⟨cs, rfl, k1⟩ := h1.agg
  obtain ⟨b, e1, hb⟩ := base_of k1
  obtain ⟨f, l, rfl, hl⟩ := log_of h2.one
  obtain ⟨c, rfl, hc⟩ := h4.one.int
  obtain ⟨c, rfl, hc'⟩ := nat_of hc
  obtain ⟨g, m, rfl, hm⟩ := log_of h6.one
  rw [e1]
  exact lp7 b hb l hl f c hc' m hm g
theorem law8 (args : List AV) (h : ArgsT [(true, [.i .i64, .i .i64, .l false [.i .i64], .l false [.i .u8]]), (false, [.l true [.i .i64, .l false [.i .u8]]]), (true, [.i .i64, .i .i64, .l false [.i .i64], .l false [.i .u8]]), (false, [.l true [.i .i64, .l false [.i .u8]]])] args) : runP (C16.tab 60) c8 args = some (.bool true) := by
  obtain ⟨b, r, rfl, h1, h⟩ := h.inv
  obtain ⟨l, r, rfl, h2, h⟩ := h.inv
  obtain ⟨d, r, rfl, h4, h⟩ := h.inv
  obtain ⟨m, r, rfl, h6, h⟩ := h.inv
  have := h.inv0; subst this
  obtain ⟨cs, rfl, k1⟩ := h1.agg
  obtain ⟨b, e1, hb⟩ := base_of k1
  obtain ⟨f, l, rfl, hl⟩ := log_of h2.one
  obtain ⟨ds, rfl, k4⟩ := h4.agg
  obtain ⟨d, e4, hd⟩ := base_of k4
  obtain ⟨g, m, rfl, hm⟩ := log_of h6.one
  rw [e1, e4]
  exact lp8 b hb l hl f d hd m hm g
end Go.Proofs.Ytjblbmcgpdmahaa
