/-
 The abstract machine: arguments as they are read, by their form.
-/
import Derived.Test.YtgefdmkmobaefaaAmTb
import Derived.Test.YtgefdmkmobaefaaAmGT
set_option linter.unusedSimpArgs false
set_option linter.unusedVariables false
namespace Go.Am
open Go.Deep
def AllT (tds : List TD) (cs : List AV) : Prop := cs.length = tds.length ∧ ∀ (j : Nat) (y : AV) (td : TD), cs[j]? = some y → tds[j]? = some td → HasT td y
theorem AllT.cons {td : TD} {tds : List TD} {cs : List AV} (h : AllT (td :: tds) cs) : ∃ y ys, cs = y :: ys ∧ HasT td y ∧ AllT tds ys := by
 obtain ⟨h1, h2⟩ := h
 cases cs with
 | nil => simp at h1
 | cons y ys => exact ⟨y, ys, rfl, h2 0 y td rfl rfl, by simpa using h1, fun j z t hz ht => h2 (j + 1) z t (by simpa using hz) (by simpa using ht)⟩
theorem AllT.nil {cs : List AV} (h : AllT [] cs) : cs = [] := List.eq_nil_of_length_eq_zero h.1
theorem ArgT.one {td : TD} {a : AV} (h : ArgT false [td] a) : HasT td a := by
 unfold ArgT at h
 simp only [Bool.false_eq_true, if_false] at h
 obtain ⟨td', h1, h2⟩ := h
 simp only [List.cons.injEq, and_true] at h1
 exact h1 ▸ h2
theorem ArgT.agg {tds : List TD} {a : AV} (h : ArgT true tds a) : ∃ cs, a = .agg cs ∧ AllT tds cs := by
 unfold ArgT at h
 simp only [if_true] at h
 obtain ⟨cs, h1, h2, h3⟩ := h
 exact ⟨cs, h1, h2, h3⟩
theorem ArgsT.inv {p : Bool × List TD} {l : List (Bool × List TD)} {args : List AV} (h : ArgsT (p :: l) args) : ∃ a r, args = a :: r ∧ ArgT p.1 p.2 a ∧ ArgsT l r := by
 cases h with | cons h t => exact ⟨_, _, rfl, h, t⟩
theorem ArgsT.inv0 {args : List AV} (h : ArgsT [] args) : args = [] := by cases h; rfl
theorem HasT.int {k : IntKind} {a : AV} (h : HasT (.i k) a) : ∃ n, a = .int k n ∧ k.min ≤ n ∧ n ≤ k.max := by cases h with | i _ n h1 h2 => exact ⟨n, rfl, h1, h2⟩
theorem HasT.bool {a : AV} (h : HasT .b a) : ∃ b, a = .bool b := by cases h with | b x => exact ⟨x, rfl⟩
theorem HasT.str {a : AV} (h : HasT .s a) : ∃ s, a = .str s ∧ s.length ≤ maxLen := by cases h with | s l h => exact ⟨l, rfl, h⟩
theorem HasT.ints {k : IntKind} {a : AV} (h : HasT (.l false [.i k]) a) : ∃ (f : Bool) (l : List Int), a = .lst f (l.map (AV.int k)) ∧ l.length ≤ maxLen ∧ ∀ n ∈ l, k.min ≤ n ∧ n ≤ k.max := by
 cases h with
 | l1 td f es hl h =>
  obtain ⟨l, hl', hp⟩ := list_of_emb (AV.int k) (fun n => k.min ≤ n ∧ n ≤ k.max) es fun x hx => by
   obtain ⟨n, h1, h2⟩ := (h x hx).int
   exact ⟨n, h1, h2⟩
  exact ⟨f, l, by rw [hl'], by rw [hl'] at hl; simpa using hl, hp⟩
theorem HasT.aggs {α : Type} (F : α → AV) (p : α → Prop) {tds : List TD} {a : AV} (h : HasT (.l true tds) a) (hF : ∀ cs, AllT tds cs → ∃ d, AV.agg cs = F d ∧ p d) : ∃ (f : Bool) (l : List α), a = .lst f (l.map F) ∧ l.length ≤ maxLen ∧ ∀ d ∈ l, p d := by
 cases h with
 | la tds f es hl g h0 h2 =>
  obtain ⟨l, hl', hp⟩ := list_of_emb F p es fun x hx => by
   obtain ⟨i, hi⟩ := List.getElem?_of_mem hx
   obtain ⟨e1, e2⟩ := h0 i x hi
   rw [e1]
   exact hF _ ⟨e2, fun j y td hy ht => h2 i x hi j y td hy ht⟩
  exact ⟨f, l, by rw [hl'], by rw [hl'] at hl; simpa using hl, hp⟩
end Go.Am
