/-
  Pieces of a tree, without the program.
-/
import Derived.Test.YtlooipgkklaijaaL06
import Derived.Test.YtlooipgkklaijaaAmGS
import Derived.Test.YtlooipgkklaijaaM23
set_option linter.unusedSimpArgs false
set_option linter.unusedVariables false
namespace Go.Am.Sh
open Go.Am Go.Am.Nm Go.Lib

structure P where
  pa : List UInt8
  gr : Int
  ep : Int
@[simp] def D (p : P) : AV := .agg [.str p.pa, .int .i64 p.gr, .int .i64 p.ep]
@[simp] theorem szD (l : List P) : szOk 3 (l.map D) = true := by simp [szOk]
/-- Is a text a path? -/
def isP (s : List UInt8) : Bool := (split s).isSome
def okG (g : Int) : Bool := decide (0 ≤ g ∧ g < 8)
def okE (e : Int) : Bool := decide (1 ≤ e ∧ e ≤ 1099511627776)
def okOne (p : P) : Bool := isP p.pa && okG p.gr && okE p.ep
def lt (a b : P) : Bool := sLess a.pa b.pa
/-- The places that are so. -/
def ix (q : P → Bool) : List P → Nat → List Nat
  | [], _ => []
  | p :: l, k => (bif q p then [k] else []) ++ ix q l (k + 1)
theorem ix_app (q : P → Bool) : ∀ (l m : List P) (k : Nat), ix q (l ++ m) k = ix q l k ++ ix q m (k + l.length)
  | [], m, k => by simp [ix]
  | p :: l, m, k => by
    simp only [List.cons_append, ix, ix_app q l m (k + 1), List.append_assoc, List.length_cons]
    rw [show k + 1 + l.length = k + (l.length + 1) by omega]
theorem mem_ix {q : P → Bool} : ∀ {l : List P} {k i : Nat}, i ∈ ix q l k ↔ ∃ p, k ≤ i ∧ l[i - k]? = some p ∧ q p = true
  | [], k, i => by simp [ix]
  | p :: l, k, i => by
    simp only [ix, List.mem_append, mem_ix (l := l) (k := k + 1) (i := i)]
    constructor
    · rintro (h | ⟨x, h1, h2, h3⟩)
      · cases hq : q p with
        | true =>
          rw [hq] at h
          simp only [cond_true, List.mem_singleton] at h
          subst h
          exact ⟨p, Nat.le_refl _, by simp, hq⟩
        | false => rw [hq] at h; cases h
      · refine ⟨x, by omega, ?_, h3⟩
        rw [show i - k = (i - (k + 1)) + 1 by omega, List.getElem?_cons_succ]; exact h2
    · rintro ⟨x, h1, h2, h3⟩
      by_cases hik : i = k
      · subst hik
        simp only [Nat.sub_self, List.getElem?_cons_zero, Option.some.injEq] at h2
        subst h2
        left; rw [h3]; simp
      · right
        refine ⟨x, by omega, ?_, h3⟩
        rw [show i - k = (i - (k + 1)) + 1 by omega, List.getElem?_cons_succ] at h2; exact h2
theorem ix_len (q : P → Bool) : ∀ (l : List P) (k : Nat), (ix q l k).length ≤ l.length
  | [], k => by simp [ix]
  | p :: l, k => by
    have := ix_len q l (k + 1)
    simp only [ix, List.length_append, List.length_cons]
    cases q p <;> simp <;> omega
end Go.Am.Sh
