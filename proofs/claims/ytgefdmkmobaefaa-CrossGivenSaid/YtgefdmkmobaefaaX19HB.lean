import Derived.Test.YtgefdmkmobaefaaX19GZ
import Derived.Test.YtgefdmkmobaefaaCrGG
set_option linter.unusedSimpArgs false
set_option linter.unusedVariables false
namespace Go.Proofs.Ytgefdmkmobaefaa
open Go.Am Go.Am.Nm Go.Lib Go.Cr
def ordI (l : List Int) (a b : Int) (s : Int × Int) : Int × Int :=
 (if 0 ≤ atI l a ∧ 0 ≤ atI l b ∧ atI l a < atI l b then s.1 + 1 else s.1, if 0 ≤ atI l a ∧ 0 ≤ atI l b ∧ atI l b < atI l a then s.2 + 1 else s.2)
theorem atI_pos {l : List Int} {x : Int} : 0 ≤ atI l x ↔ x ∈ l := by
 unfold atI
 by_cases h : x ∈ l
 ·rw [if_pos h]; exact ⟨fun _ => h, fun _ => by omega⟩
 ·rw [if_neg h]; exact ⟨fun h' => by omega, fun h' => absurd h' h⟩
theorem atI_mem {l : List Int} {x : Int} (h : x ∈ l) : atI l x = ((l.findIdx fun y => decide (y = x) : Nat) : Int) := by
 unfold atI; rw [if_pos h]
section
variable {PS : List (List UInt8)} {w : Wd} {n : Nat} {G : AH} {N : Nat} {b u : Nat → Nat}
structure J34 (w : Wd) (a b : De) (s : Int × Int) (m : Int) : Prop where
 x : 0 ≤ s.1 ∧ s.1 ≤ m
 y : 0 ≤ s.2 ∧ s.2 ≤ m
 ab : Ahead w a b → s.2 = 0
 ba : Ahead w b a → s.1 = 0
theorem J34.next {a c : De} {s : Int × Int} {m : Int} (J : J34 w a c s m) {g : Nat} (h1 : (g : Int) ∈ a.grs) (h2 : (g : Int) ∈ c.grs) : J34 w a c (ordI (dn w g) a.id c.id s) (m + 1) := by
 obtain ⟨⟨x1, x2⟩, ⟨y1, y2⟩, ab, ba⟩ := J
 unfold ordI
 refine ⟨?_, ?_, fun h => ?_, fun h => ?_⟩
 ·simp only; split <;> omega
 ·simp only; split <;> omega
 ·simp only
  rw [if_neg]
  ·exact ab h
  ·rintro ⟨q1, q2, q3⟩
   have m1 := atI_pos.1 q1
   have m2 := atI_pos.1 q2
   have := (h g h1 h2 m2).2
   rw [atI_mem m1, atI_mem m2] at q3
   omega
 ·simp only
  rw [if_neg]
  ·exact ba h
  ·rintro ⟨q1, q2, q3⟩
   have m1 := atI_pos.1 q1
   have m2 := atI_pos.1 q2
   have := (h g h2 h1 m1).2
   rw [atI_mem m1, atI_mem m2] at q3
   omega
theorem J34.mono {a c : De} {s : Int × Int} {m m' : Int} (J : J34 w a c s m) (h : m ≤ m') : J34 w a c s m' := ⟨⟨J.x.1, by have := J.x.2; omega⟩, ⟨J.y.1, by have := J.y.2; omega⟩, J.ab, J.ba⟩
end
end Go.Proofs.Ytgefdmkmobaefaa

namespace Go.Proofs.Ytgefdmkmobaefaa
open Go.Am Go.Am.Nm Go.Lib Go.Cr
section
variable {PS : List (List UInt8)} {w : Wd} {n : Nat} {G : AH} {N : Nat} {b u : Nat → Nat}
end
end Go.Proofs.Ytgefdmkmobaefaa
