import Derived.Test.YtlooipgkklaijaaR18
import Derived.KernelRfl
set_option linter.unusedSimpArgs false
set_option linter.unusedVariables false
namespace Go.Proofs.Ytlooipgkklaijaa
open Go.Am Go.Am.Nm Go.Lib Go.Am.Sh

def h1 : List P := [⟨[47], 3, 2⟩, ⟨[47, 97, 47, 98], 5, 2⟩]
def h2 : List P := [⟨[47], 1, 3⟩, ⟨[47, 97, 47, 98], 5, 2⟩]
def h3 : List P := [⟨[47], 1, 4⟩]
theorem k1 : cutP (newP 3) [47, 97, 47, 98] 5 = (h1, 0) := by kernel_rfl
theorem k2 : moveP h1 [47] 1 = (h2, 0) := by kernel_rfl
theorem k3 : joinP h2 [47, 97, 47, 98] = (h3, 0) := by kernel_rfl
theorem k4 : ofI h2 [47, 97, 47, 98, 47, 99] = 1 := by kernel_rfl
theorem k5 : ofI h2 [47, 97] = 0 := by kernel_rfl
theorem k6 : joinP h2 [47] = (h2, 180) := by kernel_rfl
theorem k7 : cutP h2 [47, 97, 47, 98] 2 = (h2, 71) := by kernel_rfl
theorem k8 : isP [97] = false := by kernel_rfl
theorem k9 : rightA h2 = true := by kernel_rfl
theorem k10 : rightA [] = false := by kernel_rfl
theorem k11 : bel h2 [47, 97] = [1] := by kernel_rfl
theorem k12 : isP [47, 97, 47, 98, 47, 99] = true := by kernel_rfl
theorem k13 : isP [47, 97] = true := by kernel_rfl
theorem r0 : RightP (newP 3) := right_new (by decide) (by decide)
theorem r1 : RightP h1 := by have := r0.cut [47, 97, 47, 98] 5; rw [k1] at this; exact this
theorem r2 : RightP h2 := by have := r1.move [47] 1; rw [k2] at this; exact this
instance : DecidableEq P := fun a b => decidable_of_iff (a.pa = b.pa ∧ a.gr = b.gr ∧ a.ep = b.ep) (by cases a; cases b; simp)
theorem s10 {n : Nat} (hn : 39 < n) : (C18.tab n).p 10 [] = some (.bool true) := by
  rw [p10 hn, runP_eq, runH_eq]
  have g1 := s15 (n := 39) (by decide) 3
  have g2 := s27 (n := 39) (by decide) (newP 3) r0 true [47, 97, 47, 98] 5
  have g3 := s29 (n := 39) (by decide) h1 r1 false [47] 1
  have g4 := s28 (n := 39) (by decide) h2 r2 false [47, 97, 47, 98] (by decide)
  have g5 := s20 (n := 39) (by decide) h2 (by decide) false [47, 97, 47, 98, 47, 99] (fun h => r2.abo_ne h)
  have g6 := s20 (n := 39) (by decide) h2 (by decide) false [47, 97] (fun h => r2.abo_ne h)
  have g7 := s28 (n := 39) (by decide) h2 r2 false [47] (by decide)
  have g8 := s27 (n := 39) (by decide) h2 r2 false [47, 97, 47, 98] 2
  have g9 := s20 (n := 39) (by decide) h2 (by decide) false [97] (fun h => r2.abo_ne h)
  have g10 := s14 (n := 39) (by decide) h1 h1 false true (by decide) (by decide)
  have g11 := s14 (n := 39) (by decide) h3 h3 false true (by decide) (by decide)
  have g12 := s12 (n := 39) (by decide) h2 (by decide) false
  have g13 := s12 (n := 39) (by decide) [] (by decide) true
  have g14 := s23 (n := 39) (by decide) h2 (by decide) false [47, 97]
  have g15 := s22 (n := 39) (by decide) [1] [1] false true (by decide) (by decide)
  rw [k1] at g2; rw [k2] at g3; rw [k3] at g4; rw [k4, k12] at g5; rw [k5, k13] at g6; rw [k6] at g7; rw [k7] at g8; rw [k8] at g9; rw [k9] at g12; rw [k10] at g13; rw [k11, k13] at g14
  simp only [newP, h1, h2, h3, D, List.map_cons, List.map_nil, N, Int.natCast_one] at g1 g2 g3 g4 g5 g6 g7 g8 g9 g10 g11 g12 g13 g14 g15
  simp -implicitDefEqProofs (disch := omega) [wrap_of, ilt_t, ilt_f, ile_t, ile_f, nlt_t, nlt_f, nle_t, nle_f, ieq_t, ieq_f, imin_l, imin_r, imax_l, imax_r, take_app1, take_map_all, c10, a15, g1, a27, g2, a29, g3, a28, g4, a20, g5, g6, g7, g8, g9, a14, g10, g11, a12, g12, g13, a23, g14, a22, g15]
end Go.Proofs.Ytlooipgkklaijaa
