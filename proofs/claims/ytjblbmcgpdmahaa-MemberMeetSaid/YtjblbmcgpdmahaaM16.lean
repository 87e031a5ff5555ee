import Derived.Test.YtjblbmcgpdmahaaL16
import Derived.KernelRfl
set_option linter.unusedSimpArgs false
set_option linter.unusedVariables false
namespace Go.Proofs.Ytjblbmcgpdmahaa
open Go.Am

def b1 : Ba := ⟨2, 3, true, [1, 2, 3], true, []⟩
def l1 : List En := [⟨3, true, [5]⟩, ⟨3, true, [77, 1, 2, 3, 4]⟩, ⟨4, true, []⟩]
def b0 : Ba := ⟨0, 0, true, [9], true, []⟩
def b2 : Ba := ⟨4, 3, false, [1, 2, 3, 4], false, [8]⟩
def l2 : List En := [⟨4, true, []⟩]
def m1 : List En := [⟨3, true, []⟩, ⟨3, true, []⟩, ⟨5, true, []⟩]
def m2 : List En := [⟨3, true, []⟩, ⟨2, true, []⟩, ⟨5, true, []⟩]
def m3 : List En := [⟨5, true, []⟩]
def d2 : Ba := ⟨4, 3, true, [1, 2, 3, 4], true, [8]⟩
def e1 : En := ⟨4, false, [77, 1, 3, 4]⟩
def f1 : En := ⟨4, true, [77, 1, 3, 4]⟩
theorem s38 {n : Nat} (hn : 30 < n) : (C16.tab n).p 38 [] = some (.tup [Bs b1, .lst true (l1.map E)]) := by
  rw [p38 hn, runP_eq, runH_eq]
  simp -implicitDefEqProofs (disch := omega) [wrap_of, ilt_t, ilt_f, ile_t, ile_f, nlt_t, nlt_f, nle_t, nle_f, ieq_t, ieq_f, imin_l, imin_r, imax_l, imax_r, take_app1, take_map_all, c38, b1, l1]
theorem k1 : (peersS b1 l1).1 = (false, [1, 2, 3, 4], 4) := by kernel_rfl
theorem k2 : (peersS b1 (l1.take 1)).1 = (true, [1, 2, 3], 0) := by kernel_rfl
theorem k3 : nextA b1 l1 5 4 2 = .tup [E e1, I 0] := by kernel_rfl
theorem k4 : nextA b1 l1 3 3 2 = .tup [E E0, I 121] := by kernel_rfl
theorem k5 : nextA b1 l1 5 3 2 = .tup [E E0, I 121] := by kernel_rfl
theorem k6 : nextA b1 l1 5 4 200 = .tup [E E0, I 1] := by kernel_rfl
theorem k7 : nextA b0 [] 0 0 9 = .tup [E E0, I 76] := by kernel_rfl
theorem k8 : cutV b1 l1 true 4 false [8] false = .tup [Bs b2, .lst false (l2.map E), .bool true] := by kernel_rfl
theorem k9 : cutV b1 l1 true 6 false [] false = .tup [Bs b1, .lst true (l1.map E), .bool false] := by kernel_rfl
theorem k10 : putMV (putM false b2 l2 2 3 m1) = .tup [.lst false (m3.map E), .bool true] := by kernel_rfl
theorem k11 : putMV (putM false b2 l2 2 3 m2) = .tup [.lst true [], .bool false] := by kernel_rfl
theorem k12 : fitsA b1 (l1.take 2) 4 3 = true := by kernel_rfl
theorem k13 : logEq [e1] [f1] = true := by kernel_rfl
theorem k14 : baseEq b2 d2 = true := by kernel_rfl
theorem k15 : logEq m3 m3 = true := by kernel_rfl
theorem k16 : baseEq b2 b2 = true := by kernel_rfl
theorem k17 : fitsA b2 l2 4 3 = true := by kernel_rfl
theorem k18 : fitsA b2 l2 3 3 = false := by kernel_rfl
theorem k19 : fitsA b2 l2 5 4 = true := by kernel_rfl
theorem k20 : meetA [1, 2, 3] [1, 2, 3, 4] = true := by kernel_rfl
theorem k21 : meetA [1, 2] [3, 4] = false := by kernel_rfl
theorem k22 : meetA [5] [4, 5, 6] = false := by kernel_rfl
theorem gb {b : Ba} (h : decide (0 ≤ b.many ∧ b.many ≤ 2000000 ∧ b.ps.length ≤ 1000000 ∧ b.da.length ≤ 1000000) = true) : GB b := by
  have := of_decide_eq_true h
  exact ⟨this.1, this.2.1, this.2.2.1, this.2.2.2⟩
theorem gl {l : List En} (h : (decide (l.length ≤ 1000000) && l.all fun e => decide (e.da.length ≤ 1000000)) = true) : GL l := by
  rw [Bool.and_eq_true, List.all_eq_true] at h
  exact ⟨of_decide_eq_true h.1, fun e he => of_decide_eq_true (h.2 e he)⟩
theorem s9 {n : Nat} (hn : 31 < n) : (C16.tab n).p 9 [] = some (.bool true) := by
  rw [p9 hn, runP_eq, runH_eq]
  have B0 : GB b0 := gb (by decide)
  have B1 : GB b1 := gb (by decide)
  have B2 : GB b2 := gb (by decide)
  have D2 : GB d2 := gb (by decide)
  have L1 : GL l1 := gl (by decide)
  have L2 : GL l2 := gl (by decide)
  have M1 : GL m1 := gl (by decide)
  have M2 : GL m2 := gl (by decide)
  have M3 : GL m3 := gl (by decide)
  have g0 := s38 (n := 31) (by decide)
  have g1 := s12 (n := 31) (by decide) b1 B1 l1 L1 true
  have g2 := s12 (n := 31) (by decide) b1 B1 (l1.take 1) (L1.take 1) false
  have g3 := s27 (n := 31) (by decide) b1 B1 (by decide) l1 L1 true 5 4 2 (by decide)
  have g4 := s27 (n := 31) (by decide) b1 B1 (by decide) l1 L1 true 3 3 2 (by decide)
  have g5 := s27 (n := 31) (by decide) b1 B1 (by decide) l1 L1 true 5 3 2 (by decide)
  have g6 := s27 (n := 31) (by decide) b1 B1 (by decide) l1 L1 true 5 4 200 (by decide)
  have g7 := s27 (n := 31) (by decide) b0 B0 (by decide) [] (gl (by decide)) true 0 0 9 (by decide)
  have g8 := s14 (n := 31) (by decide) b1 B1 l1 L1 true 4 [8] (by decide) true
  have g9 := s14 (n := 31) (by decide) b1 B1 l1 L1 true 6 [] (by decide) true
  have g10 := s16 (n := 31) (by decide) b2 B2 l2 m1 L2 M1 false true 2 3 (by decide) (by decide)
  have g11 := s16 (n := 31) (by decide) b2 B2 l2 m2 L2 M2 false true 2 3 (by decide) (by decide)
  have g12 := s18 (n := 31) (by decide) b1 b2 B1 B2 (l1.take 2) (L1.take 2) false
  have g13 := s20 (n := 31) (by decide) [1, 2, 3, 4] [1, 2, 3, 4] false true (by decide) (by decide)
  have g14 := s20 (n := 31) (by decide) [1, 2, 3] [1, 2, 3] true true (by decide) (by decide)
  have g15 := s22 (n := 31) (by decide) [e1] [f1] true true (gl (by decide)).fin (gl (by decide)).fin
  have g16 := s21 (n := 31) (by decide) b2 d2 B2.fin D2.fin
  have g17 := s22 (n := 31) (by decide) m3 m3 false true M3.fin M3.fin
  have g18 := s21 (n := 31) (by decide) b2 b2 B2.fin B2.fin
  have g19 := s23 (n := 31) (by decide) b2 B2 l2 L2 false 4 3
  have g20 := s23 (n := 31) (by decide) b2 B2 l2 L2 false 3 3
  have g21 := s23 (n := 31) (by decide) b2 B2 l2 L2 false 5 4
  have g22 := s31 (n := 31) (by decide) [1, 2, 3] [1, 2, 3, 4] (by decide) (by decide) true true
  have g23 := s31 (n := 31) (by decide) [1, 2] [3, 4] (by decide) (by decide) true true
  have g24 := s31 (n := 31) (by decide) [5] [4, 5, 6] (by decide) (by decide) true true
  rw [k1] at g1; rw [k2] at g2; rw [k3] at g3; rw [k4] at g4; rw [k5] at g5; rw [k6] at g6; rw [k7] at g7; rw [k8] at g8; rw [k9] at g9; rw [k10] at g10; rw [k11] at g11
  rw [if_neg (by decide), if_pos (show fitsA b1 (l1.take 2) b2.many b2.term = true from k12)] at g12
  rw [k13] at g15; rw [k14] at g16; rw [k15] at g17; rw [k16] at g18; rw [k17] at g19; rw [k18] at g20; rw [k19] at g21; rw [k20] at g22; rw [k21] at g23; rw [k22] at g24
  simp only [psV, I, UInt8.reduceToNat, Int.cast_ofNat_Int, Int.natCast_one, Int.natCast_zero, b0, b1, b2, d2, l1, l2, m1, m2, m3, e1, f1, E0, Bs, E, B, List.map_cons, List.map_nil, List.take_succ_cons, List.take_zero] at g0 g1 g2 g3 g4 g5 g6 g7 g8 g9 g10 g11 g12 g13 g14 g15 g16 g17 g18 g19 g20 g21 g22 g23 g24
  simp -implicitDefEqProofs (disch := omega) [wrap_of, ilt_t, ilt_f, ile_t, ile_f, nlt_t, nlt_f, nle_t, nle_f, ieq_t, ieq_f, imin_l, imin_r, imax_l, imax_r, take_app1, take_map_all, c9, a38, g0, a12, g1, g2, a27, g3, g4, g5, g6, g7, a14, g8, g9, a16, g10, g11, g12, a20, g13, g14, a22, g15, a21, g16, g17, g18, a23, g19, g20, g21, a31, g22, g23, g24]
end Go.Proofs.Ytjblbmcgpdmahaa
