import Derived.Test.YtalckkfoplaeeaaD06
set_option linter.unusedSimpArgs false
set_option linter.unusedVariables false
namespace Go.Proofs.Ytalckkfoplaeeaa
open Go.Am Go.Am.Nm Go.Lib

theorem q1 : split [47, 97, 47, 98] = some [[97], [98]] := by decide
theorem q2 : split [47] = some [] := by decide
theorem q3 : split [47, 97, 47] = none := by decide
theorem q4 : split [47, 97] = some [[97]] := by decide
theorem q5 : split [47, 97, 98] = some [[97, 98]] := by decide
theorem k1 {n : Nat} (hn : 0 < n) : (C06.tab n).p 12 [.str [47, 97, 47, 98]] = some (.tup [.lst false [.str [97], .str [98]], .int .i64 0]) := by rw [s12 hn, spV, q1]; rfl
theorem k2 {n : Nat} (hn : 0 < n) : (C06.tab n).p 12 [.str [47]] = some (.tup [.lst true [], .int .i64 0]) := by rw [s12 hn, spV, q2]; rfl
theorem k3 {n : Nat} (hn : 0 < n) : (C06.tab n).p 12 [.str [47, 97, 47]] = some (.tup [.lst true [], .int .i64 60]) := by rw [s12 hn, spV, q3]
theorem k4 {n : Nat} (hn : 3 < n) : (C06.tab n).p 14 [.str [47, 97, 47, 98]] = some (.tup [.str [98], .str [47, 97], .int .i64 0]) := by rw [s14 hn _ (by decide), lastV, lastP, q1]; rfl
theorem k5 {n : Nat} (hn : 3 < n) : (C06.tab n).p 14 [.str [47]] = some (.tup [.str [], .str [], .int .i64 60]) := by rw [s14 hn _ (by decide), lastV, lastP, q2]; rfl
theorem k6 {n : Nat} (hn : 5 < n) (f g : Bool) : (C06.tab n).p 18 [.lst f [.str [97], .str [98]], .lst g [.str [97], .str [98]]] = some (.bool true) := s18 hn [[97], [98]] [[97], [98]] f g (by decide) (by decide)
theorem k7 {n : Nat} (hn : 7 < n) : (C06.tab n).p 19 [.str [47, 97], .str [47, 97, 47, 98]] = some (.bool true) := by rw [s19 hn, abv, q1, q4]; rfl
theorem k8 {n : Nat} (hn : 7 < n) : (C06.tab n).p 19 [.str [47, 97], .str [47, 97, 98]] = some (.bool false) := by rw [s19 hn, abv, q4, q5]; rfl
theorem k9 {n : Nat} (hn : 4 < n) : (C06.tab n).p 16 [.str [97]] = some (.bool true) := by rw [s16 hn]; rfl
theorem k10 {n : Nat} (hn : 4 < n) : (C06.tab n).p 16 [.str [46, 46]] = some (.bool false) := by rw [s16 hn]; rfl
theorem k11 {n : Nat} (hn : 4 < n) : (C06.tab n).p 16 [.str []] = some (.bool false) := by rw [s16 hn]; rfl
theorem k12 {n : Nat} (hn : 2 < n) (f : Bool) : (C06.tab n).p 21 [.lst f [.str [97], .str [98]]] = some (.str [47, 97, 47, 98]) := s21 hn [[97], [98]] f (by simp [Fits, joinTail])
theorem k13 {n : Nat} (hn : 2 < n) (f : Bool) : (C06.tab n).p 21 [.lst f []] = some (.str [47]) := s21 hn [] f fits_nil
/-- catacomblaw06.head -/
theorem s10 {n : Nat} (hn : 8 < n) : (C06.tab n).p 10 [] = some (.bool true) := by
  rw [p10 hn, runP_eq, runH_eq]
  simp -implicitDefEqProofs (disch := omega) [wrap_of, ilt_t, ilt_f, ile_t, ile_f, nlt_t, nlt_f, nle_t, nle_f, ieq_t, ieq_f, imin_l, imin_r, imax_l, imax_r, take_app1, take_map_all, c10, a12, k1, k2, k3, a14, k4, k5, a18, k6, a19, k7, k8, a16, k9, k10, k11, a21, k12, k13, strBin]
end Go.Proofs.Ytalckkfoplaeeaa
