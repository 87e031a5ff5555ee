import Derived.Test.YtnokdfhhnjmeoaaJ23
set_option linter.unusedSimpArgs false
set_option linter.unusedVariables false
namespace Go.Proofs.Ytnokdfhhnjmeoaa
open Go.Am Go.Am.Kp

abbrev ka : K := ⟨7, [], 2, 0, false, [1], 9⟩
abbrev kb : K := ⟨3, [120], 0, 0, true, [], 5⟩
abbrev kc : K := ⟨7, [], 1, 0, false, [2, 3], 4⟩
abbrev da : AV := .agg [.int .i64 7, .str [], .int .i64 2, .int .i64 0, .lst false [B 1], .int .i64 9]
abbrev db : AV := .agg [.int .i64 3, .str [120], .int .i64 0, .int .i64 0, .lst true [], .int .i64 5]
abbrev dc : AV := .agg [.int .i64 7, .str [], .int .i64 1, .int .i64 0, .lst false [B 2, B 3], .int .i64 4]
theorem so1 : Sorted [ka] := by simp [Sorted]
theorem so2 : Sorted [kb, ka] := by simp [Sorted, lt]
theorem so3 : Sorted [kb, kc, ka] := by simp [Sorted, lt]
theorem k1 {n : Nat} (hn : 30 < n) : (C23.tab n).p 24 [.lst true [], .int .i64 7, .int .i64 2, .lst true [B 1], .int .i64 9] = some (.lst false [da]) :=
  s24 hn [] List.Pairwise.nil (by simp) true true 7 2 9 [1] (by simp)
theorem k2 {n : Nat} (hn : 29 < n) : (C23.tab n).p 23 [.lst false [da], .int .i64 3, .str [120], .int .i64 0, .int .i64 5] = some (.lst false [db, da]) :=
  s23 hn [ka] so1 (by simp) false 3 0 5 [120]
theorem k3 {n : Nat} (hn : 30 < n) : (C23.tab n).p 24 [.lst false [db, da], .int .i64 7, .int .i64 1, .lst true [B 2, B 3], .int .i64 4] = some (.lst false [db, dc, da]) :=
  s24 hn [kb, ka] so2 (by simp) false true 7 1 4 [2, 3] (by simp)
theorem k4 {n : Nat} (hn : 18 < n) : (C23.tab n).p 16 [.lst false [db, dc, da], .int .i64 7, .int .i64 1, .int .i64 3] = some (.tup [.lst false [B 2, B 3], .bool true]) :=
  s16 hn [kb, kc, ka] so3 (by simp) (by simp) false 7 1 3
theorem k5 {n : Nat} (hn : 18 < n) : (C23.tab n).p 16 [.lst false [db, dc, da], .int .i64 7, .int .i64 1, .int .i64 4] = some (.tup [.lst true [], .bool false]) :=
  s16 hn [kb, kc, ka] so3 (by simp) (by simp) false 7 1 4
theorem k6 {n : Nat} (hn : 20 < n) : (C23.tab n).p 18 [.lst false [db, dc, da], .int .i64 3, .str [120], .int .i64 4] = some (.tup [.int .i64 0, .bool true]) :=
  s18 hn [kb, kc, ka] so3 (by simp) false 3 4 [120]
theorem k7 {n : Nat} (hn : 20 < n) : (C23.tab n).p 18 [.lst false [db, dc, da], .int .i64 3, .str [121], .int .i64 4] = some (.tup [.int .i64 0, .bool false]) :=
  s18 hn [kb, kc, ka] so3 (by simp) false 3 4 [121]
theorem k8 {n : Nat} (hn : 25 < n) : (C23.tab n).p 21 [.lst false [db, dc, da], .int .i64 5] = some (.lst false [da]) :=
  s21 hn [kb, kc, ka] (by simp) false 5
theorem k9 {n : Nat} (hn : 26 < n) : (C23.tab n).p 22 [.lst false [db, dc, da], .int .i64 7] = some (.lst false [db]) :=
  s22 hn [kb, kc, ka] (by simp) false 7
theorem k10 {n : Nat} (hn : 15 < n) : (C23.tab n).p 11 [.lst false [db, dc, da]] = some (.bool true) :=
  s11 hn [kb, kc, ka] (by simp) false
theorem k11 {n : Nat} (hn : 15 < n) : (C23.tab n).p 11 [.lst true [dc, db]] = some (.bool false) :=
  s11 hn [kc, kb] (by simp) true
theorem k12 {n : Nat} (hn : 21 < n) : (C23.tab n).p 20 [.lst false [B 2, B 3], .lst true [B 2, B 3]] = some (.bool true) :=
  s20 hn [2, 3] [2, 3] false true (by simp)
/-- catacomblaw23.head -/
theorem s9 {n : Nat} (hn : 31 < n) : (C23.tab n).p 9 [] = some (.bool true) := by
  rw [p9 hn, runP_eq, runH_eq]
  simp -implicitDefEqProofs (disch := omega) [wrap_of, ilt_t, ilt_f, ile_t, ile_f, nlt_t, nlt_f, nle_t, nle_f, ieq_t, ieq_f, imin_l, imin_r, imax_l, imax_r, take_app1, take_map_all, c9, a24, a23, a16, a18, a21, k1, k2, k3, k4, k5, k6, k7, k8, k9, k10, k11, k12, strBin]
end Go.Proofs.Ytnokdfhhnjmeoaa
