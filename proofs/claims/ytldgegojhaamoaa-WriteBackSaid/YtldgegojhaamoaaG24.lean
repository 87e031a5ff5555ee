import Derived.Test.YtldgegojhaamoaaF24
set_option linter.unusedSimpArgs false
set_option linter.unusedVariables false
namespace Go.Proofs.Ytldgegojhaamoaa
open Go.Am

def da : AV := .agg [.int .i64 5, .int .i64 2, .lst false [B 1, B 2]]
def db : AV := .agg [.int .i64 5, .int .i64 2, .lst false [B 1, B 9, B 9]]
def dc : AV := .agg [.int .i64 5, .int .i64 8, .lst false [B 7]]
theorem k1 {n : Nat} (hn : 9 < n) : (C24.tab n).p 15 [.lst true [], .int .i64 5, .int .i64 2, .lst true [B 1, B 2]] = some (.lst false [da]) := s15 hn [] true true 5 2 [1, 2] (by simp) (by simp) rfl
theorem rdb : Right ⟨5, 2, false, [1, 9, 9]⟩ := ⟨by simp, by simp, by simp⟩
theorem rdc : Right ⟨5, 8, false, [7]⟩ := ⟨by simp, by simp, by simp⟩
theorem k2 {n : Nat} (hn : 9 < n) : (C24.tab n).p 15 [.lst false [da], .int .i64 5, .int .i64 3, .lst true [B 9, B 9]] = some (.lst false [db]) := s15 hn [⟨5, 2, false, [1, 2]⟩] false true 5 3 [9, 9] (by simp) (by intro d hd; simp only [List.mem_singleton] at hd; subst hd; exact ⟨by simp, by simp, by simp⟩) rfl
theorem k3 {n : Nat} (hn : 9 < n) : (C24.tab n).p 15 [.lst false [db], .int .i64 5, .int .i64 8, .lst true [B 7]] = some (.lst false [db, dc]) := s15 hn [⟨5, 2, false, [1, 9, 9]⟩] false true 5 8 [7] (by simp) (by intro d hd; simp only [List.mem_singleton] at hd; subst hd; exact rdb) rfl
theorem k4 {n : Nat} (hn : 9 < n) : (C24.tab n).p 15 [.lst false [db, dc], .int .i64 0, .int .i64 8, .lst true [B 7]] = some (.lst false [db, dc]) := s15_not hn [db, dc] false true 0 8 [7] (by simp) rfl
theorem k5 {n : Nat} (hn : 10 < n) : (C24.tab n).p 18 [.lst false [db, dc], .int .i64 5, .lst true [B 4, B 4, B 4]] = some (.lst false [B 4, B 4, B 1, B 9, B 9, B 0, B 0, B 0, B 7]) :=
  s18 hn [⟨5, 2, false, [1, 9, 9]⟩, ⟨5, 8, false, [7]⟩] false true 5 [4, 4, 4] (by simp) (by intro d hd; simp only [List.mem_cons, List.not_mem_nil, or_false] at hd; rcases hd with rfl | rfl; exact rdb.good; exact rdc.good) (by simp)
def sa : AV := .agg [.int .i64 5, .int .i64 4, .lst false [B 0, B 0, B 1, B 9, B 9]]
def sn : AV := .agg [.int .i64 5, .int .i64 9, .lst false [B 0, B 0, B 1, B 9, B 9]]
theorem k6 {n : Nat} (hn : 3 < n) : (C24.tab n).p 13 [.lst false [db, dc]] = some (.tup [db, .lst false [dc], .bool true]) := s13_cons hn false ⟨5, 2, false, [1, 9, 9]⟩ [⟨5, 8, false, [7]⟩]
theorem k7 {n : Nat} (hn : 3 < n) : (C24.tab n).p 13 [.lst true []] = some (.tup [.agg [.int .i64 0, .int .i64 0, .lst true []], .lst true [], .bool false]) := s13_nil hn true
theorem k8 {n : Nat} (hn : 2 < n) : (C24.tab n).p 11 [.lst true [], .int .i64 4095, .lst true [B 1, B 2]] = some (.tup [.lst true [], .int .i64 2]) := s11 hn [] [1, 2] true true 4095 (by simp) (by simp) (by simp)
theorem k9 {n : Nat} (hn : 2 < n) : (C24.tab n).p 11 [.lst true [], .int .i64 (-1), .lst true []] = some (.tup [.lst true [], .int .i64 1]) := s11 hn [] [] true true (-1) (by simp) (by simp) (by simp)
theorem k10 {n : Nat} (hn : 2 < n) : (C24.tab n).p 11 [.lst true [B 1], .int .i64 3, .lst true [B 2]] = some (.tup [.lst false [B 1, B 0, B 0, B 2], .int .i64 0]) := s11 hn [1] [2] true true 3 (by simp) (by simp) (by simp)
theorem k11 {n : Nat} (hn : 14 < n) : (C24.tab n).p 21 [.lst true [], db, .int .i64 4] = some (.tup [.lst false [sa], .int .i64 0]) := s21 hn [] (by simp) (by simp) true ⟨5, 2, false, [1, 9, 9]⟩ rdb 4
theorem k12 {n : Nat} (hn : 14 < n) : (C24.tab n).p 21 [.lst false [sa], db, .int .i64 3] = some (.tup [.lst false [sa], .int .i64 240]) := s21 hn [⟨5, 4, false, [0, 0, 1, 9, 9]⟩] (by simp) (by simp [GoodS]) false ⟨5, 2, false, [1, 9, 9]⟩ rdb 3
theorem k13 {n : Nat} (hn : 16 < n) : (C24.tab n).p 24 [.lst false [sa], .int .i64 5, .int .i64 9] = some (.lst false [sn]) := s24 hn [⟨5, 4, false, [0, 0, 1, 9, 9]⟩] (by simp) false 5 9
theorem k14 {n : Nat} (hn : 14 < n) : (C24.tab n).p 21 [.lst false [sn], db, .int .i64 8] = some (.tup [.lst false [sn], .int .i64 240]) := s21 hn [⟨5, 9, false, [0, 0, 1, 9, 9]⟩] (by simp) (by simp [GoodS]) false ⟨5, 2, false, [1, 9, 9]⟩ rdb 8
theorem k15 {n : Nat} (hn : 5 < n) : (C24.tab n).p 14 [.lst false [db, dc], .lst true [.agg [.int .i64 5, .int .i64 2, .lst true [B 1, B 9, B 9]], .agg [.int .i64 5, .int .i64 8, .lst true [B 7]]]] = some (.bool true) :=
  s14 hn [⟨5, 2, false, [1, 9, 9]⟩, ⟨5, 8, false, [7]⟩] [⟨5, 2, true, [1, 9, 9]⟩, ⟨5, 8, true, [7]⟩] false true (by simp) (by simp [Short])
theorem k16 {n : Nat} (hn : 5 < n) : (C24.tab n).p 14 [.lst false [db, dc], .lst false [db, dc]] = some (.bool true) :=
  s14 hn [⟨5, 2, false, [1, 9, 9]⟩, ⟨5, 8, false, [7]⟩] [⟨5, 2, false, [1, 9, 9]⟩, ⟨5, 8, false, [7]⟩] false false (by simp) (by simp [Short])
theorem k17 {n : Nat} (hn : 4 < n) (f g : Bool) : (C24.tab n).p 17 [.lst f [B 4, B 4, B 1, B 9, B 9, B 0, B 0, B 0, B 7], .lst g [B 4, B 4, B 1, B 9, B 9, B 0, B 0, B 0, B 7]] = some (.bool true) := s17 hn [4, 4, 1, 9, 9, 0, 0, 0, 7] [4, 4, 1, 9, 9, 0, 0, 0, 7] f g (by simp)
theorem k18 {n : Nat} (hn : 4 < n) (f g : Bool) : (C24.tab n).p 17 [.lst f [B 1, B 0, B 0, B 2], .lst g [B 1, B 0, B 0, B 2]] = some (.bool true) := s17 hn [1, 0, 0, 2] [1, 0, 0, 2] f g (by simp)
theorem k19 {n : Nat} (hn : 15 < n) : (C24.tab n).p 23 [.lst false [sa], .lst false [sa]] = some (.bool true) := s23 hn [⟨5, 4, false, [0, 0, 1, 9, 9]⟩] [⟨5, 4, false, [0, 0, 1, 9, 9]⟩] false false (by simp) (by simp)
theorem k20 {n : Nat} (hn : 15 < n) : (C24.tab n).p 23 [.lst false [sa], .lst true [.agg [.int .i64 5, .int .i64 4, .lst true [B 0, B 0, B 1, B 9, B 9]]]] = some (.bool true) := s23 hn [⟨5, 4, false, [0, 0, 1, 9, 9]⟩] [⟨5, 4, true, [0, 0, 1, 9, 9]⟩] false true (by simp) (by simp)
theorem k21 {n : Nat} (hn : 15 < n) : (C24.tab n).p 23 [.lst false [sn], .lst true [.agg [.int .i64 5, .int .i64 9, .lst true [B 0, B 0, B 1, B 9, B 9]]]] = some (.bool true) := s23 hn [⟨5, 9, false, [0, 0, 1, 9, 9]⟩] [⟨5, 9, true, [0, 0, 1, 9, 9]⟩] false true (by simp) (by simp)
@[simp] theorem isS_da : db.isE = true := rfl
@[simp] theorem cells_db : db.cells = [.int .i64 5, .int .i64 2, .lst false [B 1, B 9, B 9]] := rfl
@[simp] theorem purE_db (h : AH) : purE h db = some (db, h) := rfl
theorem db_eq : AV.agg [.int .i64 5, .int .i64 2, .lst false [B 1, B 9, B 9]] = db := rfl
/-- catacomblaw24.head -/
theorem s9 {n : Nat} (hn : 17 < n) : (C24.tab n).p 9 [] = some (.bool true) := by
  rw [p9 hn, runP_eq, runH_eq]
  simp -implicitDefEqProofs (disch := omega) [wrap_of, ilt_t, ilt_f, ile_t, ile_f, nlt_t, nlt_f, nle_t, nle_f, ieq_t, ieq_f, imin_l, imin_r, imax_l, imax_r, take_app1, take_map_all, c9, a15, k1, k2, k3, k4, a18, k5, a13, k6, k7, a11, k8, k9, k10, db_eq, a21, k11, k12, a24, k13, k14, a14, k15, k16, a17, k17, k18, a23, k19, k20, k21]
end Go.Proofs.Ytldgegojhaamoaa
