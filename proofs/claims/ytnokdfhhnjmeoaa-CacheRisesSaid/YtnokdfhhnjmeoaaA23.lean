import Derived.Test.YtnokdfhhnjmeoaaCfg23
import Derived.Test.YtnokdfhhnjmeoaaAmGS
import Derived.Test.YtnokdfhhnjmeoaaM23
set_option linter.unusedSimpArgs false
set_option linter.unusedVariables false
namespace Go.Proofs.Ytnokdfhhnjmeoaa
open Go.Am Go.Am.Kp

/-- A byte. -/
abbrev B : Int → AV := AV.int .u8
@[simp] def D (d : K) : AV := .agg [.int .i64 d.ino, .str d.name, .int .i64 d.page, .int .i64 d.is, .lst d.fl (d.dat.map B), .int .i64 d.til]
@[simp] theorem szD (l : List K) : szOk 6 (l.map D) = true := by simp [szOk]
@[simp] theorem szB (l : List Int) : szOk 1 (l.map B) = true := by simp [szOk]

theorem s53 {n : Nat} (hn : 1 < n) (a : Int) : (C23.tab n).p 53 [.int .i64 a] = some (.bool false) := by
  rw [p53 hn, runP_eq, runH_eq]; simp -implicitDefEqProofs (disch := omega) [wrap_of, ilt_t, ilt_f, ile_t, ile_f, nlt_t, nlt_f, nle_t, nle_f, ieq_t, ieq_f, imin_l, imin_r, imax_l, imax_r, take_app1, take_map_all, c53]
theorem s54 {n : Nat} (hn : 3 < n) (a : List UInt8) : (C23.tab n).p 54 [.str a] = some (.bool false) := by
  rw [p54 hn, runP_eq, runH_eq]; simp -implicitDefEqProofs (disch := omega) [wrap_of, ilt_t, ilt_f, ile_t, ile_f, nlt_t, nlt_f, nle_t, nle_f, ieq_t, ieq_f, imin_l, imin_r, imax_l, imax_r, take_app1, take_map_all, c54, strBin]
def cmpI (a b : Int) : Int := if a < b then -1 else if b < a then 1 else 0
def cmpS (a b : List UInt8) : Int := if sLess a b = true then -1 else if sLess b a = true then 1 else 0
theorem s45 {n : Nat} (hn : 2 < n) (a b : Int) : (C23.tab n).p 45 [.int .i64 a, .int .i64 b] = some (.int .i64 (cmpI a b)) := by
  rw [p45 hn, runP_eq, runH_eq]
  unfold cmpI
  by_cases h : a < b
  · simp -implicitDefEqProofs (disch := omega) [wrap_of, ilt_t, ilt_f, ile_t, ile_f, nlt_t, nlt_f, nle_t, nle_f, ieq_t, ieq_f, imin_l, imin_r, imax_l, imax_r, take_app1, take_map_all, c45, a53, s53, h]
  · by_cases h' : b < a
    · simp -implicitDefEqProofs (disch := omega) [wrap_of, ilt_t, ilt_f, ile_t, ile_f, nlt_t, nlt_f, nle_t, nle_f, ieq_t, ieq_f, imin_l, imin_r, imax_l, imax_r, take_app1, take_map_all, c45, a53, s53, h, h']
    · simp -implicitDefEqProofs (disch := omega) [wrap_of, ilt_t, ilt_f, ile_t, ile_f, nlt_t, nlt_f, nle_t, nle_f, ieq_t, ieq_f, imin_l, imin_r, imax_l, imax_r, take_app1, take_map_all, c45, a53, s53, h, h']
theorem s46 {n : Nat} (hn : 4 < n) (a b : List UInt8) : (C23.tab n).p 46 [.str a, .str b] = some (.int .i64 (cmpS a b)) := by
  rw [p46 hn, runP_eq, runH_eq]
  unfold cmpS
  cases h : sLess a b with
  | true => simp -implicitDefEqProofs (disch := omega) [wrap_of, ilt_t, ilt_f, ile_t, ile_f, nlt_t, nlt_f, nle_t, nle_f, ieq_t, ieq_f, imin_l, imin_r, imax_l, imax_r, take_app1, take_map_all, c46, a54, s54, strBin, h]
  | false =>
    cases h' : sLess b a with
    | true =>
      have e : a ≠ b := fun e => by rw [e, sLess_irrefl] at h'; cases h'
      simp -implicitDefEqProofs (disch := omega) [wrap_of, ilt_t, ilt_f, ile_t, ile_f, nlt_t, nlt_f, nle_t, nle_f, ieq_t, ieq_f, imin_l, imin_r, imax_l, imax_r, take_app1, take_map_all, c46, a54, s54, strBin, h, h', e]
    | false =>
      have e := sLess_tri h h'
      subst e
      simp -implicitDefEqProofs (disch := omega) [wrap_of, ilt_t, ilt_f, ile_t, ile_f, nlt_t, nlt_f, nle_t, nle_f, ieq_t, ieq_f, imin_l, imin_r, imax_l, imax_r, take_app1, take_map_all, c46, a54, s54, strBin, h, h', sLess_irrefl]
theorem l44 {Γ : Tab} (l : List Int) (hl : l.length ≤ 9223372036854775807) (f : Bool) (e0 : Env) (h6 : e0 6 = .lst f (l.map (AV.int .i64))) (h7 : e0 7 = .int .i64 l.length) (h3 : e0 3 = .int .i64 0) :
    iter (round Γ [8] [(.exit 0, []), (.ret, [2])] c44_1 e0 0 []) ([.int .i64 0], []) = some ((l.find? (fun x => !decide (x = 0))).elim (.exit 0, [], []) (fun x => (.ret, [.int .i64 x], []))) :=
  for_idx (f := round Γ [8] [(.exit 0, []), (.ret, [2])] c44_1 e0 0 []) (fun i => ([.int .i64 i], [])) l (fun x => !decide (x = 0)) (fun _ x => (.ret, [.int .i64 x], [])) (.exit 0, [], [])
    (fun i hi => by
      by_cases h : l[i] = 0 <;> simp -implicitDefEqProofs (disch := omega) [wrap_of, ilt_t, ilt_f, ile_t, ile_f, nlt_t, nlt_f, nle_t, nle_f, ieq_t, ieq_f, imin_l, imin_r, imax_l, imax_r, take_app1, take_map_all, round_eq, b44_1, h6, h7, h3, hi, h])
    (by simp -implicitDefEqProofs (disch := omega) [wrap_of, ilt_t, ilt_f, ile_t, ile_f, nlt_t, nlt_f, nle_t, nle_f, ieq_t, ieq_f, imin_l, imin_r, imax_l, imax_r, take_app1, take_map_all, round_eq, b44_1, h7])
theorem s44 {n : Nat} (hn : 0 < n) (f : Bool) (a b c : Int) : (C23.tab n).p 44 [.lst f [.int .i64 a, .int .i64 b, .int .i64 c]] = some (.int .i64 (if a = 0 then (if b = 0 then c else b) else a)) := by
  rw [p44 hn, runP_eq, runH_eq]
  have hl : [AV.int .i64 a, AV.int .i64 b, AV.int .i64 c] = [a, b, c].map (AV.int .i64) := rfl
  rw [hl]
  simp -implicitDefEqProofs (disch := omega) [wrap_of, ilt_t, ilt_f, ile_t, ile_f, nlt_t, nlt_f, nle_t, nle_f, ieq_t, ieq_f, imin_l, imin_r, imax_l, imax_r, take_app1, take_map_all, c44, -List.map_cons, -List.map_nil]
  rw [l44 [a, b, c] (by simp) f _ (by simp -implicitDefEqProofs (disch := omega) [wrap_of, ilt_t, ilt_f, ile_t, ile_f, nlt_t, nlt_f, nle_t, nle_f, ieq_t, ieq_f, imin_l, imin_r, imax_l, imax_r, take_app1, take_map_all, -List.map_cons, -List.map_nil]) (by simp -implicitDefEqProofs (disch := omega) [wrap_of, ilt_t, ilt_f, ile_t, ile_f, nlt_t, nlt_f, nle_t, nle_f, ieq_t, ieq_f, imin_l, imin_r, imax_l, imax_r, take_app1, take_map_all, -List.map_cons, -List.map_nil]) (by simp -implicitDefEqProofs (disch := omega) [wrap_of, ilt_t, ilt_f, ile_t, ile_f, nlt_t, nlt_f, nle_t, nle_f, ieq_t, ieq_f, imin_l, imin_r, imax_l, imax_r, take_app1, take_map_all, ])]
  by_cases h1 : a = 0
  · by_cases h2 : b = 0
    · by_cases h3 : c = 0
      · rw [show [a, b, c].find? (fun x => !decide (x = 0)) = none by simp [h1, h2, h3]]; simp -implicitDefEqProofs (disch := omega) [wrap_of, ilt_t, ilt_f, ile_t, ile_f, nlt_t, nlt_f, nle_t, nle_f, ieq_t, ieq_f, imin_l, imin_r, imax_l, imax_r, take_app1, take_map_all, h1, h2, h3]
      · rw [show [a, b, c].find? (fun x => !decide (x = 0)) = some c by simp [h1, h2, h3]]; simp -implicitDefEqProofs (disch := omega) [wrap_of, ilt_t, ilt_f, ile_t, ile_f, nlt_t, nlt_f, nle_t, nle_f, ieq_t, ieq_f, imin_l, imin_r, imax_l, imax_r, take_app1, take_map_all, h1, h2]
    · rw [show [a, b, c].find? (fun x => !decide (x = 0)) = some b by simp [h1, h2]]; simp -implicitDefEqProofs (disch := omega) [wrap_of, ilt_t, ilt_f, ile_t, ile_f, nlt_t, nlt_f, nle_t, nle_f, ieq_t, ieq_f, imin_l, imin_r, imax_l, imax_r, take_app1, take_map_all, h1, h2]
  · rw [show [a, b, c].find? (fun x => !decide (x = 0)) = some a by simp [h1]]; simp -implicitDefEqProofs (disch := omega) [wrap_of, ilt_t, ilt_f, ile_t, ile_f, nlt_t, nlt_f, nle_t, nle_f, ieq_t, ieq_f, imin_l, imin_r, imax_l, imax_r, take_app1, take_map_all, h1]
def ordI (a b : K) : Int := if lt a b = true then -1 else if lt b a = true then 1 else 0
theorem ord_eq (a b : K) : (if cmpI a.ino b.ino = 0 then (if cmpS a.name b.name = 0 then cmpI a.page b.page else cmpS a.name b.name) else cmpI a.ino b.ino) = ordI a b := by
  unfold ordI lt cmpI cmpS
  by_cases e1 : a.ino = b.ino
  · by_cases e2 : a.name = b.name
    · simp [e1, e2, sLess_irrefl]
    · have e2' : ¬ b.name = a.name := fun e => e2 e.symm
      cases h : sLess a.name b.name with
      | true => simp [e1, e2, e2']
      | false =>
        cases h' : sLess b.name a.name with
        | true => simp [e1, e2, e2']
        | false => exact absurd (sLess_tri h h') e2
  · have e1' : ¬ b.ino = a.ino := fun e => e1 e.symm
    by_cases h : a.ino < b.ino
    · simp [e1, e1', h]
    · have : b.ino < a.ino := by omega
      simp [e1, e1', h, this]
def ordC (i1 : Int) (m1 : List UInt8) (p1 i2 : Int) (m2 : List UInt8) (p2 : Int) : Int := ordI ⟨i1, m1, p1, 0, true, [], 0⟩ ⟨i2, m2, p2, 0, true, [], 0⟩
@[simp] theorem ordC_fold (a b : K) : ordC a.ino a.name a.page b.ino b.name b.page = ordI a b := rfl
/-- cache.order -/
theorem s25 {n : Nat} (hn : 5 < n) (i1 p1 s1 t1 i2 p2 s2 t2 : Int) (m1 m2 : List UInt8) (f1 f2 : Bool) (d1 d2 : List AV) :
    (C23.tab n).p 25 [.agg [.int .i64 i1, .str m1, .int .i64 p1, .int .i64 s1, .lst f1 d1, .int .i64 t1], .agg [.int .i64 i2, .str m2, .int .i64 p2, .int .i64 s2, .lst f2 d2, .int .i64 t2]] = some (.int .i64 (ordC i1 m1 p1 i2 m2 p2)) := by
  rw [p25 hn, runP_eq, runH_eq]
  simp -implicitDefEqProofs (disch := omega) [wrap_of, ilt_t, ilt_f, ile_t, ile_f, nlt_t, nlt_f, nle_t, nle_f, ieq_t, ieq_f, imin_l, imin_r, imax_l, imax_r, take_app1, take_map_all, c25, s45, s46, s44, ordC, ← ord_eq]
theorem ordI_lt {a b : K} : (ordI a b < 0) ↔ lt a b = true := by
  unfold ordI
  split
  · rename_i h; simp [h]
  · rename_i h; split <;> simp [h]
theorem ordI_neg {a b : K} (h : lt a b = true) : ordI a b = -1 := by simp [ordI, h]
theorem ordI_nonneg {a b : K} (h : lt a b = false) : ordI a b = if lt b a = true then 1 else 0 := by simp [ordI, h]
theorem ordI_eq {a b : K} : (ordI a b = 0) ↔ lt a b = false ∧ lt b a = false := by
  unfold ordI
  cases h : lt a b <;> cases h' : lt b a <;> simp
end Go.Proofs.Ytnokdfhhnjmeoaa
