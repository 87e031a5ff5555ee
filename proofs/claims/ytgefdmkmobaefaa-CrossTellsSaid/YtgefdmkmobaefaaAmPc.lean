/-
 name.pieces: what it gives.
-/
import Derived.Test.YtgefdmkmobaefaaAmRs
import Derived.Test.YtgefdmkmobaefaaAmGT
import Derived.Test.YtgefdmkmobaefaaAmTb
set_option linter.unusedSimpArgs false
set_option linter.unusedVariables false
namespace Go.Am.Nm
open Go.Am Go.RowKit
def cutR : List UInt8 → List UInt8
 | [] => []
 | b :: t => if b = 47 then t else b :: t
def cutB : List UInt8 → Bool
 | [] => false
 | b :: _ => decide (b = 47)
def upTo (s : List UInt8) : List UInt8 := s.takeWhile fun b => !decide (b = 47)
def from_ (s : List UInt8) : List UInt8 := s.dropWhile fun b => !decide (b = 47)
def idxI (s : List UInt8) : Int := if s.all (fun b => !decide (b = 47)) = true then -1 else ((upTo s).length : Int)
theorem from_le (s : List UInt8) : (from_ s).length ≤ s.length := (List.dropWhile_sublist _).length_le
theorem from_lt {b : UInt8} {t : List UInt8} : (from_ (cutR (b :: t))).length < (b :: t).length := by
 by_cases h : b = 47
 ·have e : cutR (b :: t) = t := by simp [cutR, h]
  rw [e]
  have := from_le t
  simp only [List.length_cons]; omega
 ·have e : cutR (b :: t) = b :: t := by simp [cutR, h]
  rw [e]
  have := from_le t
  simp only [from_, List.dropWhile_cons, h, decide_false, Bool.not_false, if_true, List.length_cons]
  unfold from_ at this
  omega
def pcs (p : List UInt8) : List (List UInt8 × Bool) := match p with
 | [] => []
 | b :: t => (upTo (cutR (b :: t)), cutB (b :: t)) :: pcs (from_ (cutR (b :: t)))
termination_by p.length
decreasing_by exact from_lt
theorem pcs_nil : pcs [] = [] := by rw [pcs]
theorem pcs_cons {p : List UInt8} (h : p ≠ []) : pcs p = (upTo (cutR p), cutB p) :: pcs (from_ (cutR p)) := by
 cases p with
 | nil => exact absurd rfl h
 | cons b t => rw [pcs]
theorem up_app (s : List UInt8) : upTo s ++ from_ s = s := List.takeWhile_append_dropWhile
theorem up_all {s : List UInt8} (h : s.all (fun b => !decide (b = 47)) = true) : upTo s = s ∧ from_ s = [] := by
 have h1 := up_app s
 unfold upTo from_ at *
 have : s.dropWhile (fun b => !decide (b = 47)) = [] := by
  clear h1
  induction s with
  | nil => rfl
  | cons x s ih =>
   simp only [List.all_cons, Bool.and_eq_true] at h
   rw [List.dropWhile_cons, if_pos h.1]
   exact ih h.2
 rw [this, List.append_nil] at h1
 exact ⟨h1, this⟩
theorem take_up (s : List UInt8) : s.take (upTo s).length = upTo s := by
 have := up_app s
 have h2 : (upTo s ++ from_ s).take (upTo s).length = upTo s := by simp
 rwa [this] at h2
theorem drop_up (s : List UInt8) : s.drop (upTo s).length = from_ s := by
 have := up_app s
 have h2 : (upTo s ++ from_ s).drop (upTo s).length = from_ s := by simp
 rwa [this] at h2
/-! The text's pieces; fC: CutPrefix, fI: IndexByte. -/
def b0 : AC := .seq (.ops (.op (some 6) (.load 1 false (.t 1)) (.op (some 7) (.bin .neq (.t 6) (.c (.str []))) (.nil))))
 (.cond (.t 7) (.skip) (.exit 0))
def l1 (fC : FuncId) : AC := .ops (.op (some 9) (.load 1 false (.t 1)) (.op (some 10) (.call fC [(.t 9), (.c (.str [47]))]) (.op (some 8) (.mv (.t 10)) (.op (some 11) (.ext (.t 8) 0) (.op (some 12) (.ext (.t 8) 1) (.op (some 3) (.mv (.t 11)) (.op (some 4) (.mv (.t 12)) (.nil))))))))
def l2 (fI : FuncId) : AC := .ops (.op (some 13) (.mv (.t 3)) (.op (some 14) (.call fI [(.t 13), (.c (.int .u8 47))]) (.op (some 5) (.mv (.t 14)) (.nil))))
def x3 : AC := .seq (.ops (.op (some 15) (.mv (.t 5)) (.op (some 16) (.bin .lss (.t 15) (.c (.int .i64 0))) (.nil))))
 (.cond (.t 16) (.ops (.op (some 17) (.mv (.t 3)) (.op (some 18) (.len true (.t 17)) (.op (some 5) (.mv (.t 18)) (.nil))))) (.skip))
def l5 : List AI := [⟨some 19, none, .mv (.t 0)⟩, ⟨some 20, none, .mv (.t 3)⟩, ⟨some 21, none, .mv (.t 5)⟩, ⟨some 22, none, .sls (.t 20) none (some (.t 21))⟩, ⟨some 23, none, .mv (.t 4)⟩]
def l5b : List AI := [⟨some 25, none, .un .not (.t 24)⟩]
def l6 : AC := .ops (.op (some 26) (.mv (.t 3)) (.op (some 27) (.mv (.t 5)) (.op (some 28) (.sls (.t 26) (some (.t 27)) none) (.op none (.store 1 (.t 1) (.t 28)) (.nil)))))
def pcOK (P : Program) (f fC fI : FuncId) : Bool := match P.funcs[f]? with
 | some fn => match fn.body with
  | some (.block 0 (.loop (.seq B0 (.block 1 (.seq R1 (.seq R2 (.seq X3 (.seq (.seq (.region _ ops5 false) (.cond (.tmp 25) .ret .skip)) R6)))))))) =>
   decide (fn.ntmps = 29) && (fn.name == "runtime.NumGoroutine") == false && fn.results.isEmpty && okCode P 29 B0 b0 && okCode P 29 R1 (l1 fC) && okCode P 29 R2 (l2 fI) && okCode P 29 X3 x3 && okCode P 29 R6 l6 &&
   (match ops5.toList with
    | [o1, o2, o3, o4, o5, o6, o7] => okAIs P 29 [o1, o2, o3, o4, o5, o6, o7] [o1, o2, o3, o4, o5] l5 && okAIs P 29 [o1, o2, o3, o4, o5, o6, o7] [o7] l5b && o6.guard.isNone &&
      decide (o6.dst = some 24) && (match o6.op with | .call { callee := .value (.tmp 19), args, argTypes := _ } => (match args.toList with | [.tmp 22, .tmp 23] => true | _ => false) | _ => false)
    | _ => false)
  | _ => false
 | none => false
section
variable {P : Program} {Γ : Tab}
theorem ev_b0 {V : Nat → Bool} {e : Env} {p : List UInt8} (h1 : e 1 = .ptr 0 0 0 0) : eval Γ b0 V (AX × St) (fun x s => some (x, s)) ⟨e, [.var [.str p]]⟩ =
  some (if p = [] then .exit 0 else .normal, ⟨(e.put 6 (.str p)).put 7 (.bool (!decide (p = []))), [.var [.str p]]⟩) := by
 by_cases hp : p = [] <;> simp -implicitDefEqProofs (disch := omega) [wrap_of, ilt_t, ilt_f, ile_t, ile_f, nlt_t, nlt_f, nle_t, nle_f, ieq_t, ieq_f, imin_l, imin_r, imax_l, imax_r, take_app1, take_map_all, b0, h1, strBin, hp]
theorem ev_l1 {V : Nat → Bool} {fC : FuncId} (hC : ∀ p, Γ.p fC [.str p, .str [47]] = some (.tup [.str (cutR p), .bool (cutB p)])) {e : Env} {p : List UInt8} (h1 : e 1 = .ptr 0 0 0 0) :
  ∃ e', eval Γ (l1 fC) V (AX × St) (fun x s => some (x, s)) ⟨e, [.var [.str p]]⟩ = some (.normal, ⟨e', [.var [.str p]]⟩) ∧ e' 0 = e 0 ∧ e' 1 = e 1 ∧ e' 3 = .str (cutR p) ∧ e' 4 = .bool (cutB p) := by
 refine ⟨(((((((e.put 9 (.str p)).put 10 (.tup [.str (cutR p), .bool (cutB p)])).put 8 (.tup [.str (cutR p), .bool (cutB p)])).put 11 (.str (cutR p))).put 12 (.bool (cutB p))).put 3 (.str (cutR p))).put 4 (.bool (cutB p))), ?_, rfl, rfl, rfl, rfl⟩
 have hc := fun h => callA_p (Γ := Γ) (f := fC) (args := [.str p, .str [47]]) (h := h) rfl (hC p)
 simp -implicitDefEqProofs (disch := omega) [wrap_of, ilt_t, ilt_f, ile_t, ile_f, nlt_t, nlt_f, nle_t, nle_f, ieq_t, ieq_f, imin_l, imin_r, imax_l, imax_r, take_app1, take_map_all, l1, h1, hc]
theorem ev_l2 {V : Nat → Bool} {fI : FuncId} (hI : ∀ s, Γ.p fI [.str s, .int .u8 47] = some (.int .i64 (idxI s))) {e : Env} {h : AH} {r : List UInt8} (h3 : e 3 = .str r) :
  ∃ e', eval Γ (l2 fI) V (AX × St) (fun x s => some (x, s)) ⟨e, h⟩ = some (.normal, ⟨e', h⟩) ∧ e' 0 = e 0 ∧ e' 1 = e 1 ∧ e' 3 = .str r ∧ e' 4 = e 4 ∧ e' 5 = .int .i64 (idxI r) := by
 refine ⟨((e.put 13 (.str r)).put 14 (.int .i64 (idxI r))).put 5 (.int .i64 (idxI r)), ?_, rfl, rfl, h3, rfl, rfl⟩
 have hc := fun h => callA_p (Γ := Γ) (f := fI) (args := [.str r, .int .u8 47]) (h := h) rfl (hI r)
 simp -implicitDefEqProofs (disch := omega) [wrap_of, ilt_t, ilt_f, ile_t, ile_f, nlt_t, nlt_f, nle_t, nle_f, ieq_t, ieq_f, imin_l, imin_r, imax_l, imax_r, take_app1, take_map_all, l2, h3, hc]
theorem ev_x3 {V : Nat → Bool} {e : Env} {h : AH} {r : List UInt8} (h3 : e 3 = .str r) (h5 : e 5 = .int .i64 (idxI r)) :
  ∃ e', eval Γ x3 V (AX × St) (fun x s => some (x, s)) ⟨e, h⟩ = some (.normal, ⟨e', h⟩) ∧ e' 0 = e 0 ∧ e' 1 = e 1 ∧ e' 3 = .str r ∧ e' 4 = e 4 ∧ e' 5 = .int .i64 ((upTo r).length : Int) := by
 by_cases hr : r.all (fun b => !decide (b = 47)) = true
 ·have e1 : idxI r = -1 := by unfold idxI; rw [if_pos hr]
  rw [e1] at h5
  refine ⟨((((e.put 15 (.int .i64 (-1))).put 16 (.bool true)).put 17 (.str r)).put 18 (.int .i64 r.length)).put 5 (.int .i64 r.length), ?_, rfl, rfl, h3, rfl, by rw [(up_all hr).1]; rfl⟩
  simp -implicitDefEqProofs (disch := omega) [wrap_of, ilt_t, ilt_f, ile_t, ile_f, nlt_t, nlt_f, nle_t, nle_f, ieq_t, ieq_f, imin_l, imin_r, imax_l, imax_r, take_app1, take_map_all, x3, h3, h5]
 ·have e1 : idxI r = ((upTo r).length : Int) := by unfold idxI; rw [if_neg hr]
  rw [e1] at h5
  refine ⟨(e.put 15 (.int .i64 ((upTo r).length : Int))).put 16 (.bool false), ?_, rfl, rfl, h3, rfl, h5⟩
  simp -implicitDefEqProofs (disch := omega) [wrap_of, ilt_t, ilt_f, ile_t, ile_f, nlt_t, nlt_f, nle_t, nle_f, ieq_t, ieq_f, imin_l, imin_r, imax_l, imax_r, take_app1, take_map_all, x3, h3, h5]
theorem ev_l5 {e : Env} {h : AH} {r : List UInt8} (h3 : e 3 = .str r) (h5 : e 5 = .int .i64 ((upTo r).length : Int)) :
  ∃ e', flat Γ l5 ⟨e, h⟩ = some ⟨e', h⟩ ∧ e' 0 = e 0 ∧ e' 1 = e 1 ∧ e' 3 = .str r ∧ e' 4 = e 4 ∧ e' 5 = .int .i64 ((upTo r).length : Int) ∧ e' 19 = e 0 ∧ e' 22 = .str (upTo r) ∧ e' 23 = e 4 := by
 have hle : (upTo r).length ≤ r.length := (List.takeWhile_sublist _).length_le
 refine ⟨((((e.put 19 (e 0)).put 20 (.str r)).put 21 (.int .i64 ((upTo r).length : Int))).put 22 (.str (upTo r))).put 23 (e 4), ?_, rfl, rfl, h3, rfl, h5, rfl, rfl, rfl⟩
 simp [l5, flat, exec, h3, h5, AO.get, optNat, nat?, Env.put, St.put, hle, take_up]
theorem ev_l6 {V : Nat → Bool} {e : Env} {p r : List UInt8} (h1 : e 1 = .ptr 0 0 0 0) (h3 : e 3 = .str r) (h5 : e 5 = .int .i64 ((upTo r).length : Int)) :
  ∃ e', eval Γ l6 V (AX × St) (fun x s => some (x, s)) ⟨e, [.var [.str p]]⟩ = some (.normal, ⟨e', [.var [.str (from_ r)]]⟩) ∧ e' 0 = e 0 ∧ e' 1 = e 1 := by
 have hle : (upTo r).length ≤ r.length := (List.takeWhile_sublist _).length_le
 refine ⟨((e.put 26 (.str r)).put 27 (.int .i64 ((upTo r).length : Int))).put 28 (.str (from_ r)), ?_, rfl, rfl⟩
 simp -implicitDefEqProofs (disch := omega) [wrap_of, ilt_t, ilt_f, ile_t, ile_f, nlt_t, nlt_f, nle_t, nle_f, ieq_t, ieq_f, imin_l, imin_r, imax_l, imax_r, take_app1, take_map_all, l6, h1, h3, h5, hle, drop_up]
end
end Go.Am.Nm
