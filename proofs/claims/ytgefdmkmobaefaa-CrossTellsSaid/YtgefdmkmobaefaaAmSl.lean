/-
 name.Split: what it makes.
-/
import Derived.Test.YtgefdmkmobaefaaAmPe
set_option linter.unusedSimpArgs false
set_option linter.unusedVariables false
namespace Go.Am.Nm
open Go.Am Go.RowKit
/-! The text's pieces; fP: name.pieces, fR: name.Right. -/
def r0 : AC := .ops (.op (some 2) (.alloc [.lst true []]) (.op (some 3) (.alloc [.int .i64 0]) (.nil)))
def x1 : AC := .seq (.ops (.op (some 7) (.mv (.t 0)) (.op (some 8) (.bin .eql (.t 7) (.c (.str [47]))) (.nil))))
 (.cond (.t 8) (.seq (.ops (.op none (.store 1 (.t 2) (.c (.lst true []))) (.op none (.store 1 (.t 3) (.c (.int .i64 0))) (.nil))))
 (.ret)) (.skip))
def r3 : AC := .ops (.op (some 4) (.alloc [.lst true []]) (.nil))
def r4 (fP : FuncId) : AC := .ops (.op (some 9) (.mv (.t 0)) (.op (some 10) (.call fP [(.t 9)]) (.nil)))
def bA (fR : FuncId) : AC := .block 1 (.seq (.seq (.ops (.op (some 13) (.mv (.t 6)) (.op (some 14) (.un .not (.t 13)) (.op (some 15) (.mv (.t 14)) (.sc 19 false 15 16 18 (.op (some 16) (.mv (.t 5)) (.op (some 17) (.call fR [(.t 16)]) (.op (some 18) (.un .not (.t 17)) (.nil)))) (.t 18) (.op (some 20) (.mv (.t 19)) (.sc 24 false 20 21 23 (.op (some 21) (.load 1 false (.t 4)) (.op (some 22) (.len false (.t 21)) (.op (some 23) (.bin .eql (.t 22) (.c (.int .i64 12))) (.nil)))) (.t 23) (.nil))))))))
 (.cond (.t 24) (.seq (.ops (.op none (.store 1 (.t 2) (.c (.lst true []))) (.op none (.store 1 (.t 3) (.c (.int .i64 60))) (.nil))))
 (.ret)) (.skip)))
 (.ops (.op (some 25) (.load 1 false (.t 4)) (.op (some 26) (.mv (.t 5)) (.op (some 27) (.bslh 1 (.str []) 1 [(0, (.t 26))]) (.op (some 28) (.app 1 16 (.t 25) (.t 27)) (.op none (.store 1 (.t 4) (.t 28)) (.nil))))))))
def post : AC := .seq (.seq (.ops (.op (some 29) (.load 1 false (.t 4)) (.op (some 30) (.len false (.t 29)) (.op (some 31) (.bin .eql (.t 30) (.c (.int .i64 0))) (.nil)))))
 (.cond (.t 31) (.seq (.ops (.op none (.store 1 (.t 2) (.c (.lst true []))) (.op none (.store 1 (.t 3) (.c (.int .i64 60))) (.nil))))
 (.ret)) (.skip)))
 (.seq (.ops (.op (some 32) (.load 1 false (.t 4)) (.op none (.store 1 (.t 2) (.t 32)) (.op none (.store 1 (.t 3) (.c (.int .i64 0))) (.nil)))))
 (.ret))
def isAssign (os : List Oper) (t s : Tmp) : Bool := match os with
 | [o] => decide (o.dst = some t) && o.guard.isNone && (match o.op with | .assign (.tmp s') => decide (s' = s) | _ => false)
 | _ => false
def splitOK (P : Program) (f fP fR : FuncId) : Bool := match P.funcs[f]? with
 | some fn => match fn.body with
  | some (.seq R0 (.seq X1 (.seq R3 (.seq (.seq R4 (.block 0 (.rangeFunc (.tmp 10) ps (.seq (.region _ opsA false) (.region _ opsB false)) bd))) PO)))) =>
   decide (fn.ntmps = 33) && okRes P fn.results.toList [.cell 2 1 false, .cell 3 1 false] && okCode P 33 R0 r0 && okCode P 33 X1 x1 && okCode P 33 R3 r3 && okCode P 33 R4 (r4 fP) && okCode P 33 bd (bA fR) && ndC bd && okCode P 33 PO post &&
   (match ps.toList with | [11, 12] => true | _ => false) && isAssign opsA.toList 5 11 && isAssign opsB.toList 6 12 && (fn.name == "runtime.NumGoroutine") == false
  | _ => false
 | none => false
section
variable {P : Program} {Γ : Tab}
theorem ev_r0 {V : Nat → Bool} {e : Env} : eval Γ r0 V (AX × St) (fun x s => some (x, s)) ⟨e, []⟩ = some (.normal, ⟨(e.put 2 (.ptr 0 0 0 0)).put 3 (.ptr 1 0 0 0), [.var [.lst true []], .var [.int .i64 0]]⟩) := by
 simp -implicitDefEqProofs (disch := omega) [wrap_of, ilt_t, ilt_f, ile_t, ile_f, nlt_t, nlt_f, nle_t, nle_f, ieq_t, ieq_f, imin_l, imin_r, imax_l, imax_r, take_app1, take_map_all, r0]
theorem ev_x1 {V : Nat → Bool} {e : Env} {p : List UInt8} (h0 : e 0 = .str p) (h2 : e 2 = .ptr 0 0 0 0) (h3 : e 3 = .ptr 1 0 0 0) : eval Γ x1 V (AX × St) (fun x s => some (x, s)) ⟨e, [.var [.lst true []], .var [.int .i64 0]]⟩ =
  some (if p = [47] then .ret else .normal, ⟨(e.put 7 (.str p)).put 8 (.bool (decide (p = [47]))), [.var [.lst true []], .var [.int .i64 0]]⟩) := by
 by_cases hp : p = [47] <;> simp -implicitDefEqProofs (disch := omega) [wrap_of, ilt_t, ilt_f, ile_t, ile_f, nlt_t, nlt_f, nle_t, nle_f, ieq_t, ieq_f, imin_l, imin_r, imax_l, imax_r, take_app1, take_map_all, x1, h0, h2, h3, strBin, hp]
theorem ev_r3 {V : Nat → Bool} {e : Env} : eval Γ r3 V (AX × St) (fun x s => some (x, s)) ⟨e, [.var [.lst true []], .var [.int .i64 0]]⟩ = some (.normal, ⟨e.put 4 (.ptr 2 0 0 0), [.var [.lst true []], .var [.int .i64 0], .var [.lst true []]]⟩) := by
 simp -implicitDefEqProofs (disch := omega) [wrap_of, ilt_t, ilt_f, ile_t, ile_f, nlt_t, nlt_f, nle_t, nle_f, ieq_t, ieq_f, imin_l, imin_r, imax_l, imax_r, take_app1, take_map_all, r3]
theorem ev_r4 {V : Nat → Bool} {e : Env} {p : List UInt8} {fP fIt : FuncId} (hP : ∀ h, callA Γ fP [.str p] h = some (.fn (.func fIt) [] [.ptr h.length 0 0 0], h ++ [.var [.str p]])) (h0 : e 0 = .str p) :
  eval Γ (r4 fP) V (AX × St) (fun x s => some (x, s)) ⟨e, [.var [.lst true []], .var [.int .i64 0], .var [.lst true []]]⟩ =
  some (.normal, ⟨(e.put 9 (.str p)).put 10 (.fn (.func fIt) [] [.ptr 3 0 0 0]), [.var [.lst true []], .var [.int .i64 0], .var [.lst true []], .var [.str p]]⟩) := by
 simp -implicitDefEqProofs (disch := omega) [wrap_of, ilt_t, ilt_f, ile_t, ile_f, nlt_t, nlt_f, nle_t, nle_f, ieq_t, ieq_f, imin_l, imin_r, imax_l, imax_r, take_app1, take_map_all, r4, h0, hP]
def hp5 (i : Nat) (l : List (List UInt8)) : AH := [.var [.lst true []], .var [.int .i64 0], .var [.own 4 i 0 i], .gone, .row i 1 (l.map AV.str)]
def hpX (i : Nat) (l : List (List UInt8)) : AH := [.var [.lst true []], .var [.int .i64 60], .var [.own 4 i 0 i], .gone, .row i 1 (l.map AV.str)]
theorem ev_body {V : Nat → Bool} {e : Env} {s : List UInt8} {b : Bool} {fR : FuncId} {rightN : List UInt8 → Bool} (hR : ∀ s, Γ.p fR [.str s] = some (.bool (rightN s))) (h2 : e 2 = .ptr 0 0 0 0) (h3 : e 3 = .ptr 1 0 0 0) (h4 : e 4 = .ptr 2 0 0 0)
  (h5 : e 5 = .str s) (h6 : e 6 = .bool b) {i : Nat} {l : List (List UInt8)} (hl : l.length = i) (hi : i ≤ 12) :
  eval Γ (bA fR) V (AX × AH) (fun ex s => some (ex, s.h)) ⟨e, hp5 i l⟩ = some (if (b && (rightN s && decide (i < 12))) = true then (.normal, hp5 (i + 1) (l ++ [s])) else (.ret, hpX i l)) := by
 have hc := fun h => callA_p (Γ := Γ) (f := fR) (args := [.str s]) (h := h) rfl (hR s)
 cases b with
 | false => simp -implicitDefEqProofs (disch := omega) [wrap_of, ilt_t, ilt_f, ile_t, ile_f, nlt_t, nlt_f, nle_t, nle_f, ieq_t, ieq_f, imin_l, imin_r, imax_l, imax_r, take_app1, take_map_all, bA, hp5, hpX, h2, h3, h4, h5, h6]
 | true =>
  cases hr : rightN s with
  | false =>
   rw [hr] at hc
   simp -implicitDefEqProofs (disch := omega) [wrap_of, ilt_t, ilt_f, ile_t, ile_f, nlt_t, nlt_f, nle_t, nle_f, ieq_t, ieq_f, imin_l, imin_r, imax_l, imax_r, take_app1, take_map_all, bA, hp5, hpX, h2, h3, h4, h5, h6, hc]
  | true =>
   rw [hr] at hc
   by_cases h12 : i < 12
   ·simp -implicitDefEqProofs (disch := omega) [wrap_of, ilt_t, ilt_f, ile_t, ile_f, nlt_t, nlt_f, nle_t, nle_f, ieq_t, ieq_f, imin_l, imin_r, imax_l, imax_r, take_app1, take_map_all, bA, hp5, hpX, h2, h3, h4, h5, h6, hc, h12]
   ·simp -implicitDefEqProofs (disch := omega) [wrap_of, ilt_t, ilt_f, ile_t, ile_f, nlt_t, nlt_f, nle_t, nle_f, ieq_t, ieq_f, imin_l, imin_r, imax_l, imax_r, take_app1, take_map_all, bA, hp5, hpX, h2, h3, h4, h5, h6, hc, h12]
theorem ev_post {V : Nat → Bool} {e : Env} (h2 : e 2 = .ptr 0 0 0 0) (h3 : e 3 = .ptr 1 0 0 0) (h4 : e 4 = .ptr 2 0 0 0) {i : Nat} {l : List (List UInt8)} :
  ∃ e', eval Γ post V (AX × St) (fun x s => some (x, s)) ⟨e, hp5 i l⟩ = some (.ret, ⟨e', if i = 0 then hpX i l else [.var [.own 4 i 0 i], .var [.int .i64 0], .var [.own 4 i 0 i], .gone, .row i 1 (l.map AV.str)]⟩) ∧ e' 2 = .ptr 0 0 0 0 ∧ e' 3 = .ptr 1 0 0 0 := by
 by_cases hi : i = 0
 ·subst hi
  refine ⟨((e.put 29 (.own 4 0 0 0)).put 30 (.int .i64 0)).put 31 (.bool true), ?_, h2, h3⟩
  simp -implicitDefEqProofs (disch := omega) [wrap_of, ilt_t, ilt_f, ile_t, ile_f, nlt_t, nlt_f, nle_t, nle_f, ieq_t, ieq_f, imin_l, imin_r, imax_l, imax_r, take_app1, take_map_all, post, hp5, hpX, h2, h3, h4]
 ·have h0 : ¬ ((i : Int) = 0) := by omega
  refine ⟨(((e.put 29 (.own 4 i 0 i)).put 30 (.int .i64 i)).put 31 (.bool false)).put 32 (.own 4 i 0 i), ?_, h2, h3⟩
  simp -implicitDefEqProofs (disch := omega) [wrap_of, ilt_t, ilt_f, ile_t, ile_f, nlt_t, nlt_f, nle_t, nle_f, ieq_t, ieq_f, imin_l, imin_r, imax_l, imax_r, take_app1, take_map_all, post, hp5, hpX, h2, h3, h4, hi, h0]
end
end Go.Am.Nm
