/-
  name.Split, of values.
-/
import Derived.Test.YtalckkfoplaeeaaLit06
import Derived.Test.YtalckkfoplaeeaaAmTb
import Derived.Test.YtalckkfoplaeeaaAmSm
import Derived.Test.YtalckkfoplaeeaaAmBl
set_option linter.unusedSimpArgs false
set_option linter.unusedVariables false
namespace Go.Proofs.Ytalckkfoplaeeaa.Sp
open Go.Am Go.Am.Nm

theorem hmix : Try.prog.follows .mixedOrders = true := by kernel_rfl
theorem okx16 : RightL Try.prog 16 9 4 3 21 0 := ⟨hmix, ⟨Try.f16.name, Try.f16.targs, by kernel_rfl, by kernel_rfl⟩, by kernel_rfl, by kernel_rfl, by kernel_rfl, by kernel_rfl⟩
theorem okx34 : IdxL Try.prog 34 9 5 3 38 := ⟨hmix, ⟨Try.f34.name, Try.f34.targs, by kernel_rfl, by kernel_rfl⟩, ⟨Try.f38, by kernel_rfl, by kernel_rfl, by kernel_rfl, by kernel_rfl, by kernel_rfl⟩⟩

/-- What is known of each function. -/
def kdSp : FuncId → Kd
  | 16 => .y rightY
  | 24 => .h c24
  | 37 => .p c37
  | 33 => .p c33
  | 28 => .p c28
  | 34 => .y idxY
  | 29 => .p c29
  | _ => .no
def posSp : FuncId → Nat
  | 16 => 0
  | 24 => 1
  | 37 => 2
  | 33 => 3
  | 28 => 4
  | 34 => 5
  | 29 => 6
  | _ => 0
def CSp : Cfg := ⟨kdSp, posSp⟩
abbrev NSp : Nat := 7
theorem kdSp_ok : ∀ f, (CSp.kd f).ok Try.prog f := by
  intro f
  show (kdSp f).ok Try.prog f
  unfold kdSp
  split
  · exact fun _ _ h hr => right_snd okx16 h hr
  · exact ok24
  · exact ok37
  · exact ok33
  · exact ok28
  · exact fun _ _ h hr => idx_snd okx34 h hr
  · exact ok29
  · trivial
theorem tabSp_ok (n : Nat) : TabOK Try.prog (CSp.tab n) := Cfg.tab_ok hmix kdSp_ok n

theorem p16 {n : Nat} (hn : 0 < n) (args : List AV) : (CSp.tab n).p 16 args = rightY args := Cfg.tab_y rfl rfl hn args
theorem a16 {n : Nat} (args : List AV) (h : AH) : callA (CSp.tab n) 16 args h = vC (purEs h args) (CSp.tab n) 16 args h := callA_eq _ _ _ _
theorem p24 {n : Nat} (hn : 1 < n) (args : List AV) (h : AH) : callA (CSp.tab n) 24 args h = runH (CSp.tab 1) c24 args h := (callA_h (fun _ => Cfg.tab_hp rfl _ _)).trans (Cfg.tab_h rfl rfl hn args h)
theorem p37 {n : Nat} (hn : 2 < n) (args : List AV) : (CSp.tab n).p 37 args = runP (CSp.tab 2) c37 args := Cfg.tab_p rfl rfl hn args
theorem a37 {n : Nat} (args : List AV) (h : AH) : callA (CSp.tab n) 37 args h = vC (purEs h args) (CSp.tab n) 37 args h := callA_eq _ _ _ _
theorem p33 {n : Nat} (hn : 3 < n) (args : List AV) : (CSp.tab n).p 33 args = runP (CSp.tab 3) c33 args := Cfg.tab_p rfl rfl hn args
theorem a33 {n : Nat} (args : List AV) (h : AH) : callA (CSp.tab n) 33 args h = vC (purEs h args) (CSp.tab n) 33 args h := callA_eq _ _ _ _
theorem p28 {n : Nat} (hn : 4 < n) (args : List AV) : (CSp.tab n).p 28 args = runP (CSp.tab 4) c28 args := Cfg.tab_p rfl rfl hn args
theorem a28 {n : Nat} (args : List AV) (h : AH) : callA (CSp.tab n) 28 args h = vC (purEs h args) (CSp.tab n) 28 args h := callA_eq _ _ _ _
theorem p34 {n : Nat} (hn : 5 < n) (args : List AV) : (CSp.tab n).p 34 args = idxY args := Cfg.tab_y rfl rfl hn args
theorem a34 {n : Nat} (args : List AV) (h : AH) : callA (CSp.tab n) 34 args h = vC (purEs h args) (CSp.tab n) 34 args h := callA_eq _ _ _ _
theorem p29 {n : Nat} (hn : 6 < n) (args : List AV) : (CSp.tab n).p 29 args = runP (CSp.tab 6) c29 args := Cfg.tab_p rfl rfl hn args
theorem a29 {n : Nat} (args : List AV) (h : AH) : callA (CSp.tab n) 29 args h = vC (purEs h args) (CSp.tab n) 29 args h := callA_eq _ _ _ _

theorem sHas {n : Nat} (hn : 2 < n) (s : List UInt8) : (CSp.tab n).p 37 [.str s, .str [47]] = some (.bool (cutB s)) := by
  rw [p37 hn, runP_eq, runH_eq]
  cases s with
  | nil => simp -implicitDefEqProofs (disch := omega) [wrap_of, ilt_t, ilt_f, ile_t, ile_f, nlt_t, nlt_f, nle_t, nle_f, ieq_t, ieq_f, imin_l, imin_r, imax_l, imax_r, take_app1, take_map_all, c37, cutB]
  | cons b t =>
    by_cases hb : b = 47
    · simp -implicitDefEqProofs (disch := omega) [wrap_of, ilt_t, ilt_f, ile_t, ile_f, nlt_t, nlt_f, nle_t, nle_f, ieq_t, ieq_f, imin_l, imin_r, imax_l, imax_r, take_app1, take_map_all, c37, cutB, strBin, hb]
    · simp -implicitDefEqProofs (disch := omega) [wrap_of, ilt_t, ilt_f, ile_t, ile_f, nlt_t, nlt_f, nle_t, nle_f, ieq_t, ieq_f, imin_l, imin_r, imax_l, imax_r, take_app1, take_map_all, c37, cutB, strBin, hb]
theorem sCut2 {n : Nat} (hn : 3 < n) (s : List UInt8) : (CSp.tab n).p 33 [.str s, .str [47]] = some (.tup [.str (cutR s), .bool (cutB s)]) := by
  rw [p33 hn, runP_eq, runH_eq]
  have h1 := sHas (n := 3) (by decide)
  cases s with
  | nil => simp -implicitDefEqProofs (disch := omega) [wrap_of, ilt_t, ilt_f, ile_t, ile_f, nlt_t, nlt_f, nle_t, nle_f, ieq_t, ieq_f, imin_l, imin_r, imax_l, imax_r, take_app1, take_map_all, c33, a37, h1, cutR, cutB]
  | cons b t =>
    by_cases hb : b = 47
    · simp -implicitDefEqProofs (disch := omega) [wrap_of, ilt_t, ilt_f, ile_t, ile_f, nlt_t, nlt_f, nle_t, nle_f, ieq_t, ieq_f, imin_l, imin_r, imax_l, imax_r, take_app1, take_map_all, c33, a37, h1, cutR, cutB, hb]
    · simp -implicitDefEqProofs (disch := omega) [wrap_of, ilt_t, ilt_f, ile_t, ile_f, nlt_t, nlt_f, nle_t, nle_f, ieq_t, ieq_f, imin_l, imin_r, imax_l, imax_r, take_app1, take_map_all, c33, a37, h1, cutR, cutB, hb]
theorem sCut {n : Nat} (hn : 4 < n) (s : List UInt8) : (CSp.tab n).p 28 [.str s, .str [47]] = some (.tup [.str (cutR s), .bool (cutB s)]) := by
  rw [p28 hn, runP_eq, runH_eq]
  have h1 := sCut2 (n := 4) (by decide)
  simp -implicitDefEqProofs (disch := omega) [wrap_of, ilt_t, ilt_f, ile_t, ile_f, nlt_t, nlt_f, nle_t, nle_f, ieq_t, ieq_f, imin_l, imin_r, imax_l, imax_r, take_app1, take_map_all, c28, a33, h1]
theorem sIdx {n : Nat} (hn : 6 < n) (s : List UInt8) : (CSp.tab n).p 29 [.str s, .int .u8 47] = some (.int .i64 (idxI s)) := by
  rw [p29 hn, runP_eq, runH_eq]
  have h1 := p34 (n := 6) (by decide)
  have h2 : idxY [.str s, .int .u8 47] = some (.int .i64 (idxI s)) := by
    show some (AV.int .i64 (Lib.indexByte s 47)) = _
    rw [idxI_eq]
  simp -implicitDefEqProofs (disch := omega) [wrap_of, ilt_t, ilt_f, ile_t, ile_f, nlt_t, nlt_f, nle_t, nle_f, ieq_t, ieq_f, imin_l, imin_r, imax_l, imax_r, take_app1, take_map_all, c29, a34, h1, h2]
theorem sPcs {n : Nat} (hn : 1 < n) (s : List UInt8) (h : AH) : callA (CSp.tab n) 24 [.str s] h = some (.fn (.func 27) [] [.ptr h.length 0 0 0], h ++ [.var [.str s]]) := by
  rw [p24 hn, runH_eq]
  simp -implicitDefEqProofs (disch := omega) [wrap_of, ilt_t, ilt_f, ile_t, ile_f, nlt_t, nlt_f, nle_t, nle_f, ieq_t, ieq_f, imin_l, imin_r, imax_l, imax_r, take_app1, take_map_all, c24]
theorem okS : splitOK Try.prog 12 24 16 = true := by kernel_rfl
theorem okPc : pcOK Try.prog 27 28 29 = true := by kernel_rfl
theorem split_ok (args : List AV) (v : AV) (h : AH) (hr : splitY rightN args = some v) : Snd Try.prog 12 args h v h :=
  split_y hmix (tabSp_ok NSp) okS okPc (sCut (by decide)) (sIdx (by decide)) (fun s => by rw [p16 (by decide)]; rfl) (sPcs (by decide)) args v h hr
end Go.Proofs.Ytalckkfoplaeeaa.Sp
namespace Go.Proofs.Ytalckkfoplaeeaa
theorem split_ok (args : List Go.Am.AV) (v : Go.Am.AV) (h : Go.Am.AH) (hr : Go.Am.Nm.splitY Go.Am.Nm.rightN args = some v) : Go.Am.Snd Try.prog 12 args h v h := Sp.split_ok args v h hr
end Go.Proofs.Ytalckkfoplaeeaa
