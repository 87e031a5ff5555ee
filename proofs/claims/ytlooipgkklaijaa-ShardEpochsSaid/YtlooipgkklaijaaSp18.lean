/-
  name.Split, of values.
-/
import Derived.Test.YtlooipgkklaijaaLit18
import Derived.Test.YtlooipgkklaijaaAmTb
import Derived.Test.YtlooipgkklaijaaAmDel
import Derived.Test.YtlooipgkklaijaaAmSm
import Derived.Test.YtlooipgkklaijaaAmBl
set_option linter.unusedSimpArgs false
set_option linter.unusedVariables false
namespace Go.Proofs.Ytlooipgkklaijaa.Sp
open Go.Am Go.Am.Nm

theorem hmix : Try.prog.follows .mixedOrders = true := by kernel_rfl
theorem okx69 : RightL Try.prog 69 9 4 3 21 0 := ⟨hmix, ⟨Try.f69.name, Try.f69.targs, by kernel_rfl, by kernel_rfl⟩, by kernel_rfl, by kernel_rfl, by kernel_rfl, by kernel_rfl⟩
theorem okx81 : IdxL Try.prog 81 9 5 3 85 := ⟨hmix, ⟨Try.f81.name, Try.f81.targs, by kernel_rfl, by kernel_rfl⟩, ⟨Try.f85, by kernel_rfl, by kernel_rfl, by kernel_rfl, by kernel_rfl, by kernel_rfl⟩⟩

/-- What is known of each function. -/
def kdSp : FuncId → Kd
  | 68 => .h c68
  | 69 => .y rightY
  | 84 => .p c84
  | 80 => .p c80
  | 74 => .p c74
  | 81 => .y idxY
  | 75 => .p c75
  | _ => .no
def posSp : FuncId → Nat
  | 68 => 0
  | 69 => 1
  | 84 => 2
  | 80 => 3
  | 74 => 4
  | 81 => 5
  | 75 => 6
  | _ => 0
def CSp : Cfg := ⟨kdSp, posSp⟩
abbrev NSp : Nat := 7
theorem kdSp_ok : ∀ f, (CSp.kd f).ok Try.prog f := by
  intro f
  show (kdSp f).ok Try.prog f
  unfold kdSp
  split
  · exact ok68
  · exact fun _ _ h hr => right_snd okx69 h hr
  · exact ok84
  · exact ok80
  · exact ok74
  · exact fun _ _ h hr => idx_snd okx81 h hr
  · exact ok75
  · trivial
theorem tabSp_ok (n : Nat) : TabOK Try.prog (CSp.tab n) := Cfg.tab_ok hmix kdSp_ok n

theorem p68 {n : Nat} (hn : 0 < n) (args : List AV) (h : AH) : callA (CSp.tab n) 68 args h = runH (CSp.tab 0) c68 args h := (callA_h (fun _ => Cfg.tab_hp rfl _ _)).trans (Cfg.tab_h rfl rfl hn args h)
theorem p69 {n : Nat} (hn : 1 < n) (args : List AV) : (CSp.tab n).p 69 args = rightY args := Cfg.tab_y rfl rfl hn args
theorem a69 {n : Nat} (args : List AV) (h : AH) : callA (CSp.tab n) 69 args h = vC (purEs h args) (CSp.tab n) 69 args h := callA_eq _ _ _ _
theorem p84 {n : Nat} (hn : 2 < n) (args : List AV) : (CSp.tab n).p 84 args = runP (CSp.tab 2) c84 args := Cfg.tab_p rfl rfl hn args
theorem a84 {n : Nat} (args : List AV) (h : AH) : callA (CSp.tab n) 84 args h = vC (purEs h args) (CSp.tab n) 84 args h := callA_eq _ _ _ _
theorem p80 {n : Nat} (hn : 3 < n) (args : List AV) : (CSp.tab n).p 80 args = runP (CSp.tab 3) c80 args := Cfg.tab_p rfl rfl hn args
theorem a80 {n : Nat} (args : List AV) (h : AH) : callA (CSp.tab n) 80 args h = vC (purEs h args) (CSp.tab n) 80 args h := callA_eq _ _ _ _
theorem p74 {n : Nat} (hn : 4 < n) (args : List AV) : (CSp.tab n).p 74 args = runP (CSp.tab 4) c74 args := Cfg.tab_p rfl rfl hn args
theorem a74 {n : Nat} (args : List AV) (h : AH) : callA (CSp.tab n) 74 args h = vC (purEs h args) (CSp.tab n) 74 args h := callA_eq _ _ _ _
theorem p81 {n : Nat} (hn : 5 < n) (args : List AV) : (CSp.tab n).p 81 args = idxY args := Cfg.tab_y rfl rfl hn args
theorem a81 {n : Nat} (args : List AV) (h : AH) : callA (CSp.tab n) 81 args h = vC (purEs h args) (CSp.tab n) 81 args h := callA_eq _ _ _ _
theorem p75 {n : Nat} (hn : 6 < n) (args : List AV) : (CSp.tab n).p 75 args = runP (CSp.tab 6) c75 args := Cfg.tab_p rfl rfl hn args
theorem a75 {n : Nat} (args : List AV) (h : AH) : callA (CSp.tab n) 75 args h = vC (purEs h args) (CSp.tab n) 75 args h := callA_eq _ _ _ _

theorem sHas {n : Nat} (hn : 2 < n) (s : List UInt8) : (CSp.tab n).p 84 [.str s, .str [47]] = some (.bool (cutB s)) := by
  rw [p84 hn, runP_eq, runH_eq]
  cases s with
  | nil => simp -implicitDefEqProofs (disch := omega) [wrap_of, ilt_t, ilt_f, ile_t, ile_f, nlt_t, nlt_f, nle_t, nle_f, ieq_t, ieq_f, imin_l, imin_r, imax_l, imax_r, take_app1, take_map_all, c84, cutB]
  | cons b t =>
    by_cases hb : b = 47
    · simp -implicitDefEqProofs (disch := omega) [wrap_of, ilt_t, ilt_f, ile_t, ile_f, nlt_t, nlt_f, nle_t, nle_f, ieq_t, ieq_f, imin_l, imin_r, imax_l, imax_r, take_app1, take_map_all, c84, cutB, strBin, hb]
    · simp -implicitDefEqProofs (disch := omega) [wrap_of, ilt_t, ilt_f, ile_t, ile_f, nlt_t, nlt_f, nle_t, nle_f, ieq_t, ieq_f, imin_l, imin_r, imax_l, imax_r, take_app1, take_map_all, c84, cutB, strBin, hb]
theorem sCut2 {n : Nat} (hn : 3 < n) (s : List UInt8) : (CSp.tab n).p 80 [.str s, .str [47]] = some (.tup [.str (cutR s), .bool (cutB s)]) := by
  rw [p80 hn, runP_eq, runH_eq]
  have h1 := sHas (n := 3) (by decide)
  cases s with
  | nil => simp -implicitDefEqProofs (disch := omega) [wrap_of, ilt_t, ilt_f, ile_t, ile_f, nlt_t, nlt_f, nle_t, nle_f, ieq_t, ieq_f, imin_l, imin_r, imax_l, imax_r, take_app1, take_map_all, c80, a84, h1, cutR, cutB]
  | cons b t =>
    by_cases hb : b = 47
    · simp -implicitDefEqProofs (disch := omega) [wrap_of, ilt_t, ilt_f, ile_t, ile_f, nlt_t, nlt_f, nle_t, nle_f, ieq_t, ieq_f, imin_l, imin_r, imax_l, imax_r, take_app1, take_map_all, c80, a84, h1, cutR, cutB, hb]
    · simp -implicitDefEqProofs (disch := omega) [wrap_of, ilt_t, ilt_f, ile_t, ile_f, nlt_t, nlt_f, nle_t, nle_f, ieq_t, ieq_f, imin_l, imin_r, imax_l, imax_r, take_app1, take_map_all, c80, a84, h1, cutR, cutB, hb]
theorem sCut {n : Nat} (hn : 4 < n) (s : List UInt8) : (CSp.tab n).p 74 [.str s, .str [47]] = some (.tup [.str (cutR s), .bool (cutB s)]) := by
  rw [p74 hn, runP_eq, runH_eq]
  have h1 := sCut2 (n := 4) (by decide)
  simp -implicitDefEqProofs (disch := omega) [wrap_of, ilt_t, ilt_f, ile_t, ile_f, nlt_t, nlt_f, nle_t, nle_f, ieq_t, ieq_f, imin_l, imin_r, imax_l, imax_r, take_app1, take_map_all, c74, a80, h1]
theorem sIdx {n : Nat} (hn : 6 < n) (s : List UInt8) : (CSp.tab n).p 75 [.str s, .int .u8 47] = some (.int .i64 (idxI s)) := by
  rw [p75 hn, runP_eq, runH_eq]
  have h1 := p81 (n := 6) (by decide)
  have h2 : idxY [.str s, .int .u8 47] = some (.int .i64 (idxI s)) := by
    show some (AV.int .i64 (Lib.indexByte s 47)) = _
    rw [idxI_eq]
  simp -implicitDefEqProofs (disch := omega) [wrap_of, ilt_t, ilt_f, ile_t, ile_f, nlt_t, nlt_f, nle_t, nle_f, ieq_t, ieq_f, imin_l, imin_r, imax_l, imax_r, take_app1, take_map_all, c75, a81, h1, h2]
theorem sPcs {n : Nat} (hn : 0 < n) (s : List UInt8) (h : AH) : callA (CSp.tab n) 68 [.str s] h = some (.fn (.func 73) [] [.ptr h.length 0 0 0], h ++ [.var [.str s]]) := by
  rw [p68 hn, runH_eq]
  simp -implicitDefEqProofs (disch := omega) [wrap_of, ilt_t, ilt_f, ile_t, ile_f, nlt_t, nlt_f, nle_t, nle_f, ieq_t, ieq_f, imin_l, imin_r, imax_l, imax_r, take_app1, take_map_all, c68]
theorem okS : splitOK Try.prog 57 68 69 = true := by kernel_rfl
theorem okPc : pcOK Try.prog 73 74 75 = true := by kernel_rfl
theorem split_ok (args : List AV) (v : AV) (h : AH) (hr : splitY rightN args = some v) : Snd Try.prog 57 args h v h :=
  split_y hmix (tabSp_ok NSp) okS okPc (sCut (by decide)) (sIdx (by decide)) (fun s => by rw [p69 (by decide)]; rfl) (sPcs (by decide)) args v h hr
end Go.Proofs.Ytlooipgkklaijaa.Sp
namespace Go.Proofs.Ytlooipgkklaijaa
theorem split_ok (args : List Go.Am.AV) (v : Go.Am.AV) (h : Go.Am.AH) (hr : Go.Am.Nm.splitY Go.Am.Nm.rightN args = some v) : Go.Am.Snd Try.prog 57 args h v h := Sp.split_ok args v h hr
end Go.Proofs.Ytlooipgkklaijaa
