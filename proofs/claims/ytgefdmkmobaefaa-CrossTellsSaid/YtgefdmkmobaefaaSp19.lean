/-
 name.Split, of values.
-/
import Derived.Test.YtgefdmkmobaefaaLit19
import Derived.Test.YtgefdmkmobaefaaAmTb
import Derived.Test.YtgefdmkmobaefaaAmDel
import Derived.Test.YtgefdmkmobaefaaAmGY
import Derived.Test.YtgefdmkmobaefaaAmSm
import Derived.Test.YtgefdmkmobaefaaAmBl
set_option linter.unusedSimpArgs false
set_option linter.unusedVariables false
namespace Go.Proofs.Ytgefdmkmobaefaa.Sp
open Go.Am Go.Am.Nm
attribute [simp] Go.Am.wrap_of Go.Am.ilt_t Go.Am.ilt_f Go.Am.ile_t Go.Am.ile_f Go.Am.nlt_t Go.Am.nlt_f Go.Am.nle_t Go.Am.nle_f Go.Am.ieq_t Go.Am.ieq_f Go.Am.imin_l Go.Am.imin_r Go.Am.imax_l Go.Am.imax_r Go.Am.take_app1 Go.Am.take_map_all
theorem hmix : Try.prog.follows .mixedOrders = true := by kernel_rfl
theorem okx97 : RightL Try.prog 97 9 4 3 21 0 := ⟨hmix, ⟨Try.f97.name, Try.f97.targs, by kernel_rfl, by kernel_rfl⟩, by kernel_rfl, by kernel_rfl, by kernel_rfl, by kernel_rfl⟩
theorem okx110 : IdxL Try.prog 110 9 5 3 114 := ⟨hmix, ⟨Try.f110.name, Try.f110.targs, by kernel_rfl, by kernel_rfl⟩, ⟨Try.f114, by kernel_rfl, by kernel_rfl, by kernel_rfl, by kernel_rfl, by kernel_rfl⟩⟩
noncomputable def kdSp : FuncId → Kd
 | 96 => .h c96
 | 97 => .y rightY
 | 113 => .p c113
 | 109 => .p c109
 | 103 => .p c103
 | 110 => .y idxY
 | 104 => .p c104
 | _ => .no
def posSp : FuncId → Nat
 | 96 => 0
 | 97 => 1
 | 113 => 2
 | 109 => 3
 | 103 => 4
 | 110 => 5
 | 104 => 6
 | _ => 0
noncomputable def CSp : Cfg := ⟨kdSp, posSp⟩
abbrev NSp : Nat := 7
theorem kdSp_ok : ∀ f, (CSp.kd f).ok Try.prog f := by
 intro f
 show (kdSp f).ok Try.prog f
 unfold kdSp
 split
 ·exact ok96
 ·exact fun _ _ h hr => right_snd okx97 h hr
 ·exact ok113
 ·exact ok109
 ·exact ok103
 ·exact fun _ _ h hr => idx_snd okx110 h hr
 ·exact ok104
 ·trivial
theorem tabSp_ok (n : Nat) : TabOK Try.prog (CSp.tab n) := Cfg.tab_ok hmix kdSp_ok n
theorem p96 {n : Nat} (hn : 0 < n) (args : List AV) (h : AH) : callA (CSp.tab n) 96 args h = runH (CSp.tab 0) c96 args h := (callA_h (fun _ => Cfg.tab_hp rfl _ _)).trans (Cfg.tab_h rfl rfl hn args h)
theorem p97 {n : Nat} (hn : 1 < n) (args : List AV) : (CSp.tab n).p 97 args = rightY args := Cfg.tab_y rfl rfl hn args
theorem p113 {n : Nat} (hn : 2 < n) (args : List AV) : (CSp.tab n).p 113 args = runP (CSp.tab 2) c113 args := Cfg.tab_p rfl rfl hn args
theorem a113 {n : Nat} (args : List AV) (h : AH) : callA (CSp.tab n) 113 args h = vC (purEs h args) (CSp.tab n) 113 args h := callA_eq _ _ _ _
theorem p109 {n : Nat} (hn : 3 < n) (args : List AV) : (CSp.tab n).p 109 args = runP (CSp.tab 3) c109 args := Cfg.tab_p rfl rfl hn args
theorem a109 {n : Nat} (args : List AV) (h : AH) : callA (CSp.tab n) 109 args h = vC (purEs h args) (CSp.tab n) 109 args h := callA_eq _ _ _ _
theorem p103 {n : Nat} (hn : 4 < n) (args : List AV) : (CSp.tab n).p 103 args = runP (CSp.tab 4) c103 args := Cfg.tab_p rfl rfl hn args
theorem p110 {n : Nat} (hn : 5 < n) (args : List AV) : (CSp.tab n).p 110 args = idxY args := Cfg.tab_y rfl rfl hn args
theorem a110 {n : Nat} (args : List AV) (h : AH) : callA (CSp.tab n) 110 args h = vC (purEs h args) (CSp.tab n) 110 args h := callA_eq _ _ _ _
theorem p104 {n : Nat} (hn : 6 < n) (args : List AV) : (CSp.tab n).p 104 args = runP (CSp.tab 6) c104 args := Cfg.tab_p rfl rfl hn args
theorem sHas {n : Nat} (hn : 2 < n) (s : List UInt8) : (CSp.tab n).p 113 [.str s, .str [47]] = some (.bool (cutB s)) := by
 rw [p113 hn, runP_eq, runH_eq]
 cases s with
 | nil => simp -implicitDefEqProofs (disch := omega) [c113, cutB]
 | cons b t =>
  by_cases hb : b = 47
  ·simp -implicitDefEqProofs (disch := omega) [c113, cutB, strBin, hb]
  ·simp -implicitDefEqProofs (disch := omega) [c113, cutB, strBin, hb]
theorem sCut2 {n : Nat} (hn : 3 < n) (s : List UInt8) : (CSp.tab n).p 109 [.str s, .str [47]] = some (.tup [.str (cutR s), .bool (cutB s)]) := by
 rw [p109 hn, runP_eq, runH_eq]
 have h1 := sHas (n := 3) (by decide)
 cases s with
 | nil => simp -implicitDefEqProofs (disch := omega) [c109, a113, h1, cutR, cutB]
 | cons b t =>
  by_cases hb : b = 47
  ·simp -implicitDefEqProofs (disch := omega) [c109, a113, h1, cutR, cutB, hb]
  ·simp -implicitDefEqProofs (disch := omega) [c109, a113, h1, cutR, cutB, hb]
theorem sCut {n : Nat} (hn : 4 < n) (s : List UInt8) : (CSp.tab n).p 103 [.str s, .str [47]] = some (.tup [.str (cutR s), .bool (cutB s)]) := by
 rw [p103 hn, runP_eq, runH_eq]
 have h1 := sCut2 (n := 4) (by decide)
 simp -implicitDefEqProofs (disch := omega) [c103, a109, h1]
theorem sIdx {n : Nat} (hn : 6 < n) (s : List UInt8) : (CSp.tab n).p 104 [.str s, .int .u8 47] = some (.int .i64 (idxI s)) := by
 rw [p104 hn, runP_eq, runH_eq]
 have h1 := p110 (n := 6) (by decide)
 have h2 : idxY [.str s, .int .u8 47] = some (.int .i64 (idxI s)) := by
  show some (AV.int .i64 (Lib.indexByte s 47)) = _
  rw [idxI_eq]
 simp -implicitDefEqProofs (disch := omega) [c104, a110, h1, h2]
theorem sPcs {n : Nat} (hn : 0 < n) (s : List UInt8) (h : AH) : callA (CSp.tab n) 96 [.str s] h = some (.fn (.func 102) [] [.ptr h.length 0 0 0], h ++ [.var [.str s]]) := by
 rw [p96 hn, runH_eq]
 simp -implicitDefEqProofs (disch := omega) [c96]
theorem okS : splitOK Try.prog 80 96 97 = true := by kernel_rfl
theorem okPc : pcOK Try.prog 102 103 104 = true := by kernel_rfl
theorem split_ok (args : List AV) (v : AV) (h : AH) (hr : splitY rightN args = some v) : Snd Try.prog 80 args h v h :=
 split_y hmix (tabSp_ok NSp) okS okPc (sCut (by decide)) (sIdx (by decide)) (fun s => by rw [p97 (by decide)]; rfl) (sPcs (by decide)) args v h hr
end Go.Proofs.Ytgefdmkmobaefaa.Sp
namespace Go.Proofs.Ytgefdmkmobaefaa
theorem split_ok (args : List Go.Am.AV) (v : Go.Am.AV) (h : Go.Am.AH) (hr : Go.Am.Nm.splitY Go.Am.Nm.rightN args = some v) : Go.Am.Snd Try.prog 80 args h v h := Sp.split_ok args v h hr
end Go.Proofs.Ytgefdmkmobaefaa
