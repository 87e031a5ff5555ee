/-
  The table of the functions, for the abstract machine.
-/
import Derived.Test.YtalckkfoplaeeaaLit06
import Derived.Test.YtalckkfoplaeeaaAmTb
import Derived.Test.YtalckkfoplaeeaaAmSm
import Derived.Test.YtalckkfoplaeeaaAmBl
import Derived.Test.YtalckkfoplaeeaaJn06
import Derived.Test.YtalckkfoplaeeaaSp06
set_option linter.unusedSimpArgs false
set_option linter.unusedVariables false
namespace Go.Proofs.Ytalckkfoplaeeaa
open Go.Am Go.Am.Nm

theorem hmix : Try.prog.follows .mixedOrders = true := by kernel_rfl
theorem okx16 : RightL Try.prog 16 9 4 3 21 0 := ⟨hmix, ⟨Try.f16.name, Try.f16.targs, by kernel_rfl, by kernel_rfl⟩, by kernel_rfl, by kernel_rfl, by kernel_rfl, by kernel_rfl⟩

/-- What is known of each function. -/
def kd06 : FuncId → Kd
  | 12 => .y (splitY rightN)
  | 26 => .y joinY
  | 21 => .p c21
  | 14 => .p c14
  | 16 => .y rightY
  | 18 => .p c18
  | 25 => .p c25
  | 19 => .p c19
  | 10 => .p c10
  | 11 => .p c11
  | 17 => .p c17
  | 13 => .p c13
  | 22 => .p c22
  | 15 => .p c15
  | 20 => .p c20
  | 3 => .p c3
  | 4 => .p c4
  | 5 => .p c5
  | 23 => .p c23
  | 6 => .p c6
  | 7 => .p c7
  | 8 => .p c8
  | 9 => .p c9
  | _ => .no
def pos06 : FuncId → Nat
  | 12 => 0
  | 26 => 1
  | 21 => 2
  | 14 => 3
  | 16 => 4
  | 18 => 5
  | 25 => 6
  | 19 => 7
  | 10 => 8
  | 11 => 9
  | 17 => 10
  | 13 => 11
  | 22 => 12
  | 15 => 13
  | 20 => 14
  | 3 => 15
  | 4 => 16
  | 5 => 17
  | 23 => 18
  | 6 => 19
  | 7 => 20
  | 8 => 21
  | 9 => 22
  | _ => 0
def C06 : Cfg := ⟨kd06, pos06⟩
abbrev N06 : Nat := 23
theorem kd06_ok : ∀ f, (C06.kd f).ok Try.prog f := by
  intro f
  show (kd06 f).ok Try.prog f
  unfold kd06
  split
  · exact split_ok
  · exact join_y
  · exact ok21
  · exact ok14
  · exact fun _ _ h hr => right_snd okx16 h hr
  · exact ok18
  · exact ok25
  · exact ok19
  · exact ok10
  · exact ok11
  · exact ok17
  · exact ok13
  · exact ok22
  · exact ok15
  · exact ok20
  · exact ok3
  · exact ok4
  · exact ok5
  · exact ok23
  · exact ok6
  · exact ok7
  · exact ok8
  · exact ok9
  · trivial
theorem tab06_ok (n : Nat) : TabOK Try.prog (C06.tab n) := Cfg.tab_ok hmix kd06_ok n

theorem p12 {n : Nat} (hn : 0 < n) (args : List AV) : (C06.tab n).p 12 args = (splitY rightN) args := Cfg.tab_y rfl rfl hn args
theorem a12 {n : Nat} (args : List AV) (h : AH) : callA (C06.tab n) 12 args h = vC (purEs h args) (C06.tab n) 12 args h := callA_eq _ _ _ _
theorem p26 {n : Nat} (hn : 1 < n) (args : List AV) : (C06.tab n).p 26 args = joinY args := Cfg.tab_y rfl rfl hn args
theorem a26 {n : Nat} (args : List AV) (h : AH) : callA (C06.tab n) 26 args h = vC (purEs h args) (C06.tab n) 26 args h := callA_eq _ _ _ _
theorem p21 {n : Nat} (hn : 2 < n) (args : List AV) : (C06.tab n).p 21 args = runP (C06.tab 2) c21 args := Cfg.tab_p rfl rfl hn args
theorem a21 {n : Nat} (args : List AV) (h : AH) : callA (C06.tab n) 21 args h = vC (purEs h args) (C06.tab n) 21 args h := callA_eq _ _ _ _
theorem p14 {n : Nat} (hn : 3 < n) (args : List AV) : (C06.tab n).p 14 args = runP (C06.tab 3) c14 args := Cfg.tab_p rfl rfl hn args
theorem a14 {n : Nat} (args : List AV) (h : AH) : callA (C06.tab n) 14 args h = vC (purEs h args) (C06.tab n) 14 args h := callA_eq _ _ _ _
theorem p16 {n : Nat} (hn : 4 < n) (args : List AV) : (C06.tab n).p 16 args = rightY args := Cfg.tab_y rfl rfl hn args
theorem a16 {n : Nat} (args : List AV) (h : AH) : callA (C06.tab n) 16 args h = vC (purEs h args) (C06.tab n) 16 args h := callA_eq _ _ _ _
theorem p18 {n : Nat} (hn : 5 < n) (args : List AV) : (C06.tab n).p 18 args = runP (C06.tab 5) c18 args := Cfg.tab_p rfl rfl hn args
theorem a18 {n : Nat} (args : List AV) (h : AH) : callA (C06.tab n) 18 args h = vC (purEs h args) (C06.tab n) 18 args h := callA_eq _ _ _ _
theorem p25 {n : Nat} (hn : 6 < n) (args : List AV) : (C06.tab n).p 25 args = runP (C06.tab 6) c25 args := Cfg.tab_p rfl rfl hn args
theorem a25 {n : Nat} (args : List AV) (h : AH) : callA (C06.tab n) 25 args h = vC (purEs h args) (C06.tab n) 25 args h := callA_eq _ _ _ _
theorem p19 {n : Nat} (hn : 7 < n) (args : List AV) : (C06.tab n).p 19 args = runP (C06.tab 7) c19 args := Cfg.tab_p rfl rfl hn args
theorem a19 {n : Nat} (args : List AV) (h : AH) : callA (C06.tab n) 19 args h = vC (purEs h args) (C06.tab n) 19 args h := callA_eq _ _ _ _
theorem p10 {n : Nat} (hn : 8 < n) (args : List AV) : (C06.tab n).p 10 args = runP (C06.tab 8) c10 args := Cfg.tab_p rfl rfl hn args
theorem a10 {n : Nat} (args : List AV) (h : AH) : callA (C06.tab n) 10 args h = vC (purEs h args) (C06.tab n) 10 args h := callA_eq _ _ _ _
theorem p11 {n : Nat} (hn : 9 < n) (args : List AV) : (C06.tab n).p 11 args = runP (C06.tab 9) c11 args := Cfg.tab_p rfl rfl hn args
theorem a11 {n : Nat} (args : List AV) (h : AH) : callA (C06.tab n) 11 args h = vC (purEs h args) (C06.tab n) 11 args h := callA_eq _ _ _ _
theorem p17 {n : Nat} (hn : 10 < n) (args : List AV) : (C06.tab n).p 17 args = runP (C06.tab 10) c17 args := Cfg.tab_p rfl rfl hn args
theorem a17 {n : Nat} (args : List AV) (h : AH) : callA (C06.tab n) 17 args h = vC (purEs h args) (C06.tab n) 17 args h := callA_eq _ _ _ _
theorem p13 {n : Nat} (hn : 11 < n) (args : List AV) : (C06.tab n).p 13 args = runP (C06.tab 11) c13 args := Cfg.tab_p rfl rfl hn args
theorem a13 {n : Nat} (args : List AV) (h : AH) : callA (C06.tab n) 13 args h = vC (purEs h args) (C06.tab n) 13 args h := callA_eq _ _ _ _
theorem p22 {n : Nat} (hn : 12 < n) (args : List AV) : (C06.tab n).p 22 args = runP (C06.tab 12) c22 args := Cfg.tab_p rfl rfl hn args
theorem a22 {n : Nat} (args : List AV) (h : AH) : callA (C06.tab n) 22 args h = vC (purEs h args) (C06.tab n) 22 args h := callA_eq _ _ _ _
theorem p15 {n : Nat} (hn : 13 < n) (args : List AV) : (C06.tab n).p 15 args = runP (C06.tab 13) c15 args := Cfg.tab_p rfl rfl hn args
theorem a15 {n : Nat} (args : List AV) (h : AH) : callA (C06.tab n) 15 args h = vC (purEs h args) (C06.tab n) 15 args h := callA_eq _ _ _ _
theorem p20 {n : Nat} (hn : 14 < n) (args : List AV) : (C06.tab n).p 20 args = runP (C06.tab 14) c20 args := Cfg.tab_p rfl rfl hn args
theorem a20 {n : Nat} (args : List AV) (h : AH) : callA (C06.tab n) 20 args h = vC (purEs h args) (C06.tab n) 20 args h := callA_eq _ _ _ _
theorem p3 {n : Nat} (hn : 15 < n) (args : List AV) : (C06.tab n).p 3 args = runP (C06.tab 15) c3 args := Cfg.tab_p rfl rfl hn args
theorem a3 {n : Nat} (args : List AV) (h : AH) : callA (C06.tab n) 3 args h = vC (purEs h args) (C06.tab n) 3 args h := callA_eq _ _ _ _
theorem p4 {n : Nat} (hn : 16 < n) (args : List AV) : (C06.tab n).p 4 args = runP (C06.tab 16) c4 args := Cfg.tab_p rfl rfl hn args
theorem a4 {n : Nat} (args : List AV) (h : AH) : callA (C06.tab n) 4 args h = vC (purEs h args) (C06.tab n) 4 args h := callA_eq _ _ _ _
theorem p5 {n : Nat} (hn : 17 < n) (args : List AV) : (C06.tab n).p 5 args = runP (C06.tab 17) c5 args := Cfg.tab_p rfl rfl hn args
theorem a5 {n : Nat} (args : List AV) (h : AH) : callA (C06.tab n) 5 args h = vC (purEs h args) (C06.tab n) 5 args h := callA_eq _ _ _ _
theorem p23 {n : Nat} (hn : 18 < n) (args : List AV) : (C06.tab n).p 23 args = runP (C06.tab 18) c23 args := Cfg.tab_p rfl rfl hn args
theorem a23 {n : Nat} (args : List AV) (h : AH) : callA (C06.tab n) 23 args h = vC (purEs h args) (C06.tab n) 23 args h := callA_eq _ _ _ _
theorem p6 {n : Nat} (hn : 19 < n) (args : List AV) : (C06.tab n).p 6 args = runP (C06.tab 19) c6 args := Cfg.tab_p rfl rfl hn args
theorem a6 {n : Nat} (args : List AV) (h : AH) : callA (C06.tab n) 6 args h = vC (purEs h args) (C06.tab n) 6 args h := callA_eq _ _ _ _
theorem p7 {n : Nat} (hn : 20 < n) (args : List AV) : (C06.tab n).p 7 args = runP (C06.tab 20) c7 args := Cfg.tab_p rfl rfl hn args
theorem a7 {n : Nat} (args : List AV) (h : AH) : callA (C06.tab n) 7 args h = vC (purEs h args) (C06.tab n) 7 args h := callA_eq _ _ _ _
theorem p8 {n : Nat} (hn : 21 < n) (args : List AV) : (C06.tab n).p 8 args = runP (C06.tab 21) c8 args := Cfg.tab_p rfl rfl hn args
theorem a8 {n : Nat} (args : List AV) (h : AH) : callA (C06.tab n) 8 args h = vC (purEs h args) (C06.tab n) 8 args h := callA_eq _ _ _ _
theorem p9 {n : Nat} (hn : 22 < n) (args : List AV) : (C06.tab n).p 9 args = runP (C06.tab 22) c9 args := Cfg.tab_p rfl rfl hn args
theorem a9 {n : Nat} (args : List AV) (h : AH) : callA (C06.tab n) 9 args h = vC (purEs h args) (C06.tab n) 9 args h := callA_eq _ _ _ _
end Go.Proofs.Ytalckkfoplaeeaa
