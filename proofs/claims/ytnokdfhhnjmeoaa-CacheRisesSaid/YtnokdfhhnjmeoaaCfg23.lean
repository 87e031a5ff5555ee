/-
  The table of the functions, for the abstract machine.
-/
import Derived.Test.YtnokdfhhnjmeoaaLit23
import Derived.Test.YtnokdfhhnjmeoaaAmTb
set_option linter.unusedSimpArgs false
set_option linter.unusedVariables false
namespace Go.Proofs.Ytnokdfhhnjmeoaa
open Go.Am

theorem hmix : Try.prog.follows .mixedOrders = true := by kernel_rfl
theorem okx37 : okF Try.prog 37 (cloneF 1 1 (.int .u8 0)) = true := by kernel_rfl
theorem okx51 : okF Try.prog 51 (cloneF 6 72 (.agg [.int .i64 0, .str [], .int .i64 0, .int .i64 0, .lst true [], .int .i64 0])) = true := by kernel_rfl
theorem okx52 : InsOK Try.prog 52 23 3 4 30 0 55 56 6 72 := ⟨hmix, ⟨Try.f52.name, Try.f52.targs, by kernel_rfl, by kernel_rfl⟩, ⟨Try.f55, by kernel_rfl, by kernel_rfl, by kernel_rfl, by kernel_rfl, by kernel_rfl⟩, by kernel_rfl, by kernel_rfl, by kernel_rfl, by kernel_rfl, by kernel_rfl, by decide⟩

/-- What is known of each function. -/
def kd23 : FuncId → Kd
  | 44 => .p c44
  | 53 => .p c53
  | 45 => .p c45
  | 54 => .p c54
  | 46 => .p c46
  | 25 => .p c25
  | 28 => .p c28
  | 27 => .p c27
  | 37 => .x (cloneH 1 1)
  | 36 => .p c36
  | 39 => .p c39
  | 41 => .h c41
  | 42 => .h c42
  | 47 => .h c47
  | 26 => .h c26
  | 11 => .p c11
  | 49 => .h c49
  | 35 => .h c35
  | 16 => .p c16
  | 38 => .h c38
  | 18 => .p c18
  | 20 => .p c20
  | 50 => .h c50
  | 51 => .x (cloneH 6 72)
  | 40 => .h c40
  | 21 => .p c21
  | 22 => .p c22
  | 52 => .x (insertH 6 72)
  | 43 => .p c43
  | 23 => .p c23
  | 24 => .p c24
  | 9 => .p c9
  | 10 => .p c10
  | 29 => .p c29
  | 30 => .p c30
  | 12 => .p c12
  | 13 => .p c13
  | 48 => .p c48
  | 31 => .p c31
  | 32 => .p c32
  | 33 => .p c33
  | 34 => .p c34
  | 14 => .p c14
  | 15 => .p c15
  | 17 => .p c17
  | 19 => .p c19
  | 3 => .p c3
  | 4 => .p c4
  | 5 => .p c5
  | 6 => .p c6
  | 7 => .p c7
  | 8 => .p c8
  | _ => .no
def pos23 : FuncId → Nat
  | 44 => 0
  | 53 => 1
  | 45 => 2
  | 54 => 3
  | 46 => 4
  | 25 => 5
  | 28 => 6
  | 27 => 7
  | 37 => 8
  | 36 => 9
  | 39 => 10
  | 41 => 11
  | 42 => 12
  | 47 => 13
  | 26 => 14
  | 11 => 15
  | 49 => 16
  | 35 => 17
  | 16 => 18
  | 38 => 19
  | 18 => 20
  | 20 => 21
  | 50 => 22
  | 51 => 23
  | 40 => 24
  | 21 => 25
  | 22 => 26
  | 52 => 27
  | 43 => 28
  | 23 => 29
  | 24 => 30
  | 9 => 31
  | 10 => 32
  | 29 => 33
  | 30 => 34
  | 12 => 35
  | 13 => 36
  | 48 => 37
  | 31 => 38
  | 32 => 39
  | 33 => 40
  | 34 => 41
  | 14 => 42
  | 15 => 43
  | 17 => 44
  | 19 => 45
  | 3 => 46
  | 4 => 47
  | 5 => 48
  | 6 => 49
  | 7 => 50
  | 8 => 51
  | _ => 0
def C23 : Cfg := ⟨kd23, pos23⟩
abbrev N23 : Nat := 52
theorem kd23_ok : ∀ f, (C23.kd f).ok Try.prog f := by
  intro f
  show (kd23 f).ok Try.prog f
  unfold kd23
  split
  · exact ok44
  · exact ok53
  · exact ok45
  · exact ok54
  · exact ok46
  · exact ok25
  · exact ok28
  · exact ok27
  · exact snd_clone hmix okx37
  · exact ok36
  · exact ok39
  · exact ok41
  · exact ok42
  · exact ok47
  · exact ok26
  · exact ok11
  · exact ok49
  · exact ok35
  · exact ok16
  · exact ok38
  · exact ok18
  · exact ok20
  · exact ok50
  · exact snd_clone hmix okx51
  · exact ok40
  · exact ok21
  · exact ok22
  · exact snd_insert okx52
  · exact ok43
  · exact ok23
  · exact ok24
  · exact ok9
  · exact ok10
  · exact ok29
  · exact ok30
  · exact ok12
  · exact ok13
  · exact ok48
  · exact ok31
  · exact ok32
  · exact ok33
  · exact ok34
  · exact ok14
  · exact ok15
  · exact ok17
  · exact ok19
  · exact ok3
  · exact ok4
  · exact ok5
  · exact ok6
  · exact ok7
  · exact ok8
  · trivial
theorem tab23_ok (n : Nat) : TabOK Try.prog (C23.tab n) := Cfg.tab_ok hmix kd23_ok n

theorem p44 {n : Nat} (hn : 0 < n) (args : List AV) : (C23.tab n).p 44 args = runP (C23.tab 0) c44 args := Cfg.tab_p rfl rfl hn args
theorem a44 {n : Nat} (args : List AV) (h : AH) : callA (C23.tab n) 44 args h = vC (purEs h args) (C23.tab n) 44 args h := callA_eq _ _ _ _
theorem p53 {n : Nat} (hn : 1 < n) (args : List AV) : (C23.tab n).p 53 args = runP (C23.tab 1) c53 args := Cfg.tab_p rfl rfl hn args
theorem a53 {n : Nat} (args : List AV) (h : AH) : callA (C23.tab n) 53 args h = vC (purEs h args) (C23.tab n) 53 args h := callA_eq _ _ _ _
theorem p45 {n : Nat} (hn : 2 < n) (args : List AV) : (C23.tab n).p 45 args = runP (C23.tab 2) c45 args := Cfg.tab_p rfl rfl hn args
theorem a45 {n : Nat} (args : List AV) (h : AH) : callA (C23.tab n) 45 args h = vC (purEs h args) (C23.tab n) 45 args h := callA_eq _ _ _ _
theorem p54 {n : Nat} (hn : 3 < n) (args : List AV) : (C23.tab n).p 54 args = runP (C23.tab 3) c54 args := Cfg.tab_p rfl rfl hn args
theorem a54 {n : Nat} (args : List AV) (h : AH) : callA (C23.tab n) 54 args h = vC (purEs h args) (C23.tab n) 54 args h := callA_eq _ _ _ _
theorem p46 {n : Nat} (hn : 4 < n) (args : List AV) : (C23.tab n).p 46 args = runP (C23.tab 4) c46 args := Cfg.tab_p rfl rfl hn args
theorem a46 {n : Nat} (args : List AV) (h : AH) : callA (C23.tab n) 46 args h = vC (purEs h args) (C23.tab n) 46 args h := callA_eq _ _ _ _
theorem p25 {n : Nat} (hn : 5 < n) (args : List AV) : (C23.tab n).p 25 args = runP (C23.tab 5) c25 args := Cfg.tab_p rfl rfl hn args
theorem a25 {n : Nat} (args : List AV) (h : AH) : callA (C23.tab n) 25 args h = vC (purEs h args) (C23.tab n) 25 args h := callA_eq _ _ _ _
theorem p28 {n : Nat} (hn : 6 < n) (args : List AV) : (C23.tab n).p 28 args = runP (C23.tab 6) c28 args := Cfg.tab_p rfl rfl hn args
theorem a28 {n : Nat} (args : List AV) (h : AH) : callA (C23.tab n) 28 args h = vC (purEs h args) (C23.tab n) 28 args h := callA_eq _ _ _ _
theorem p27 {n : Nat} (hn : 7 < n) (args : List AV) : (C23.tab n).p 27 args = runP (C23.tab 7) c27 args := Cfg.tab_p rfl rfl hn args
theorem a27 {n : Nat} (args : List AV) (h : AH) : callA (C23.tab n) 27 args h = vC (purEs h args) (C23.tab n) 27 args h := callA_eq _ _ _ _
theorem p37 {n : Nat} (hn : 8 < n) (args : List AV) (h : AH) : callA (C23.tab n) 37 args h = cloneH 1 1 args h := (callA_h (fun _ => Cfg.tab_xp rfl _ _)).trans (Cfg.tab_x rfl rfl hn args h)
theorem p36 {n : Nat} (hn : 9 < n) (args : List AV) : (C23.tab n).p 36 args = runP (C23.tab 9) c36 args := Cfg.tab_p rfl rfl hn args
theorem a36 {n : Nat} (args : List AV) (h : AH) : callA (C23.tab n) 36 args h = vC (purEs h args) (C23.tab n) 36 args h := callA_eq _ _ _ _
theorem p39 {n : Nat} (hn : 10 < n) (args : List AV) : (C23.tab n).p 39 args = runP (C23.tab 10) c39 args := Cfg.tab_p rfl rfl hn args
theorem a39 {n : Nat} (args : List AV) (h : AH) : callA (C23.tab n) 39 args h = vC (purEs h args) (C23.tab n) 39 args h := callA_eq _ _ _ _
theorem p41 {n : Nat} (hn : 11 < n) (args : List AV) (h : AH) : callA (C23.tab n) 41 args h = runH (C23.tab 11) c41 args h := (callA_h (fun _ => Cfg.tab_hp rfl _ _)).trans (Cfg.tab_h rfl rfl hn args h)
theorem p42 {n : Nat} (hn : 12 < n) (args : List AV) (h : AH) : callA (C23.tab n) 42 args h = runH (C23.tab 12) c42 args h := (callA_h (fun _ => Cfg.tab_hp rfl _ _)).trans (Cfg.tab_h rfl rfl hn args h)
theorem p47 {n : Nat} (hn : 13 < n) (args : List AV) (h : AH) : callA (C23.tab n) 47 args h = runH (C23.tab 13) c47 args h := (callA_h (fun _ => Cfg.tab_hp rfl _ _)).trans (Cfg.tab_h rfl rfl hn args h)
theorem p26 {n : Nat} (hn : 14 < n) (args : List AV) (h : AH) : callA (C23.tab n) 26 args h = runH (C23.tab 14) c26 args h := (callA_h (fun _ => Cfg.tab_hp rfl _ _)).trans (Cfg.tab_h rfl rfl hn args h)
theorem p11 {n : Nat} (hn : 15 < n) (args : List AV) : (C23.tab n).p 11 args = runP (C23.tab 15) c11 args := Cfg.tab_p rfl rfl hn args
theorem a11 {n : Nat} (args : List AV) (h : AH) : callA (C23.tab n) 11 args h = vC (purEs h args) (C23.tab n) 11 args h := callA_eq _ _ _ _
theorem p49 {n : Nat} (hn : 16 < n) (args : List AV) (h : AH) : callA (C23.tab n) 49 args h = runH (C23.tab 16) c49 args h := (callA_h (fun _ => Cfg.tab_hp rfl _ _)).trans (Cfg.tab_h rfl rfl hn args h)
theorem p35 {n : Nat} (hn : 17 < n) (args : List AV) (h : AH) : callA (C23.tab n) 35 args h = runH (C23.tab 17) c35 args h := (callA_h (fun _ => Cfg.tab_hp rfl _ _)).trans (Cfg.tab_h rfl rfl hn args h)
theorem p16 {n : Nat} (hn : 18 < n) (args : List AV) : (C23.tab n).p 16 args = runP (C23.tab 18) c16 args := Cfg.tab_p rfl rfl hn args
theorem a16 {n : Nat} (args : List AV) (h : AH) : callA (C23.tab n) 16 args h = vC (purEs h args) (C23.tab n) 16 args h := callA_eq _ _ _ _
theorem p38 {n : Nat} (hn : 19 < n) (args : List AV) (h : AH) : callA (C23.tab n) 38 args h = runH (C23.tab 19) c38 args h := (callA_h (fun _ => Cfg.tab_hp rfl _ _)).trans (Cfg.tab_h rfl rfl hn args h)
theorem p18 {n : Nat} (hn : 20 < n) (args : List AV) : (C23.tab n).p 18 args = runP (C23.tab 20) c18 args := Cfg.tab_p rfl rfl hn args
theorem a18 {n : Nat} (args : List AV) (h : AH) : callA (C23.tab n) 18 args h = vC (purEs h args) (C23.tab n) 18 args h := callA_eq _ _ _ _
theorem p20 {n : Nat} (hn : 21 < n) (args : List AV) : (C23.tab n).p 20 args = runP (C23.tab 21) c20 args := Cfg.tab_p rfl rfl hn args
theorem a20 {n : Nat} (args : List AV) (h : AH) : callA (C23.tab n) 20 args h = vC (purEs h args) (C23.tab n) 20 args h := callA_eq _ _ _ _
theorem p50 {n : Nat} (hn : 22 < n) (args : List AV) (h : AH) : callA (C23.tab n) 50 args h = runH (C23.tab 22) c50 args h := (callA_h (fun _ => Cfg.tab_hp rfl _ _)).trans (Cfg.tab_h rfl rfl hn args h)
theorem p51 {n : Nat} (hn : 23 < n) (args : List AV) (h : AH) : callA (C23.tab n) 51 args h = cloneH 6 72 args h := (callA_h (fun _ => Cfg.tab_xp rfl _ _)).trans (Cfg.tab_x rfl rfl hn args h)
theorem p40 {n : Nat} (hn : 24 < n) (args : List AV) (h : AH) : callA (C23.tab n) 40 args h = runH (C23.tab 24) c40 args h := (callA_h (fun _ => Cfg.tab_hp rfl _ _)).trans (Cfg.tab_h rfl rfl hn args h)
theorem p21 {n : Nat} (hn : 25 < n) (args : List AV) : (C23.tab n).p 21 args = runP (C23.tab 25) c21 args := Cfg.tab_p rfl rfl hn args
theorem a21 {n : Nat} (args : List AV) (h : AH) : callA (C23.tab n) 21 args h = vC (purEs h args) (C23.tab n) 21 args h := callA_eq _ _ _ _
theorem p22 {n : Nat} (hn : 26 < n) (args : List AV) : (C23.tab n).p 22 args = runP (C23.tab 26) c22 args := Cfg.tab_p rfl rfl hn args
theorem a22 {n : Nat} (args : List AV) (h : AH) : callA (C23.tab n) 22 args h = vC (purEs h args) (C23.tab n) 22 args h := callA_eq _ _ _ _
theorem p52 {n : Nat} (hn : 27 < n) (args : List AV) (h : AH) : callA (C23.tab n) 52 args h = insertH 6 72 args h := (callA_h (fun _ => Cfg.tab_xp rfl _ _)).trans (Cfg.tab_x rfl rfl hn args h)
theorem p43 {n : Nat} (hn : 28 < n) (args : List AV) : (C23.tab n).p 43 args = runP (C23.tab 28) c43 args := Cfg.tab_p rfl rfl hn args
theorem a43 {n : Nat} (args : List AV) (h : AH) : callA (C23.tab n) 43 args h = vC (purEs h args) (C23.tab n) 43 args h := callA_eq _ _ _ _
theorem p23 {n : Nat} (hn : 29 < n) (args : List AV) : (C23.tab n).p 23 args = runP (C23.tab 29) c23 args := Cfg.tab_p rfl rfl hn args
theorem a23 {n : Nat} (args : List AV) (h : AH) : callA (C23.tab n) 23 args h = vC (purEs h args) (C23.tab n) 23 args h := callA_eq _ _ _ _
theorem p24 {n : Nat} (hn : 30 < n) (args : List AV) : (C23.tab n).p 24 args = runP (C23.tab 30) c24 args := Cfg.tab_p rfl rfl hn args
theorem a24 {n : Nat} (args : List AV) (h : AH) : callA (C23.tab n) 24 args h = vC (purEs h args) (C23.tab n) 24 args h := callA_eq _ _ _ _
theorem p9 {n : Nat} (hn : 31 < n) (args : List AV) : (C23.tab n).p 9 args = runP (C23.tab 31) c9 args := Cfg.tab_p rfl rfl hn args
theorem a9 {n : Nat} (args : List AV) (h : AH) : callA (C23.tab n) 9 args h = vC (purEs h args) (C23.tab n) 9 args h := callA_eq _ _ _ _
theorem p10 {n : Nat} (hn : 32 < n) (args : List AV) : (C23.tab n).p 10 args = runP (C23.tab 32) c10 args := Cfg.tab_p rfl rfl hn args
theorem a10 {n : Nat} (args : List AV) (h : AH) : callA (C23.tab n) 10 args h = vC (purEs h args) (C23.tab n) 10 args h := callA_eq _ _ _ _
theorem p29 {n : Nat} (hn : 33 < n) (args : List AV) : (C23.tab n).p 29 args = runP (C23.tab 33) c29 args := Cfg.tab_p rfl rfl hn args
theorem a29 {n : Nat} (args : List AV) (h : AH) : callA (C23.tab n) 29 args h = vC (purEs h args) (C23.tab n) 29 args h := callA_eq _ _ _ _
theorem p30 {n : Nat} (hn : 34 < n) (args : List AV) : (C23.tab n).p 30 args = runP (C23.tab 34) c30 args := Cfg.tab_p rfl rfl hn args
theorem a30 {n : Nat} (args : List AV) (h : AH) : callA (C23.tab n) 30 args h = vC (purEs h args) (C23.tab n) 30 args h := callA_eq _ _ _ _
theorem p12 {n : Nat} (hn : 35 < n) (args : List AV) : (C23.tab n).p 12 args = runP (C23.tab 35) c12 args := Cfg.tab_p rfl rfl hn args
theorem a12 {n : Nat} (args : List AV) (h : AH) : callA (C23.tab n) 12 args h = vC (purEs h args) (C23.tab n) 12 args h := callA_eq _ _ _ _
theorem p13 {n : Nat} (hn : 36 < n) (args : List AV) : (C23.tab n).p 13 args = runP (C23.tab 36) c13 args := Cfg.tab_p rfl rfl hn args
theorem a13 {n : Nat} (args : List AV) (h : AH) : callA (C23.tab n) 13 args h = vC (purEs h args) (C23.tab n) 13 args h := callA_eq _ _ _ _
theorem p48 {n : Nat} (hn : 37 < n) (args : List AV) : (C23.tab n).p 48 args = runP (C23.tab 37) c48 args := Cfg.tab_p rfl rfl hn args
theorem a48 {n : Nat} (args : List AV) (h : AH) : callA (C23.tab n) 48 args h = vC (purEs h args) (C23.tab n) 48 args h := callA_eq _ _ _ _
theorem p31 {n : Nat} (hn : 38 < n) (args : List AV) : (C23.tab n).p 31 args = runP (C23.tab 38) c31 args := Cfg.tab_p rfl rfl hn args
theorem a31 {n : Nat} (args : List AV) (h : AH) : callA (C23.tab n) 31 args h = vC (purEs h args) (C23.tab n) 31 args h := callA_eq _ _ _ _
theorem p32 {n : Nat} (hn : 39 < n) (args : List AV) : (C23.tab n).p 32 args = runP (C23.tab 39) c32 args := Cfg.tab_p rfl rfl hn args
theorem a32 {n : Nat} (args : List AV) (h : AH) : callA (C23.tab n) 32 args h = vC (purEs h args) (C23.tab n) 32 args h := callA_eq _ _ _ _
theorem p33 {n : Nat} (hn : 40 < n) (args : List AV) : (C23.tab n).p 33 args = runP (C23.tab 40) c33 args := Cfg.tab_p rfl rfl hn args
theorem a33 {n : Nat} (args : List AV) (h : AH) : callA (C23.tab n) 33 args h = vC (purEs h args) (C23.tab n) 33 args h := callA_eq _ _ _ _
theorem p34 {n : Nat} (hn : 41 < n) (args : List AV) : (C23.tab n).p 34 args = runP (C23.tab 41) c34 args := Cfg.tab_p rfl rfl hn args
theorem a34 {n : Nat} (args : List AV) (h : AH) : callA (C23.tab n) 34 args h = vC (purEs h args) (C23.tab n) 34 args h := callA_eq _ _ _ _
theorem p14 {n : Nat} (hn : 42 < n) (args : List AV) : (C23.tab n).p 14 args = runP (C23.tab 42) c14 args := Cfg.tab_p rfl rfl hn args
theorem a14 {n : Nat} (args : List AV) (h : AH) : callA (C23.tab n) 14 args h = vC (purEs h args) (C23.tab n) 14 args h := callA_eq _ _ _ _
theorem p15 {n : Nat} (hn : 43 < n) (args : List AV) : (C23.tab n).p 15 args = runP (C23.tab 43) c15 args := Cfg.tab_p rfl rfl hn args
theorem a15 {n : Nat} (args : List AV) (h : AH) : callA (C23.tab n) 15 args h = vC (purEs h args) (C23.tab n) 15 args h := callA_eq _ _ _ _
theorem p17 {n : Nat} (hn : 44 < n) (args : List AV) : (C23.tab n).p 17 args = runP (C23.tab 44) c17 args := Cfg.tab_p rfl rfl hn args
theorem a17 {n : Nat} (args : List AV) (h : AH) : callA (C23.tab n) 17 args h = vC (purEs h args) (C23.tab n) 17 args h := callA_eq _ _ _ _
theorem p19 {n : Nat} (hn : 45 < n) (args : List AV) : (C23.tab n).p 19 args = runP (C23.tab 45) c19 args := Cfg.tab_p rfl rfl hn args
theorem a19 {n : Nat} (args : List AV) (h : AH) : callA (C23.tab n) 19 args h = vC (purEs h args) (C23.tab n) 19 args h := callA_eq _ _ _ _
theorem p3 {n : Nat} (hn : 46 < n) (args : List AV) : (C23.tab n).p 3 args = runP (C23.tab 46) c3 args := Cfg.tab_p rfl rfl hn args
theorem a3 {n : Nat} (args : List AV) (h : AH) : callA (C23.tab n) 3 args h = vC (purEs h args) (C23.tab n) 3 args h := callA_eq _ _ _ _
theorem p4 {n : Nat} (hn : 47 < n) (args : List AV) : (C23.tab n).p 4 args = runP (C23.tab 47) c4 args := Cfg.tab_p rfl rfl hn args
theorem a4 {n : Nat} (args : List AV) (h : AH) : callA (C23.tab n) 4 args h = vC (purEs h args) (C23.tab n) 4 args h := callA_eq _ _ _ _
theorem p5 {n : Nat} (hn : 48 < n) (args : List AV) : (C23.tab n).p 5 args = runP (C23.tab 48) c5 args := Cfg.tab_p rfl rfl hn args
theorem a5 {n : Nat} (args : List AV) (h : AH) : callA (C23.tab n) 5 args h = vC (purEs h args) (C23.tab n) 5 args h := callA_eq _ _ _ _
theorem p6 {n : Nat} (hn : 49 < n) (args : List AV) : (C23.tab n).p 6 args = runP (C23.tab 49) c6 args := Cfg.tab_p rfl rfl hn args
theorem a6 {n : Nat} (args : List AV) (h : AH) : callA (C23.tab n) 6 args h = vC (purEs h args) (C23.tab n) 6 args h := callA_eq _ _ _ _
theorem p7 {n : Nat} (hn : 50 < n) (args : List AV) : (C23.tab n).p 7 args = runP (C23.tab 50) c7 args := Cfg.tab_p rfl rfl hn args
theorem a7 {n : Nat} (args : List AV) (h : AH) : callA (C23.tab n) 7 args h = vC (purEs h args) (C23.tab n) 7 args h := callA_eq _ _ _ _
theorem p8 {n : Nat} (hn : 51 < n) (args : List AV) : (C23.tab n).p 8 args = runP (C23.tab 51) c8 args := Cfg.tab_p rfl rfl hn args
theorem a8 {n : Nat} (args : List AV) (h : AH) : callA (C23.tab n) 8 args h = vC (purEs h args) (C23.tab n) 8 args h := callA_eq _ _ _ _
end Go.Proofs.Ytnokdfhhnjmeoaa
