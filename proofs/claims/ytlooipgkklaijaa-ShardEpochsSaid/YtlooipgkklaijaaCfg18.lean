/-
  The table of the functions, for the abstract machine.
-/
import Derived.Test.YtlooipgkklaijaaLit18
import Derived.Test.YtlooipgkklaijaaAmTb
import Derived.Test.YtlooipgkklaijaaAmDel
import Derived.Test.YtlooipgkklaijaaAmSm
import Derived.Test.YtlooipgkklaijaaAmBl
import Derived.Test.YtlooipgkklaijaaJn18
import Derived.Test.YtlooipgkklaijaaSp18
set_option linter.unusedSimpArgs false
set_option linter.unusedVariables false
namespace Go.Proofs.Ytlooipgkklaijaa
open Go.Am Go.Am.Nm

theorem hmix : Try.prog.follows .mixedOrders = true := by kernel_rfl
theorem okx56 : CmpL Try.prog 56 9 3 67 := ⟨hmix, ⟨Try.f56.name, Try.f56.targs, by kernel_rfl, by kernel_rfl⟩, ⟨Try.f67, by kernel_rfl, by kernel_rfl, by kernel_rfl, by kernel_rfl, by kernel_rfl⟩⟩
theorem okx39 : okF Try.prog 39 (cloneF 3 32 (.agg [.str [], .int .i64 0, .int .i64 0])) = true := by kernel_rfl
theorem okx51 : InsOK Try.prog 51 22 3 4 29 0 64 65 3 32 := ⟨hmix, ⟨Try.f51.name, Try.f51.targs, by kernel_rfl, by kernel_rfl⟩, ⟨Try.f64, by kernel_rfl, by kernel_rfl, by kernel_rfl, by kernel_rfl, by kernel_rfl⟩, by kernel_rfl, by kernel_rfl, by kernel_rfl, by kernel_rfl, by kernel_rfl, by decide⟩
theorem okz54 : ((Try.prog.info? 29).getD default).size = 3 := by kernel_rfl
theorem okx54 : DelL Try.prog 54 22 3 4 29 0 ((Try.prog.info? 29).getD default) (((Try.prog.info? 29).getD default).zero.getD .nilFunc) := ⟨hmix, ⟨Try.f54.name, Try.f54.targs, by kernel_rfl, by kernel_rfl⟩, by kernel_rfl, by kernel_rfl, by kernel_rfl, by kernel_rfl, by kernel_rfl, by kernel_rfl, by kernel_rfl, by kernel_rfl, by rw [okz54]; decide⟩

/-- What is known of each function. -/
def kd18 : FuncId → Kd
  | 56 => .y cmpY
  | 31 => .p c31
  | 30 => .p c30
  | 57 => .y (splitY rightN)
  | 33 => .p c33
  | 34 => .p c34
  | 32 => .p c32
  | 35 => .p c35
  | 61 => .p c61
  | 45 => .p c45
  | 44 => .h c44
  | 46 => .h c46
  | 50 => .h c50
  | 53 => .h c53
  | 55 => .h c55
  | 63 => .p c63
  | 36 => .h c36
  | 58 => .h c58
  | 37 => .h c37
  | 38 => .h c38
  | 39 => .x (cloneH 3 32)
  | 12 => .p c12
  | 14 => .p c14
  | 15 => .p c15
  | 43 => .h c43
  | 20 => .p c20
  | 22 => .p c22
  | 23 => .p c23
  | 62 => .h c62
  | 48 => .p c48
  | 49 => .h c49
  | 51 => .x (insertH 3 32)
  | 27 => .p c27
  | 72 => .y joinY
  | 66 => .p c66
  | 52 => .p c52
  | 54 => .x (deleteH 3)
  | 28 => .p c28
  | 29 => .p c29
  | 10 => .p c10
  | 11 => .p c11
  | 47 => .p c47
  | 25 => .p c25
  | 13 => .p c13
  | 16 => .p c16
  | 26 => .p c26
  | 21 => .p c21
  | 59 => .p c59
  | 40 => .p c40
  | 70 => .p c70
  | 60 => .p c60
  | 41 => .p c41
  | 42 => .p c42
  | 19 => .p c19
  | 17 => .p c17
  | 18 => .p c18
  | 24 => .p c24
  | 3 => .p c3
  | 4 => .p c4
  | 5 => .p c5
  | 6 => .p c6
  | 7 => .p c7
  | 8 => .p c8
  | 9 => .p c9
  | _ => .no
def pos18 : FuncId → Nat
  | 56 => 0
  | 31 => 1
  | 30 => 2
  | 57 => 3
  | 33 => 4
  | 34 => 5
  | 32 => 6
  | 35 => 7
  | 61 => 8
  | 45 => 9
  | 44 => 10
  | 46 => 11
  | 50 => 12
  | 53 => 13
  | 55 => 14
  | 63 => 15
  | 36 => 16
  | 58 => 17
  | 37 => 18
  | 38 => 19
  | 39 => 20
  | 12 => 21
  | 14 => 22
  | 15 => 23
  | 43 => 24
  | 20 => 25
  | 22 => 26
  | 23 => 27
  | 62 => 28
  | 48 => 29
  | 49 => 30
  | 51 => 31
  | 27 => 32
  | 72 => 33
  | 66 => 34
  | 52 => 35
  | 54 => 36
  | 28 => 37
  | 29 => 38
  | 10 => 39
  | 11 => 40
  | 47 => 41
  | 25 => 42
  | 13 => 43
  | 16 => 44
  | 26 => 45
  | 21 => 46
  | 59 => 47
  | 40 => 48
  | 70 => 49
  | 60 => 50
  | 41 => 51
  | 42 => 52
  | 19 => 53
  | 17 => 54
  | 18 => 55
  | 24 => 56
  | 3 => 57
  | 4 => 58
  | 5 => 59
  | 6 => 60
  | 7 => 61
  | 8 => 62
  | 9 => 63
  | _ => 0
def C18 : Cfg := ⟨kd18, pos18⟩
abbrev N18 : Nat := 64
theorem kd18_ok : ∀ f, (C18.kd f).ok Try.prog f := by
  intro f
  show (kd18 f).ok Try.prog f
  unfold kd18
  split
  · exact fun _ _ h hr => cmp_snd okx56 h hr
  · exact ok31
  · exact ok30
  · exact split_ok
  · exact ok33
  · exact ok34
  · exact ok32
  · exact ok35
  · exact ok61
  · exact ok45
  · exact ok44
  · exact ok46
  · exact ok50
  · exact ok53
  · exact ok55
  · exact ok63
  · exact ok36
  · exact ok58
  · exact ok37
  · exact ok38
  · exact snd_clone hmix okx39
  · exact ok12
  · exact ok14
  · exact ok15
  · exact ok43
  · exact ok20
  · exact ok22
  · exact ok23
  · exact ok62
  · exact ok48
  · exact ok49
  · exact snd_insert okx51
  · exact ok27
  · exact join_y
  · exact ok66
  · exact ok52
  · exact fun args h r h' hr => delete_snd okx54 (by rw [okz54]; exact hr)
  · exact ok28
  · exact ok29
  · exact ok10
  · exact ok11
  · exact ok47
  · exact ok25
  · exact ok13
  · exact ok16
  · exact ok26
  · exact ok21
  · exact ok59
  · exact ok40
  · exact ok70
  · exact ok60
  · exact ok41
  · exact ok42
  · exact ok19
  · exact ok17
  · exact ok18
  · exact ok24
  · exact ok3
  · exact ok4
  · exact ok5
  · exact ok6
  · exact ok7
  · exact ok8
  · exact ok9
  · trivial
theorem tab18_ok (n : Nat) : TabOK Try.prog (C18.tab n) := Cfg.tab_ok hmix kd18_ok n

theorem p56 {n : Nat} (hn : 0 < n) (args : List AV) : (C18.tab n).p 56 args = cmpY args := Cfg.tab_y rfl rfl hn args
theorem a56 {n : Nat} (args : List AV) (h : AH) : callA (C18.tab n) 56 args h = vC (purEs h args) (C18.tab n) 56 args h := callA_eq _ _ _ _
theorem p31 {n : Nat} (hn : 1 < n) (args : List AV) : (C18.tab n).p 31 args = runP (C18.tab 1) c31 args := Cfg.tab_p rfl rfl hn args
theorem a31 {n : Nat} (args : List AV) (h : AH) : callA (C18.tab n) 31 args h = vC (purEs h args) (C18.tab n) 31 args h := callA_eq _ _ _ _
theorem p30 {n : Nat} (hn : 2 < n) (args : List AV) : (C18.tab n).p 30 args = runP (C18.tab 2) c30 args := Cfg.tab_p rfl rfl hn args
theorem a30 {n : Nat} (args : List AV) (h : AH) : callA (C18.tab n) 30 args h = vC (purEs h args) (C18.tab n) 30 args h := callA_eq _ _ _ _
theorem p57 {n : Nat} (hn : 3 < n) (args : List AV) : (C18.tab n).p 57 args = (splitY rightN) args := Cfg.tab_y rfl rfl hn args
theorem a57 {n : Nat} (args : List AV) (h : AH) : callA (C18.tab n) 57 args h = vC (purEs h args) (C18.tab n) 57 args h := callA_eq _ _ _ _
theorem p33 {n : Nat} (hn : 4 < n) (args : List AV) : (C18.tab n).p 33 args = runP (C18.tab 4) c33 args := Cfg.tab_p rfl rfl hn args
theorem a33 {n : Nat} (args : List AV) (h : AH) : callA (C18.tab n) 33 args h = vC (purEs h args) (C18.tab n) 33 args h := callA_eq _ _ _ _
theorem p34 {n : Nat} (hn : 5 < n) (args : List AV) : (C18.tab n).p 34 args = runP (C18.tab 5) c34 args := Cfg.tab_p rfl rfl hn args
theorem a34 {n : Nat} (args : List AV) (h : AH) : callA (C18.tab n) 34 args h = vC (purEs h args) (C18.tab n) 34 args h := callA_eq _ _ _ _
theorem p32 {n : Nat} (hn : 6 < n) (args : List AV) : (C18.tab n).p 32 args = runP (C18.tab 6) c32 args := Cfg.tab_p rfl rfl hn args
theorem a32 {n : Nat} (args : List AV) (h : AH) : callA (C18.tab n) 32 args h = vC (purEs h args) (C18.tab n) 32 args h := callA_eq _ _ _ _
theorem p35 {n : Nat} (hn : 7 < n) (args : List AV) : (C18.tab n).p 35 args = runP (C18.tab 7) c35 args := Cfg.tab_p rfl rfl hn args
theorem a35 {n : Nat} (args : List AV) (h : AH) : callA (C18.tab n) 35 args h = vC (purEs h args) (C18.tab n) 35 args h := callA_eq _ _ _ _
theorem p61 {n : Nat} (hn : 8 < n) (args : List AV) : (C18.tab n).p 61 args = runP (C18.tab 8) c61 args := Cfg.tab_p rfl rfl hn args
theorem a61 {n : Nat} (args : List AV) (h : AH) : callA (C18.tab n) 61 args h = vC (purEs h args) (C18.tab n) 61 args h := callA_eq _ _ _ _
theorem p45 {n : Nat} (hn : 9 < n) (args : List AV) : (C18.tab n).p 45 args = runP (C18.tab 9) c45 args := Cfg.tab_p rfl rfl hn args
theorem a45 {n : Nat} (args : List AV) (h : AH) : callA (C18.tab n) 45 args h = vC (purEs h args) (C18.tab n) 45 args h := callA_eq _ _ _ _
theorem p44 {n : Nat} (hn : 10 < n) (args : List AV) (h : AH) : callA (C18.tab n) 44 args h = runH (C18.tab 10) c44 args h := (callA_h (fun _ => Cfg.tab_hp rfl _ _)).trans (Cfg.tab_h rfl rfl hn args h)
theorem p46 {n : Nat} (hn : 11 < n) (args : List AV) (h : AH) : callA (C18.tab n) 46 args h = runH (C18.tab 11) c46 args h := (callA_h (fun _ => Cfg.tab_hp rfl _ _)).trans (Cfg.tab_h rfl rfl hn args h)
theorem p50 {n : Nat} (hn : 12 < n) (args : List AV) (h : AH) : callA (C18.tab n) 50 args h = runH (C18.tab 12) c50 args h := (callA_h (fun _ => Cfg.tab_hp rfl _ _)).trans (Cfg.tab_h rfl rfl hn args h)
theorem p53 {n : Nat} (hn : 13 < n) (args : List AV) (h : AH) : callA (C18.tab n) 53 args h = runH (C18.tab 13) c53 args h := (callA_h (fun _ => Cfg.tab_hp rfl _ _)).trans (Cfg.tab_h rfl rfl hn args h)
theorem p55 {n : Nat} (hn : 14 < n) (args : List AV) (h : AH) : callA (C18.tab n) 55 args h = runH (C18.tab 14) c55 args h := (callA_h (fun _ => Cfg.tab_hp rfl _ _)).trans (Cfg.tab_h rfl rfl hn args h)
theorem p63 {n : Nat} (hn : 15 < n) (args : List AV) : (C18.tab n).p 63 args = runP (C18.tab 15) c63 args := Cfg.tab_p rfl rfl hn args
theorem a63 {n : Nat} (args : List AV) (h : AH) : callA (C18.tab n) 63 args h = vC (purEs h args) (C18.tab n) 63 args h := callA_eq _ _ _ _
theorem p36 {n : Nat} (hn : 16 < n) (args : List AV) (h : AH) : callA (C18.tab n) 36 args h = runH (C18.tab 16) c36 args h := (callA_h (fun _ => Cfg.tab_hp rfl _ _)).trans (Cfg.tab_h rfl rfl hn args h)
theorem p58 {n : Nat} (hn : 17 < n) (args : List AV) (h : AH) : callA (C18.tab n) 58 args h = runH (C18.tab 17) c58 args h := (callA_h (fun _ => Cfg.tab_hp rfl _ _)).trans (Cfg.tab_h rfl rfl hn args h)
theorem p37 {n : Nat} (hn : 18 < n) (args : List AV) (h : AH) : callA (C18.tab n) 37 args h = runH (C18.tab 18) c37 args h := (callA_h (fun _ => Cfg.tab_hp rfl _ _)).trans (Cfg.tab_h rfl rfl hn args h)
theorem p38 {n : Nat} (hn : 19 < n) (args : List AV) (h : AH) : callA (C18.tab n) 38 args h = runH (C18.tab 19) c38 args h := (callA_h (fun _ => Cfg.tab_hp rfl _ _)).trans (Cfg.tab_h rfl rfl hn args h)
theorem p39 {n : Nat} (hn : 20 < n) (args : List AV) (h : AH) : callA (C18.tab n) 39 args h = cloneH 3 32 args h := (callA_h (fun _ => Cfg.tab_xp rfl _ _)).trans (Cfg.tab_x rfl rfl hn args h)
theorem p12 {n : Nat} (hn : 21 < n) (args : List AV) : (C18.tab n).p 12 args = runP (C18.tab 21) c12 args := Cfg.tab_p rfl rfl hn args
theorem a12 {n : Nat} (args : List AV) (h : AH) : callA (C18.tab n) 12 args h = vC (purEs h args) (C18.tab n) 12 args h := callA_eq _ _ _ _
theorem p14 {n : Nat} (hn : 22 < n) (args : List AV) : (C18.tab n).p 14 args = runP (C18.tab 22) c14 args := Cfg.tab_p rfl rfl hn args
theorem a14 {n : Nat} (args : List AV) (h : AH) : callA (C18.tab n) 14 args h = vC (purEs h args) (C18.tab n) 14 args h := callA_eq _ _ _ _
theorem p15 {n : Nat} (hn : 23 < n) (args : List AV) : (C18.tab n).p 15 args = runP (C18.tab 23) c15 args := Cfg.tab_p rfl rfl hn args
theorem a15 {n : Nat} (args : List AV) (h : AH) : callA (C18.tab n) 15 args h = vC (purEs h args) (C18.tab n) 15 args h := callA_eq _ _ _ _
theorem p43 {n : Nat} (hn : 24 < n) (args : List AV) (h : AH) : callA (C18.tab n) 43 args h = runH (C18.tab 24) c43 args h := (callA_h (fun _ => Cfg.tab_hp rfl _ _)).trans (Cfg.tab_h rfl rfl hn args h)
theorem p20 {n : Nat} (hn : 25 < n) (args : List AV) : (C18.tab n).p 20 args = runP (C18.tab 25) c20 args := Cfg.tab_p rfl rfl hn args
theorem a20 {n : Nat} (args : List AV) (h : AH) : callA (C18.tab n) 20 args h = vC (purEs h args) (C18.tab n) 20 args h := callA_eq _ _ _ _
theorem p22 {n : Nat} (hn : 26 < n) (args : List AV) : (C18.tab n).p 22 args = runP (C18.tab 26) c22 args := Cfg.tab_p rfl rfl hn args
theorem a22 {n : Nat} (args : List AV) (h : AH) : callA (C18.tab n) 22 args h = vC (purEs h args) (C18.tab n) 22 args h := callA_eq _ _ _ _
theorem p23 {n : Nat} (hn : 27 < n) (args : List AV) : (C18.tab n).p 23 args = runP (C18.tab 27) c23 args := Cfg.tab_p rfl rfl hn args
theorem a23 {n : Nat} (args : List AV) (h : AH) : callA (C18.tab n) 23 args h = vC (purEs h args) (C18.tab n) 23 args h := callA_eq _ _ _ _
theorem p62 {n : Nat} (hn : 28 < n) (args : List AV) (h : AH) : callA (C18.tab n) 62 args h = runH (C18.tab 28) c62 args h := (callA_h (fun _ => Cfg.tab_hp rfl _ _)).trans (Cfg.tab_h rfl rfl hn args h)
theorem p48 {n : Nat} (hn : 29 < n) (args : List AV) : (C18.tab n).p 48 args = runP (C18.tab 29) c48 args := Cfg.tab_p rfl rfl hn args
theorem a48 {n : Nat} (args : List AV) (h : AH) : callA (C18.tab n) 48 args h = vC (purEs h args) (C18.tab n) 48 args h := callA_eq _ _ _ _
theorem p49 {n : Nat} (hn : 30 < n) (args : List AV) (h : AH) : callA (C18.tab n) 49 args h = runH (C18.tab 30) c49 args h := (callA_h (fun _ => Cfg.tab_hp rfl _ _)).trans (Cfg.tab_h rfl rfl hn args h)
theorem p51 {n : Nat} (hn : 31 < n) (args : List AV) (h : AH) : callA (C18.tab n) 51 args h = insertH 3 32 args h := (callA_h (fun _ => Cfg.tab_xp rfl _ _)).trans (Cfg.tab_x rfl rfl hn args h)
theorem p27 {n : Nat} (hn : 32 < n) (args : List AV) : (C18.tab n).p 27 args = runP (C18.tab 32) c27 args := Cfg.tab_p rfl rfl hn args
theorem a27 {n : Nat} (args : List AV) (h : AH) : callA (C18.tab n) 27 args h = vC (purEs h args) (C18.tab n) 27 args h := callA_eq _ _ _ _
theorem p72 {n : Nat} (hn : 33 < n) (args : List AV) : (C18.tab n).p 72 args = joinY args := Cfg.tab_y rfl rfl hn args
theorem a72 {n : Nat} (args : List AV) (h : AH) : callA (C18.tab n) 72 args h = vC (purEs h args) (C18.tab n) 72 args h := callA_eq _ _ _ _
theorem p66 {n : Nat} (hn : 34 < n) (args : List AV) : (C18.tab n).p 66 args = runP (C18.tab 34) c66 args := Cfg.tab_p rfl rfl hn args
theorem a66 {n : Nat} (args : List AV) (h : AH) : callA (C18.tab n) 66 args h = vC (purEs h args) (C18.tab n) 66 args h := callA_eq _ _ _ _
theorem p52 {n : Nat} (hn : 35 < n) (args : List AV) : (C18.tab n).p 52 args = runP (C18.tab 35) c52 args := Cfg.tab_p rfl rfl hn args
theorem a52 {n : Nat} (args : List AV) (h : AH) : callA (C18.tab n) 52 args h = vC (purEs h args) (C18.tab n) 52 args h := callA_eq _ _ _ _
theorem p54 {n : Nat} (hn : 36 < n) (args : List AV) (h : AH) : callA (C18.tab n) 54 args h = deleteH 3 args h := (callA_h (fun _ => Cfg.tab_xp rfl _ _)).trans (Cfg.tab_x rfl rfl hn args h)
theorem p28 {n : Nat} (hn : 37 < n) (args : List AV) : (C18.tab n).p 28 args = runP (C18.tab 37) c28 args := Cfg.tab_p rfl rfl hn args
theorem a28 {n : Nat} (args : List AV) (h : AH) : callA (C18.tab n) 28 args h = vC (purEs h args) (C18.tab n) 28 args h := callA_eq _ _ _ _
theorem p29 {n : Nat} (hn : 38 < n) (args : List AV) : (C18.tab n).p 29 args = runP (C18.tab 38) c29 args := Cfg.tab_p rfl rfl hn args
theorem a29 {n : Nat} (args : List AV) (h : AH) : callA (C18.tab n) 29 args h = vC (purEs h args) (C18.tab n) 29 args h := callA_eq _ _ _ _
theorem p10 {n : Nat} (hn : 39 < n) (args : List AV) : (C18.tab n).p 10 args = runP (C18.tab 39) c10 args := Cfg.tab_p rfl rfl hn args
theorem a10 {n : Nat} (args : List AV) (h : AH) : callA (C18.tab n) 10 args h = vC (purEs h args) (C18.tab n) 10 args h := callA_eq _ _ _ _
theorem p11 {n : Nat} (hn : 40 < n) (args : List AV) : (C18.tab n).p 11 args = runP (C18.tab 40) c11 args := Cfg.tab_p rfl rfl hn args
theorem a11 {n : Nat} (args : List AV) (h : AH) : callA (C18.tab n) 11 args h = vC (purEs h args) (C18.tab n) 11 args h := callA_eq _ _ _ _
theorem p47 {n : Nat} (hn : 41 < n) (args : List AV) : (C18.tab n).p 47 args = runP (C18.tab 41) c47 args := Cfg.tab_p rfl rfl hn args
theorem a47 {n : Nat} (args : List AV) (h : AH) : callA (C18.tab n) 47 args h = vC (purEs h args) (C18.tab n) 47 args h := callA_eq _ _ _ _
theorem p25 {n : Nat} (hn : 42 < n) (args : List AV) : (C18.tab n).p 25 args = runP (C18.tab 42) c25 args := Cfg.tab_p rfl rfl hn args
theorem a25 {n : Nat} (args : List AV) (h : AH) : callA (C18.tab n) 25 args h = vC (purEs h args) (C18.tab n) 25 args h := callA_eq _ _ _ _
theorem p13 {n : Nat} (hn : 43 < n) (args : List AV) : (C18.tab n).p 13 args = runP (C18.tab 43) c13 args := Cfg.tab_p rfl rfl hn args
theorem a13 {n : Nat} (args : List AV) (h : AH) : callA (C18.tab n) 13 args h = vC (purEs h args) (C18.tab n) 13 args h := callA_eq _ _ _ _
theorem p16 {n : Nat} (hn : 44 < n) (args : List AV) : (C18.tab n).p 16 args = runP (C18.tab 44) c16 args := Cfg.tab_p rfl rfl hn args
theorem a16 {n : Nat} (args : List AV) (h : AH) : callA (C18.tab n) 16 args h = vC (purEs h args) (C18.tab n) 16 args h := callA_eq _ _ _ _
theorem p26 {n : Nat} (hn : 45 < n) (args : List AV) : (C18.tab n).p 26 args = runP (C18.tab 45) c26 args := Cfg.tab_p rfl rfl hn args
theorem a26 {n : Nat} (args : List AV) (h : AH) : callA (C18.tab n) 26 args h = vC (purEs h args) (C18.tab n) 26 args h := callA_eq _ _ _ _
theorem p21 {n : Nat} (hn : 46 < n) (args : List AV) : (C18.tab n).p 21 args = runP (C18.tab 46) c21 args := Cfg.tab_p rfl rfl hn args
theorem a21 {n : Nat} (args : List AV) (h : AH) : callA (C18.tab n) 21 args h = vC (purEs h args) (C18.tab n) 21 args h := callA_eq _ _ _ _
theorem p59 {n : Nat} (hn : 47 < n) (args : List AV) : (C18.tab n).p 59 args = runP (C18.tab 47) c59 args := Cfg.tab_p rfl rfl hn args
theorem a59 {n : Nat} (args : List AV) (h : AH) : callA (C18.tab n) 59 args h = vC (purEs h args) (C18.tab n) 59 args h := callA_eq _ _ _ _
theorem p40 {n : Nat} (hn : 48 < n) (args : List AV) : (C18.tab n).p 40 args = runP (C18.tab 48) c40 args := Cfg.tab_p rfl rfl hn args
theorem a40 {n : Nat} (args : List AV) (h : AH) : callA (C18.tab n) 40 args h = vC (purEs h args) (C18.tab n) 40 args h := callA_eq _ _ _ _
theorem p70 {n : Nat} (hn : 49 < n) (args : List AV) : (C18.tab n).p 70 args = runP (C18.tab 49) c70 args := Cfg.tab_p rfl rfl hn args
theorem a70 {n : Nat} (args : List AV) (h : AH) : callA (C18.tab n) 70 args h = vC (purEs h args) (C18.tab n) 70 args h := callA_eq _ _ _ _
theorem p60 {n : Nat} (hn : 50 < n) (args : List AV) : (C18.tab n).p 60 args = runP (C18.tab 50) c60 args := Cfg.tab_p rfl rfl hn args
theorem a60 {n : Nat} (args : List AV) (h : AH) : callA (C18.tab n) 60 args h = vC (purEs h args) (C18.tab n) 60 args h := callA_eq _ _ _ _
theorem p41 {n : Nat} (hn : 51 < n) (args : List AV) : (C18.tab n).p 41 args = runP (C18.tab 51) c41 args := Cfg.tab_p rfl rfl hn args
theorem a41 {n : Nat} (args : List AV) (h : AH) : callA (C18.tab n) 41 args h = vC (purEs h args) (C18.tab n) 41 args h := callA_eq _ _ _ _
theorem p42 {n : Nat} (hn : 52 < n) (args : List AV) : (C18.tab n).p 42 args = runP (C18.tab 52) c42 args := Cfg.tab_p rfl rfl hn args
theorem a42 {n : Nat} (args : List AV) (h : AH) : callA (C18.tab n) 42 args h = vC (purEs h args) (C18.tab n) 42 args h := callA_eq _ _ _ _
theorem p19 {n : Nat} (hn : 53 < n) (args : List AV) : (C18.tab n).p 19 args = runP (C18.tab 53) c19 args := Cfg.tab_p rfl rfl hn args
theorem a19 {n : Nat} (args : List AV) (h : AH) : callA (C18.tab n) 19 args h = vC (purEs h args) (C18.tab n) 19 args h := callA_eq _ _ _ _
theorem p17 {n : Nat} (hn : 54 < n) (args : List AV) : (C18.tab n).p 17 args = runP (C18.tab 54) c17 args := Cfg.tab_p rfl rfl hn args
theorem a17 {n : Nat} (args : List AV) (h : AH) : callA (C18.tab n) 17 args h = vC (purEs h args) (C18.tab n) 17 args h := callA_eq _ _ _ _
theorem p18 {n : Nat} (hn : 55 < n) (args : List AV) : (C18.tab n).p 18 args = runP (C18.tab 55) c18 args := Cfg.tab_p rfl rfl hn args
theorem a18 {n : Nat} (args : List AV) (h : AH) : callA (C18.tab n) 18 args h = vC (purEs h args) (C18.tab n) 18 args h := callA_eq _ _ _ _
theorem p24 {n : Nat} (hn : 56 < n) (args : List AV) : (C18.tab n).p 24 args = runP (C18.tab 56) c24 args := Cfg.tab_p rfl rfl hn args
theorem a24 {n : Nat} (args : List AV) (h : AH) : callA (C18.tab n) 24 args h = vC (purEs h args) (C18.tab n) 24 args h := callA_eq _ _ _ _
theorem p3 {n : Nat} (hn : 57 < n) (args : List AV) : (C18.tab n).p 3 args = runP (C18.tab 57) c3 args := Cfg.tab_p rfl rfl hn args
theorem a3 {n : Nat} (args : List AV) (h : AH) : callA (C18.tab n) 3 args h = vC (purEs h args) (C18.tab n) 3 args h := callA_eq _ _ _ _
theorem p4 {n : Nat} (hn : 58 < n) (args : List AV) : (C18.tab n).p 4 args = runP (C18.tab 58) c4 args := Cfg.tab_p rfl rfl hn args
theorem a4 {n : Nat} (args : List AV) (h : AH) : callA (C18.tab n) 4 args h = vC (purEs h args) (C18.tab n) 4 args h := callA_eq _ _ _ _
theorem p5 {n : Nat} (hn : 59 < n) (args : List AV) : (C18.tab n).p 5 args = runP (C18.tab 59) c5 args := Cfg.tab_p rfl rfl hn args
theorem a5 {n : Nat} (args : List AV) (h : AH) : callA (C18.tab n) 5 args h = vC (purEs h args) (C18.tab n) 5 args h := callA_eq _ _ _ _
theorem p6 {n : Nat} (hn : 60 < n) (args : List AV) : (C18.tab n).p 6 args = runP (C18.tab 60) c6 args := Cfg.tab_p rfl rfl hn args
theorem a6 {n : Nat} (args : List AV) (h : AH) : callA (C18.tab n) 6 args h = vC (purEs h args) (C18.tab n) 6 args h := callA_eq _ _ _ _
theorem p7 {n : Nat} (hn : 61 < n) (args : List AV) : (C18.tab n).p 7 args = runP (C18.tab 61) c7 args := Cfg.tab_p rfl rfl hn args
theorem a7 {n : Nat} (args : List AV) (h : AH) : callA (C18.tab n) 7 args h = vC (purEs h args) (C18.tab n) 7 args h := callA_eq _ _ _ _
theorem p8 {n : Nat} (hn : 62 < n) (args : List AV) : (C18.tab n).p 8 args = runP (C18.tab 62) c8 args := Cfg.tab_p rfl rfl hn args
theorem a8 {n : Nat} (args : List AV) (h : AH) : callA (C18.tab n) 8 args h = vC (purEs h args) (C18.tab n) 8 args h := callA_eq _ _ _ _
theorem p9 {n : Nat} (hn : 63 < n) (args : List AV) : (C18.tab n).p 9 args = runP (C18.tab 63) c9 args := Cfg.tab_p rfl rfl hn args
theorem a9 {n : Nat} (args : List AV) (h : AH) : callA (C18.tab n) 9 args h = vC (purEs h args) (C18.tab n) 9 args h := callA_eq _ _ _ _
end Go.Proofs.Ytlooipgkklaijaa
