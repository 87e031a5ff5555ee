/-
  The table of the functions, for the abstract machine.
-/
import Derived.Test.YtdnoopjpkcmpjaaLit08
import Derived.Test.YtdnoopjpkcmpjaaAmTb
import Derived.Test.YtdnoopjpkcmpjaaAmDel
set_option linter.unusedSimpArgs false
set_option linter.unusedVariables false
namespace Go.Proofs.Ytdnoopjpkcmpjaa
open Go.Am

theorem hmix : Try.prog.follows .mixedOrders = true := by kernel_rfl
theorem okx43 : InsOK Try.prog 43 31 3 4 60 0 75 76 3 24 := ⟨hmix, ⟨Try.f43.name, Try.f43.targs, by kernel_rfl, by kernel_rfl⟩, ⟨Try.f75, by kernel_rfl, by kernel_rfl, by kernel_rfl, by kernel_rfl, by kernel_rfl⟩, by kernel_rfl, by kernel_rfl, by kernel_rfl, by kernel_rfl, by kernel_rfl, by decide⟩
theorem okx44 : okF Try.prog 44 (cloneF 3 24 (.agg [.int .i64 0, .int .i64 0, .int .i64 0])) = true := by kernel_rfl
theorem okz47 : ((Try.prog.info? 60).getD default).size = 3 := by kernel_rfl
theorem okx47 : DelL Try.prog 47 31 3 4 60 0 ((Try.prog.info? 60).getD default) (((Try.prog.info? 60).getD default).zero.getD .nilFunc) := ⟨hmix, ⟨Try.f47.name, Try.f47.targs, by kernel_rfl, by kernel_rfl⟩, by kernel_rfl, by kernel_rfl, by kernel_rfl, by kernel_rfl, by kernel_rfl, by kernel_rfl, by kernel_rfl, by kernel_rfl, by rw [okz47]; decide⟩
theorem okz94 : ((Try.prog.info? 56).getD default).size = 6 := by kernel_rfl
theorem okx94 : DelL Try.prog 94 28 3 4 56 0 ((Try.prog.info? 56).getD default) (((Try.prog.info? 56).getD default).zero.getD .nilFunc) := ⟨hmix, ⟨Try.f94.name, Try.f94.targs, by kernel_rfl, by kernel_rfl⟩, by kernel_rfl, by kernel_rfl, by kernel_rfl, by kernel_rfl, by kernel_rfl, by kernel_rfl, by kernel_rfl, by kernel_rfl, by rw [okz94]; decide⟩
theorem okx95 : okF Try.prog 95 (cloneF 6 80 (.agg [.int .i64 0, .int .i64 0, .int .i64 0, .lst true [], .lst true [], .int .i64 0])) = true := by kernel_rfl

/-- What is known of each function. -/
noncomputable def kd08 : FuncId → Kd
  | 38 => .p c38
  | 57 => .p c57
  | 73 => .p c73
  | 92 => .p c92
  | 74 => .p c74
  | 41 => .p c41
  | 46 => .p c46
  | 78 => .h c78
  | 100 => .p c100
  | 45 => .h c45
  | 77 => .h c77
  | 48 => .p c48
  | 59 => .h c59
  | 99 => .h c99
  | 91 => .h c91
  | 72 => .h c72
  | 39 => .p c39
  | 40 => .h c40
  | 42 => .p c42
  | 43 => .x (insertH 3 24)
  | 44 => .x (cloneH 3 24)
  | 13 => .p c13
  | 16 => .p c16
  | 17 => .p c17
  | 47 => .x (deleteH 3)
  | 94 => .x (deleteH 6)
  | 95 => .x (cloneH 6 80)
  | 79 => .h c79
  | 49 => .p c49
  | 18 => .p c18
  | 24 => .p c24
  | 83 => .h c83
  | 58 => .h c58
  | 26 => .p c26
  | 63 => .p c63
  | 29 => .p c29
  | 87 => .p c87
  | 88 => .p c88
  | 89 => .p c89
  | 61 => .p c61
  | 90 => .p c90
  | 66 => .p c66
  | 68 => .p c68
  | 67 => .p c67
  | 34 => .p c34
  | 35 => .p c35
  | 69 => .p c69
  | 86 => .p c86
  | 70 => .p c70
  | 71 => .p c71
  | 36 => .p c36
  | 9 => .p c9
  | 37 => .p c37
  | 10 => .p c10
  | 25 => .p c25
  | 30 => .p c30
  | 65 => .p c65
  | 33 => .p c33
  | 12 => .p c12
  | 81 => .p c81
  | 96 => .p c96
  | 62 => .p c62
  | 102 => .p c102
  | 103 => .p c103
  | 97 => .p c97
  | 98 => .p c98
  | 80 => .p c80
  | 51 => .p c51
  | 20 => .p c20
  | 14 => .p c14
  | 15 => .p c15
  | 52 => .p c52
  | 56 => .p c56
  | 82 => .p c82
  | 53 => .p c53
  | 54 => .p c54
  | 55 => .p c55
  | 22 => .p c22
  | 11 => .p c11
  | 64 => .p c64
  | 31 => .p c31
  | 50 => .p c50
  | 19 => .p c19
  | 3 => .p c3
  | 32 => .p c32
  | 21 => .p c21
  | 23 => .p c23
  | 27 => .p c27
  | 4 => .p c4
  | 84 => .p c84
  | 85 => .p c85
  | 60 => .p c60
  | 28 => .p c28
  | 5 => .p c5
  | 6 => .p c6
  | 7 => .p c7
  | 8 => .p c8
  | _ => .no
def pos08 : FuncId → Nat
  | 38 => 0
  | 57 => 1
  | 73 => 2
  | 92 => 3
  | 74 => 4
  | 41 => 5
  | 46 => 6
  | 78 => 7
  | 100 => 8
  | 45 => 9
  | 77 => 10
  | 48 => 11
  | 59 => 12
  | 99 => 13
  | 91 => 14
  | 72 => 15
  | 39 => 16
  | 40 => 17
  | 42 => 18
  | 43 => 19
  | 44 => 20
  | 13 => 21
  | 16 => 22
  | 17 => 23
  | 47 => 24
  | 94 => 25
  | 95 => 26
  | 79 => 27
  | 49 => 28
  | 18 => 29
  | 24 => 30
  | 83 => 31
  | 58 => 32
  | 26 => 33
  | 63 => 34
  | 29 => 35
  | 87 => 36
  | 88 => 37
  | 89 => 38
  | 61 => 39
  | 90 => 40
  | 66 => 41
  | 68 => 42
  | 67 => 43
  | 34 => 44
  | 35 => 45
  | 69 => 46
  | 86 => 47
  | 70 => 48
  | 71 => 49
  | 36 => 50
  | 9 => 51
  | 37 => 52
  | 10 => 53
  | 25 => 54
  | 30 => 55
  | 65 => 56
  | 33 => 57
  | 12 => 58
  | 81 => 59
  | 96 => 60
  | 62 => 61
  | 102 => 62
  | 103 => 63
  | 97 => 64
  | 98 => 65
  | 80 => 66
  | 51 => 67
  | 20 => 68
  | 14 => 69
  | 15 => 70
  | 52 => 71
  | 56 => 72
  | 82 => 73
  | 53 => 74
  | 54 => 75
  | 55 => 76
  | 22 => 77
  | 11 => 78
  | 64 => 79
  | 31 => 80
  | 50 => 81
  | 19 => 82
  | 3 => 83
  | 32 => 84
  | 21 => 85
  | 23 => 86
  | 27 => 87
  | 4 => 88
  | 84 => 89
  | 85 => 90
  | 60 => 91
  | 28 => 92
  | 5 => 93
  | 6 => 94
  | 7 => 95
  | 8 => 96
  | _ => 0
noncomputable def C08 : Cfg := ⟨kd08, pos08⟩
abbrev N08 : Nat := 97
theorem kd08_ok : ∀ f, (C08.kd f).ok Try.prog f := by
  intro f
  show (kd08 f).ok Try.prog f
  unfold kd08
  split
  · exact ok38
  · exact ok57
  · exact ok73
  · exact ok92
  · exact ok74
  · exact ok41
  · exact ok46
  · exact ok78
  · exact ok100
  · exact ok45
  · exact ok77
  · exact ok48
  · exact ok59
  · exact ok99
  · exact ok91
  · exact ok72
  · exact ok39
  · exact ok40
  · exact ok42
  · exact snd_insert okx43
  · exact snd_clone hmix okx44
  · exact ok13
  · exact ok16
  · exact ok17
  · exact fun args h r h' hr => delete_snd okx47 (by rw [okz47]; exact hr)
  · exact fun args h r h' hr => delete_snd okx94 (by rw [okz94]; exact hr)
  · exact snd_clone hmix okx95
  · exact ok79
  · exact ok49
  · exact ok18
  · exact ok24
  · exact ok83
  · exact ok58
  · exact ok26
  · exact ok63
  · exact ok29
  · exact ok87
  · exact ok88
  · exact ok89
  · exact ok61
  · exact ok90
  · exact ok66
  · exact ok68
  · exact ok67
  · exact ok34
  · exact ok35
  · exact ok69
  · exact ok86
  · exact ok70
  · exact ok71
  · exact ok36
  · exact ok9
  · exact ok37
  · exact ok10
  · exact ok25
  · exact ok30
  · exact ok65
  · exact ok33
  · exact ok12
  · exact ok81
  · exact ok96
  · exact ok62
  · exact ok102
  · exact ok103
  · exact ok97
  · exact ok98
  · exact ok80
  · exact ok51
  · exact ok20
  · exact ok14
  · exact ok15
  · exact ok52
  · exact ok56
  · exact ok82
  · exact ok53
  · exact ok54
  · exact ok55
  · exact ok22
  · exact ok11
  · exact ok64
  · exact ok31
  · exact ok50
  · exact ok19
  · exact ok3
  · exact ok32
  · exact ok21
  · exact ok23
  · exact ok27
  · exact ok4
  · exact ok84
  · exact ok85
  · exact ok60
  · exact ok28
  · exact ok5
  · exact ok6
  · exact ok7
  · exact ok8
  · trivial
theorem tab08_ok (n : Nat) : TabOK Try.prog (C08.tab n) := Cfg.tab_ok hmix kd08_ok n

theorem p38 {n : Nat} (hn : 0 < n) (args : List AV) : (C08.tab n).p 38 args = runP (C08.tab 0) c38 args := Cfg.tab_p rfl rfl hn args
theorem a38 {n : Nat} (args : List AV) (h : AH) : callA (C08.tab n) 38 args h = vC (purEs h args) (C08.tab n) 38 args h := callA_eq _ _ _ _
theorem p57 {n : Nat} (hn : 1 < n) (args : List AV) : (C08.tab n).p 57 args = runP (C08.tab 1) c57 args := Cfg.tab_p rfl rfl hn args
theorem a57 {n : Nat} (args : List AV) (h : AH) : callA (C08.tab n) 57 args h = vC (purEs h args) (C08.tab n) 57 args h := callA_eq _ _ _ _
theorem p73 {n : Nat} (hn : 2 < n) (args : List AV) : (C08.tab n).p 73 args = runP (C08.tab 2) c73 args := Cfg.tab_p rfl rfl hn args
theorem a73 {n : Nat} (args : List AV) (h : AH) : callA (C08.tab n) 73 args h = vC (purEs h args) (C08.tab n) 73 args h := callA_eq _ _ _ _
theorem p92 {n : Nat} (hn : 3 < n) (args : List AV) : (C08.tab n).p 92 args = runP (C08.tab 3) c92 args := Cfg.tab_p rfl rfl hn args
theorem a92 {n : Nat} (args : List AV) (h : AH) : callA (C08.tab n) 92 args h = vC (purEs h args) (C08.tab n) 92 args h := callA_eq _ _ _ _
theorem p74 {n : Nat} (hn : 4 < n) (args : List AV) : (C08.tab n).p 74 args = runP (C08.tab 4) c74 args := Cfg.tab_p rfl rfl hn args
theorem a74 {n : Nat} (args : List AV) (h : AH) : callA (C08.tab n) 74 args h = vC (purEs h args) (C08.tab n) 74 args h := callA_eq _ _ _ _
theorem p41 {n : Nat} (hn : 5 < n) (args : List AV) : (C08.tab n).p 41 args = runP (C08.tab 5) c41 args := Cfg.tab_p rfl rfl hn args
theorem a41 {n : Nat} (args : List AV) (h : AH) : callA (C08.tab n) 41 args h = vC (purEs h args) (C08.tab n) 41 args h := callA_eq _ _ _ _
theorem p46 {n : Nat} (hn : 6 < n) (args : List AV) : (C08.tab n).p 46 args = runP (C08.tab 6) c46 args := Cfg.tab_p rfl rfl hn args
theorem a46 {n : Nat} (args : List AV) (h : AH) : callA (C08.tab n) 46 args h = vC (purEs h args) (C08.tab n) 46 args h := callA_eq _ _ _ _
theorem p78 {n : Nat} (hn : 7 < n) (args : List AV) (h : AH) : callA (C08.tab n) 78 args h = runH (C08.tab 7) c78 args h := (callA_h (fun _ => Cfg.tab_hp rfl _ _)).trans (Cfg.tab_h rfl rfl hn args h)
theorem p100 {n : Nat} (hn : 8 < n) (args : List AV) : (C08.tab n).p 100 args = runP (C08.tab 8) c100 args := Cfg.tab_p rfl rfl hn args
theorem a100 {n : Nat} (args : List AV) (h : AH) : callA (C08.tab n) 100 args h = vC (purEs h args) (C08.tab n) 100 args h := callA_eq _ _ _ _
theorem p45 {n : Nat} (hn : 9 < n) (args : List AV) (h : AH) : callA (C08.tab n) 45 args h = runH (C08.tab 9) c45 args h := (callA_h (fun _ => Cfg.tab_hp rfl _ _)).trans (Cfg.tab_h rfl rfl hn args h)
theorem p77 {n : Nat} (hn : 10 < n) (args : List AV) (h : AH) : callA (C08.tab n) 77 args h = runH (C08.tab 10) c77 args h := (callA_h (fun _ => Cfg.tab_hp rfl _ _)).trans (Cfg.tab_h rfl rfl hn args h)
theorem p48 {n : Nat} (hn : 11 < n) (args : List AV) : (C08.tab n).p 48 args = runP (C08.tab 11) c48 args := Cfg.tab_p rfl rfl hn args
theorem a48 {n : Nat} (args : List AV) (h : AH) : callA (C08.tab n) 48 args h = vC (purEs h args) (C08.tab n) 48 args h := callA_eq _ _ _ _
theorem p59 {n : Nat} (hn : 12 < n) (args : List AV) (h : AH) : callA (C08.tab n) 59 args h = runH (C08.tab 12) c59 args h := (callA_h (fun _ => Cfg.tab_hp rfl _ _)).trans (Cfg.tab_h rfl rfl hn args h)
theorem p99 {n : Nat} (hn : 13 < n) (args : List AV) (h : AH) : callA (C08.tab n) 99 args h = runH (C08.tab 13) c99 args h := (callA_h (fun _ => Cfg.tab_hp rfl _ _)).trans (Cfg.tab_h rfl rfl hn args h)
theorem p91 {n : Nat} (hn : 14 < n) (args : List AV) (h : AH) : callA (C08.tab n) 91 args h = runH (C08.tab 14) c91 args h := (callA_h (fun _ => Cfg.tab_hp rfl _ _)).trans (Cfg.tab_h rfl rfl hn args h)
theorem p72 {n : Nat} (hn : 15 < n) (args : List AV) (h : AH) : callA (C08.tab n) 72 args h = runH (C08.tab 15) c72 args h := (callA_h (fun _ => Cfg.tab_hp rfl _ _)).trans (Cfg.tab_h rfl rfl hn args h)
theorem p39 {n : Nat} (hn : 16 < n) (args : List AV) : (C08.tab n).p 39 args = runP (C08.tab 16) c39 args := Cfg.tab_p rfl rfl hn args
theorem a39 {n : Nat} (args : List AV) (h : AH) : callA (C08.tab n) 39 args h = vC (purEs h args) (C08.tab n) 39 args h := callA_eq _ _ _ _
theorem p40 {n : Nat} (hn : 17 < n) (args : List AV) (h : AH) : callA (C08.tab n) 40 args h = runH (C08.tab 17) c40 args h := (callA_h (fun _ => Cfg.tab_hp rfl _ _)).trans (Cfg.tab_h rfl rfl hn args h)
theorem p42 {n : Nat} (hn : 18 < n) (args : List AV) : (C08.tab n).p 42 args = runP (C08.tab 18) c42 args := Cfg.tab_p rfl rfl hn args
theorem a42 {n : Nat} (args : List AV) (h : AH) : callA (C08.tab n) 42 args h = vC (purEs h args) (C08.tab n) 42 args h := callA_eq _ _ _ _
theorem p43 {n : Nat} (hn : 19 < n) (args : List AV) (h : AH) : callA (C08.tab n) 43 args h = insertH 3 24 args h := (callA_h (fun _ => Cfg.tab_xp rfl _ _)).trans (Cfg.tab_x rfl rfl hn args h)
theorem q43 {n : Nat} (hn : 19 < n) (args : List AV) (h : AH) : (C08.tab n).h 43 args h = insertH 3 24 args h := Cfg.tab_x rfl rfl hn args h
theorem p44 {n : Nat} (hn : 20 < n) (args : List AV) (h : AH) : callA (C08.tab n) 44 args h = cloneH 3 24 args h := (callA_h (fun _ => Cfg.tab_xp rfl _ _)).trans (Cfg.tab_x rfl rfl hn args h)
theorem q44 {n : Nat} (hn : 20 < n) (args : List AV) (h : AH) : (C08.tab n).h 44 args h = cloneH 3 24 args h := Cfg.tab_x rfl rfl hn args h
theorem p13 {n : Nat} (hn : 21 < n) (args : List AV) : (C08.tab n).p 13 args = runP (C08.tab 21) c13 args := Cfg.tab_p rfl rfl hn args
theorem a13 {n : Nat} (args : List AV) (h : AH) : callA (C08.tab n) 13 args h = vC (purEs h args) (C08.tab n) 13 args h := callA_eq _ _ _ _
theorem p16 {n : Nat} (hn : 22 < n) (args : List AV) : (C08.tab n).p 16 args = runP (C08.tab 22) c16 args := Cfg.tab_p rfl rfl hn args
theorem a16 {n : Nat} (args : List AV) (h : AH) : callA (C08.tab n) 16 args h = vC (purEs h args) (C08.tab n) 16 args h := callA_eq _ _ _ _
theorem p17 {n : Nat} (hn : 23 < n) (args : List AV) : (C08.tab n).p 17 args = runP (C08.tab 23) c17 args := Cfg.tab_p rfl rfl hn args
theorem a17 {n : Nat} (args : List AV) (h : AH) : callA (C08.tab n) 17 args h = vC (purEs h args) (C08.tab n) 17 args h := callA_eq _ _ _ _
theorem p47 {n : Nat} (hn : 24 < n) (args : List AV) (h : AH) : callA (C08.tab n) 47 args h = deleteH 3 args h := (callA_h (fun _ => Cfg.tab_xp rfl _ _)).trans (Cfg.tab_x rfl rfl hn args h)
theorem q47 {n : Nat} (hn : 24 < n) (args : List AV) (h : AH) : (C08.tab n).h 47 args h = deleteH 3 args h := Cfg.tab_x rfl rfl hn args h
theorem p94 {n : Nat} (hn : 25 < n) (args : List AV) (h : AH) : callA (C08.tab n) 94 args h = deleteH 6 args h := (callA_h (fun _ => Cfg.tab_xp rfl _ _)).trans (Cfg.tab_x rfl rfl hn args h)
theorem q94 {n : Nat} (hn : 25 < n) (args : List AV) (h : AH) : (C08.tab n).h 94 args h = deleteH 6 args h := Cfg.tab_x rfl rfl hn args h
theorem p95 {n : Nat} (hn : 26 < n) (args : List AV) (h : AH) : callA (C08.tab n) 95 args h = cloneH 6 80 args h := (callA_h (fun _ => Cfg.tab_xp rfl _ _)).trans (Cfg.tab_x rfl rfl hn args h)
theorem q95 {n : Nat} (hn : 26 < n) (args : List AV) (h : AH) : (C08.tab n).h 95 args h = cloneH 6 80 args h := Cfg.tab_x rfl rfl hn args h
theorem p79 {n : Nat} (hn : 27 < n) (args : List AV) (h : AH) : callA (C08.tab n) 79 args h = runH (C08.tab 27) c79 args h := (callA_h (fun _ => Cfg.tab_hp rfl _ _)).trans (Cfg.tab_h rfl rfl hn args h)
theorem p49 {n : Nat} (hn : 28 < n) (args : List AV) : (C08.tab n).p 49 args = runP (C08.tab 28) c49 args := Cfg.tab_p rfl rfl hn args
theorem a49 {n : Nat} (args : List AV) (h : AH) : callA (C08.tab n) 49 args h = vC (purEs h args) (C08.tab n) 49 args h := callA_eq _ _ _ _
theorem p18 {n : Nat} (hn : 29 < n) (args : List AV) : (C08.tab n).p 18 args = runP (C08.tab 29) c18 args := Cfg.tab_p rfl rfl hn args
theorem a18 {n : Nat} (args : List AV) (h : AH) : callA (C08.tab n) 18 args h = vC (purEs h args) (C08.tab n) 18 args h := callA_eq _ _ _ _
theorem p24 {n : Nat} (hn : 30 < n) (args : List AV) : (C08.tab n).p 24 args = runP (C08.tab 30) c24 args := Cfg.tab_p rfl rfl hn args
theorem a24 {n : Nat} (args : List AV) (h : AH) : callA (C08.tab n) 24 args h = vC (purEs h args) (C08.tab n) 24 args h := callA_eq _ _ _ _
theorem p83 {n : Nat} (hn : 31 < n) (args : List AV) (h : AH) : callA (C08.tab n) 83 args h = runH (C08.tab 31) c83 args h := (callA_h (fun _ => Cfg.tab_hp rfl _ _)).trans (Cfg.tab_h rfl rfl hn args h)
theorem p58 {n : Nat} (hn : 32 < n) (args : List AV) (h : AH) : callA (C08.tab n) 58 args h = runH (C08.tab 32) c58 args h := (callA_h (fun _ => Cfg.tab_hp rfl _ _)).trans (Cfg.tab_h rfl rfl hn args h)
theorem p26 {n : Nat} (hn : 33 < n) (args : List AV) : (C08.tab n).p 26 args = runP (C08.tab 33) c26 args := Cfg.tab_p rfl rfl hn args
theorem a26 {n : Nat} (args : List AV) (h : AH) : callA (C08.tab n) 26 args h = vC (purEs h args) (C08.tab n) 26 args h := callA_eq _ _ _ _
theorem p63 {n : Nat} (hn : 34 < n) (args : List AV) : (C08.tab n).p 63 args = runP (C08.tab 34) c63 args := Cfg.tab_p rfl rfl hn args
theorem a63 {n : Nat} (args : List AV) (h : AH) : callA (C08.tab n) 63 args h = vC (purEs h args) (C08.tab n) 63 args h := callA_eq _ _ _ _
theorem p29 {n : Nat} (hn : 35 < n) (args : List AV) : (C08.tab n).p 29 args = runP (C08.tab 35) c29 args := Cfg.tab_p rfl rfl hn args
theorem a29 {n : Nat} (args : List AV) (h : AH) : callA (C08.tab n) 29 args h = vC (purEs h args) (C08.tab n) 29 args h := callA_eq _ _ _ _
theorem p87 {n : Nat} (hn : 36 < n) (args : List AV) : (C08.tab n).p 87 args = runP (C08.tab 36) c87 args := Cfg.tab_p rfl rfl hn args
theorem a87 {n : Nat} (args : List AV) (h : AH) : callA (C08.tab n) 87 args h = vC (purEs h args) (C08.tab n) 87 args h := callA_eq _ _ _ _
theorem p88 {n : Nat} (hn : 37 < n) (args : List AV) : (C08.tab n).p 88 args = runP (C08.tab 37) c88 args := Cfg.tab_p rfl rfl hn args
theorem a88 {n : Nat} (args : List AV) (h : AH) : callA (C08.tab n) 88 args h = vC (purEs h args) (C08.tab n) 88 args h := callA_eq _ _ _ _
theorem p89 {n : Nat} (hn : 38 < n) (args : List AV) : (C08.tab n).p 89 args = runP (C08.tab 38) c89 args := Cfg.tab_p rfl rfl hn args
theorem a89 {n : Nat} (args : List AV) (h : AH) : callA (C08.tab n) 89 args h = vC (purEs h args) (C08.tab n) 89 args h := callA_eq _ _ _ _
theorem p61 {n : Nat} (hn : 39 < n) (args : List AV) : (C08.tab n).p 61 args = runP (C08.tab 39) c61 args := Cfg.tab_p rfl rfl hn args
theorem a61 {n : Nat} (args : List AV) (h : AH) : callA (C08.tab n) 61 args h = vC (purEs h args) (C08.tab n) 61 args h := callA_eq _ _ _ _
theorem p90 {n : Nat} (hn : 40 < n) (args : List AV) : (C08.tab n).p 90 args = runP (C08.tab 40) c90 args := Cfg.tab_p rfl rfl hn args
theorem a90 {n : Nat} (args : List AV) (h : AH) : callA (C08.tab n) 90 args h = vC (purEs h args) (C08.tab n) 90 args h := callA_eq _ _ _ _
theorem p66 {n : Nat} (hn : 41 < n) (args : List AV) : (C08.tab n).p 66 args = runP (C08.tab 41) c66 args := Cfg.tab_p rfl rfl hn args
theorem a66 {n : Nat} (args : List AV) (h : AH) : callA (C08.tab n) 66 args h = vC (purEs h args) (C08.tab n) 66 args h := callA_eq _ _ _ _
theorem p68 {n : Nat} (hn : 42 < n) (args : List AV) : (C08.tab n).p 68 args = runP (C08.tab 42) c68 args := Cfg.tab_p rfl rfl hn args
theorem a68 {n : Nat} (args : List AV) (h : AH) : callA (C08.tab n) 68 args h = vC (purEs h args) (C08.tab n) 68 args h := callA_eq _ _ _ _
theorem p67 {n : Nat} (hn : 43 < n) (args : List AV) : (C08.tab n).p 67 args = runP (C08.tab 43) c67 args := Cfg.tab_p rfl rfl hn args
theorem a67 {n : Nat} (args : List AV) (h : AH) : callA (C08.tab n) 67 args h = vC (purEs h args) (C08.tab n) 67 args h := callA_eq _ _ _ _
theorem p34 {n : Nat} (hn : 44 < n) (args : List AV) : (C08.tab n).p 34 args = runP (C08.tab 44) c34 args := Cfg.tab_p rfl rfl hn args
theorem a34 {n : Nat} (args : List AV) (h : AH) : callA (C08.tab n) 34 args h = vC (purEs h args) (C08.tab n) 34 args h := callA_eq _ _ _ _
theorem p35 {n : Nat} (hn : 45 < n) (args : List AV) : (C08.tab n).p 35 args = runP (C08.tab 45) c35 args := Cfg.tab_p rfl rfl hn args
theorem a35 {n : Nat} (args : List AV) (h : AH) : callA (C08.tab n) 35 args h = vC (purEs h args) (C08.tab n) 35 args h := callA_eq _ _ _ _
theorem p69 {n : Nat} (hn : 46 < n) (args : List AV) : (C08.tab n).p 69 args = runP (C08.tab 46) c69 args := Cfg.tab_p rfl rfl hn args
theorem a69 {n : Nat} (args : List AV) (h : AH) : callA (C08.tab n) 69 args h = vC (purEs h args) (C08.tab n) 69 args h := callA_eq _ _ _ _
theorem p86 {n : Nat} (hn : 47 < n) (args : List AV) : (C08.tab n).p 86 args = runP (C08.tab 47) c86 args := Cfg.tab_p rfl rfl hn args
theorem a86 {n : Nat} (args : List AV) (h : AH) : callA (C08.tab n) 86 args h = vC (purEs h args) (C08.tab n) 86 args h := callA_eq _ _ _ _
theorem p70 {n : Nat} (hn : 48 < n) (args : List AV) : (C08.tab n).p 70 args = runP (C08.tab 48) c70 args := Cfg.tab_p rfl rfl hn args
theorem a70 {n : Nat} (args : List AV) (h : AH) : callA (C08.tab n) 70 args h = vC (purEs h args) (C08.tab n) 70 args h := callA_eq _ _ _ _
theorem p71 {n : Nat} (hn : 49 < n) (args : List AV) : (C08.tab n).p 71 args = runP (C08.tab 49) c71 args := Cfg.tab_p rfl rfl hn args
theorem a71 {n : Nat} (args : List AV) (h : AH) : callA (C08.tab n) 71 args h = vC (purEs h args) (C08.tab n) 71 args h := callA_eq _ _ _ _
theorem p36 {n : Nat} (hn : 50 < n) (args : List AV) : (C08.tab n).p 36 args = runP (C08.tab 50) c36 args := Cfg.tab_p rfl rfl hn args
theorem a36 {n : Nat} (args : List AV) (h : AH) : callA (C08.tab n) 36 args h = vC (purEs h args) (C08.tab n) 36 args h := callA_eq _ _ _ _
theorem p9 {n : Nat} (hn : 51 < n) (args : List AV) : (C08.tab n).p 9 args = runP (C08.tab 51) c9 args := Cfg.tab_p rfl rfl hn args
theorem a9 {n : Nat} (args : List AV) (h : AH) : callA (C08.tab n) 9 args h = vC (purEs h args) (C08.tab n) 9 args h := callA_eq _ _ _ _
theorem p37 {n : Nat} (hn : 52 < n) (args : List AV) : (C08.tab n).p 37 args = runP (C08.tab 52) c37 args := Cfg.tab_p rfl rfl hn args
theorem a37 {n : Nat} (args : List AV) (h : AH) : callA (C08.tab n) 37 args h = vC (purEs h args) (C08.tab n) 37 args h := callA_eq _ _ _ _
theorem p10 {n : Nat} (hn : 53 < n) (args : List AV) : (C08.tab n).p 10 args = runP (C08.tab 53) c10 args := Cfg.tab_p rfl rfl hn args
theorem a10 {n : Nat} (args : List AV) (h : AH) : callA (C08.tab n) 10 args h = vC (purEs h args) (C08.tab n) 10 args h := callA_eq _ _ _ _
theorem p25 {n : Nat} (hn : 54 < n) (args : List AV) : (C08.tab n).p 25 args = runP (C08.tab 54) c25 args := Cfg.tab_p rfl rfl hn args
theorem a25 {n : Nat} (args : List AV) (h : AH) : callA (C08.tab n) 25 args h = vC (purEs h args) (C08.tab n) 25 args h := callA_eq _ _ _ _
theorem p30 {n : Nat} (hn : 55 < n) (args : List AV) : (C08.tab n).p 30 args = runP (C08.tab 55) c30 args := Cfg.tab_p rfl rfl hn args
theorem a30 {n : Nat} (args : List AV) (h : AH) : callA (C08.tab n) 30 args h = vC (purEs h args) (C08.tab n) 30 args h := callA_eq _ _ _ _
theorem p65 {n : Nat} (hn : 56 < n) (args : List AV) : (C08.tab n).p 65 args = runP (C08.tab 56) c65 args := Cfg.tab_p rfl rfl hn args
theorem a65 {n : Nat} (args : List AV) (h : AH) : callA (C08.tab n) 65 args h = vC (purEs h args) (C08.tab n) 65 args h := callA_eq _ _ _ _
theorem p33 {n : Nat} (hn : 57 < n) (args : List AV) : (C08.tab n).p 33 args = runP (C08.tab 57) c33 args := Cfg.tab_p rfl rfl hn args
theorem a33 {n : Nat} (args : List AV) (h : AH) : callA (C08.tab n) 33 args h = vC (purEs h args) (C08.tab n) 33 args h := callA_eq _ _ _ _
theorem p12 {n : Nat} (hn : 58 < n) (args : List AV) : (C08.tab n).p 12 args = runP (C08.tab 58) c12 args := Cfg.tab_p rfl rfl hn args
theorem a12 {n : Nat} (args : List AV) (h : AH) : callA (C08.tab n) 12 args h = vC (purEs h args) (C08.tab n) 12 args h := callA_eq _ _ _ _
theorem p81 {n : Nat} (hn : 59 < n) (args : List AV) : (C08.tab n).p 81 args = runP (C08.tab 59) c81 args := Cfg.tab_p rfl rfl hn args
theorem a81 {n : Nat} (args : List AV) (h : AH) : callA (C08.tab n) 81 args h = vC (purEs h args) (C08.tab n) 81 args h := callA_eq _ _ _ _
theorem p96 {n : Nat} (hn : 60 < n) (args : List AV) : (C08.tab n).p 96 args = runP (C08.tab 60) c96 args := Cfg.tab_p rfl rfl hn args
theorem a96 {n : Nat} (args : List AV) (h : AH) : callA (C08.tab n) 96 args h = vC (purEs h args) (C08.tab n) 96 args h := callA_eq _ _ _ _
theorem p62 {n : Nat} (hn : 61 < n) (args : List AV) : (C08.tab n).p 62 args = runP (C08.tab 61) c62 args := Cfg.tab_p rfl rfl hn args
theorem a62 {n : Nat} (args : List AV) (h : AH) : callA (C08.tab n) 62 args h = vC (purEs h args) (C08.tab n) 62 args h := callA_eq _ _ _ _
theorem p102 {n : Nat} (hn : 62 < n) (args : List AV) : (C08.tab n).p 102 args = runP (C08.tab 62) c102 args := Cfg.tab_p rfl rfl hn args
theorem a102 {n : Nat} (args : List AV) (h : AH) : callA (C08.tab n) 102 args h = vC (purEs h args) (C08.tab n) 102 args h := callA_eq _ _ _ _
theorem p103 {n : Nat} (hn : 63 < n) (args : List AV) : (C08.tab n).p 103 args = runP (C08.tab 63) c103 args := Cfg.tab_p rfl rfl hn args
theorem a103 {n : Nat} (args : List AV) (h : AH) : callA (C08.tab n) 103 args h = vC (purEs h args) (C08.tab n) 103 args h := callA_eq _ _ _ _
theorem p97 {n : Nat} (hn : 64 < n) (args : List AV) : (C08.tab n).p 97 args = runP (C08.tab 64) c97 args := Cfg.tab_p rfl rfl hn args
theorem a97 {n : Nat} (args : List AV) (h : AH) : callA (C08.tab n) 97 args h = vC (purEs h args) (C08.tab n) 97 args h := callA_eq _ _ _ _
theorem p98 {n : Nat} (hn : 65 < n) (args : List AV) : (C08.tab n).p 98 args = runP (C08.tab 65) c98 args := Cfg.tab_p rfl rfl hn args
theorem a98 {n : Nat} (args : List AV) (h : AH) : callA (C08.tab n) 98 args h = vC (purEs h args) (C08.tab n) 98 args h := callA_eq _ _ _ _
theorem p80 {n : Nat} (hn : 66 < n) (args : List AV) : (C08.tab n).p 80 args = runP (C08.tab 66) c80 args := Cfg.tab_p rfl rfl hn args
theorem a80 {n : Nat} (args : List AV) (h : AH) : callA (C08.tab n) 80 args h = vC (purEs h args) (C08.tab n) 80 args h := callA_eq _ _ _ _
theorem p51 {n : Nat} (hn : 67 < n) (args : List AV) : (C08.tab n).p 51 args = runP (C08.tab 67) c51 args := Cfg.tab_p rfl rfl hn args
theorem a51 {n : Nat} (args : List AV) (h : AH) : callA (C08.tab n) 51 args h = vC (purEs h args) (C08.tab n) 51 args h := callA_eq _ _ _ _
theorem p20 {n : Nat} (hn : 68 < n) (args : List AV) : (C08.tab n).p 20 args = runP (C08.tab 68) c20 args := Cfg.tab_p rfl rfl hn args
theorem a20 {n : Nat} (args : List AV) (h : AH) : callA (C08.tab n) 20 args h = vC (purEs h args) (C08.tab n) 20 args h := callA_eq _ _ _ _
theorem p14 {n : Nat} (hn : 69 < n) (args : List AV) : (C08.tab n).p 14 args = runP (C08.tab 69) c14 args := Cfg.tab_p rfl rfl hn args
theorem a14 {n : Nat} (args : List AV) (h : AH) : callA (C08.tab n) 14 args h = vC (purEs h args) (C08.tab n) 14 args h := callA_eq _ _ _ _
theorem p15 {n : Nat} (hn : 70 < n) (args : List AV) : (C08.tab n).p 15 args = runP (C08.tab 70) c15 args := Cfg.tab_p rfl rfl hn args
theorem a15 {n : Nat} (args : List AV) (h : AH) : callA (C08.tab n) 15 args h = vC (purEs h args) (C08.tab n) 15 args h := callA_eq _ _ _ _
theorem p52 {n : Nat} (hn : 71 < n) (args : List AV) : (C08.tab n).p 52 args = runP (C08.tab 71) c52 args := Cfg.tab_p rfl rfl hn args
theorem a52 {n : Nat} (args : List AV) (h : AH) : callA (C08.tab n) 52 args h = vC (purEs h args) (C08.tab n) 52 args h := callA_eq _ _ _ _
theorem p56 {n : Nat} (hn : 72 < n) (args : List AV) : (C08.tab n).p 56 args = runP (C08.tab 72) c56 args := Cfg.tab_p rfl rfl hn args
theorem a56 {n : Nat} (args : List AV) (h : AH) : callA (C08.tab n) 56 args h = vC (purEs h args) (C08.tab n) 56 args h := callA_eq _ _ _ _
theorem p82 {n : Nat} (hn : 73 < n) (args : List AV) : (C08.tab n).p 82 args = runP (C08.tab 73) c82 args := Cfg.tab_p rfl rfl hn args
theorem a82 {n : Nat} (args : List AV) (h : AH) : callA (C08.tab n) 82 args h = vC (purEs h args) (C08.tab n) 82 args h := callA_eq _ _ _ _
theorem p53 {n : Nat} (hn : 74 < n) (args : List AV) : (C08.tab n).p 53 args = runP (C08.tab 74) c53 args := Cfg.tab_p rfl rfl hn args
theorem a53 {n : Nat} (args : List AV) (h : AH) : callA (C08.tab n) 53 args h = vC (purEs h args) (C08.tab n) 53 args h := callA_eq _ _ _ _
theorem p54 {n : Nat} (hn : 75 < n) (args : List AV) : (C08.tab n).p 54 args = runP (C08.tab 75) c54 args := Cfg.tab_p rfl rfl hn args
theorem a54 {n : Nat} (args : List AV) (h : AH) : callA (C08.tab n) 54 args h = vC (purEs h args) (C08.tab n) 54 args h := callA_eq _ _ _ _
theorem p55 {n : Nat} (hn : 76 < n) (args : List AV) : (C08.tab n).p 55 args = runP (C08.tab 76) c55 args := Cfg.tab_p rfl rfl hn args
theorem a55 {n : Nat} (args : List AV) (h : AH) : callA (C08.tab n) 55 args h = vC (purEs h args) (C08.tab n) 55 args h := callA_eq _ _ _ _
theorem p22 {n : Nat} (hn : 77 < n) (args : List AV) : (C08.tab n).p 22 args = runP (C08.tab 77) c22 args := Cfg.tab_p rfl rfl hn args
theorem a22 {n : Nat} (args : List AV) (h : AH) : callA (C08.tab n) 22 args h = vC (purEs h args) (C08.tab n) 22 args h := callA_eq _ _ _ _
theorem p11 {n : Nat} (hn : 78 < n) (args : List AV) : (C08.tab n).p 11 args = runP (C08.tab 78) c11 args := Cfg.tab_p rfl rfl hn args
theorem a11 {n : Nat} (args : List AV) (h : AH) : callA (C08.tab n) 11 args h = vC (purEs h args) (C08.tab n) 11 args h := callA_eq _ _ _ _
theorem p64 {n : Nat} (hn : 79 < n) (args : List AV) : (C08.tab n).p 64 args = runP (C08.tab 79) c64 args := Cfg.tab_p rfl rfl hn args
theorem a64 {n : Nat} (args : List AV) (h : AH) : callA (C08.tab n) 64 args h = vC (purEs h args) (C08.tab n) 64 args h := callA_eq _ _ _ _
theorem p31 {n : Nat} (hn : 80 < n) (args : List AV) : (C08.tab n).p 31 args = runP (C08.tab 80) c31 args := Cfg.tab_p rfl rfl hn args
theorem a31 {n : Nat} (args : List AV) (h : AH) : callA (C08.tab n) 31 args h = vC (purEs h args) (C08.tab n) 31 args h := callA_eq _ _ _ _
theorem p50 {n : Nat} (hn : 81 < n) (args : List AV) : (C08.tab n).p 50 args = runP (C08.tab 81) c50 args := Cfg.tab_p rfl rfl hn args
theorem a50 {n : Nat} (args : List AV) (h : AH) : callA (C08.tab n) 50 args h = vC (purEs h args) (C08.tab n) 50 args h := callA_eq _ _ _ _
theorem p19 {n : Nat} (hn : 82 < n) (args : List AV) : (C08.tab n).p 19 args = runP (C08.tab 82) c19 args := Cfg.tab_p rfl rfl hn args
theorem a19 {n : Nat} (args : List AV) (h : AH) : callA (C08.tab n) 19 args h = vC (purEs h args) (C08.tab n) 19 args h := callA_eq _ _ _ _
theorem p3 {n : Nat} (hn : 83 < n) (args : List AV) : (C08.tab n).p 3 args = runP (C08.tab 83) c3 args := Cfg.tab_p rfl rfl hn args
theorem a3 {n : Nat} (args : List AV) (h : AH) : callA (C08.tab n) 3 args h = vC (purEs h args) (C08.tab n) 3 args h := callA_eq _ _ _ _
theorem p32 {n : Nat} (hn : 84 < n) (args : List AV) : (C08.tab n).p 32 args = runP (C08.tab 84) c32 args := Cfg.tab_p rfl rfl hn args
theorem a32 {n : Nat} (args : List AV) (h : AH) : callA (C08.tab n) 32 args h = vC (purEs h args) (C08.tab n) 32 args h := callA_eq _ _ _ _
theorem p21 {n : Nat} (hn : 85 < n) (args : List AV) : (C08.tab n).p 21 args = runP (C08.tab 85) c21 args := Cfg.tab_p rfl rfl hn args
theorem a21 {n : Nat} (args : List AV) (h : AH) : callA (C08.tab n) 21 args h = vC (purEs h args) (C08.tab n) 21 args h := callA_eq _ _ _ _
theorem p23 {n : Nat} (hn : 86 < n) (args : List AV) : (C08.tab n).p 23 args = runP (C08.tab 86) c23 args := Cfg.tab_p rfl rfl hn args
theorem a23 {n : Nat} (args : List AV) (h : AH) : callA (C08.tab n) 23 args h = vC (purEs h args) (C08.tab n) 23 args h := callA_eq _ _ _ _
theorem p27 {n : Nat} (hn : 87 < n) (args : List AV) : (C08.tab n).p 27 args = runP (C08.tab 87) c27 args := Cfg.tab_p rfl rfl hn args
theorem a27 {n : Nat} (args : List AV) (h : AH) : callA (C08.tab n) 27 args h = vC (purEs h args) (C08.tab n) 27 args h := callA_eq _ _ _ _
theorem p4 {n : Nat} (hn : 88 < n) (args : List AV) : (C08.tab n).p 4 args = runP (C08.tab 88) c4 args := Cfg.tab_p rfl rfl hn args
theorem a4 {n : Nat} (args : List AV) (h : AH) : callA (C08.tab n) 4 args h = vC (purEs h args) (C08.tab n) 4 args h := callA_eq _ _ _ _
theorem p84 {n : Nat} (hn : 89 < n) (args : List AV) : (C08.tab n).p 84 args = runP (C08.tab 89) c84 args := Cfg.tab_p rfl rfl hn args
theorem a84 {n : Nat} (args : List AV) (h : AH) : callA (C08.tab n) 84 args h = vC (purEs h args) (C08.tab n) 84 args h := callA_eq _ _ _ _
theorem p85 {n : Nat} (hn : 90 < n) (args : List AV) : (C08.tab n).p 85 args = runP (C08.tab 90) c85 args := Cfg.tab_p rfl rfl hn args
theorem a85 {n : Nat} (args : List AV) (h : AH) : callA (C08.tab n) 85 args h = vC (purEs h args) (C08.tab n) 85 args h := callA_eq _ _ _ _
theorem p60 {n : Nat} (hn : 91 < n) (args : List AV) : (C08.tab n).p 60 args = runP (C08.tab 91) c60 args := Cfg.tab_p rfl rfl hn args
theorem a60 {n : Nat} (args : List AV) (h : AH) : callA (C08.tab n) 60 args h = vC (purEs h args) (C08.tab n) 60 args h := callA_eq _ _ _ _
theorem p28 {n : Nat} (hn : 92 < n) (args : List AV) : (C08.tab n).p 28 args = runP (C08.tab 92) c28 args := Cfg.tab_p rfl rfl hn args
theorem a28 {n : Nat} (args : List AV) (h : AH) : callA (C08.tab n) 28 args h = vC (purEs h args) (C08.tab n) 28 args h := callA_eq _ _ _ _
theorem p5 {n : Nat} (hn : 93 < n) (args : List AV) : (C08.tab n).p 5 args = runP (C08.tab 93) c5 args := Cfg.tab_p rfl rfl hn args
theorem a5 {n : Nat} (args : List AV) (h : AH) : callA (C08.tab n) 5 args h = vC (purEs h args) (C08.tab n) 5 args h := callA_eq _ _ _ _
theorem p6 {n : Nat} (hn : 94 < n) (args : List AV) : (C08.tab n).p 6 args = runP (C08.tab 94) c6 args := Cfg.tab_p rfl rfl hn args
theorem a6 {n : Nat} (args : List AV) (h : AH) : callA (C08.tab n) 6 args h = vC (purEs h args) (C08.tab n) 6 args h := callA_eq _ _ _ _
theorem p7 {n : Nat} (hn : 95 < n) (args : List AV) : (C08.tab n).p 7 args = runP (C08.tab 95) c7 args := Cfg.tab_p rfl rfl hn args
theorem a7 {n : Nat} (args : List AV) (h : AH) : callA (C08.tab n) 7 args h = vC (purEs h args) (C08.tab n) 7 args h := callA_eq _ _ _ _
theorem p8 {n : Nat} (hn : 96 < n) (args : List AV) : (C08.tab n).p 8 args = runP (C08.tab 96) c8 args := Cfg.tab_p rfl rfl hn args
theorem a8 {n : Nat} (args : List AV) (h : AH) : callA (C08.tab n) 8 args h = vC (purEs h args) (C08.tab n) 8 args h := callA_eq _ _ _ _
end Go.Proofs.Ytdnoopjpkcmpjaa
