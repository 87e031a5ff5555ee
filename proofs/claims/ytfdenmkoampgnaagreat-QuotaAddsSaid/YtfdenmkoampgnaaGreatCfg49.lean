/-
  The table of the functions, for the abstract machine.
-/
import Derived.Test.YtfdenmkoampgnaaGreatLit49
import Derived.Test.YtfdenmkoampgnaaGreatAmTb
import Derived.Test.YtfdenmkoampgnaaGreatAmDel
import Derived.Test.YtfdenmkoampgnaaGreatAmGY
import Derived.Test.YtfdenmkoampgnaaGreatAmBm
set_option linter.unusedSimpArgs false
set_option linter.unusedVariables false
namespace Go.Proofs.YtfdenmkoampgnaaGreat
open Go.Am Go.Am.Nm

theorem hmix : Tryz.prog.follows .mixedOrders = true := by kernel_rfl
theorem okx97 : CmpL Tryz.prog 97 9 3 101 := ⟨hmix, ⟨Tryz.f97.name, Tryz.f97.targs, by kernel_rfl, by kernel_rfl⟩, ⟨Tryz.f101, by kernel_rfl, by kernel_rfl, by kernel_rfl, by kernel_rfl, by kernel_rfl⟩⟩
theorem okz41 : ((Tryz.prog.info? 47).getD default).size = 3 := by kernel_rfl
theorem okx41 : DelL Tryz.prog 41 30 3 4 47 0 ((Tryz.prog.info? 47).getD default) (((Tryz.prog.info? 47).getD default).zero.getD .nilFunc) := ⟨hmix, ⟨Tryz.f41.name, Tryz.f41.targs, by kernel_rfl, by kernel_rfl⟩, by kernel_rfl, by kernel_rfl, by kernel_rfl, by kernel_rfl, by kernel_rfl, by kernel_rfl, by kernel_rfl, by kernel_rfl, by rw [okz41]; decide⟩
theorem okx42 : okF Tryz.prog 42 (cloneF 3 24 (.agg [.int .i64 0, .int .i64 0, .int .i64 0])) = true := by kernel_rfl
theorem okx43 : InsOK Tryz.prog 43 30 3 4 47 0 68 69 3 24 := ⟨hmix, ⟨Tryz.f43.name, Tryz.f43.targs, by kernel_rfl, by kernel_rfl⟩, ⟨Tryz.f68, by kernel_rfl, by kernel_rfl, by kernel_rfl, by kernel_rfl, by kernel_rfl⟩, by kernel_rfl, by kernel_rfl, by kernel_rfl, by kernel_rfl, by kernel_rfl, by decide⟩
theorem okx56 : okF Tryz.prog 56 (cloneF 6 80 (.agg [.int .i64 0, .int .i64 0, .int .i64 0, .lst true [], .lst true [], .int .i64 0])) = true := by kernel_rfl
theorem okx57 : InsOK Tryz.prog 57 26 3 4 43 0 88 89 6 80 := ⟨hmix, ⟨Tryz.f57.name, Tryz.f57.targs, by kernel_rfl, by kernel_rfl⟩, ⟨Tryz.f88, by kernel_rfl, by kernel_rfl, by kernel_rfl, by kernel_rfl, by kernel_rfl⟩, by kernel_rfl, by kernel_rfl, by kernel_rfl, by kernel_rfl, by kernel_rfl, by decide⟩
theorem okx52 : RightL Tryz.prog 52 9 4 3 21 0 := ⟨hmix, ⟨Tryz.f52.name, Tryz.f52.targs, by kernel_rfl, by kernel_rfl⟩, by kernel_rfl, by kernel_rfl, by kernel_rfl, by kernel_rfl⟩
theorem okx58 : InsOK Tryz.prog 58 41 3 4 85 0 90 91 3 32 := ⟨hmix, ⟨Tryz.f58.name, Tryz.f58.targs, by kernel_rfl, by kernel_rfl⟩, ⟨Tryz.f90, by kernel_rfl, by kernel_rfl, by kernel_rfl, by kernel_rfl, by kernel_rfl⟩, by kernel_rfl, by kernel_rfl, by kernel_rfl, by kernel_rfl, by kernel_rfl, by decide⟩
theorem okx59 : okF Tryz.prog 59 (cloneF 3 32 (.agg [.str [], .int .i64 0, .int .i64 0])) = true := by kernel_rfl
theorem okz63 : ((Tryz.prog.info? 85).getD default).size = 3 := by kernel_rfl
theorem okx63 : DelL Tryz.prog 63 41 3 4 85 0 ((Tryz.prog.info? 85).getD default) (((Tryz.prog.info? 85).getD default).zero.getD .nilFunc) := ⟨hmix, ⟨Tryz.f63.name, Tryz.f63.targs, by kernel_rfl, by kernel_rfl⟩, by kernel_rfl, by kernel_rfl, by kernel_rfl, by kernel_rfl, by kernel_rfl, by kernel_rfl, by kernel_rfl, by kernel_rfl, by rw [okz63]; decide⟩
theorem okz93 : ((Tryz.prog.info? 43).getD default).size = 6 := by kernel_rfl
theorem okx93 : DelL Tryz.prog 93 26 3 4 43 0 ((Tryz.prog.info? 43).getD default) (((Tryz.prog.info? 43).getD default).zero.getD .nilFunc) := ⟨hmix, ⟨Tryz.f93.name, Tryz.f93.targs, by kernel_rfl, by kernel_rfl⟩, by kernel_rfl, by kernel_rfl, by kernel_rfl, by kernel_rfl, by kernel_rfl, by kernel_rfl, by kernel_rfl, by kernel_rfl, by rw [okz93]; decide⟩

/-- What is known of each function. -/
noncomputable def kd49 : FuncId → Kd
  | 92 => .p c92
  | 62 => .p c62
  | 61 => .p c61
  | 87 => .p c87
  | 97 => .y cmpY
  | 84 => .p c84
  | 83 => .p c83
  | 60 => .h c60
  | 31 => .p c31
  | 44 => .h c44
  | 86 => .h c86
  | 55 => .h c55
  | 33 => .h c33
  | 28 => .p c28
  | 40 => .r c40 300
  | 16 => .p c16
  | 41 => .x (deleteH 3)
  | 42 => .x (cloneH 3 24)
  | 43 => .x (insertH 3 24)
  | 17 => .p c17
  | 18 => .p c18
  | 11 => .p c11
  | 30 => .h c30
  | 29 => .h c29
  | 19 => .p c19
  | 20 => .p c20
  | 12 => .p c12
  | 21 => .p c21
  | 36 => .p c36
  | 14 => .p c14
  | 73 => .p c73
  | 74 => .p c74
  | 75 => .p c75
  | 78 => .p c78
  | 94 => .p c94
  | 65 => .p c65
  | 67 => .p c67
  | 66 => .p c66
  | 37 => .p c37
  | 38 => .p c38
  | 39 => .p c39
  | 15 => .p c15
  | 4 => .p c4
  | 5 => .p c5
  | 24 => .p c24
  | 10 => .p c10
  | 70 => .p c70
  | 80 => .p c80
  | 71 => .p c71
  | 72 => .p c72
  | 45 => .p c45
  | 76 => .p c76
  | 77 => .p c77
  | 79 => .p c79
  | 46 => .p c46
  | 47 => .p c47
  | 22 => .p c22
  | 6 => .p c6
  | 48 => .p c48
  | 96 => .p c96
  | 81 => .p c81
  | 49 => .p c49
  | 50 => .p c50
  | 23 => .p c23
  | 7 => .p c7
  | 8 => .p c8
  | 56 => .x (cloneH 6 80)
  | 57 => .x (insertH 6 80)
  | 26 => .h c26
  | 51 => .h c51
  | 52 => .y rightY
  | 82 => .h c82
  | 53 => .p c53
  | 85 => .h c85
  | 54 => .h c54
  | 25 => .h c25
  | 58 => .x (insertH 3 32)
  | 59 => .x (cloneH 3 32)
  | 27 => .h c27
  | 9 => .p c9
  | 32 => .p c32
  | 63 => .x (deleteH 3)
  | 34 => .h c34
  | 93 => .x (deleteH 6)
  | 64 => .h c64
  | 35 => .h c35
  | 13 => .p c13
  | 3 => .p c3
  | _ => .no
def pos49 : FuncId → Nat
  | 92 => 0
  | 62 => 1
  | 61 => 2
  | 87 => 3
  | 97 => 4
  | 84 => 5
  | 83 => 6
  | 60 => 7
  | 31 => 8
  | 44 => 9
  | 86 => 10
  | 55 => 11
  | 33 => 12
  | 28 => 13
  | 40 => 14
  | 16 => 15
  | 41 => 16
  | 42 => 17
  | 43 => 18
  | 17 => 19
  | 18 => 20
  | 11 => 21
  | 30 => 22
  | 29 => 23
  | 19 => 24
  | 20 => 25
  | 12 => 26
  | 21 => 27
  | 36 => 28
  | 14 => 29
  | 73 => 30
  | 74 => 31
  | 75 => 32
  | 78 => 33
  | 94 => 34
  | 65 => 35
  | 67 => 36
  | 66 => 37
  | 37 => 38
  | 38 => 39
  | 39 => 40
  | 15 => 41
  | 4 => 42
  | 5 => 43
  | 24 => 44
  | 10 => 45
  | 70 => 46
  | 80 => 47
  | 71 => 48
  | 72 => 49
  | 45 => 50
  | 76 => 51
  | 77 => 52
  | 79 => 53
  | 46 => 54
  | 47 => 55
  | 22 => 56
  | 6 => 57
  | 48 => 58
  | 96 => 59
  | 81 => 60
  | 49 => 61
  | 50 => 62
  | 23 => 63
  | 7 => 64
  | 8 => 65
  | 56 => 66
  | 57 => 67
  | 26 => 68
  | 51 => 69
  | 52 => 70
  | 82 => 71
  | 53 => 72
  | 85 => 73
  | 54 => 74
  | 25 => 75
  | 58 => 76
  | 59 => 77
  | 27 => 78
  | 9 => 79
  | 32 => 80
  | 63 => 81
  | 34 => 82
  | 93 => 83
  | 64 => 84
  | 35 => 85
  | 13 => 86
  | 3 => 87
  | _ => 0
noncomputable def C49 : Cfg := ⟨kd49, pos49⟩
abbrev N49 : Nat := 88
theorem kd49_ok : ∀ f, (C49.kd f).ok Tryz.prog f := by
  intro f
  show (kd49 f).ok Tryz.prog f
  unfold kd49
  split
  · exact ok92
  · exact ok62
  · exact ok61
  · exact ok87
  · exact fun _ _ h hr => cmp_snd okx97 h hr
  · exact ok84
  · exact ok83
  · exact ok60
  · exact ok31
  · exact ok44
  · exact ok86
  · exact ok55
  · exact ok33
  · exact ok28
  · exact ok40
  · exact ok16
  · exact fun args h r h' hr => delete_snd okx41 (by rw [okz41]; exact hr)
  · exact snd_clone hmix okx42
  · exact snd_insert okx43
  · exact ok17
  · exact ok18
  · exact ok11
  · exact ok30
  · exact ok29
  · exact ok19
  · exact ok20
  · exact ok12
  · exact ok21
  · exact ok36
  · exact ok14
  · exact ok73
  · exact ok74
  · exact ok75
  · exact ok78
  · exact ok94
  · exact ok65
  · exact ok67
  · exact ok66
  · exact ok37
  · exact ok38
  · exact ok39
  · exact ok15
  · exact ok4
  · exact ok5
  · exact ok24
  · exact ok10
  · exact ok70
  · exact ok80
  · exact ok71
  · exact ok72
  · exact ok45
  · exact ok76
  · exact ok77
  · exact ok79
  · exact ok46
  · exact ok47
  · exact ok22
  · exact ok6
  · exact ok48
  · exact ok96
  · exact ok81
  · exact ok49
  · exact ok50
  · exact ok23
  · exact ok7
  · exact ok8
  · exact snd_clone hmix okx56
  · exact snd_insert okx57
  · exact ok26
  · exact ok51
  · exact fun _ _ h hr => right_snd okx52 h hr
  · exact ok82
  · exact ok53
  · exact ok85
  · exact ok54
  · exact ok25
  · exact snd_insert okx58
  · exact snd_clone hmix okx59
  · exact ok27
  · exact ok9
  · exact ok32
  · exact fun args h r h' hr => delete_snd okx63 (by rw [okz63]; exact hr)
  · exact ok34
  · exact fun args h r h' hr => delete_snd okx93 (by rw [okz93]; exact hr)
  · exact ok64
  · exact ok35
  · exact ok13
  · exact ok3
  · trivial
theorem tab49_ok (n : Nat) : TabOK Tryz.prog (C49.tab n) := Cfg.tab_ok hmix kd49_ok n

theorem p92 {n : Nat} (hn : 0 < n) (args : List AV) : (C49.tab n).p 92 args = runP (C49.tab 0) c92 args := Cfg.tab_p rfl rfl hn args
theorem a92 {n : Nat} (args : List AV) (h : AH) : callA (C49.tab n) 92 args h = vC (purEs h args) (C49.tab n) 92 args h := callA_eq _ _ _ _
theorem p62 {n : Nat} (hn : 1 < n) (args : List AV) : (C49.tab n).p 62 args = runP (C49.tab 1) c62 args := Cfg.tab_p rfl rfl hn args
theorem a62 {n : Nat} (args : List AV) (h : AH) : callA (C49.tab n) 62 args h = vC (purEs h args) (C49.tab n) 62 args h := callA_eq _ _ _ _
theorem p61 {n : Nat} (hn : 2 < n) (args : List AV) : (C49.tab n).p 61 args = runP (C49.tab 2) c61 args := Cfg.tab_p rfl rfl hn args
theorem a61 {n : Nat} (args : List AV) (h : AH) : callA (C49.tab n) 61 args h = vC (purEs h args) (C49.tab n) 61 args h := callA_eq _ _ _ _
theorem p87 {n : Nat} (hn : 3 < n) (args : List AV) : (C49.tab n).p 87 args = runP (C49.tab 3) c87 args := Cfg.tab_p rfl rfl hn args
theorem a87 {n : Nat} (args : List AV) (h : AH) : callA (C49.tab n) 87 args h = vC (purEs h args) (C49.tab n) 87 args h := callA_eq _ _ _ _
theorem p97 {n : Nat} (hn : 4 < n) (args : List AV) : (C49.tab n).p 97 args = cmpY args := Cfg.tab_y rfl rfl hn args
theorem a97 {n : Nat} (args : List AV) (h : AH) : callA (C49.tab n) 97 args h = vC (purEs h args) (C49.tab n) 97 args h := callA_eq _ _ _ _
theorem p84 {n : Nat} (hn : 5 < n) (args : List AV) : (C49.tab n).p 84 args = runP (C49.tab 5) c84 args := Cfg.tab_p rfl rfl hn args
theorem a84 {n : Nat} (args : List AV) (h : AH) : callA (C49.tab n) 84 args h = vC (purEs h args) (C49.tab n) 84 args h := callA_eq _ _ _ _
theorem p83 {n : Nat} (hn : 6 < n) (args : List AV) : (C49.tab n).p 83 args = runP (C49.tab 6) c83 args := Cfg.tab_p rfl rfl hn args
theorem a83 {n : Nat} (args : List AV) (h : AH) : callA (C49.tab n) 83 args h = vC (purEs h args) (C49.tab n) 83 args h := callA_eq _ _ _ _
theorem p60 {n : Nat} (hn : 7 < n) (args : List AV) (h : AH) : callA (C49.tab n) 60 args h = runH (C49.tab 7) c60 args h := (callA_h (fun _ => Cfg.tab_hp rfl _ _)).trans (Cfg.tab_h rfl rfl hn args h)
theorem p31 {n : Nat} (hn : 8 < n) (args : List AV) : (C49.tab n).p 31 args = runP (C49.tab 8) c31 args := Cfg.tab_p rfl rfl hn args
theorem a31 {n : Nat} (args : List AV) (h : AH) : callA (C49.tab n) 31 args h = vC (purEs h args) (C49.tab n) 31 args h := callA_eq _ _ _ _
theorem p44 {n : Nat} (hn : 9 < n) (args : List AV) (h : AH) : callA (C49.tab n) 44 args h = runH (C49.tab 9) c44 args h := (callA_h (fun _ => Cfg.tab_hp rfl _ _)).trans (Cfg.tab_h rfl rfl hn args h)
theorem p86 {n : Nat} (hn : 10 < n) (args : List AV) (h : AH) : callA (C49.tab n) 86 args h = runH (C49.tab 10) c86 args h := (callA_h (fun _ => Cfg.tab_hp rfl _ _)).trans (Cfg.tab_h rfl rfl hn args h)
theorem p55 {n : Nat} (hn : 11 < n) (args : List AV) (h : AH) : callA (C49.tab n) 55 args h = runH (C49.tab 11) c55 args h := (callA_h (fun _ => Cfg.tab_hp rfl _ _)).trans (Cfg.tab_h rfl rfl hn args h)
theorem p33 {n : Nat} (hn : 12 < n) (args : List AV) (h : AH) : callA (C49.tab n) 33 args h = runH (C49.tab 12) c33 args h := (callA_h (fun _ => Cfg.tab_hp rfl _ _)).trans (Cfg.tab_h rfl rfl hn args h)
theorem p28 {n : Nat} (hn : 13 < n) (args : List AV) : (C49.tab n).p 28 args = runP (C49.tab 13) c28 args := Cfg.tab_p rfl rfl hn args
theorem a28 {n : Nat} (args : List AV) (h : AH) : callA (C49.tab n) 28 args h = vC (purEs h args) (C49.tab n) 28 args h := callA_eq _ _ _ _
theorem p40 {n : Nat} (hn : 14 < n) (args : List AV) (h : AH) : callA (C49.tab n) 40 args h = runH (recT (C49.tab 14) 40 c40 300) c40 args h := (callA_h (fun _ => Cfg.tab_rp rfl _ _)).trans (Cfg.tab_r rfl rfl hn args h)
theorem p16 {n : Nat} (hn : 15 < n) (args : List AV) : (C49.tab n).p 16 args = runP (C49.tab 15) c16 args := Cfg.tab_p rfl rfl hn args
theorem a16 {n : Nat} (args : List AV) (h : AH) : callA (C49.tab n) 16 args h = vC (purEs h args) (C49.tab n) 16 args h := callA_eq _ _ _ _
theorem p41 {n : Nat} (hn : 16 < n) (args : List AV) (h : AH) : callA (C49.tab n) 41 args h = deleteH 3 args h := (callA_h (fun _ => Cfg.tab_xp rfl _ _)).trans (Cfg.tab_x rfl rfl hn args h)
theorem q41 {n : Nat} (hn : 16 < n) (args : List AV) (h : AH) : (C49.tab n).h 41 args h = deleteH 3 args h := Cfg.tab_x rfl rfl hn args h
theorem p42 {n : Nat} (hn : 17 < n) (args : List AV) (h : AH) : callA (C49.tab n) 42 args h = cloneH 3 24 args h := (callA_h (fun _ => Cfg.tab_xp rfl _ _)).trans (Cfg.tab_x rfl rfl hn args h)
theorem q42 {n : Nat} (hn : 17 < n) (args : List AV) (h : AH) : (C49.tab n).h 42 args h = cloneH 3 24 args h := Cfg.tab_x rfl rfl hn args h
theorem p43 {n : Nat} (hn : 18 < n) (args : List AV) (h : AH) : callA (C49.tab n) 43 args h = insertH 3 24 args h := (callA_h (fun _ => Cfg.tab_xp rfl _ _)).trans (Cfg.tab_x rfl rfl hn args h)
theorem q43 {n : Nat} (hn : 18 < n) (args : List AV) (h : AH) : (C49.tab n).h 43 args h = insertH 3 24 args h := Cfg.tab_x rfl rfl hn args h
theorem p17 {n : Nat} (hn : 19 < n) (args : List AV) : (C49.tab n).p 17 args = runP (C49.tab 19) c17 args := Cfg.tab_p rfl rfl hn args
theorem a17 {n : Nat} (args : List AV) (h : AH) : callA (C49.tab n) 17 args h = vC (purEs h args) (C49.tab n) 17 args h := callA_eq _ _ _ _
theorem p18 {n : Nat} (hn : 20 < n) (args : List AV) : (C49.tab n).p 18 args = runP (C49.tab 20) c18 args := Cfg.tab_p rfl rfl hn args
theorem a18 {n : Nat} (args : List AV) (h : AH) : callA (C49.tab n) 18 args h = vC (purEs h args) (C49.tab n) 18 args h := callA_eq _ _ _ _
theorem p11 {n : Nat} (hn : 21 < n) (args : List AV) : (C49.tab n).p 11 args = runP (C49.tab 21) c11 args := Cfg.tab_p rfl rfl hn args
theorem a11 {n : Nat} (args : List AV) (h : AH) : callA (C49.tab n) 11 args h = vC (purEs h args) (C49.tab n) 11 args h := callA_eq _ _ _ _
theorem p30 {n : Nat} (hn : 22 < n) (args : List AV) (h : AH) : callA (C49.tab n) 30 args h = runH (C49.tab 22) c30 args h := (callA_h (fun _ => Cfg.tab_hp rfl _ _)).trans (Cfg.tab_h rfl rfl hn args h)
theorem p29 {n : Nat} (hn : 23 < n) (args : List AV) (h : AH) : callA (C49.tab n) 29 args h = runH (C49.tab 23) c29 args h := (callA_h (fun _ => Cfg.tab_hp rfl _ _)).trans (Cfg.tab_h rfl rfl hn args h)
theorem p19 {n : Nat} (hn : 24 < n) (args : List AV) : (C49.tab n).p 19 args = runP (C49.tab 24) c19 args := Cfg.tab_p rfl rfl hn args
theorem a19 {n : Nat} (args : List AV) (h : AH) : callA (C49.tab n) 19 args h = vC (purEs h args) (C49.tab n) 19 args h := callA_eq _ _ _ _
theorem p20 {n : Nat} (hn : 25 < n) (args : List AV) : (C49.tab n).p 20 args = runP (C49.tab 25) c20 args := Cfg.tab_p rfl rfl hn args
theorem a20 {n : Nat} (args : List AV) (h : AH) : callA (C49.tab n) 20 args h = vC (purEs h args) (C49.tab n) 20 args h := callA_eq _ _ _ _
theorem p12 {n : Nat} (hn : 26 < n) (args : List AV) : (C49.tab n).p 12 args = runP (C49.tab 26) c12 args := Cfg.tab_p rfl rfl hn args
theorem a12 {n : Nat} (args : List AV) (h : AH) : callA (C49.tab n) 12 args h = vC (purEs h args) (C49.tab n) 12 args h := callA_eq _ _ _ _
theorem p21 {n : Nat} (hn : 27 < n) (args : List AV) : (C49.tab n).p 21 args = runP (C49.tab 27) c21 args := Cfg.tab_p rfl rfl hn args
theorem a21 {n : Nat} (args : List AV) (h : AH) : callA (C49.tab n) 21 args h = vC (purEs h args) (C49.tab n) 21 args h := callA_eq _ _ _ _
theorem p36 {n : Nat} (hn : 28 < n) (args : List AV) : (C49.tab n).p 36 args = runP (C49.tab 28) c36 args := Cfg.tab_p rfl rfl hn args
theorem a36 {n : Nat} (args : List AV) (h : AH) : callA (C49.tab n) 36 args h = vC (purEs h args) (C49.tab n) 36 args h := callA_eq _ _ _ _
theorem p14 {n : Nat} (hn : 29 < n) (args : List AV) : (C49.tab n).p 14 args = runP (C49.tab 29) c14 args := Cfg.tab_p rfl rfl hn args
theorem a14 {n : Nat} (args : List AV) (h : AH) : callA (C49.tab n) 14 args h = vC (purEs h args) (C49.tab n) 14 args h := callA_eq _ _ _ _
theorem p73 {n : Nat} (hn : 30 < n) (args : List AV) : (C49.tab n).p 73 args = runP (C49.tab 30) c73 args := Cfg.tab_p rfl rfl hn args
theorem a73 {n : Nat} (args : List AV) (h : AH) : callA (C49.tab n) 73 args h = vC (purEs h args) (C49.tab n) 73 args h := callA_eq _ _ _ _
theorem p74 {n : Nat} (hn : 31 < n) (args : List AV) : (C49.tab n).p 74 args = runP (C49.tab 31) c74 args := Cfg.tab_p rfl rfl hn args
theorem a74 {n : Nat} (args : List AV) (h : AH) : callA (C49.tab n) 74 args h = vC (purEs h args) (C49.tab n) 74 args h := callA_eq _ _ _ _
theorem p75 {n : Nat} (hn : 32 < n) (args : List AV) : (C49.tab n).p 75 args = runP (C49.tab 32) c75 args := Cfg.tab_p rfl rfl hn args
theorem a75 {n : Nat} (args : List AV) (h : AH) : callA (C49.tab n) 75 args h = vC (purEs h args) (C49.tab n) 75 args h := callA_eq _ _ _ _
theorem p78 {n : Nat} (hn : 33 < n) (args : List AV) : (C49.tab n).p 78 args = runP (C49.tab 33) c78 args := Cfg.tab_p rfl rfl hn args
theorem a78 {n : Nat} (args : List AV) (h : AH) : callA (C49.tab n) 78 args h = vC (purEs h args) (C49.tab n) 78 args h := callA_eq _ _ _ _
theorem p94 {n : Nat} (hn : 34 < n) (args : List AV) : (C49.tab n).p 94 args = runP (C49.tab 34) c94 args := Cfg.tab_p rfl rfl hn args
theorem a94 {n : Nat} (args : List AV) (h : AH) : callA (C49.tab n) 94 args h = vC (purEs h args) (C49.tab n) 94 args h := callA_eq _ _ _ _
theorem p65 {n : Nat} (hn : 35 < n) (args : List AV) : (C49.tab n).p 65 args = runP (C49.tab 35) c65 args := Cfg.tab_p rfl rfl hn args
theorem a65 {n : Nat} (args : List AV) (h : AH) : callA (C49.tab n) 65 args h = vC (purEs h args) (C49.tab n) 65 args h := callA_eq _ _ _ _
theorem p67 {n : Nat} (hn : 36 < n) (args : List AV) : (C49.tab n).p 67 args = runP (C49.tab 36) c67 args := Cfg.tab_p rfl rfl hn args
theorem a67 {n : Nat} (args : List AV) (h : AH) : callA (C49.tab n) 67 args h = vC (purEs h args) (C49.tab n) 67 args h := callA_eq _ _ _ _
theorem p66 {n : Nat} (hn : 37 < n) (args : List AV) : (C49.tab n).p 66 args = runP (C49.tab 37) c66 args := Cfg.tab_p rfl rfl hn args
theorem a66 {n : Nat} (args : List AV) (h : AH) : callA (C49.tab n) 66 args h = vC (purEs h args) (C49.tab n) 66 args h := callA_eq _ _ _ _
theorem p37 {n : Nat} (hn : 38 < n) (args : List AV) : (C49.tab n).p 37 args = runP (C49.tab 38) c37 args := Cfg.tab_p rfl rfl hn args
theorem a37 {n : Nat} (args : List AV) (h : AH) : callA (C49.tab n) 37 args h = vC (purEs h args) (C49.tab n) 37 args h := callA_eq _ _ _ _
theorem p38 {n : Nat} (hn : 39 < n) (args : List AV) : (C49.tab n).p 38 args = runP (C49.tab 39) c38 args := Cfg.tab_p rfl rfl hn args
theorem a38 {n : Nat} (args : List AV) (h : AH) : callA (C49.tab n) 38 args h = vC (purEs h args) (C49.tab n) 38 args h := callA_eq _ _ _ _
theorem p39 {n : Nat} (hn : 40 < n) (args : List AV) : (C49.tab n).p 39 args = runP (C49.tab 40) c39 args := Cfg.tab_p rfl rfl hn args
theorem a39 {n : Nat} (args : List AV) (h : AH) : callA (C49.tab n) 39 args h = vC (purEs h args) (C49.tab n) 39 args h := callA_eq _ _ _ _
theorem p15 {n : Nat} (hn : 41 < n) (args : List AV) : (C49.tab n).p 15 args = runP (C49.tab 41) c15 args := Cfg.tab_p rfl rfl hn args
theorem a15 {n : Nat} (args : List AV) (h : AH) : callA (C49.tab n) 15 args h = vC (purEs h args) (C49.tab n) 15 args h := callA_eq _ _ _ _
theorem p4 {n : Nat} (hn : 42 < n) (args : List AV) : (C49.tab n).p 4 args = runP (C49.tab 42) c4 args := Cfg.tab_p rfl rfl hn args
theorem a4 {n : Nat} (args : List AV) (h : AH) : callA (C49.tab n) 4 args h = vC (purEs h args) (C49.tab n) 4 args h := callA_eq _ _ _ _
theorem p5 {n : Nat} (hn : 43 < n) (args : List AV) : (C49.tab n).p 5 args = runP (C49.tab 43) c5 args := Cfg.tab_p rfl rfl hn args
theorem a5 {n : Nat} (args : List AV) (h : AH) : callA (C49.tab n) 5 args h = vC (purEs h args) (C49.tab n) 5 args h := callA_eq _ _ _ _
theorem p24 {n : Nat} (hn : 44 < n) (args : List AV) : (C49.tab n).p 24 args = runP (C49.tab 44) c24 args := Cfg.tab_p rfl rfl hn args
theorem a24 {n : Nat} (args : List AV) (h : AH) : callA (C49.tab n) 24 args h = vC (purEs h args) (C49.tab n) 24 args h := callA_eq _ _ _ _
theorem p10 {n : Nat} (hn : 45 < n) (args : List AV) : (C49.tab n).p 10 args = runP (C49.tab 45) c10 args := Cfg.tab_p rfl rfl hn args
theorem a10 {n : Nat} (args : List AV) (h : AH) : callA (C49.tab n) 10 args h = vC (purEs h args) (C49.tab n) 10 args h := callA_eq _ _ _ _
theorem p70 {n : Nat} (hn : 46 < n) (args : List AV) : (C49.tab n).p 70 args = runP (C49.tab 46) c70 args := Cfg.tab_p rfl rfl hn args
theorem a70 {n : Nat} (args : List AV) (h : AH) : callA (C49.tab n) 70 args h = vC (purEs h args) (C49.tab n) 70 args h := callA_eq _ _ _ _
theorem p80 {n : Nat} (hn : 47 < n) (args : List AV) : (C49.tab n).p 80 args = runP (C49.tab 47) c80 args := Cfg.tab_p rfl rfl hn args
theorem a80 {n : Nat} (args : List AV) (h : AH) : callA (C49.tab n) 80 args h = vC (purEs h args) (C49.tab n) 80 args h := callA_eq _ _ _ _
theorem p71 {n : Nat} (hn : 48 < n) (args : List AV) : (C49.tab n).p 71 args = runP (C49.tab 48) c71 args := Cfg.tab_p rfl rfl hn args
theorem a71 {n : Nat} (args : List AV) (h : AH) : callA (C49.tab n) 71 args h = vC (purEs h args) (C49.tab n) 71 args h := callA_eq _ _ _ _
theorem p72 {n : Nat} (hn : 49 < n) (args : List AV) : (C49.tab n).p 72 args = runP (C49.tab 49) c72 args := Cfg.tab_p rfl rfl hn args
theorem a72 {n : Nat} (args : List AV) (h : AH) : callA (C49.tab n) 72 args h = vC (purEs h args) (C49.tab n) 72 args h := callA_eq _ _ _ _
theorem p45 {n : Nat} (hn : 50 < n) (args : List AV) : (C49.tab n).p 45 args = runP (C49.tab 50) c45 args := Cfg.tab_p rfl rfl hn args
theorem a45 {n : Nat} (args : List AV) (h : AH) : callA (C49.tab n) 45 args h = vC (purEs h args) (C49.tab n) 45 args h := callA_eq _ _ _ _
theorem p76 {n : Nat} (hn : 51 < n) (args : List AV) : (C49.tab n).p 76 args = runP (C49.tab 51) c76 args := Cfg.tab_p rfl rfl hn args
theorem a76 {n : Nat} (args : List AV) (h : AH) : callA (C49.tab n) 76 args h = vC (purEs h args) (C49.tab n) 76 args h := callA_eq _ _ _ _
theorem p77 {n : Nat} (hn : 52 < n) (args : List AV) : (C49.tab n).p 77 args = runP (C49.tab 52) c77 args := Cfg.tab_p rfl rfl hn args
theorem a77 {n : Nat} (args : List AV) (h : AH) : callA (C49.tab n) 77 args h = vC (purEs h args) (C49.tab n) 77 args h := callA_eq _ _ _ _
theorem p79 {n : Nat} (hn : 53 < n) (args : List AV) : (C49.tab n).p 79 args = runP (C49.tab 53) c79 args := Cfg.tab_p rfl rfl hn args
theorem a79 {n : Nat} (args : List AV) (h : AH) : callA (C49.tab n) 79 args h = vC (purEs h args) (C49.tab n) 79 args h := callA_eq _ _ _ _
theorem p46 {n : Nat} (hn : 54 < n) (args : List AV) : (C49.tab n).p 46 args = runP (C49.tab 54) c46 args := Cfg.tab_p rfl rfl hn args
theorem a46 {n : Nat} (args : List AV) (h : AH) : callA (C49.tab n) 46 args h = vC (purEs h args) (C49.tab n) 46 args h := callA_eq _ _ _ _
theorem p47 {n : Nat} (hn : 55 < n) (args : List AV) : (C49.tab n).p 47 args = runP (C49.tab 55) c47 args := Cfg.tab_p rfl rfl hn args
theorem a47 {n : Nat} (args : List AV) (h : AH) : callA (C49.tab n) 47 args h = vC (purEs h args) (C49.tab n) 47 args h := callA_eq _ _ _ _
theorem p22 {n : Nat} (hn : 56 < n) (args : List AV) : (C49.tab n).p 22 args = runP (C49.tab 56) c22 args := Cfg.tab_p rfl rfl hn args
theorem a22 {n : Nat} (args : List AV) (h : AH) : callA (C49.tab n) 22 args h = vC (purEs h args) (C49.tab n) 22 args h := callA_eq _ _ _ _
theorem p6 {n : Nat} (hn : 57 < n) (args : List AV) : (C49.tab n).p 6 args = runP (C49.tab 57) c6 args := Cfg.tab_p rfl rfl hn args
theorem a6 {n : Nat} (args : List AV) (h : AH) : callA (C49.tab n) 6 args h = vC (purEs h args) (C49.tab n) 6 args h := callA_eq _ _ _ _
theorem p48 {n : Nat} (hn : 58 < n) (args : List AV) : (C49.tab n).p 48 args = runP (C49.tab 58) c48 args := Cfg.tab_p rfl rfl hn args
theorem a48 {n : Nat} (args : List AV) (h : AH) : callA (C49.tab n) 48 args h = vC (purEs h args) (C49.tab n) 48 args h := callA_eq _ _ _ _
theorem p96 {n : Nat} (hn : 59 < n) (args : List AV) : (C49.tab n).p 96 args = runP (C49.tab 59) c96 args := Cfg.tab_p rfl rfl hn args
theorem a96 {n : Nat} (args : List AV) (h : AH) : callA (C49.tab n) 96 args h = vC (purEs h args) (C49.tab n) 96 args h := callA_eq _ _ _ _
theorem p81 {n : Nat} (hn : 60 < n) (args : List AV) : (C49.tab n).p 81 args = runP (C49.tab 60) c81 args := Cfg.tab_p rfl rfl hn args
theorem a81 {n : Nat} (args : List AV) (h : AH) : callA (C49.tab n) 81 args h = vC (purEs h args) (C49.tab n) 81 args h := callA_eq _ _ _ _
theorem p49 {n : Nat} (hn : 61 < n) (args : List AV) : (C49.tab n).p 49 args = runP (C49.tab 61) c49 args := Cfg.tab_p rfl rfl hn args
theorem a49 {n : Nat} (args : List AV) (h : AH) : callA (C49.tab n) 49 args h = vC (purEs h args) (C49.tab n) 49 args h := callA_eq _ _ _ _
theorem p50 {n : Nat} (hn : 62 < n) (args : List AV) : (C49.tab n).p 50 args = runP (C49.tab 62) c50 args := Cfg.tab_p rfl rfl hn args
theorem a50 {n : Nat} (args : List AV) (h : AH) : callA (C49.tab n) 50 args h = vC (purEs h args) (C49.tab n) 50 args h := callA_eq _ _ _ _
theorem p23 {n : Nat} (hn : 63 < n) (args : List AV) : (C49.tab n).p 23 args = runP (C49.tab 63) c23 args := Cfg.tab_p rfl rfl hn args
theorem a23 {n : Nat} (args : List AV) (h : AH) : callA (C49.tab n) 23 args h = vC (purEs h args) (C49.tab n) 23 args h := callA_eq _ _ _ _
theorem p7 {n : Nat} (hn : 64 < n) (args : List AV) : (C49.tab n).p 7 args = runP (C49.tab 64) c7 args := Cfg.tab_p rfl rfl hn args
theorem a7 {n : Nat} (args : List AV) (h : AH) : callA (C49.tab n) 7 args h = vC (purEs h args) (C49.tab n) 7 args h := callA_eq _ _ _ _
theorem p8 {n : Nat} (hn : 65 < n) (args : List AV) : (C49.tab n).p 8 args = runP (C49.tab 65) c8 args := Cfg.tab_p rfl rfl hn args
theorem a8 {n : Nat} (args : List AV) (h : AH) : callA (C49.tab n) 8 args h = vC (purEs h args) (C49.tab n) 8 args h := callA_eq _ _ _ _
theorem p56 {n : Nat} (hn : 66 < n) (args : List AV) (h : AH) : callA (C49.tab n) 56 args h = cloneH 6 80 args h := (callA_h (fun _ => Cfg.tab_xp rfl _ _)).trans (Cfg.tab_x rfl rfl hn args h)
theorem q56 {n : Nat} (hn : 66 < n) (args : List AV) (h : AH) : (C49.tab n).h 56 args h = cloneH 6 80 args h := Cfg.tab_x rfl rfl hn args h
theorem p57 {n : Nat} (hn : 67 < n) (args : List AV) (h : AH) : callA (C49.tab n) 57 args h = insertH 6 80 args h := (callA_h (fun _ => Cfg.tab_xp rfl _ _)).trans (Cfg.tab_x rfl rfl hn args h)
theorem q57 {n : Nat} (hn : 67 < n) (args : List AV) (h : AH) : (C49.tab n).h 57 args h = insertH 6 80 args h := Cfg.tab_x rfl rfl hn args h
theorem p26 {n : Nat} (hn : 68 < n) (args : List AV) (h : AH) : callA (C49.tab n) 26 args h = runH (C49.tab 68) c26 args h := (callA_h (fun _ => Cfg.tab_hp rfl _ _)).trans (Cfg.tab_h rfl rfl hn args h)
theorem p51 {n : Nat} (hn : 69 < n) (args : List AV) (h : AH) : callA (C49.tab n) 51 args h = runH (C49.tab 69) c51 args h := (callA_h (fun _ => Cfg.tab_hp rfl _ _)).trans (Cfg.tab_h rfl rfl hn args h)
theorem p52 {n : Nat} (hn : 70 < n) (args : List AV) : (C49.tab n).p 52 args = rightY args := Cfg.tab_y rfl rfl hn args
theorem a52 {n : Nat} (args : List AV) (h : AH) : callA (C49.tab n) 52 args h = vC (purEs h args) (C49.tab n) 52 args h := callA_eq _ _ _ _
theorem p82 {n : Nat} (hn : 71 < n) (args : List AV) (h : AH) : callA (C49.tab n) 82 args h = runH (C49.tab 71) c82 args h := (callA_h (fun _ => Cfg.tab_hp rfl _ _)).trans (Cfg.tab_h rfl rfl hn args h)
theorem p53 {n : Nat} (hn : 72 < n) (args : List AV) : (C49.tab n).p 53 args = runP (C49.tab 72) c53 args := Cfg.tab_p rfl rfl hn args
theorem a53 {n : Nat} (args : List AV) (h : AH) : callA (C49.tab n) 53 args h = vC (purEs h args) (C49.tab n) 53 args h := callA_eq _ _ _ _
theorem p85 {n : Nat} (hn : 73 < n) (args : List AV) (h : AH) : callA (C49.tab n) 85 args h = runH (C49.tab 73) c85 args h := (callA_h (fun _ => Cfg.tab_hp rfl _ _)).trans (Cfg.tab_h rfl rfl hn args h)
theorem p54 {n : Nat} (hn : 74 < n) (args : List AV) (h : AH) : callA (C49.tab n) 54 args h = runH (C49.tab 74) c54 args h := (callA_h (fun _ => Cfg.tab_hp rfl _ _)).trans (Cfg.tab_h rfl rfl hn args h)
theorem p25 {n : Nat} (hn : 75 < n) (args : List AV) (h : AH) : callA (C49.tab n) 25 args h = runH (C49.tab 75) c25 args h := (callA_h (fun _ => Cfg.tab_hp rfl _ _)).trans (Cfg.tab_h rfl rfl hn args h)
theorem p58 {n : Nat} (hn : 76 < n) (args : List AV) (h : AH) : callA (C49.tab n) 58 args h = insertH 3 32 args h := (callA_h (fun _ => Cfg.tab_xp rfl _ _)).trans (Cfg.tab_x rfl rfl hn args h)
theorem q58 {n : Nat} (hn : 76 < n) (args : List AV) (h : AH) : (C49.tab n).h 58 args h = insertH 3 32 args h := Cfg.tab_x rfl rfl hn args h
theorem p59 {n : Nat} (hn : 77 < n) (args : List AV) (h : AH) : callA (C49.tab n) 59 args h = cloneH 3 32 args h := (callA_h (fun _ => Cfg.tab_xp rfl _ _)).trans (Cfg.tab_x rfl rfl hn args h)
theorem q59 {n : Nat} (hn : 77 < n) (args : List AV) (h : AH) : (C49.tab n).h 59 args h = cloneH 3 32 args h := Cfg.tab_x rfl rfl hn args h
theorem p27 {n : Nat} (hn : 78 < n) (args : List AV) (h : AH) : callA (C49.tab n) 27 args h = runH (C49.tab 78) c27 args h := (callA_h (fun _ => Cfg.tab_hp rfl _ _)).trans (Cfg.tab_h rfl rfl hn args h)
theorem p9 {n : Nat} (hn : 79 < n) (args : List AV) : (C49.tab n).p 9 args = runP (C49.tab 79) c9 args := Cfg.tab_p rfl rfl hn args
theorem a9 {n : Nat} (args : List AV) (h : AH) : callA (C49.tab n) 9 args h = vC (purEs h args) (C49.tab n) 9 args h := callA_eq _ _ _ _
theorem p32 {n : Nat} (hn : 80 < n) (args : List AV) : (C49.tab n).p 32 args = runP (C49.tab 80) c32 args := Cfg.tab_p rfl rfl hn args
theorem a32 {n : Nat} (args : List AV) (h : AH) : callA (C49.tab n) 32 args h = vC (purEs h args) (C49.tab n) 32 args h := callA_eq _ _ _ _
theorem p63 {n : Nat} (hn : 81 < n) (args : List AV) (h : AH) : callA (C49.tab n) 63 args h = deleteH 3 args h := (callA_h (fun _ => Cfg.tab_xp rfl _ _)).trans (Cfg.tab_x rfl rfl hn args h)
theorem q63 {n : Nat} (hn : 81 < n) (args : List AV) (h : AH) : (C49.tab n).h 63 args h = deleteH 3 args h := Cfg.tab_x rfl rfl hn args h
theorem p34 {n : Nat} (hn : 82 < n) (args : List AV) (h : AH) : callA (C49.tab n) 34 args h = runH (C49.tab 82) c34 args h := (callA_h (fun _ => Cfg.tab_hp rfl _ _)).trans (Cfg.tab_h rfl rfl hn args h)
theorem p93 {n : Nat} (hn : 83 < n) (args : List AV) (h : AH) : callA (C49.tab n) 93 args h = deleteH 6 args h := (callA_h (fun _ => Cfg.tab_xp rfl _ _)).trans (Cfg.tab_x rfl rfl hn args h)
theorem q93 {n : Nat} (hn : 83 < n) (args : List AV) (h : AH) : (C49.tab n).h 93 args h = deleteH 6 args h := Cfg.tab_x rfl rfl hn args h
theorem p64 {n : Nat} (hn : 84 < n) (args : List AV) (h : AH) : callA (C49.tab n) 64 args h = runH (C49.tab 84) c64 args h := (callA_h (fun _ => Cfg.tab_hp rfl _ _)).trans (Cfg.tab_h rfl rfl hn args h)
theorem p35 {n : Nat} (hn : 85 < n) (args : List AV) (h : AH) : callA (C49.tab n) 35 args h = runH (C49.tab 85) c35 args h := (callA_h (fun _ => Cfg.tab_hp rfl _ _)).trans (Cfg.tab_h rfl rfl hn args h)
theorem p13 {n : Nat} (hn : 86 < n) (args : List AV) : (C49.tab n).p 13 args = runP (C49.tab 86) c13 args := Cfg.tab_p rfl rfl hn args
theorem a13 {n : Nat} (args : List AV) (h : AH) : callA (C49.tab n) 13 args h = vC (purEs h args) (C49.tab n) 13 args h := callA_eq _ _ _ _
theorem p3 {n : Nat} (hn : 87 < n) (args : List AV) : (C49.tab n).p 3 args = runP (C49.tab 87) c3 args := Cfg.tab_p rfl rfl hn args
theorem a3 {n : Nat} (args : List AV) (h : AH) : callA (C49.tab n) 3 args h = vC (purEs h args) (C49.tab n) 3 args h := callA_eq _ _ _ _
end Go.Proofs.YtfdenmkoampgnaaGreat
