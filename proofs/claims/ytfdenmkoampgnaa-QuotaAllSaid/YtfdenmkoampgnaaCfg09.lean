/-
  The table of the functions, for the abstract machine.
-/
import Derived.Test.YtfdenmkoampgnaaLit09
import Derived.Test.YtfdenmkoampgnaaAmTb
import Derived.Test.YtfdenmkoampgnaaAmDel
import Derived.Test.YtfdenmkoampgnaaAmGY
set_option linter.unusedSimpArgs false
set_option linter.unusedVariables false
namespace Go.Proofs.Ytfdenmkoampgnaa
open Go.Am

theorem hmix : Try.prog.follows .mixedOrders = true := by kernel_rfl
theorem okz37 : ((Try.prog.info? 55).getD default).size = 3 := by kernel_rfl
theorem okx37 : DelL Try.prog 37 25 3 4 55 0 ((Try.prog.info? 55).getD default) (((Try.prog.info? 55).getD default).zero.getD .nilFunc) := ⟨hmix, ⟨Try.f37.name, Try.f37.targs, by kernel_rfl, by kernel_rfl⟩, by kernel_rfl, by kernel_rfl, by kernel_rfl, by kernel_rfl, by kernel_rfl, by kernel_rfl, by kernel_rfl, by kernel_rfl, by rw [okz37]; decide⟩
theorem okx38 : okF Try.prog 38 (cloneF 3 24 (.agg [.int .i64 0, .int .i64 0, .int .i64 0])) = true := by kernel_rfl
theorem okx39 : InsOK Try.prog 39 25 3 4 55 0 59 60 3 24 := ⟨hmix, ⟨Try.f39.name, Try.f39.targs, by kernel_rfl, by kernel_rfl⟩, ⟨Try.f59, by kernel_rfl, by kernel_rfl, by kernel_rfl, by kernel_rfl, by kernel_rfl⟩, by kernel_rfl, by kernel_rfl, by kernel_rfl, by kernel_rfl, by kernel_rfl, by decide⟩
theorem okx46 : okF Try.prog 46 (cloneF 1 1 (.int .u8 0)) = true := by kernel_rfl
theorem okx62 : okF Try.prog 62 (cloneF 6 80 (.agg [.int .i64 0, .int .i64 0, .int .i64 0, .lst true [], .lst true [], .int .i64 0])) = true := by kernel_rfl
theorem okx63 : InsOK Try.prog 63 28 3 4 48 0 81 82 6 80 := ⟨hmix, ⟨Try.f63.name, Try.f63.targs, by kernel_rfl, by kernel_rfl⟩, ⟨Try.f81, by kernel_rfl, by kernel_rfl, by kernel_rfl, by kernel_rfl, by kernel_rfl⟩, by kernel_rfl, by kernel_rfl, by kernel_rfl, by kernel_rfl, by kernel_rfl, by decide⟩

/-- What is known of each function. -/
noncomputable def kd09 : FuncId → Kd
  | 77 => .p c77
  | 58 => .p c58
  | 57 => .p c57
  | 80 => .p c80
  | 56 => .h c56
  | 36 => .p c36
  | 42 => .h c42
  | 79 => .h c79
  | 61 => .h c61
  | 45 => .h c45
  | 33 => .p c33
  | 32 => .r c32 300
  | 13 => .p c13
  | 37 => .x (deleteH 3)
  | 38 => .x (cloneH 3 24)
  | 39 => .x (insertH 3 24)
  | 15 => .p c15
  | 17 => .p c17
  | 18 => .p c18
  | 43 => .h c43
  | 41 => .h c41
  | 22 => .p c22
  | 23 => .p c23
  | 24 => .p c24
  | 30 => .p c30
  | 44 => .p c44
  | 26 => .p c26
  | 70 => .p c70
  | 71 => .p c71
  | 72 => .p c72
  | 74 => .p c74
  | 83 => .p c83
  | 64 => .p c64
  | 66 => .p c66
  | 65 => .p c65
  | 48 => .p c48
  | 49 => .p c49
  | 50 => .p c50
  | 29 => .p c29
  | 8 => .p c8
  | 9 => .p c9
  | 12 => .p c12
  | 51 => .p c51
  | 67 => .p c67
  | 76 => .p c76
  | 68 => .p c68
  | 69 => .p c69
  | 52 => .p c52
  | 27 => .p c27
  | 73 => .p c73
  | 75 => .p c75
  | 53 => .p c53
  | 54 => .p c54
  | 31 => .p c31
  | 10 => .p c10
  | 34 => .p c34
  | 55 => .p c55
  | 35 => .p c35
  | 14 => .p c14
  | 40 => .p c40
  | 16 => .p c16
  | 11 => .p c11
  | 19 => .p c19
  | 20 => .p c20
  | 21 => .p c21
  | 25 => .p c25
  | 3 => .p c3
  | 4 => .p c4
  | 5 => .p c5
  | 6 => .p c6
  | 46 => .y (cloneP 1 1)
  | 62 => .x (cloneH 6 80)
  | 63 => .x (insertH 6 80)
  | 47 => .h c47
  | 28 => .p c28
  | 7 => .p c7
  | _ => .no
def pos09 : FuncId → Nat
  | 77 => 0
  | 58 => 1
  | 57 => 2
  | 80 => 3
  | 56 => 4
  | 36 => 5
  | 42 => 6
  | 79 => 7
  | 61 => 8
  | 45 => 9
  | 33 => 10
  | 32 => 11
  | 13 => 12
  | 37 => 13
  | 38 => 14
  | 39 => 15
  | 15 => 16
  | 17 => 17
  | 18 => 18
  | 43 => 19
  | 41 => 20
  | 22 => 21
  | 23 => 22
  | 24 => 23
  | 30 => 24
  | 44 => 25
  | 26 => 26
  | 70 => 27
  | 71 => 28
  | 72 => 29
  | 74 => 30
  | 83 => 31
  | 64 => 32
  | 66 => 33
  | 65 => 34
  | 48 => 35
  | 49 => 36
  | 50 => 37
  | 29 => 38
  | 8 => 39
  | 9 => 40
  | 12 => 41
  | 51 => 42
  | 67 => 43
  | 76 => 44
  | 68 => 45
  | 69 => 46
  | 52 => 47
  | 27 => 48
  | 73 => 49
  | 75 => 50
  | 53 => 51
  | 54 => 52
  | 31 => 53
  | 10 => 54
  | 34 => 55
  | 55 => 56
  | 35 => 57
  | 14 => 58
  | 40 => 59
  | 16 => 60
  | 11 => 61
  | 19 => 62
  | 20 => 63
  | 21 => 64
  | 25 => 65
  | 3 => 66
  | 4 => 67
  | 5 => 68
  | 6 => 69
  | 46 => 70
  | 62 => 71
  | 63 => 72
  | 47 => 73
  | 28 => 74
  | 7 => 75
  | _ => 0
noncomputable def C09 : Cfg := ⟨kd09, pos09⟩
abbrev N09 : Nat := 76
theorem kd09_ok : ∀ f, (C09.kd f).ok Try.prog f := by
  intro f
  show (kd09 f).ok Try.prog f
  unfold kd09
  split
  · exact ok77
  · exact ok58
  · exact ok57
  · exact ok80
  · exact ok56
  · exact ok36
  · exact ok42
  · exact ok79
  · exact ok61
  · exact ok45
  · exact ok33
  · exact ok32
  · exact ok13
  · exact fun args h r h' hr => delete_snd okx37 (by rw [okz37]; exact hr)
  · exact snd_clone hmix okx38
  · exact snd_insert okx39
  · exact ok15
  · exact ok17
  · exact ok18
  · exact ok43
  · exact ok41
  · exact ok22
  · exact ok23
  · exact ok24
  · exact ok30
  · exact ok44
  · exact ok26
  · exact ok70
  · exact ok71
  · exact ok72
  · exact ok74
  · exact ok83
  · exact ok64
  · exact ok66
  · exact ok65
  · exact ok48
  · exact ok49
  · exact ok50
  · exact ok29
  · exact ok8
  · exact ok9
  · exact ok12
  · exact ok51
  · exact ok67
  · exact ok76
  · exact ok68
  · exact ok69
  · exact ok52
  · exact ok27
  · exact ok73
  · exact ok75
  · exact ok53
  · exact ok54
  · exact ok31
  · exact ok10
  · exact ok34
  · exact ok55
  · exact ok35
  · exact ok14
  · exact ok40
  · exact ok16
  · exact ok11
  · exact ok19
  · exact ok20
  · exact ok21
  · exact ok25
  · exact ok3
  · exact ok4
  · exact ok5
  · exact ok6
  · exact cloneP_ok hmix okx46
  · exact snd_clone hmix okx62
  · exact snd_insert okx63
  · exact ok47
  · exact ok28
  · exact ok7
  · trivial
theorem tab09_ok (n : Nat) : TabOK Try.prog (C09.tab n) := Cfg.tab_ok hmix kd09_ok n

theorem p77 {n : Nat} (hn : 0 < n) (args : List AV) : (C09.tab n).p 77 args = runP (C09.tab 0) c77 args := Cfg.tab_p rfl rfl hn args
theorem a77 {n : Nat} (args : List AV) (h : AH) : callA (C09.tab n) 77 args h = vC (purEs h args) (C09.tab n) 77 args h := callA_eq _ _ _ _
theorem p58 {n : Nat} (hn : 1 < n) (args : List AV) : (C09.tab n).p 58 args = runP (C09.tab 1) c58 args := Cfg.tab_p rfl rfl hn args
theorem a58 {n : Nat} (args : List AV) (h : AH) : callA (C09.tab n) 58 args h = vC (purEs h args) (C09.tab n) 58 args h := callA_eq _ _ _ _
theorem p57 {n : Nat} (hn : 2 < n) (args : List AV) : (C09.tab n).p 57 args = runP (C09.tab 2) c57 args := Cfg.tab_p rfl rfl hn args
theorem a57 {n : Nat} (args : List AV) (h : AH) : callA (C09.tab n) 57 args h = vC (purEs h args) (C09.tab n) 57 args h := callA_eq _ _ _ _
theorem p80 {n : Nat} (hn : 3 < n) (args : List AV) : (C09.tab n).p 80 args = runP (C09.tab 3) c80 args := Cfg.tab_p rfl rfl hn args
theorem a80 {n : Nat} (args : List AV) (h : AH) : callA (C09.tab n) 80 args h = vC (purEs h args) (C09.tab n) 80 args h := callA_eq _ _ _ _
theorem p56 {n : Nat} (hn : 4 < n) (args : List AV) (h : AH) : callA (C09.tab n) 56 args h = runH (C09.tab 4) c56 args h := (callA_h (fun _ => Cfg.tab_hp rfl _ _)).trans (Cfg.tab_h rfl rfl hn args h)
theorem p36 {n : Nat} (hn : 5 < n) (args : List AV) : (C09.tab n).p 36 args = runP (C09.tab 5) c36 args := Cfg.tab_p rfl rfl hn args
theorem a36 {n : Nat} (args : List AV) (h : AH) : callA (C09.tab n) 36 args h = vC (purEs h args) (C09.tab n) 36 args h := callA_eq _ _ _ _
theorem p42 {n : Nat} (hn : 6 < n) (args : List AV) (h : AH) : callA (C09.tab n) 42 args h = runH (C09.tab 6) c42 args h := (callA_h (fun _ => Cfg.tab_hp rfl _ _)).trans (Cfg.tab_h rfl rfl hn args h)
theorem p79 {n : Nat} (hn : 7 < n) (args : List AV) (h : AH) : callA (C09.tab n) 79 args h = runH (C09.tab 7) c79 args h := (callA_h (fun _ => Cfg.tab_hp rfl _ _)).trans (Cfg.tab_h rfl rfl hn args h)
theorem p61 {n : Nat} (hn : 8 < n) (args : List AV) (h : AH) : callA (C09.tab n) 61 args h = runH (C09.tab 8) c61 args h := (callA_h (fun _ => Cfg.tab_hp rfl _ _)).trans (Cfg.tab_h rfl rfl hn args h)
theorem p45 {n : Nat} (hn : 9 < n) (args : List AV) (h : AH) : callA (C09.tab n) 45 args h = runH (C09.tab 9) c45 args h := (callA_h (fun _ => Cfg.tab_hp rfl _ _)).trans (Cfg.tab_h rfl rfl hn args h)
theorem p33 {n : Nat} (hn : 10 < n) (args : List AV) : (C09.tab n).p 33 args = runP (C09.tab 10) c33 args := Cfg.tab_p rfl rfl hn args
theorem a33 {n : Nat} (args : List AV) (h : AH) : callA (C09.tab n) 33 args h = vC (purEs h args) (C09.tab n) 33 args h := callA_eq _ _ _ _
theorem p32 {n : Nat} (hn : 11 < n) (args : List AV) (h : AH) : callA (C09.tab n) 32 args h = runH (recT (C09.tab 11) 32 c32 300) c32 args h := (callA_h (fun _ => Cfg.tab_rp rfl _ _)).trans (Cfg.tab_r rfl rfl hn args h)
theorem p13 {n : Nat} (hn : 12 < n) (args : List AV) : (C09.tab n).p 13 args = runP (C09.tab 12) c13 args := Cfg.tab_p rfl rfl hn args
theorem a13 {n : Nat} (args : List AV) (h : AH) : callA (C09.tab n) 13 args h = vC (purEs h args) (C09.tab n) 13 args h := callA_eq _ _ _ _
theorem p37 {n : Nat} (hn : 13 < n) (args : List AV) (h : AH) : callA (C09.tab n) 37 args h = deleteH 3 args h := (callA_h (fun _ => Cfg.tab_xp rfl _ _)).trans (Cfg.tab_x rfl rfl hn args h)
theorem q37 {n : Nat} (hn : 13 < n) (args : List AV) (h : AH) : (C09.tab n).h 37 args h = deleteH 3 args h := Cfg.tab_x rfl rfl hn args h
theorem p38 {n : Nat} (hn : 14 < n) (args : List AV) (h : AH) : callA (C09.tab n) 38 args h = cloneH 3 24 args h := (callA_h (fun _ => Cfg.tab_xp rfl _ _)).trans (Cfg.tab_x rfl rfl hn args h)
theorem q38 {n : Nat} (hn : 14 < n) (args : List AV) (h : AH) : (C09.tab n).h 38 args h = cloneH 3 24 args h := Cfg.tab_x rfl rfl hn args h
theorem p39 {n : Nat} (hn : 15 < n) (args : List AV) (h : AH) : callA (C09.tab n) 39 args h = insertH 3 24 args h := (callA_h (fun _ => Cfg.tab_xp rfl _ _)).trans (Cfg.tab_x rfl rfl hn args h)
theorem q39 {n : Nat} (hn : 15 < n) (args : List AV) (h : AH) : (C09.tab n).h 39 args h = insertH 3 24 args h := Cfg.tab_x rfl rfl hn args h
theorem p15 {n : Nat} (hn : 16 < n) (args : List AV) : (C09.tab n).p 15 args = runP (C09.tab 16) c15 args := Cfg.tab_p rfl rfl hn args
theorem a15 {n : Nat} (args : List AV) (h : AH) : callA (C09.tab n) 15 args h = vC (purEs h args) (C09.tab n) 15 args h := callA_eq _ _ _ _
theorem p17 {n : Nat} (hn : 17 < n) (args : List AV) : (C09.tab n).p 17 args = runP (C09.tab 17) c17 args := Cfg.tab_p rfl rfl hn args
theorem a17 {n : Nat} (args : List AV) (h : AH) : callA (C09.tab n) 17 args h = vC (purEs h args) (C09.tab n) 17 args h := callA_eq _ _ _ _
theorem p18 {n : Nat} (hn : 18 < n) (args : List AV) : (C09.tab n).p 18 args = runP (C09.tab 18) c18 args := Cfg.tab_p rfl rfl hn args
theorem a18 {n : Nat} (args : List AV) (h : AH) : callA (C09.tab n) 18 args h = vC (purEs h args) (C09.tab n) 18 args h := callA_eq _ _ _ _
theorem p43 {n : Nat} (hn : 19 < n) (args : List AV) (h : AH) : callA (C09.tab n) 43 args h = runH (C09.tab 19) c43 args h := (callA_h (fun _ => Cfg.tab_hp rfl _ _)).trans (Cfg.tab_h rfl rfl hn args h)
theorem p41 {n : Nat} (hn : 20 < n) (args : List AV) (h : AH) : callA (C09.tab n) 41 args h = runH (C09.tab 20) c41 args h := (callA_h (fun _ => Cfg.tab_hp rfl _ _)).trans (Cfg.tab_h rfl rfl hn args h)
theorem p22 {n : Nat} (hn : 21 < n) (args : List AV) : (C09.tab n).p 22 args = runP (C09.tab 21) c22 args := Cfg.tab_p rfl rfl hn args
theorem a22 {n : Nat} (args : List AV) (h : AH) : callA (C09.tab n) 22 args h = vC (purEs h args) (C09.tab n) 22 args h := callA_eq _ _ _ _
theorem p23 {n : Nat} (hn : 22 < n) (args : List AV) : (C09.tab n).p 23 args = runP (C09.tab 22) c23 args := Cfg.tab_p rfl rfl hn args
theorem a23 {n : Nat} (args : List AV) (h : AH) : callA (C09.tab n) 23 args h = vC (purEs h args) (C09.tab n) 23 args h := callA_eq _ _ _ _
theorem p24 {n : Nat} (hn : 23 < n) (args : List AV) : (C09.tab n).p 24 args = runP (C09.tab 23) c24 args := Cfg.tab_p rfl rfl hn args
theorem a24 {n : Nat} (args : List AV) (h : AH) : callA (C09.tab n) 24 args h = vC (purEs h args) (C09.tab n) 24 args h := callA_eq _ _ _ _
theorem p30 {n : Nat} (hn : 24 < n) (args : List AV) : (C09.tab n).p 30 args = runP (C09.tab 24) c30 args := Cfg.tab_p rfl rfl hn args
theorem a30 {n : Nat} (args : List AV) (h : AH) : callA (C09.tab n) 30 args h = vC (purEs h args) (C09.tab n) 30 args h := callA_eq _ _ _ _
theorem p44 {n : Nat} (hn : 25 < n) (args : List AV) : (C09.tab n).p 44 args = runP (C09.tab 25) c44 args := Cfg.tab_p rfl rfl hn args
theorem a44 {n : Nat} (args : List AV) (h : AH) : callA (C09.tab n) 44 args h = vC (purEs h args) (C09.tab n) 44 args h := callA_eq _ _ _ _
theorem p26 {n : Nat} (hn : 26 < n) (args : List AV) : (C09.tab n).p 26 args = runP (C09.tab 26) c26 args := Cfg.tab_p rfl rfl hn args
theorem a26 {n : Nat} (args : List AV) (h : AH) : callA (C09.tab n) 26 args h = vC (purEs h args) (C09.tab n) 26 args h := callA_eq _ _ _ _
theorem p70 {n : Nat} (hn : 27 < n) (args : List AV) : (C09.tab n).p 70 args = runP (C09.tab 27) c70 args := Cfg.tab_p rfl rfl hn args
theorem a70 {n : Nat} (args : List AV) (h : AH) : callA (C09.tab n) 70 args h = vC (purEs h args) (C09.tab n) 70 args h := callA_eq _ _ _ _
theorem p71 {n : Nat} (hn : 28 < n) (args : List AV) : (C09.tab n).p 71 args = runP (C09.tab 28) c71 args := Cfg.tab_p rfl rfl hn args
theorem a71 {n : Nat} (args : List AV) (h : AH) : callA (C09.tab n) 71 args h = vC (purEs h args) (C09.tab n) 71 args h := callA_eq _ _ _ _
theorem p72 {n : Nat} (hn : 29 < n) (args : List AV) : (C09.tab n).p 72 args = runP (C09.tab 29) c72 args := Cfg.tab_p rfl rfl hn args
theorem a72 {n : Nat} (args : List AV) (h : AH) : callA (C09.tab n) 72 args h = vC (purEs h args) (C09.tab n) 72 args h := callA_eq _ _ _ _
theorem p74 {n : Nat} (hn : 30 < n) (args : List AV) : (C09.tab n).p 74 args = runP (C09.tab 30) c74 args := Cfg.tab_p rfl rfl hn args
theorem a74 {n : Nat} (args : List AV) (h : AH) : callA (C09.tab n) 74 args h = vC (purEs h args) (C09.tab n) 74 args h := callA_eq _ _ _ _
theorem p83 {n : Nat} (hn : 31 < n) (args : List AV) : (C09.tab n).p 83 args = runP (C09.tab 31) c83 args := Cfg.tab_p rfl rfl hn args
theorem a83 {n : Nat} (args : List AV) (h : AH) : callA (C09.tab n) 83 args h = vC (purEs h args) (C09.tab n) 83 args h := callA_eq _ _ _ _
theorem p64 {n : Nat} (hn : 32 < n) (args : List AV) : (C09.tab n).p 64 args = runP (C09.tab 32) c64 args := Cfg.tab_p rfl rfl hn args
theorem a64 {n : Nat} (args : List AV) (h : AH) : callA (C09.tab n) 64 args h = vC (purEs h args) (C09.tab n) 64 args h := callA_eq _ _ _ _
theorem p66 {n : Nat} (hn : 33 < n) (args : List AV) : (C09.tab n).p 66 args = runP (C09.tab 33) c66 args := Cfg.tab_p rfl rfl hn args
theorem a66 {n : Nat} (args : List AV) (h : AH) : callA (C09.tab n) 66 args h = vC (purEs h args) (C09.tab n) 66 args h := callA_eq _ _ _ _
theorem p65 {n : Nat} (hn : 34 < n) (args : List AV) : (C09.tab n).p 65 args = runP (C09.tab 34) c65 args := Cfg.tab_p rfl rfl hn args
theorem a65 {n : Nat} (args : List AV) (h : AH) : callA (C09.tab n) 65 args h = vC (purEs h args) (C09.tab n) 65 args h := callA_eq _ _ _ _
theorem p48 {n : Nat} (hn : 35 < n) (args : List AV) : (C09.tab n).p 48 args = runP (C09.tab 35) c48 args := Cfg.tab_p rfl rfl hn args
theorem a48 {n : Nat} (args : List AV) (h : AH) : callA (C09.tab n) 48 args h = vC (purEs h args) (C09.tab n) 48 args h := callA_eq _ _ _ _
theorem p49 {n : Nat} (hn : 36 < n) (args : List AV) : (C09.tab n).p 49 args = runP (C09.tab 36) c49 args := Cfg.tab_p rfl rfl hn args
theorem a49 {n : Nat} (args : List AV) (h : AH) : callA (C09.tab n) 49 args h = vC (purEs h args) (C09.tab n) 49 args h := callA_eq _ _ _ _
theorem p50 {n : Nat} (hn : 37 < n) (args : List AV) : (C09.tab n).p 50 args = runP (C09.tab 37) c50 args := Cfg.tab_p rfl rfl hn args
theorem a50 {n : Nat} (args : List AV) (h : AH) : callA (C09.tab n) 50 args h = vC (purEs h args) (C09.tab n) 50 args h := callA_eq _ _ _ _
theorem p29 {n : Nat} (hn : 38 < n) (args : List AV) : (C09.tab n).p 29 args = runP (C09.tab 38) c29 args := Cfg.tab_p rfl rfl hn args
theorem a29 {n : Nat} (args : List AV) (h : AH) : callA (C09.tab n) 29 args h = vC (purEs h args) (C09.tab n) 29 args h := callA_eq _ _ _ _
theorem p8 {n : Nat} (hn : 39 < n) (args : List AV) : (C09.tab n).p 8 args = runP (C09.tab 39) c8 args := Cfg.tab_p rfl rfl hn args
theorem a8 {n : Nat} (args : List AV) (h : AH) : callA (C09.tab n) 8 args h = vC (purEs h args) (C09.tab n) 8 args h := callA_eq _ _ _ _
theorem p9 {n : Nat} (hn : 40 < n) (args : List AV) : (C09.tab n).p 9 args = runP (C09.tab 40) c9 args := Cfg.tab_p rfl rfl hn args
theorem a9 {n : Nat} (args : List AV) (h : AH) : callA (C09.tab n) 9 args h = vC (purEs h args) (C09.tab n) 9 args h := callA_eq _ _ _ _
theorem p12 {n : Nat} (hn : 41 < n) (args : List AV) : (C09.tab n).p 12 args = runP (C09.tab 41) c12 args := Cfg.tab_p rfl rfl hn args
theorem a12 {n : Nat} (args : List AV) (h : AH) : callA (C09.tab n) 12 args h = vC (purEs h args) (C09.tab n) 12 args h := callA_eq _ _ _ _
theorem p51 {n : Nat} (hn : 42 < n) (args : List AV) : (C09.tab n).p 51 args = runP (C09.tab 42) c51 args := Cfg.tab_p rfl rfl hn args
theorem a51 {n : Nat} (args : List AV) (h : AH) : callA (C09.tab n) 51 args h = vC (purEs h args) (C09.tab n) 51 args h := callA_eq _ _ _ _
theorem p67 {n : Nat} (hn : 43 < n) (args : List AV) : (C09.tab n).p 67 args = runP (C09.tab 43) c67 args := Cfg.tab_p rfl rfl hn args
theorem a67 {n : Nat} (args : List AV) (h : AH) : callA (C09.tab n) 67 args h = vC (purEs h args) (C09.tab n) 67 args h := callA_eq _ _ _ _
theorem p76 {n : Nat} (hn : 44 < n) (args : List AV) : (C09.tab n).p 76 args = runP (C09.tab 44) c76 args := Cfg.tab_p rfl rfl hn args
theorem a76 {n : Nat} (args : List AV) (h : AH) : callA (C09.tab n) 76 args h = vC (purEs h args) (C09.tab n) 76 args h := callA_eq _ _ _ _
theorem p68 {n : Nat} (hn : 45 < n) (args : List AV) : (C09.tab n).p 68 args = runP (C09.tab 45) c68 args := Cfg.tab_p rfl rfl hn args
theorem a68 {n : Nat} (args : List AV) (h : AH) : callA (C09.tab n) 68 args h = vC (purEs h args) (C09.tab n) 68 args h := callA_eq _ _ _ _
theorem p69 {n : Nat} (hn : 46 < n) (args : List AV) : (C09.tab n).p 69 args = runP (C09.tab 46) c69 args := Cfg.tab_p rfl rfl hn args
theorem a69 {n : Nat} (args : List AV) (h : AH) : callA (C09.tab n) 69 args h = vC (purEs h args) (C09.tab n) 69 args h := callA_eq _ _ _ _
theorem p52 {n : Nat} (hn : 47 < n) (args : List AV) : (C09.tab n).p 52 args = runP (C09.tab 47) c52 args := Cfg.tab_p rfl rfl hn args
theorem a52 {n : Nat} (args : List AV) (h : AH) : callA (C09.tab n) 52 args h = vC (purEs h args) (C09.tab n) 52 args h := callA_eq _ _ _ _
theorem p27 {n : Nat} (hn : 48 < n) (args : List AV) : (C09.tab n).p 27 args = runP (C09.tab 48) c27 args := Cfg.tab_p rfl rfl hn args
theorem a27 {n : Nat} (args : List AV) (h : AH) : callA (C09.tab n) 27 args h = vC (purEs h args) (C09.tab n) 27 args h := callA_eq _ _ _ _
theorem p73 {n : Nat} (hn : 49 < n) (args : List AV) : (C09.tab n).p 73 args = runP (C09.tab 49) c73 args := Cfg.tab_p rfl rfl hn args
theorem a73 {n : Nat} (args : List AV) (h : AH) : callA (C09.tab n) 73 args h = vC (purEs h args) (C09.tab n) 73 args h := callA_eq _ _ _ _
theorem p75 {n : Nat} (hn : 50 < n) (args : List AV) : (C09.tab n).p 75 args = runP (C09.tab 50) c75 args := Cfg.tab_p rfl rfl hn args
theorem a75 {n : Nat} (args : List AV) (h : AH) : callA (C09.tab n) 75 args h = vC (purEs h args) (C09.tab n) 75 args h := callA_eq _ _ _ _
theorem p53 {n : Nat} (hn : 51 < n) (args : List AV) : (C09.tab n).p 53 args = runP (C09.tab 51) c53 args := Cfg.tab_p rfl rfl hn args
theorem a53 {n : Nat} (args : List AV) (h : AH) : callA (C09.tab n) 53 args h = vC (purEs h args) (C09.tab n) 53 args h := callA_eq _ _ _ _
theorem p54 {n : Nat} (hn : 52 < n) (args : List AV) : (C09.tab n).p 54 args = runP (C09.tab 52) c54 args := Cfg.tab_p rfl rfl hn args
theorem a54 {n : Nat} (args : List AV) (h : AH) : callA (C09.tab n) 54 args h = vC (purEs h args) (C09.tab n) 54 args h := callA_eq _ _ _ _
theorem p31 {n : Nat} (hn : 53 < n) (args : List AV) : (C09.tab n).p 31 args = runP (C09.tab 53) c31 args := Cfg.tab_p rfl rfl hn args
theorem a31 {n : Nat} (args : List AV) (h : AH) : callA (C09.tab n) 31 args h = vC (purEs h args) (C09.tab n) 31 args h := callA_eq _ _ _ _
theorem p10 {n : Nat} (hn : 54 < n) (args : List AV) : (C09.tab n).p 10 args = runP (C09.tab 54) c10 args := Cfg.tab_p rfl rfl hn args
theorem a10 {n : Nat} (args : List AV) (h : AH) : callA (C09.tab n) 10 args h = vC (purEs h args) (C09.tab n) 10 args h := callA_eq _ _ _ _
theorem p34 {n : Nat} (hn : 55 < n) (args : List AV) : (C09.tab n).p 34 args = runP (C09.tab 55) c34 args := Cfg.tab_p rfl rfl hn args
theorem a34 {n : Nat} (args : List AV) (h : AH) : callA (C09.tab n) 34 args h = vC (purEs h args) (C09.tab n) 34 args h := callA_eq _ _ _ _
theorem p55 {n : Nat} (hn : 56 < n) (args : List AV) : (C09.tab n).p 55 args = runP (C09.tab 56) c55 args := Cfg.tab_p rfl rfl hn args
theorem a55 {n : Nat} (args : List AV) (h : AH) : callA (C09.tab n) 55 args h = vC (purEs h args) (C09.tab n) 55 args h := callA_eq _ _ _ _
theorem p35 {n : Nat} (hn : 57 < n) (args : List AV) : (C09.tab n).p 35 args = runP (C09.tab 57) c35 args := Cfg.tab_p rfl rfl hn args
theorem a35 {n : Nat} (args : List AV) (h : AH) : callA (C09.tab n) 35 args h = vC (purEs h args) (C09.tab n) 35 args h := callA_eq _ _ _ _
theorem p14 {n : Nat} (hn : 58 < n) (args : List AV) : (C09.tab n).p 14 args = runP (C09.tab 58) c14 args := Cfg.tab_p rfl rfl hn args
theorem a14 {n : Nat} (args : List AV) (h : AH) : callA (C09.tab n) 14 args h = vC (purEs h args) (C09.tab n) 14 args h := callA_eq _ _ _ _
theorem p40 {n : Nat} (hn : 59 < n) (args : List AV) : (C09.tab n).p 40 args = runP (C09.tab 59) c40 args := Cfg.tab_p rfl rfl hn args
theorem a40 {n : Nat} (args : List AV) (h : AH) : callA (C09.tab n) 40 args h = vC (purEs h args) (C09.tab n) 40 args h := callA_eq _ _ _ _
theorem p16 {n : Nat} (hn : 60 < n) (args : List AV) : (C09.tab n).p 16 args = runP (C09.tab 60) c16 args := Cfg.tab_p rfl rfl hn args
theorem a16 {n : Nat} (args : List AV) (h : AH) : callA (C09.tab n) 16 args h = vC (purEs h args) (C09.tab n) 16 args h := callA_eq _ _ _ _
theorem p11 {n : Nat} (hn : 61 < n) (args : List AV) : (C09.tab n).p 11 args = runP (C09.tab 61) c11 args := Cfg.tab_p rfl rfl hn args
theorem a11 {n : Nat} (args : List AV) (h : AH) : callA (C09.tab n) 11 args h = vC (purEs h args) (C09.tab n) 11 args h := callA_eq _ _ _ _
theorem p19 {n : Nat} (hn : 62 < n) (args : List AV) : (C09.tab n).p 19 args = runP (C09.tab 62) c19 args := Cfg.tab_p rfl rfl hn args
theorem a19 {n : Nat} (args : List AV) (h : AH) : callA (C09.tab n) 19 args h = vC (purEs h args) (C09.tab n) 19 args h := callA_eq _ _ _ _
theorem p20 {n : Nat} (hn : 63 < n) (args : List AV) : (C09.tab n).p 20 args = runP (C09.tab 63) c20 args := Cfg.tab_p rfl rfl hn args
theorem a20 {n : Nat} (args : List AV) (h : AH) : callA (C09.tab n) 20 args h = vC (purEs h args) (C09.tab n) 20 args h := callA_eq _ _ _ _
theorem p21 {n : Nat} (hn : 64 < n) (args : List AV) : (C09.tab n).p 21 args = runP (C09.tab 64) c21 args := Cfg.tab_p rfl rfl hn args
theorem a21 {n : Nat} (args : List AV) (h : AH) : callA (C09.tab n) 21 args h = vC (purEs h args) (C09.tab n) 21 args h := callA_eq _ _ _ _
theorem p25 {n : Nat} (hn : 65 < n) (args : List AV) : (C09.tab n).p 25 args = runP (C09.tab 65) c25 args := Cfg.tab_p rfl rfl hn args
theorem a25 {n : Nat} (args : List AV) (h : AH) : callA (C09.tab n) 25 args h = vC (purEs h args) (C09.tab n) 25 args h := callA_eq _ _ _ _
theorem p3 {n : Nat} (hn : 66 < n) (args : List AV) : (C09.tab n).p 3 args = runP (C09.tab 66) c3 args := Cfg.tab_p rfl rfl hn args
theorem a3 {n : Nat} (args : List AV) (h : AH) : callA (C09.tab n) 3 args h = vC (purEs h args) (C09.tab n) 3 args h := callA_eq _ _ _ _
theorem p4 {n : Nat} (hn : 67 < n) (args : List AV) : (C09.tab n).p 4 args = runP (C09.tab 67) c4 args := Cfg.tab_p rfl rfl hn args
theorem a4 {n : Nat} (args : List AV) (h : AH) : callA (C09.tab n) 4 args h = vC (purEs h args) (C09.tab n) 4 args h := callA_eq _ _ _ _
theorem p5 {n : Nat} (hn : 68 < n) (args : List AV) : (C09.tab n).p 5 args = runP (C09.tab 68) c5 args := Cfg.tab_p rfl rfl hn args
theorem a5 {n : Nat} (args : List AV) (h : AH) : callA (C09.tab n) 5 args h = vC (purEs h args) (C09.tab n) 5 args h := callA_eq _ _ _ _
theorem p6 {n : Nat} (hn : 69 < n) (args : List AV) : (C09.tab n).p 6 args = runP (C09.tab 69) c6 args := Cfg.tab_p rfl rfl hn args
theorem a6 {n : Nat} (args : List AV) (h : AH) : callA (C09.tab n) 6 args h = vC (purEs h args) (C09.tab n) 6 args h := callA_eq _ _ _ _
theorem p46 {n : Nat} (hn : 70 < n) (args : List AV) : (C09.tab n).p 46 args = (cloneP 1 1) args := Cfg.tab_y rfl rfl hn args
theorem a46 {n : Nat} (args : List AV) (h : AH) : callA (C09.tab n) 46 args h = vC (purEs h args) (C09.tab n) 46 args h := callA_eq _ _ _ _
theorem p62 {n : Nat} (hn : 71 < n) (args : List AV) (h : AH) : callA (C09.tab n) 62 args h = cloneH 6 80 args h := (callA_h (fun _ => Cfg.tab_xp rfl _ _)).trans (Cfg.tab_x rfl rfl hn args h)
theorem q62 {n : Nat} (hn : 71 < n) (args : List AV) (h : AH) : (C09.tab n).h 62 args h = cloneH 6 80 args h := Cfg.tab_x rfl rfl hn args h
theorem p63 {n : Nat} (hn : 72 < n) (args : List AV) (h : AH) : callA (C09.tab n) 63 args h = insertH 6 80 args h := (callA_h (fun _ => Cfg.tab_xp rfl _ _)).trans (Cfg.tab_x rfl rfl hn args h)
theorem q63 {n : Nat} (hn : 72 < n) (args : List AV) (h : AH) : (C09.tab n).h 63 args h = insertH 6 80 args h := Cfg.tab_x rfl rfl hn args h
theorem p47 {n : Nat} (hn : 73 < n) (args : List AV) (h : AH) : callA (C09.tab n) 47 args h = runH (C09.tab 73) c47 args h := (callA_h (fun _ => Cfg.tab_hp rfl _ _)).trans (Cfg.tab_h rfl rfl hn args h)
theorem p28 {n : Nat} (hn : 74 < n) (args : List AV) : (C09.tab n).p 28 args = runP (C09.tab 74) c28 args := Cfg.tab_p rfl rfl hn args
theorem a28 {n : Nat} (args : List AV) (h : AH) : callA (C09.tab n) 28 args h = vC (purEs h args) (C09.tab n) 28 args h := callA_eq _ _ _ _
theorem p7 {n : Nat} (hn : 75 < n) (args : List AV) : (C09.tab n).p 7 args = runP (C09.tab 75) c7 args := Cfg.tab_p rfl rfl hn args
theorem a7 {n : Nat} (args : List AV) (h : AH) : callA (C09.tab n) 7 args h = vC (purEs h args) (C09.tab n) 7 args h := callA_eq _ _ _ _
end Go.Proofs.Ytfdenmkoampgnaa
