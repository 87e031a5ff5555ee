/-
 The table of the functions, for the abstract machine.
-/
import Derived.Test.YtgefdmkmobaefaaLit19
import Derived.Test.YtgefdmkmobaefaaAmTb
import Derived.Test.YtgefdmkmobaefaaAmDel
import Derived.Test.YtgefdmkmobaefaaAmGY
import Derived.Test.YtgefdmkmobaefaaAmSm
import Derived.Test.YtgefdmkmobaefaaAmBl
import Derived.Test.YtgefdmkmobaefaaSp19
set_option linter.unusedSimpArgs false
set_option linter.unusedVariables false
namespace Go.Proofs.Ytgefdmkmobaefaa
open Go.Am Go.Am.Nm
theorem hmix : Try.prog.follows .mixedOrders = true := by kernel_rfl
theorem okz99 : ((Try.prog.info? 71).getD default).size = 5 := by kernel_rfl
theorem okx99 : DelL Try.prog 99 24 3 4 71 0 ((Try.prog.info? 71).getD default) (((Try.prog.info? 71).getD default).zero.getD .nilFunc) := ⟨hmix, ⟨Try.f99.name, Try.f99.targs, by kernel_rfl, by kernel_rfl⟩, by kernel_rfl, by kernel_rfl, by kernel_rfl, by kernel_rfl, by kernel_rfl, by kernel_rfl, by kernel_rfl, by kernel_rfl, by rw [okz99]; decide⟩
theorem okz70 : ((Try.prog.info? 90).getD default).size = 2 := by kernel_rfl
theorem okx70 : DelL Try.prog 70 55 3 4 90 0 ((Try.prog.info? 90).getD default) (((Try.prog.info? 90).getD default).zero.getD .nilFunc) := ⟨hmix, ⟨Try.f70.name, Try.f70.targs, by kernel_rfl, by kernel_rfl⟩, by kernel_rfl, by kernel_rfl, by kernel_rfl, by kernel_rfl, by kernel_rfl, by kernel_rfl, by kernel_rfl, by kernel_rfl, by rw [okz70]; decide⟩
theorem okx71 : okF Try.prog 71 (cloneF 2 24 (.agg [.int .i64 0, .str []])) = true := by kernel_rfl
theorem okx40 : okF Try.prog 40 (cloneF 1 8 (.int .i64 0)) = true := by kernel_rfl
theorem okx101 : InsOK Try.prog 101 28 3 4 3 0 107 108 1 8 := ⟨hmix, ⟨Try.f101.name, Try.f101.targs, by kernel_rfl, by kernel_rfl⟩, ⟨Try.f107, by kernel_rfl, by kernel_rfl, by kernel_rfl, by kernel_rfl, by kernel_rfl⟩, by kernel_rfl, by kernel_rfl, by kernel_rfl, by kernel_rfl, by kernel_rfl, by decide⟩
theorem okx41 : okF Try.prog 41 (cloneF 1 16 (.str [])) = true := by kernel_rfl
theorem okx42 : okF Try.prog 42 (cloneF 5 88 (.agg [.int .i64 0, .lst true [], .lst true [], .bool false, .lst true []])) = true := by kernel_rfl
noncomputable def kd19 : FuncId → Kd
 | 11 => .p c11
 | 52 => .h c52
 | 80 => .y (splitY rightN)
 | 98 => .p c98
 | 81 => .p c81
 | 56 => .p c56
 | 55 => .h c55
 | 90 => .h c90
 | 49 => .p c49
 | 91 => .h c91
 | 99 => .x (deleteH 5)
 | 92 => .h c92
 | 64 => .h c64
 | 67 => .h c67
 | 68 => .h c68
 | 70 => .x (deleteH 2)
 | 71 => .x (cloneH 2 24)
 | 69 => .h c69
 | 74 => .h c74
 | 40 => .x (cloneH 1 8)
 | 111 => .p c111
 | 105 => .p c105
 | 106 => .p c106
 | 100 => .p c100
 | 101 => .x (insertH 1 8)
 | 93 => .h c93
 | 72 => .h c72
 | 73 => .h c73
 | 53 => .p c53
 | 76 => .h c76
 | 89 => .h c89
 | 94 => .h c94
 | 75 => .h c75
 | 39 => .p c39
 | 41 => .x (cloneH 1 16)
 | 42 => .x (cloneH 5 88)
 | 43 => .p c43
 | 12 => .p c12
 | 45 => .p c45
 | 15 => .p c15
 | 22 => .p c22
 | 79 => .h c79
 | 51 => .h c51
 | 24 => .p c24
 | 66 => .h c66
 | 54 => .h c54
 | 26 => .p c26
 | 78 => .p c78
 | 48 => .p c48
 | 35 => .p c35
 | 36 => .p c36
 | 63 => .p c63
 | 37 => .p c37
 | 38 => .p c38
 | 10 => .p c10
 | 95 => .p c95
 | 77 => .p c77
 | 44 => .p c44
 | 14 => .p c14
 | 3 => .p c3
 | 16 => .h c16
 | 46 => .p c46
 | 47 => .h c47
 | 17 => .h c17
 | 18 => .h c18
 | 4 => .p c4
 | 20 => .p c20
 | 32 => .p c32
 | 19 => .h c19
 | 50 => .p c50
 | 21 => .p c21
 | 23 => .p c23
 | 25 => .p c25
 | 82 => .p c82
 | 57 => .p c57
 | 27 => .p c27
 | 83 => .p c83
 | 84 => .p c84
 | 85 => .p c85
 | 86 => .p c86
 | 58 => .p c58
 | 87 => .p c87
 | 88 => .h c88
 | 59 => .p c59
 | 60 => .p c60
 | 61 => .p c61
 | 28 => .p c28
 | 5 => .p c5
 | _ => .no
def pos19 : FuncId → Nat
 | 11 => 0
 | 52 => 1
 | 80 => 2
 | 98 => 3
 | 81 => 4
 | 56 => 5
 | 55 => 6
 | 90 => 7
 | 49 => 8
 | 91 => 9
 | 99 => 10
 | 92 => 11
 | 64 => 12
 | 67 => 13
 | 68 => 14
 | 70 => 15
 | 71 => 16
 | 69 => 17
 | 74 => 18
 | 40 => 19
 | 111 => 20
 | 105 => 21
 | 106 => 22
 | 100 => 23
 | 101 => 24
 | 93 => 25
 | 72 => 26
 | 73 => 27
 | 53 => 28
 | 76 => 29
 | 89 => 30
 | 94 => 31
 | 75 => 32
 | 39 => 33
 | 41 => 34
 | 42 => 35
 | 43 => 36
 | 12 => 37
 | 45 => 38
 | 15 => 39
 | 22 => 40
 | 79 => 41
 | 51 => 42
 | 24 => 43
 | 66 => 44
 | 54 => 45
 | 26 => 46
 | 78 => 47
 | 48 => 48
 | 35 => 49
 | 36 => 50
 | 63 => 51
 | 37 => 52
 | 38 => 53
 | 10 => 54
 | 95 => 55
 | 77 => 56
 | 44 => 57
 | 14 => 59
 | 3 => 60
 | 16 => 61
 | 46 => 62
 | 47 => 63
 | 17 => 64
 | 18 => 65
 | 4 => 66
 | 20 => 67
 | 32 => 68
 | 19 => 69
 | 50 => 70
 | 21 => 71
 | 23 => 72
 | 25 => 73
 | 82 => 74
 | 57 => 75
 | 27 => 76
 | 83 => 77
 | 84 => 78
 | 85 => 79
 | 86 => 80
 | 58 => 81
 | 87 => 82
 | 88 => 83
 | 59 => 84
 | 60 => 85
 | 61 => 86
 | 28 => 87
 | 5 => 88
 | _ => 0
noncomputable def C19 : Cfg := ⟨kd19, pos19⟩
theorem kd19_ok : ∀ f, (C19.kd f).ok Try.prog f := by
 intro f
 show (kd19 f).ok Try.prog f
 unfold kd19
 split
 ·exact ok11
 ·exact ok52
 ·exact split_ok
 ·exact ok98
 ·exact ok81
 ·exact ok56
 ·exact ok55
 ·exact ok90
 ·exact ok49
 ·exact ok91
 ·exact fun args h r h' hr => delete_snd okx99 (by rw [okz99]; exact hr)
 ·exact ok92
 ·exact ok64
 ·exact ok67
 ·exact ok68
 ·exact fun args h r h' hr => delete_snd okx70 (by rw [okz70]; exact hr)
 ·exact snd_clone hmix okx71
 ·exact ok69
 ·exact ok74
 ·exact snd_clone hmix okx40
 ·exact ok111
 ·exact ok105
 ·exact ok106
 ·exact ok100
 ·exact snd_insert okx101
 ·exact ok93
 ·exact ok72
 ·exact ok73
 ·exact ok53
 ·exact ok76
 ·exact ok89
 ·exact ok94
 ·exact ok75
 ·exact ok39
 ·exact snd_clone hmix okx41
 ·exact snd_clone hmix okx42
 ·exact ok43
 ·exact ok12
 ·exact ok45
 ·exact ok15
 ·exact ok22
 ·exact ok79
 ·exact ok51
 ·exact ok24
 ·exact ok66
 ·exact ok54
 ·exact ok26
 ·exact ok78
 ·exact ok48
 ·exact ok35
 ·exact ok36
 ·exact ok63
 ·exact ok37
 ·exact ok38
 ·exact ok10
 ·exact ok95
 ·exact ok77
 ·exact ok44
 ·exact ok14
 ·exact ok3
 ·exact ok16
 ·exact ok46
 ·exact ok47
 ·exact ok17
 ·exact ok18
 ·exact ok4
 ·exact ok20
 ·exact ok32
 ·exact ok19
 ·exact ok50
 ·exact ok21
 ·exact ok23
 ·exact ok25
 ·exact ok82
 ·exact ok57
 ·exact ok27
 ·exact ok83
 ·exact ok84
 ·exact ok85
 ·exact ok86
 ·exact ok58
 ·exact ok87
 ·exact ok88
 ·exact ok59
 ·exact ok60
 ·exact ok61
 ·exact ok28
 ·exact ok5
 ·trivial
theorem tab19_ok (n : Nat) : TabOK Try.prog (C19.tab n) := Cfg.tab_ok hmix kd19_ok n
theorem p11 {n : Nat} (hn : 0 < n) (args : List AV) : (C19.tab n).p 11 args = runP (C19.tab 0) c11 args := Cfg.tab_p rfl rfl hn args
theorem a11 {n : Nat} (args : List AV) (h : AH) : callA (C19.tab n) 11 args h = vC (purEs h args) (C19.tab n) 11 args h := callA_eq _ _ _ _
theorem p52 {n : Nat} (hn : 1 < n) (args : List AV) (h : AH) : callA (C19.tab n) 52 args h = runH (C19.tab 1) c52 args h := (callA_h (fun _ => Cfg.tab_hp rfl _ _)).trans (Cfg.tab_h rfl rfl hn args h)
theorem p80 {n : Nat} (hn : 2 < n) (args : List AV) : (C19.tab n).p 80 args = (splitY rightN) args := Cfg.tab_y rfl rfl hn args
theorem a80 {n : Nat} (args : List AV) (h : AH) : callA (C19.tab n) 80 args h = vC (purEs h args) (C19.tab n) 80 args h := callA_eq _ _ _ _
theorem p98 {n : Nat} (hn : 3 < n) (args : List AV) : (C19.tab n).p 98 args = runP (C19.tab 3) c98 args := Cfg.tab_p rfl rfl hn args
theorem a98 {n : Nat} (args : List AV) (h : AH) : callA (C19.tab n) 98 args h = vC (purEs h args) (C19.tab n) 98 args h := callA_eq _ _ _ _
theorem p81 {n : Nat} (hn : 4 < n) (args : List AV) : (C19.tab n).p 81 args = runP (C19.tab 4) c81 args := Cfg.tab_p rfl rfl hn args
theorem a81 {n : Nat} (args : List AV) (h : AH) : callA (C19.tab n) 81 args h = vC (purEs h args) (C19.tab n) 81 args h := callA_eq _ _ _ _
theorem p56 {n : Nat} (hn : 5 < n) (args : List AV) : (C19.tab n).p 56 args = runP (C19.tab 5) c56 args := Cfg.tab_p rfl rfl hn args
theorem a56 {n : Nat} (args : List AV) (h : AH) : callA (C19.tab n) 56 args h = vC (purEs h args) (C19.tab n) 56 args h := callA_eq _ _ _ _
theorem p55 {n : Nat} (hn : 6 < n) (args : List AV) (h : AH) : callA (C19.tab n) 55 args h = runH (C19.tab 6) c55 args h := (callA_h (fun _ => Cfg.tab_hp rfl _ _)).trans (Cfg.tab_h rfl rfl hn args h)
theorem p90 {n : Nat} (hn : 7 < n) (args : List AV) (h : AH) : callA (C19.tab n) 90 args h = runH (C19.tab 7) c90 args h := (callA_h (fun _ => Cfg.tab_hp rfl _ _)).trans (Cfg.tab_h rfl rfl hn args h)
theorem p49 {n : Nat} (hn : 8 < n) (args : List AV) : (C19.tab n).p 49 args = runP (C19.tab 8) c49 args := Cfg.tab_p rfl rfl hn args
theorem a49 {n : Nat} (args : List AV) (h : AH) : callA (C19.tab n) 49 args h = vC (purEs h args) (C19.tab n) 49 args h := callA_eq _ _ _ _
theorem p91 {n : Nat} (hn : 9 < n) (args : List AV) (h : AH) : callA (C19.tab n) 91 args h = runH (C19.tab 9) c91 args h := (callA_h (fun _ => Cfg.tab_hp rfl _ _)).trans (Cfg.tab_h rfl rfl hn args h)
theorem p99 {n : Nat} (hn : 10 < n) (args : List AV) (h : AH) : callA (C19.tab n) 99 args h = deleteH 5 args h := (callA_h (fun _ => Cfg.tab_xp rfl _ _)).trans (Cfg.tab_x rfl rfl hn args h)
theorem p92 {n : Nat} (hn : 11 < n) (args : List AV) (h : AH) : callA (C19.tab n) 92 args h = runH (C19.tab 11) c92 args h := (callA_h (fun _ => Cfg.tab_hp rfl _ _)).trans (Cfg.tab_h rfl rfl hn args h)
theorem p64 {n : Nat} (hn : 12 < n) (args : List AV) (h : AH) : callA (C19.tab n) 64 args h = runH (C19.tab 12) c64 args h := (callA_h (fun _ => Cfg.tab_hp rfl _ _)).trans (Cfg.tab_h rfl rfl hn args h)
theorem p67 {n : Nat} (hn : 13 < n) (args : List AV) (h : AH) : callA (C19.tab n) 67 args h = runH (C19.tab 13) c67 args h := (callA_h (fun _ => Cfg.tab_hp rfl _ _)).trans (Cfg.tab_h rfl rfl hn args h)
theorem p68 {n : Nat} (hn : 14 < n) (args : List AV) (h : AH) : callA (C19.tab n) 68 args h = runH (C19.tab 14) c68 args h := (callA_h (fun _ => Cfg.tab_hp rfl _ _)).trans (Cfg.tab_h rfl rfl hn args h)
theorem p70 {n : Nat} (hn : 15 < n) (args : List AV) (h : AH) : callA (C19.tab n) 70 args h = deleteH 2 args h := (callA_h (fun _ => Cfg.tab_xp rfl _ _)).trans (Cfg.tab_x rfl rfl hn args h)
theorem p71 {n : Nat} (hn : 16 < n) (args : List AV) (h : AH) : callA (C19.tab n) 71 args h = cloneH 2 24 args h := (callA_h (fun _ => Cfg.tab_xp rfl _ _)).trans (Cfg.tab_x rfl rfl hn args h)
theorem p69 {n : Nat} (hn : 17 < n) (args : List AV) (h : AH) : callA (C19.tab n) 69 args h = runH (C19.tab 17) c69 args h := (callA_h (fun _ => Cfg.tab_hp rfl _ _)).trans (Cfg.tab_h rfl rfl hn args h)
theorem p74 {n : Nat} (hn : 18 < n) (args : List AV) (h : AH) : callA (C19.tab n) 74 args h = runH (C19.tab 18) c74 args h := (callA_h (fun _ => Cfg.tab_hp rfl _ _)).trans (Cfg.tab_h rfl rfl hn args h)
theorem p40 {n : Nat} (hn : 19 < n) (args : List AV) (h : AH) : callA (C19.tab n) 40 args h = cloneH 1 8 args h := (callA_h (fun _ => Cfg.tab_xp rfl _ _)).trans (Cfg.tab_x rfl rfl hn args h)
theorem q40 {n : Nat} (hn : 19 < n) (args : List AV) (h : AH) : (C19.tab n).h 40 args h = cloneH 1 8 args h := Cfg.tab_x rfl rfl hn args h
theorem p111 {n : Nat} (hn : 20 < n) (args : List AV) : (C19.tab n).p 111 args = runP (C19.tab 20) c111 args := Cfg.tab_p rfl rfl hn args
theorem a111 {n : Nat} (args : List AV) (h : AH) : callA (C19.tab n) 111 args h = vC (purEs h args) (C19.tab n) 111 args h := callA_eq _ _ _ _
theorem p105 {n : Nat} (hn : 21 < n) (args : List AV) : (C19.tab n).p 105 args = runP (C19.tab 21) c105 args := Cfg.tab_p rfl rfl hn args
theorem a105 {n : Nat} (args : List AV) (h : AH) : callA (C19.tab n) 105 args h = vC (purEs h args) (C19.tab n) 105 args h := callA_eq _ _ _ _
theorem p106 {n : Nat} (hn : 22 < n) (args : List AV) : (C19.tab n).p 106 args = runP (C19.tab 22) c106 args := Cfg.tab_p rfl rfl hn args
theorem a106 {n : Nat} (args : List AV) (h : AH) : callA (C19.tab n) 106 args h = vC (purEs h args) (C19.tab n) 106 args h := callA_eq _ _ _ _
theorem p100 {n : Nat} (hn : 23 < n) (args : List AV) : (C19.tab n).p 100 args = runP (C19.tab 23) c100 args := Cfg.tab_p rfl rfl hn args
theorem a100 {n : Nat} (args : List AV) (h : AH) : callA (C19.tab n) 100 args h = vC (purEs h args) (C19.tab n) 100 args h := callA_eq _ _ _ _
theorem p101 {n : Nat} (hn : 24 < n) (args : List AV) (h : AH) : callA (C19.tab n) 101 args h = insertH 1 8 args h := (callA_h (fun _ => Cfg.tab_xp rfl _ _)).trans (Cfg.tab_x rfl rfl hn args h)
theorem p93 {n : Nat} (hn : 25 < n) (args : List AV) (h : AH) : callA (C19.tab n) 93 args h = runH (C19.tab 25) c93 args h := (callA_h (fun _ => Cfg.tab_hp rfl _ _)).trans (Cfg.tab_h rfl rfl hn args h)
theorem p72 {n : Nat} (hn : 26 < n) (args : List AV) (h : AH) : callA (C19.tab n) 72 args h = runH (C19.tab 26) c72 args h := (callA_h (fun _ => Cfg.tab_hp rfl _ _)).trans (Cfg.tab_h rfl rfl hn args h)
theorem p73 {n : Nat} (hn : 27 < n) (args : List AV) (h : AH) : callA (C19.tab n) 73 args h = runH (C19.tab 27) c73 args h := (callA_h (fun _ => Cfg.tab_hp rfl _ _)).trans (Cfg.tab_h rfl rfl hn args h)
theorem p53 {n : Nat} (hn : 28 < n) (args : List AV) : (C19.tab n).p 53 args = runP (C19.tab 28) c53 args := Cfg.tab_p rfl rfl hn args
theorem a53 {n : Nat} (args : List AV) (h : AH) : callA (C19.tab n) 53 args h = vC (purEs h args) (C19.tab n) 53 args h := callA_eq _ _ _ _
theorem p76 {n : Nat} (hn : 29 < n) (args : List AV) (h : AH) : callA (C19.tab n) 76 args h = runH (C19.tab 29) c76 args h := (callA_h (fun _ => Cfg.tab_hp rfl _ _)).trans (Cfg.tab_h rfl rfl hn args h)
theorem p89 {n : Nat} (hn : 30 < n) (args : List AV) (h : AH) : callA (C19.tab n) 89 args h = runH (C19.tab 30) c89 args h := (callA_h (fun _ => Cfg.tab_hp rfl _ _)).trans (Cfg.tab_h rfl rfl hn args h)
theorem p94 {n : Nat} (hn : 31 < n) (args : List AV) (h : AH) : callA (C19.tab n) 94 args h = runH (C19.tab 31) c94 args h := (callA_h (fun _ => Cfg.tab_hp rfl _ _)).trans (Cfg.tab_h rfl rfl hn args h)
theorem p75 {n : Nat} (hn : 32 < n) (args : List AV) (h : AH) : callA (C19.tab n) 75 args h = runH (C19.tab 32) c75 args h := (callA_h (fun _ => Cfg.tab_hp rfl _ _)).trans (Cfg.tab_h rfl rfl hn args h)
theorem p39 {n : Nat} (hn : 33 < n) (args : List AV) : (C19.tab n).p 39 args = runP (C19.tab 33) c39 args := Cfg.tab_p rfl rfl hn args
theorem a39 {n : Nat} (args : List AV) (h : AH) : callA (C19.tab n) 39 args h = vC (purEs h args) (C19.tab n) 39 args h := callA_eq _ _ _ _
theorem q41 {n : Nat} (hn : 34 < n) (args : List AV) (h : AH) : (C19.tab n).h 41 args h = cloneH 1 16 args h := Cfg.tab_x rfl rfl hn args h
theorem p42 {n : Nat} (hn : 35 < n) (args : List AV) (h : AH) : callA (C19.tab n) 42 args h = cloneH 5 88 args h := (callA_h (fun _ => Cfg.tab_xp rfl _ _)).trans (Cfg.tab_x rfl rfl hn args h)
theorem p43 {n : Nat} (hn : 36 < n) (args : List AV) : (C19.tab n).p 43 args = runP (C19.tab 36) c43 args := Cfg.tab_p rfl rfl hn args
theorem a43 {n : Nat} (args : List AV) (h : AH) : callA (C19.tab n) 43 args h = vC (purEs h args) (C19.tab n) 43 args h := callA_eq _ _ _ _
theorem p12 {n : Nat} (hn : 37 < n) (args : List AV) : (C19.tab n).p 12 args = runP (C19.tab 37) c12 args := Cfg.tab_p rfl rfl hn args
theorem a12 {n : Nat} (args : List AV) (h : AH) : callA (C19.tab n) 12 args h = vC (purEs h args) (C19.tab n) 12 args h := callA_eq _ _ _ _
theorem p45 {n : Nat} (hn : 38 < n) (args : List AV) : (C19.tab n).p 45 args = runP (C19.tab 38) c45 args := Cfg.tab_p rfl rfl hn args
theorem a45 {n : Nat} (args : List AV) (h : AH) : callA (C19.tab n) 45 args h = vC (purEs h args) (C19.tab n) 45 args h := callA_eq _ _ _ _
theorem p15 {n : Nat} (hn : 39 < n) (args : List AV) : (C19.tab n).p 15 args = runP (C19.tab 39) c15 args := Cfg.tab_p rfl rfl hn args
theorem a15 {n : Nat} (args : List AV) (h : AH) : callA (C19.tab n) 15 args h = vC (purEs h args) (C19.tab n) 15 args h := callA_eq _ _ _ _
theorem p22 {n : Nat} (hn : 40 < n) (args : List AV) : (C19.tab n).p 22 args = runP (C19.tab 40) c22 args := Cfg.tab_p rfl rfl hn args
theorem a22 {n : Nat} (args : List AV) (h : AH) : callA (C19.tab n) 22 args h = vC (purEs h args) (C19.tab n) 22 args h := callA_eq _ _ _ _
theorem p79 {n : Nat} (hn : 41 < n) (args : List AV) (h : AH) : callA (C19.tab n) 79 args h = runH (C19.tab 41) c79 args h := (callA_h (fun _ => Cfg.tab_hp rfl _ _)).trans (Cfg.tab_h rfl rfl hn args h)
theorem p51 {n : Nat} (hn : 42 < n) (args : List AV) (h : AH) : callA (C19.tab n) 51 args h = runH (C19.tab 42) c51 args h := (callA_h (fun _ => Cfg.tab_hp rfl _ _)).trans (Cfg.tab_h rfl rfl hn args h)
theorem p24 {n : Nat} (hn : 43 < n) (args : List AV) : (C19.tab n).p 24 args = runP (C19.tab 43) c24 args := Cfg.tab_p rfl rfl hn args
theorem a24 {n : Nat} (args : List AV) (h : AH) : callA (C19.tab n) 24 args h = vC (purEs h args) (C19.tab n) 24 args h := callA_eq _ _ _ _
theorem p66 {n : Nat} (hn : 44 < n) (args : List AV) (h : AH) : callA (C19.tab n) 66 args h = runH (C19.tab 44) c66 args h := (callA_h (fun _ => Cfg.tab_hp rfl _ _)).trans (Cfg.tab_h rfl rfl hn args h)
theorem p54 {n : Nat} (hn : 45 < n) (args : List AV) (h : AH) : callA (C19.tab n) 54 args h = runH (C19.tab 45) c54 args h := (callA_h (fun _ => Cfg.tab_hp rfl _ _)).trans (Cfg.tab_h rfl rfl hn args h)
theorem p26 {n : Nat} (hn : 46 < n) (args : List AV) : (C19.tab n).p 26 args = runP (C19.tab 46) c26 args := Cfg.tab_p rfl rfl hn args
theorem a26 {n : Nat} (args : List AV) (h : AH) : callA (C19.tab n) 26 args h = vC (purEs h args) (C19.tab n) 26 args h := callA_eq _ _ _ _
theorem p78 {n : Nat} (hn : 47 < n) (args : List AV) : (C19.tab n).p 78 args = runP (C19.tab 47) c78 args := Cfg.tab_p rfl rfl hn args
theorem a78 {n : Nat} (args : List AV) (h : AH) : callA (C19.tab n) 78 args h = vC (purEs h args) (C19.tab n) 78 args h := callA_eq _ _ _ _
theorem p48 {n : Nat} (hn : 48 < n) (args : List AV) : (C19.tab n).p 48 args = runP (C19.tab 48) c48 args := Cfg.tab_p rfl rfl hn args
theorem a48 {n : Nat} (args : List AV) (h : AH) : callA (C19.tab n) 48 args h = vC (purEs h args) (C19.tab n) 48 args h := callA_eq _ _ _ _
theorem p35 {n : Nat} (hn : 49 < n) (args : List AV) : (C19.tab n).p 35 args = runP (C19.tab 49) c35 args := Cfg.tab_p rfl rfl hn args
theorem a35 {n : Nat} (args : List AV) (h : AH) : callA (C19.tab n) 35 args h = vC (purEs h args) (C19.tab n) 35 args h := callA_eq _ _ _ _
theorem p36 {n : Nat} (hn : 50 < n) (args : List AV) : (C19.tab n).p 36 args = runP (C19.tab 50) c36 args := Cfg.tab_p rfl rfl hn args
theorem a36 {n : Nat} (args : List AV) (h : AH) : callA (C19.tab n) 36 args h = vC (purEs h args) (C19.tab n) 36 args h := callA_eq _ _ _ _
theorem p63 {n : Nat} (hn : 51 < n) (args : List AV) : (C19.tab n).p 63 args = runP (C19.tab 51) c63 args := Cfg.tab_p rfl rfl hn args
theorem a63 {n : Nat} (args : List AV) (h : AH) : callA (C19.tab n) 63 args h = vC (purEs h args) (C19.tab n) 63 args h := callA_eq _ _ _ _
theorem p37 {n : Nat} (hn : 52 < n) (args : List AV) : (C19.tab n).p 37 args = runP (C19.tab 52) c37 args := Cfg.tab_p rfl rfl hn args
theorem a37 {n : Nat} (args : List AV) (h : AH) : callA (C19.tab n) 37 args h = vC (purEs h args) (C19.tab n) 37 args h := callA_eq _ _ _ _
theorem p38 {n : Nat} (hn : 53 < n) (args : List AV) : (C19.tab n).p 38 args = runP (C19.tab 53) c38 args := Cfg.tab_p rfl rfl hn args
theorem a38 {n : Nat} (args : List AV) (h : AH) : callA (C19.tab n) 38 args h = vC (purEs h args) (C19.tab n) 38 args h := callA_eq _ _ _ _
theorem p10 {n : Nat} (hn : 54 < n) (args : List AV) : (C19.tab n).p 10 args = runP (C19.tab 54) c10 args := Cfg.tab_p rfl rfl hn args
theorem a10 {n : Nat} (args : List AV) (h : AH) : callA (C19.tab n) 10 args h = vC (purEs h args) (C19.tab n) 10 args h := callA_eq _ _ _ _
theorem p95 {n : Nat} (hn : 55 < n) (args : List AV) : (C19.tab n).p 95 args = runP (C19.tab 55) c95 args := Cfg.tab_p rfl rfl hn args
theorem a95 {n : Nat} (args : List AV) (h : AH) : callA (C19.tab n) 95 args h = vC (purEs h args) (C19.tab n) 95 args h := callA_eq _ _ _ _
theorem p77 {n : Nat} (hn : 56 < n) (args : List AV) : (C19.tab n).p 77 args = runP (C19.tab 56) c77 args := Cfg.tab_p rfl rfl hn args
theorem a77 {n : Nat} (args : List AV) (h : AH) : callA (C19.tab n) 77 args h = vC (purEs h args) (C19.tab n) 77 args h := callA_eq _ _ _ _
theorem p44 {n : Nat} (hn : 57 < n) (args : List AV) : (C19.tab n).p 44 args = runP (C19.tab 57) c44 args := Cfg.tab_p rfl rfl hn args
theorem a44 {n : Nat} (args : List AV) (h : AH) : callA (C19.tab n) 44 args h = vC (purEs h args) (C19.tab n) 44 args h := callA_eq _ _ _ _
theorem p14 {n : Nat} (hn : 59 < n) (args : List AV) : (C19.tab n).p 14 args = runP (C19.tab 59) c14 args := Cfg.tab_p rfl rfl hn args
theorem a14 {n : Nat} (args : List AV) (h : AH) : callA (C19.tab n) 14 args h = vC (purEs h args) (C19.tab n) 14 args h := callA_eq _ _ _ _
theorem p3 {n : Nat} (hn : 60 < n) (args : List AV) : (C19.tab n).p 3 args = runP (C19.tab 60) c3 args := Cfg.tab_p rfl rfl hn args
theorem a3 {n : Nat} (args : List AV) (h : AH) : callA (C19.tab n) 3 args h = vC (purEs h args) (C19.tab n) 3 args h := callA_eq _ _ _ _
theorem p16 {n : Nat} (hn : 61 < n) (args : List AV) (h : AH) : callA (C19.tab n) 16 args h = runH (C19.tab 61) c16 args h := (callA_h (fun _ => Cfg.tab_hp rfl _ _)).trans (Cfg.tab_h rfl rfl hn args h)
theorem p46 {n : Nat} (hn : 62 < n) (args : List AV) : (C19.tab n).p 46 args = runP (C19.tab 62) c46 args := Cfg.tab_p rfl rfl hn args
theorem a46 {n : Nat} (args : List AV) (h : AH) : callA (C19.tab n) 46 args h = vC (purEs h args) (C19.tab n) 46 args h := callA_eq _ _ _ _
theorem p47 {n : Nat} (hn : 63 < n) (args : List AV) (h : AH) : callA (C19.tab n) 47 args h = runH (C19.tab 63) c47 args h := (callA_h (fun _ => Cfg.tab_hp rfl _ _)).trans (Cfg.tab_h rfl rfl hn args h)
theorem p17 {n : Nat} (hn : 64 < n) (args : List AV) (h : AH) : callA (C19.tab n) 17 args h = runH (C19.tab 64) c17 args h := (callA_h (fun _ => Cfg.tab_hp rfl _ _)).trans (Cfg.tab_h rfl rfl hn args h)
theorem p18 {n : Nat} (hn : 65 < n) (args : List AV) (h : AH) : callA (C19.tab n) 18 args h = runH (C19.tab 65) c18 args h := (callA_h (fun _ => Cfg.tab_hp rfl _ _)).trans (Cfg.tab_h rfl rfl hn args h)
theorem a4 {n : Nat} (args : List AV) (h : AH) : callA (C19.tab n) 4 args h = vC (purEs h args) (C19.tab n) 4 args h := callA_eq _ _ _ _
theorem p20 {n : Nat} (hn : 67 < n) (args : List AV) : (C19.tab n).p 20 args = runP (C19.tab 67) c20 args := Cfg.tab_p rfl rfl hn args
theorem a20 {n : Nat} (args : List AV) (h : AH) : callA (C19.tab n) 20 args h = vC (purEs h args) (C19.tab n) 20 args h := callA_eq _ _ _ _
theorem p32 {n : Nat} (hn : 68 < n) (args : List AV) : (C19.tab n).p 32 args = runP (C19.tab 68) c32 args := Cfg.tab_p rfl rfl hn args
theorem a32 {n : Nat} (args : List AV) (h : AH) : callA (C19.tab n) 32 args h = vC (purEs h args) (C19.tab n) 32 args h := callA_eq _ _ _ _
theorem p19 {n : Nat} (hn : 69 < n) (args : List AV) (h : AH) : callA (C19.tab n) 19 args h = runH (C19.tab 69) c19 args h := (callA_h (fun _ => Cfg.tab_hp rfl _ _)).trans (Cfg.tab_h rfl rfl hn args h)
theorem p50 {n : Nat} (hn : 70 < n) (args : List AV) : (C19.tab n).p 50 args = runP (C19.tab 70) c50 args := Cfg.tab_p rfl rfl hn args
theorem a50 {n : Nat} (args : List AV) (h : AH) : callA (C19.tab n) 50 args h = vC (purEs h args) (C19.tab n) 50 args h := callA_eq _ _ _ _
theorem p21 {n : Nat} (hn : 71 < n) (args : List AV) : (C19.tab n).p 21 args = runP (C19.tab 71) c21 args := Cfg.tab_p rfl rfl hn args
theorem a21 {n : Nat} (args : List AV) (h : AH) : callA (C19.tab n) 21 args h = vC (purEs h args) (C19.tab n) 21 args h := callA_eq _ _ _ _
theorem p23 {n : Nat} (hn : 72 < n) (args : List AV) : (C19.tab n).p 23 args = runP (C19.tab 72) c23 args := Cfg.tab_p rfl rfl hn args
theorem a23 {n : Nat} (args : List AV) (h : AH) : callA (C19.tab n) 23 args h = vC (purEs h args) (C19.tab n) 23 args h := callA_eq _ _ _ _
theorem p25 {n : Nat} (hn : 73 < n) (args : List AV) : (C19.tab n).p 25 args = runP (C19.tab 73) c25 args := Cfg.tab_p rfl rfl hn args
theorem a25 {n : Nat} (args : List AV) (h : AH) : callA (C19.tab n) 25 args h = vC (purEs h args) (C19.tab n) 25 args h := callA_eq _ _ _ _
theorem p82 {n : Nat} (hn : 74 < n) (args : List AV) : (C19.tab n).p 82 args = runP (C19.tab 74) c82 args := Cfg.tab_p rfl rfl hn args
theorem a82 {n : Nat} (args : List AV) (h : AH) : callA (C19.tab n) 82 args h = vC (purEs h args) (C19.tab n) 82 args h := callA_eq _ _ _ _
theorem p57 {n : Nat} (hn : 75 < n) (args : List AV) : (C19.tab n).p 57 args = runP (C19.tab 75) c57 args := Cfg.tab_p rfl rfl hn args
theorem a57 {n : Nat} (args : List AV) (h : AH) : callA (C19.tab n) 57 args h = vC (purEs h args) (C19.tab n) 57 args h := callA_eq _ _ _ _
theorem p27 {n : Nat} (hn : 76 < n) (args : List AV) : (C19.tab n).p 27 args = runP (C19.tab 76) c27 args := Cfg.tab_p rfl rfl hn args
theorem a27 {n : Nat} (args : List AV) (h : AH) : callA (C19.tab n) 27 args h = vC (purEs h args) (C19.tab n) 27 args h := callA_eq _ _ _ _
theorem p83 {n : Nat} (hn : 77 < n) (args : List AV) : (C19.tab n).p 83 args = runP (C19.tab 77) c83 args := Cfg.tab_p rfl rfl hn args
theorem a83 {n : Nat} (args : List AV) (h : AH) : callA (C19.tab n) 83 args h = vC (purEs h args) (C19.tab n) 83 args h := callA_eq _ _ _ _
theorem p84 {n : Nat} (hn : 78 < n) (args : List AV) : (C19.tab n).p 84 args = runP (C19.tab 78) c84 args := Cfg.tab_p rfl rfl hn args
theorem a84 {n : Nat} (args : List AV) (h : AH) : callA (C19.tab n) 84 args h = vC (purEs h args) (C19.tab n) 84 args h := callA_eq _ _ _ _
theorem p85 {n : Nat} (hn : 79 < n) (args : List AV) : (C19.tab n).p 85 args = runP (C19.tab 79) c85 args := Cfg.tab_p rfl rfl hn args
theorem a85 {n : Nat} (args : List AV) (h : AH) : callA (C19.tab n) 85 args h = vC (purEs h args) (C19.tab n) 85 args h := callA_eq _ _ _ _
theorem p86 {n : Nat} (hn : 80 < n) (args : List AV) : (C19.tab n).p 86 args = runP (C19.tab 80) c86 args := Cfg.tab_p rfl rfl hn args
theorem a86 {n : Nat} (args : List AV) (h : AH) : callA (C19.tab n) 86 args h = vC (purEs h args) (C19.tab n) 86 args h := callA_eq _ _ _ _
theorem p58 {n : Nat} (hn : 81 < n) (args : List AV) : (C19.tab n).p 58 args = runP (C19.tab 81) c58 args := Cfg.tab_p rfl rfl hn args
theorem a58 {n : Nat} (args : List AV) (h : AH) : callA (C19.tab n) 58 args h = vC (purEs h args) (C19.tab n) 58 args h := callA_eq _ _ _ _
theorem p87 {n : Nat} (hn : 82 < n) (args : List AV) : (C19.tab n).p 87 args = runP (C19.tab 82) c87 args := Cfg.tab_p rfl rfl hn args
theorem a87 {n : Nat} (args : List AV) (h : AH) : callA (C19.tab n) 87 args h = vC (purEs h args) (C19.tab n) 87 args h := callA_eq _ _ _ _
theorem p88 {n : Nat} (hn : 83 < n) (args : List AV) (h : AH) : callA (C19.tab n) 88 args h = runH (C19.tab 83) c88 args h := (callA_h (fun _ => Cfg.tab_hp rfl _ _)).trans (Cfg.tab_h rfl rfl hn args h)
theorem p59 {n : Nat} (hn : 84 < n) (args : List AV) : (C19.tab n).p 59 args = runP (C19.tab 84) c59 args := Cfg.tab_p rfl rfl hn args
theorem a59 {n : Nat} (args : List AV) (h : AH) : callA (C19.tab n) 59 args h = vC (purEs h args) (C19.tab n) 59 args h := callA_eq _ _ _ _
theorem p60 {n : Nat} (hn : 85 < n) (args : List AV) : (C19.tab n).p 60 args = runP (C19.tab 85) c60 args := Cfg.tab_p rfl rfl hn args
theorem a60 {n : Nat} (args : List AV) (h : AH) : callA (C19.tab n) 60 args h = vC (purEs h args) (C19.tab n) 60 args h := callA_eq _ _ _ _
theorem p61 {n : Nat} (hn : 86 < n) (args : List AV) : (C19.tab n).p 61 args = runP (C19.tab 86) c61 args := Cfg.tab_p rfl rfl hn args
theorem a61 {n : Nat} (args : List AV) (h : AH) : callA (C19.tab n) 61 args h = vC (purEs h args) (C19.tab n) 61 args h := callA_eq _ _ _ _
theorem p28 {n : Nat} (hn : 87 < n) (args : List AV) : (C19.tab n).p 28 args = runP (C19.tab 87) c28 args := Cfg.tab_p rfl rfl hn args
theorem a28 {n : Nat} (args : List AV) (h : AH) : callA (C19.tab n) 28 args h = vC (purEs h args) (C19.tab n) 28 args h := callA_eq _ _ _ _
theorem p5 {n : Nat} (hn : 88 < n) (args : List AV) : (C19.tab n).p 5 args = runP (C19.tab 88) c5 args := Cfg.tab_p rfl rfl hn args
theorem a5 {n : Nat} (args : List AV) (h : AH) : callA (C19.tab n) 5 args h = vC (purEs h args) (C19.tab n) 5 args h := callA_eq _ _ _ _
end Go.Proofs.Ytgefdmkmobaefaa
