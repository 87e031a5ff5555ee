/-
  The table of the functions, for the abstract machine.
-/
import Derived.Test.YtjblbmcgpdmahaaLit16
import Derived.Test.YtjblbmcgpdmahaaAmTb
import Derived.Test.YtjblbmcgpdmahaaAmDel
import Derived.Test.YtjblbmcgpdmahaaPr16
set_option linter.unusedSimpArgs false
set_option linter.unusedVariables false
namespace Go.Proofs.Ytjblbmcgpdmahaa
open Go.Am Go.Am.Nm

theorem hmix : Try.prog.follows .mixedOrders = true := by kernel_rfl
theorem okx42 : okF Try.prog 42 (cloneF 1 1 (.int .u8 0)) = true := by kernel_rfl
theorem okx43 : okF Try.prog 43 (cloneF 2 32 (.agg [.int .i64 0, .lst true []])) = true := by kernel_rfl
theorem okx45 : okF Try.prog 45 (cloneF 1 8 (.int .i64 0)) = true := by kernel_rfl
theorem okz47 : ((Try.prog.info? 3).getD default).size = 1 := by kernel_rfl
theorem okx47 : DelL Try.prog 47 22 3 4 3 0 ((Try.prog.info? 3).getD default) (((Try.prog.info? 3).getD default).zero.getD .nilFunc) := ⟨hmix, ⟨Try.f47.name, Try.f47.targs, by kernel_rfl, by kernel_rfl⟩, by kernel_rfl, by kernel_rfl, by kernel_rfl, by kernel_rfl, by kernel_rfl, by kernel_rfl, by kernel_rfl, by kernel_rfl, by rw [okz47]; decide⟩
theorem okx48 : InsOK Try.prog 48 22 3 4 3 0 62 63 1 8 := ⟨hmix, ⟨Try.f48.name, Try.f48.targs, by kernel_rfl, by kernel_rfl⟩, ⟨Try.f62, by kernel_rfl, by kernel_rfl, by kernel_rfl, by kernel_rfl, by kernel_rfl⟩, by kernel_rfl, by kernel_rfl, by kernel_rfl, by kernel_rfl, by kernel_rfl, by decide⟩

/-- What is known of each function. -/
noncomputable def kd16 : FuncId → Kd
  | 12 => .y (Go.Am.Pr.peersY (Pr.CPr.tab Pr.NPr) 25)
  | 41 => .p c41
  | 42 => .x (cloneH 1 1)
  | 43 => .x (cloneH 2 32)
  | 14 => .p c14
  | 23 => .p c23
  | 55 => .p c55
  | 65 => .p c65
  | 56 => .p c56
  | 36 => .p c36
  | 16 => .p c16
  | 18 => .p c18
  | 20 => .p c20
  | 22 => .p c22
  | 21 => .p c21
  | 50 => .p c50
  | 29 => .p c29
  | 30 => .p c30
  | 45 => .x (cloneH 1 8)
  | 67 => .p c67
  | 60 => .p c60
  | 61 => .p c61
  | 46 => .h c46
  | 47 => .x (deleteH 1)
  | 48 => .x (insertH 1 8)
  | 27 => .p c27
  | 64 => .p c64
  | 51 => .p c51
  | 52 => .h c52
  | 31 => .p c31
  | 38 => .p c38
  | 9 => .p c9
  | 35 => .p c35
  | 39 => .p c39
  | 10 => .p c10
  | 11 => .p c11
  | 26 => .p c26
  | 13 => .p c13
  | 15 => .p c15
  | 24 => .p c24
  | 57 => .p c57
  | 66 => .p c66
  | 59 => .p c59
  | 44 => .p c44
  | 17 => .p c17
  | 19 => .p c19
  | 25 => .p c25
  | 3 => .p c3
  | 49 => .p c49
  | 28 => .p c28
  | 32 => .h c32
  | 4 => .p c4
  | 33 => .p c33
  | 53 => .p c53
  | 54 => .p c54
  | 34 => .p c34
  | 5 => .p c5
  | 6 => .p c6
  | 7 => .p c7
  | 37 => .p c37
  | 8 => .p c8
  | _ => .no
def pos16 : FuncId → Nat
  | 12 => 0
  | 41 => 1
  | 42 => 2
  | 43 => 3
  | 14 => 4
  | 23 => 5
  | 55 => 6
  | 65 => 7
  | 56 => 8
  | 36 => 9
  | 16 => 10
  | 18 => 11
  | 20 => 12
  | 22 => 13
  | 21 => 14
  | 50 => 15
  | 29 => 16
  | 30 => 17
  | 45 => 18
  | 67 => 19
  | 60 => 20
  | 61 => 21
  | 46 => 22
  | 47 => 23
  | 48 => 24
  | 27 => 25
  | 64 => 26
  | 51 => 27
  | 52 => 28
  | 31 => 29
  | 38 => 30
  | 9 => 31
  | 35 => 32
  | 39 => 33
  | 10 => 34
  | 11 => 35
  | 26 => 36
  | 13 => 37
  | 15 => 38
  | 24 => 39
  | 57 => 40
  | 66 => 41
  | 59 => 42
  | 44 => 43
  | 17 => 44
  | 19 => 45
  | 25 => 46
  | 3 => 47
  | 49 => 48
  | 28 => 49
  | 32 => 50
  | 4 => 51
  | 33 => 52
  | 53 => 53
  | 54 => 54
  | 34 => 55
  | 5 => 56
  | 6 => 57
  | 7 => 58
  | 37 => 59
  | 8 => 60
  | _ => 0
noncomputable def C16 : Cfg := ⟨kd16, pos16⟩
abbrev N16 : Nat := 61
theorem kd16_ok : ∀ f, (C16.kd f).ok Try.prog f := by
  intro f
  show (kd16 f).ok Try.prog f
  unfold kd16
  split
  · exact peers_ok
  · exact ok41
  · exact snd_clone hmix okx42
  · exact snd_clone hmix okx43
  · exact ok14
  · exact ok23
  · exact ok55
  · exact ok65
  · exact ok56
  · exact ok36
  · exact ok16
  · exact ok18
  · exact ok20
  · exact ok22
  · exact ok21
  · exact ok50
  · exact ok29
  · exact ok30
  · exact snd_clone hmix okx45
  · exact ok67
  · exact ok60
  · exact ok61
  · exact ok46
  · exact fun args h r h' hr => delete_snd okx47 (by rw [okz47]; exact hr)
  · exact snd_insert okx48
  · exact ok27
  · exact ok64
  · exact ok51
  · exact ok52
  · exact ok31
  · exact ok38
  · exact ok9
  · exact ok35
  · exact ok39
  · exact ok10
  · exact ok11
  · exact ok26
  · exact ok13
  · exact ok15
  · exact ok24
  · exact ok57
  · exact ok66
  · exact ok59
  · exact ok44
  · exact ok17
  · exact ok19
  · exact ok25
  · exact ok3
  · exact ok49
  · exact ok28
  · exact ok32
  · exact ok4
  · exact ok33
  · exact ok53
  · exact ok54
  · exact ok34
  · exact ok5
  · exact ok6
  · exact ok7
  · exact ok37
  · exact ok8
  · trivial
theorem tab16_ok (n : Nat) : TabOK Try.prog (C16.tab n) := Cfg.tab_ok hmix kd16_ok n

theorem p12 {n : Nat} (hn : 0 < n) (args : List AV) : (C16.tab n).p 12 args = (Go.Am.Pr.peersY (Pr.CPr.tab Pr.NPr) 25) args := Cfg.tab_y rfl rfl hn args
theorem a12 {n : Nat} (args : List AV) (h : AH) : callA (C16.tab n) 12 args h = vC (purEs h args) (C16.tab n) 12 args h := callA_eq _ _ _ _
theorem p41 {n : Nat} (hn : 1 < n) (args : List AV) : (C16.tab n).p 41 args = runP (C16.tab 1) c41 args := Cfg.tab_p rfl rfl hn args
theorem a41 {n : Nat} (args : List AV) (h : AH) : callA (C16.tab n) 41 args h = vC (purEs h args) (C16.tab n) 41 args h := callA_eq _ _ _ _
theorem p42 {n : Nat} (hn : 2 < n) (args : List AV) (h : AH) : callA (C16.tab n) 42 args h = cloneH 1 1 args h := (callA_h (fun _ => Cfg.tab_xp rfl _ _)).trans (Cfg.tab_x rfl rfl hn args h)
theorem q42 {n : Nat} (hn : 2 < n) (args : List AV) (h : AH) : (C16.tab n).h 42 args h = cloneH 1 1 args h := Cfg.tab_x rfl rfl hn args h
theorem p43 {n : Nat} (hn : 3 < n) (args : List AV) (h : AH) : callA (C16.tab n) 43 args h = cloneH 2 32 args h := (callA_h (fun _ => Cfg.tab_xp rfl _ _)).trans (Cfg.tab_x rfl rfl hn args h)
theorem q43 {n : Nat} (hn : 3 < n) (args : List AV) (h : AH) : (C16.tab n).h 43 args h = cloneH 2 32 args h := Cfg.tab_x rfl rfl hn args h
theorem p14 {n : Nat} (hn : 4 < n) (args : List AV) : (C16.tab n).p 14 args = runP (C16.tab 4) c14 args := Cfg.tab_p rfl rfl hn args
theorem a14 {n : Nat} (args : List AV) (h : AH) : callA (C16.tab n) 14 args h = vC (purEs h args) (C16.tab n) 14 args h := callA_eq _ _ _ _
theorem p23 {n : Nat} (hn : 5 < n) (args : List AV) : (C16.tab n).p 23 args = runP (C16.tab 5) c23 args := Cfg.tab_p rfl rfl hn args
theorem a23 {n : Nat} (args : List AV) (h : AH) : callA (C16.tab n) 23 args h = vC (purEs h args) (C16.tab n) 23 args h := callA_eq _ _ _ _
theorem p55 {n : Nat} (hn : 6 < n) (args : List AV) : (C16.tab n).p 55 args = runP (C16.tab 6) c55 args := Cfg.tab_p rfl rfl hn args
theorem a55 {n : Nat} (args : List AV) (h : AH) : callA (C16.tab n) 55 args h = vC (purEs h args) (C16.tab n) 55 args h := callA_eq _ _ _ _
theorem p65 {n : Nat} (hn : 7 < n) (args : List AV) : (C16.tab n).p 65 args = runP (C16.tab 7) c65 args := Cfg.tab_p rfl rfl hn args
theorem a65 {n : Nat} (args : List AV) (h : AH) : callA (C16.tab n) 65 args h = vC (purEs h args) (C16.tab n) 65 args h := callA_eq _ _ _ _
theorem p56 {n : Nat} (hn : 8 < n) (args : List AV) : (C16.tab n).p 56 args = runP (C16.tab 8) c56 args := Cfg.tab_p rfl rfl hn args
theorem a56 {n : Nat} (args : List AV) (h : AH) : callA (C16.tab n) 56 args h = vC (purEs h args) (C16.tab n) 56 args h := callA_eq _ _ _ _
theorem p36 {n : Nat} (hn : 9 < n) (args : List AV) : (C16.tab n).p 36 args = runP (C16.tab 9) c36 args := Cfg.tab_p rfl rfl hn args
theorem a36 {n : Nat} (args : List AV) (h : AH) : callA (C16.tab n) 36 args h = vC (purEs h args) (C16.tab n) 36 args h := callA_eq _ _ _ _
theorem p16 {n : Nat} (hn : 10 < n) (args : List AV) : (C16.tab n).p 16 args = runP (C16.tab 10) c16 args := Cfg.tab_p rfl rfl hn args
theorem a16 {n : Nat} (args : List AV) (h : AH) : callA (C16.tab n) 16 args h = vC (purEs h args) (C16.tab n) 16 args h := callA_eq _ _ _ _
theorem p18 {n : Nat} (hn : 11 < n) (args : List AV) : (C16.tab n).p 18 args = runP (C16.tab 11) c18 args := Cfg.tab_p rfl rfl hn args
theorem a18 {n : Nat} (args : List AV) (h : AH) : callA (C16.tab n) 18 args h = vC (purEs h args) (C16.tab n) 18 args h := callA_eq _ _ _ _
theorem p20 {n : Nat} (hn : 12 < n) (args : List AV) : (C16.tab n).p 20 args = runP (C16.tab 12) c20 args := Cfg.tab_p rfl rfl hn args
theorem a20 {n : Nat} (args : List AV) (h : AH) : callA (C16.tab n) 20 args h = vC (purEs h args) (C16.tab n) 20 args h := callA_eq _ _ _ _
theorem p22 {n : Nat} (hn : 13 < n) (args : List AV) : (C16.tab n).p 22 args = runP (C16.tab 13) c22 args := Cfg.tab_p rfl rfl hn args
theorem a22 {n : Nat} (args : List AV) (h : AH) : callA (C16.tab n) 22 args h = vC (purEs h args) (C16.tab n) 22 args h := callA_eq _ _ _ _
theorem p21 {n : Nat} (hn : 14 < n) (args : List AV) : (C16.tab n).p 21 args = runP (C16.tab 14) c21 args := Cfg.tab_p rfl rfl hn args
theorem a21 {n : Nat} (args : List AV) (h : AH) : callA (C16.tab n) 21 args h = vC (purEs h args) (C16.tab n) 21 args h := callA_eq _ _ _ _
theorem p50 {n : Nat} (hn : 15 < n) (args : List AV) : (C16.tab n).p 50 args = runP (C16.tab 15) c50 args := Cfg.tab_p rfl rfl hn args
theorem a50 {n : Nat} (args : List AV) (h : AH) : callA (C16.tab n) 50 args h = vC (purEs h args) (C16.tab n) 50 args h := callA_eq _ _ _ _
theorem p29 {n : Nat} (hn : 16 < n) (args : List AV) : (C16.tab n).p 29 args = runP (C16.tab 16) c29 args := Cfg.tab_p rfl rfl hn args
theorem a29 {n : Nat} (args : List AV) (h : AH) : callA (C16.tab n) 29 args h = vC (purEs h args) (C16.tab n) 29 args h := callA_eq _ _ _ _
theorem p30 {n : Nat} (hn : 17 < n) (args : List AV) : (C16.tab n).p 30 args = runP (C16.tab 17) c30 args := Cfg.tab_p rfl rfl hn args
theorem a30 {n : Nat} (args : List AV) (h : AH) : callA (C16.tab n) 30 args h = vC (purEs h args) (C16.tab n) 30 args h := callA_eq _ _ _ _
theorem p45 {n : Nat} (hn : 18 < n) (args : List AV) (h : AH) : callA (C16.tab n) 45 args h = cloneH 1 8 args h := (callA_h (fun _ => Cfg.tab_xp rfl _ _)).trans (Cfg.tab_x rfl rfl hn args h)
theorem q45 {n : Nat} (hn : 18 < n) (args : List AV) (h : AH) : (C16.tab n).h 45 args h = cloneH 1 8 args h := Cfg.tab_x rfl rfl hn args h
theorem p67 {n : Nat} (hn : 19 < n) (args : List AV) : (C16.tab n).p 67 args = runP (C16.tab 19) c67 args := Cfg.tab_p rfl rfl hn args
theorem a67 {n : Nat} (args : List AV) (h : AH) : callA (C16.tab n) 67 args h = vC (purEs h args) (C16.tab n) 67 args h := callA_eq _ _ _ _
theorem p60 {n : Nat} (hn : 20 < n) (args : List AV) : (C16.tab n).p 60 args = runP (C16.tab 20) c60 args := Cfg.tab_p rfl rfl hn args
theorem a60 {n : Nat} (args : List AV) (h : AH) : callA (C16.tab n) 60 args h = vC (purEs h args) (C16.tab n) 60 args h := callA_eq _ _ _ _
theorem p61 {n : Nat} (hn : 21 < n) (args : List AV) : (C16.tab n).p 61 args = runP (C16.tab 21) c61 args := Cfg.tab_p rfl rfl hn args
theorem a61 {n : Nat} (args : List AV) (h : AH) : callA (C16.tab n) 61 args h = vC (purEs h args) (C16.tab n) 61 args h := callA_eq _ _ _ _
theorem p46 {n : Nat} (hn : 22 < n) (args : List AV) (h : AH) : callA (C16.tab n) 46 args h = runH (C16.tab 22) c46 args h := (callA_h (fun _ => Cfg.tab_hp rfl _ _)).trans (Cfg.tab_h rfl rfl hn args h)
theorem p47 {n : Nat} (hn : 23 < n) (args : List AV) (h : AH) : callA (C16.tab n) 47 args h = deleteH 1 args h := (callA_h (fun _ => Cfg.tab_xp rfl _ _)).trans (Cfg.tab_x rfl rfl hn args h)
theorem q47 {n : Nat} (hn : 23 < n) (args : List AV) (h : AH) : (C16.tab n).h 47 args h = deleteH 1 args h := Cfg.tab_x rfl rfl hn args h
theorem p48 {n : Nat} (hn : 24 < n) (args : List AV) (h : AH) : callA (C16.tab n) 48 args h = insertH 1 8 args h := (callA_h (fun _ => Cfg.tab_xp rfl _ _)).trans (Cfg.tab_x rfl rfl hn args h)
theorem q48 {n : Nat} (hn : 24 < n) (args : List AV) (h : AH) : (C16.tab n).h 48 args h = insertH 1 8 args h := Cfg.tab_x rfl rfl hn args h
theorem p27 {n : Nat} (hn : 25 < n) (args : List AV) : (C16.tab n).p 27 args = runP (C16.tab 25) c27 args := Cfg.tab_p rfl rfl hn args
theorem a27 {n : Nat} (args : List AV) (h : AH) : callA (C16.tab n) 27 args h = vC (purEs h args) (C16.tab n) 27 args h := callA_eq _ _ _ _
theorem p64 {n : Nat} (hn : 26 < n) (args : List AV) : (C16.tab n).p 64 args = runP (C16.tab 26) c64 args := Cfg.tab_p rfl rfl hn args
theorem a64 {n : Nat} (args : List AV) (h : AH) : callA (C16.tab n) 64 args h = vC (purEs h args) (C16.tab n) 64 args h := callA_eq _ _ _ _
theorem p51 {n : Nat} (hn : 27 < n) (args : List AV) : (C16.tab n).p 51 args = runP (C16.tab 27) c51 args := Cfg.tab_p rfl rfl hn args
theorem a51 {n : Nat} (args : List AV) (h : AH) : callA (C16.tab n) 51 args h = vC (purEs h args) (C16.tab n) 51 args h := callA_eq _ _ _ _
theorem p52 {n : Nat} (hn : 28 < n) (args : List AV) (h : AH) : callA (C16.tab n) 52 args h = runH (C16.tab 28) c52 args h := (callA_h (fun _ => Cfg.tab_hp rfl _ _)).trans (Cfg.tab_h rfl rfl hn args h)
theorem p31 {n : Nat} (hn : 29 < n) (args : List AV) : (C16.tab n).p 31 args = runP (C16.tab 29) c31 args := Cfg.tab_p rfl rfl hn args
theorem a31 {n : Nat} (args : List AV) (h : AH) : callA (C16.tab n) 31 args h = vC (purEs h args) (C16.tab n) 31 args h := callA_eq _ _ _ _
theorem p38 {n : Nat} (hn : 30 < n) (args : List AV) : (C16.tab n).p 38 args = runP (C16.tab 30) c38 args := Cfg.tab_p rfl rfl hn args
theorem a38 {n : Nat} (args : List AV) (h : AH) : callA (C16.tab n) 38 args h = vC (purEs h args) (C16.tab n) 38 args h := callA_eq _ _ _ _
theorem p9 {n : Nat} (hn : 31 < n) (args : List AV) : (C16.tab n).p 9 args = runP (C16.tab 31) c9 args := Cfg.tab_p rfl rfl hn args
theorem a9 {n : Nat} (args : List AV) (h : AH) : callA (C16.tab n) 9 args h = vC (purEs h args) (C16.tab n) 9 args h := callA_eq _ _ _ _
theorem p35 {n : Nat} (hn : 32 < n) (args : List AV) : (C16.tab n).p 35 args = runP (C16.tab 32) c35 args := Cfg.tab_p rfl rfl hn args
theorem a35 {n : Nat} (args : List AV) (h : AH) : callA (C16.tab n) 35 args h = vC (purEs h args) (C16.tab n) 35 args h := callA_eq _ _ _ _
theorem p39 {n : Nat} (hn : 33 < n) (args : List AV) : (C16.tab n).p 39 args = runP (C16.tab 33) c39 args := Cfg.tab_p rfl rfl hn args
theorem a39 {n : Nat} (args : List AV) (h : AH) : callA (C16.tab n) 39 args h = vC (purEs h args) (C16.tab n) 39 args h := callA_eq _ _ _ _
theorem p10 {n : Nat} (hn : 34 < n) (args : List AV) : (C16.tab n).p 10 args = runP (C16.tab 34) c10 args := Cfg.tab_p rfl rfl hn args
theorem a10 {n : Nat} (args : List AV) (h : AH) : callA (C16.tab n) 10 args h = vC (purEs h args) (C16.tab n) 10 args h := callA_eq _ _ _ _
theorem p11 {n : Nat} (hn : 35 < n) (args : List AV) : (C16.tab n).p 11 args = runP (C16.tab 35) c11 args := Cfg.tab_p rfl rfl hn args
theorem a11 {n : Nat} (args : List AV) (h : AH) : callA (C16.tab n) 11 args h = vC (purEs h args) (C16.tab n) 11 args h := callA_eq _ _ _ _
theorem p26 {n : Nat} (hn : 36 < n) (args : List AV) : (C16.tab n).p 26 args = runP (C16.tab 36) c26 args := Cfg.tab_p rfl rfl hn args
theorem a26 {n : Nat} (args : List AV) (h : AH) : callA (C16.tab n) 26 args h = vC (purEs h args) (C16.tab n) 26 args h := callA_eq _ _ _ _
theorem p13 {n : Nat} (hn : 37 < n) (args : List AV) : (C16.tab n).p 13 args = runP (C16.tab 37) c13 args := Cfg.tab_p rfl rfl hn args
theorem a13 {n : Nat} (args : List AV) (h : AH) : callA (C16.tab n) 13 args h = vC (purEs h args) (C16.tab n) 13 args h := callA_eq _ _ _ _
theorem p15 {n : Nat} (hn : 38 < n) (args : List AV) : (C16.tab n).p 15 args = runP (C16.tab 38) c15 args := Cfg.tab_p rfl rfl hn args
theorem a15 {n : Nat} (args : List AV) (h : AH) : callA (C16.tab n) 15 args h = vC (purEs h args) (C16.tab n) 15 args h := callA_eq _ _ _ _
theorem p24 {n : Nat} (hn : 39 < n) (args : List AV) : (C16.tab n).p 24 args = runP (C16.tab 39) c24 args := Cfg.tab_p rfl rfl hn args
theorem a24 {n : Nat} (args : List AV) (h : AH) : callA (C16.tab n) 24 args h = vC (purEs h args) (C16.tab n) 24 args h := callA_eq _ _ _ _
theorem p57 {n : Nat} (hn : 40 < n) (args : List AV) : (C16.tab n).p 57 args = runP (C16.tab 40) c57 args := Cfg.tab_p rfl rfl hn args
theorem a57 {n : Nat} (args : List AV) (h : AH) : callA (C16.tab n) 57 args h = vC (purEs h args) (C16.tab n) 57 args h := callA_eq _ _ _ _
theorem p66 {n : Nat} (hn : 41 < n) (args : List AV) : (C16.tab n).p 66 args = runP (C16.tab 41) c66 args := Cfg.tab_p rfl rfl hn args
theorem a66 {n : Nat} (args : List AV) (h : AH) : callA (C16.tab n) 66 args h = vC (purEs h args) (C16.tab n) 66 args h := callA_eq _ _ _ _
theorem p59 {n : Nat} (hn : 42 < n) (args : List AV) : (C16.tab n).p 59 args = runP (C16.tab 42) c59 args := Cfg.tab_p rfl rfl hn args
theorem a59 {n : Nat} (args : List AV) (h : AH) : callA (C16.tab n) 59 args h = vC (purEs h args) (C16.tab n) 59 args h := callA_eq _ _ _ _
theorem p44 {n : Nat} (hn : 43 < n) (args : List AV) : (C16.tab n).p 44 args = runP (C16.tab 43) c44 args := Cfg.tab_p rfl rfl hn args
theorem a44 {n : Nat} (args : List AV) (h : AH) : callA (C16.tab n) 44 args h = vC (purEs h args) (C16.tab n) 44 args h := callA_eq _ _ _ _
theorem p17 {n : Nat} (hn : 44 < n) (args : List AV) : (C16.tab n).p 17 args = runP (C16.tab 44) c17 args := Cfg.tab_p rfl rfl hn args
theorem a17 {n : Nat} (args : List AV) (h : AH) : callA (C16.tab n) 17 args h = vC (purEs h args) (C16.tab n) 17 args h := callA_eq _ _ _ _
theorem p19 {n : Nat} (hn : 45 < n) (args : List AV) : (C16.tab n).p 19 args = runP (C16.tab 45) c19 args := Cfg.tab_p rfl rfl hn args
theorem a19 {n : Nat} (args : List AV) (h : AH) : callA (C16.tab n) 19 args h = vC (purEs h args) (C16.tab n) 19 args h := callA_eq _ _ _ _
theorem p25 {n : Nat} (hn : 46 < n) (args : List AV) : (C16.tab n).p 25 args = runP (C16.tab 46) c25 args := Cfg.tab_p rfl rfl hn args
theorem a25 {n : Nat} (args : List AV) (h : AH) : callA (C16.tab n) 25 args h = vC (purEs h args) (C16.tab n) 25 args h := callA_eq _ _ _ _
theorem p3 {n : Nat} (hn : 47 < n) (args : List AV) : (C16.tab n).p 3 args = runP (C16.tab 47) c3 args := Cfg.tab_p rfl rfl hn args
theorem a3 {n : Nat} (args : List AV) (h : AH) : callA (C16.tab n) 3 args h = vC (purEs h args) (C16.tab n) 3 args h := callA_eq _ _ _ _
theorem p49 {n : Nat} (hn : 48 < n) (args : List AV) : (C16.tab n).p 49 args = runP (C16.tab 48) c49 args := Cfg.tab_p rfl rfl hn args
theorem a49 {n : Nat} (args : List AV) (h : AH) : callA (C16.tab n) 49 args h = vC (purEs h args) (C16.tab n) 49 args h := callA_eq _ _ _ _
theorem p28 {n : Nat} (hn : 49 < n) (args : List AV) : (C16.tab n).p 28 args = runP (C16.tab 49) c28 args := Cfg.tab_p rfl rfl hn args
theorem a28 {n : Nat} (args : List AV) (h : AH) : callA (C16.tab n) 28 args h = vC (purEs h args) (C16.tab n) 28 args h := callA_eq _ _ _ _
theorem p32 {n : Nat} (hn : 50 < n) (args : List AV) (h : AH) : callA (C16.tab n) 32 args h = runH (C16.tab 50) c32 args h := (callA_h (fun _ => Cfg.tab_hp rfl _ _)).trans (Cfg.tab_h rfl rfl hn args h)
theorem p4 {n : Nat} (hn : 51 < n) (args : List AV) : (C16.tab n).p 4 args = runP (C16.tab 51) c4 args := Cfg.tab_p rfl rfl hn args
theorem a4 {n : Nat} (args : List AV) (h : AH) : callA (C16.tab n) 4 args h = vC (purEs h args) (C16.tab n) 4 args h := callA_eq _ _ _ _
theorem p33 {n : Nat} (hn : 52 < n) (args : List AV) : (C16.tab n).p 33 args = runP (C16.tab 52) c33 args := Cfg.tab_p rfl rfl hn args
theorem a33 {n : Nat} (args : List AV) (h : AH) : callA (C16.tab n) 33 args h = vC (purEs h args) (C16.tab n) 33 args h := callA_eq _ _ _ _
theorem p53 {n : Nat} (hn : 53 < n) (args : List AV) : (C16.tab n).p 53 args = runP (C16.tab 53) c53 args := Cfg.tab_p rfl rfl hn args
theorem a53 {n : Nat} (args : List AV) (h : AH) : callA (C16.tab n) 53 args h = vC (purEs h args) (C16.tab n) 53 args h := callA_eq _ _ _ _
theorem p54 {n : Nat} (hn : 54 < n) (args : List AV) : (C16.tab n).p 54 args = runP (C16.tab 54) c54 args := Cfg.tab_p rfl rfl hn args
theorem a54 {n : Nat} (args : List AV) (h : AH) : callA (C16.tab n) 54 args h = vC (purEs h args) (C16.tab n) 54 args h := callA_eq _ _ _ _
theorem p34 {n : Nat} (hn : 55 < n) (args : List AV) : (C16.tab n).p 34 args = runP (C16.tab 55) c34 args := Cfg.tab_p rfl rfl hn args
theorem a34 {n : Nat} (args : List AV) (h : AH) : callA (C16.tab n) 34 args h = vC (purEs h args) (C16.tab n) 34 args h := callA_eq _ _ _ _
theorem p5 {n : Nat} (hn : 56 < n) (args : List AV) : (C16.tab n).p 5 args = runP (C16.tab 56) c5 args := Cfg.tab_p rfl rfl hn args
theorem a5 {n : Nat} (args : List AV) (h : AH) : callA (C16.tab n) 5 args h = vC (purEs h args) (C16.tab n) 5 args h := callA_eq _ _ _ _
theorem p6 {n : Nat} (hn : 57 < n) (args : List AV) : (C16.tab n).p 6 args = runP (C16.tab 57) c6 args := Cfg.tab_p rfl rfl hn args
theorem a6 {n : Nat} (args : List AV) (h : AH) : callA (C16.tab n) 6 args h = vC (purEs h args) (C16.tab n) 6 args h := callA_eq _ _ _ _
theorem p7 {n : Nat} (hn : 58 < n) (args : List AV) : (C16.tab n).p 7 args = runP (C16.tab 58) c7 args := Cfg.tab_p rfl rfl hn args
theorem a7 {n : Nat} (args : List AV) (h : AH) : callA (C16.tab n) 7 args h = vC (purEs h args) (C16.tab n) 7 args h := callA_eq _ _ _ _
theorem p37 {n : Nat} (hn : 59 < n) (args : List AV) : (C16.tab n).p 37 args = runP (C16.tab 59) c37 args := Cfg.tab_p rfl rfl hn args
theorem a37 {n : Nat} (args : List AV) (h : AH) : callA (C16.tab n) 37 args h = vC (purEs h args) (C16.tab n) 37 args h := callA_eq _ _ _ _
theorem p8 {n : Nat} (hn : 60 < n) (args : List AV) : (C16.tab n).p 8 args = runP (C16.tab 60) c8 args := Cfg.tab_p rfl rfl hn args
theorem a8 {n : Nat} (args : List AV) (h : AH) : callA (C16.tab n) 8 args h = vC (purEs h args) (C16.tab n) 8 args h := callA_eq _ _ _ _
end Go.Proofs.Ytjblbmcgpdmahaa
