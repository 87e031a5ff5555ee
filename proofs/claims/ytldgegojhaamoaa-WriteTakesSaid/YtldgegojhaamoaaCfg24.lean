/-
  The table of the functions, for the abstract machine.
-/
import Derived.Test.YtldgegojhaamoaaLit24
import Derived.Test.YtldgegojhaamoaaAmTb
set_option linter.unusedSimpArgs false
set_option linter.unusedVariables false
namespace Go.Proofs.Ytldgegojhaamoaa
open Go.Am

theorem hmix : Try.prog.follows .mixedOrders = true := by kernel_rfl
theorem okx32 : okF Try.prog 32 (cloneF 1 1 (.int .u8 0)) = true := by kernel_rfl
theorem okx35 : okF Try.prog 35 (cloneF 3 40 (.agg [.int .i64 0, .int .i64 0, .lst true []])) = true := by kernel_rfl
theorem okx39 : okF Try.prog 39 (cloneF 3 40 (.agg [.int .i64 0, .int .i64 0, .lst true []])) = true := by kernel_rfl
theorem okx40 : InsOK Try.prog 40 38 3 4 51 0 41 42 3 40 := ⟨hmix, ⟨Try.f40.name, Try.f40.targs, by kernel_rfl, by kernel_rfl⟩, ⟨Try.f41, by kernel_rfl, by kernel_rfl, by kernel_rfl, by kernel_rfl, by kernel_rfl⟩, by kernel_rfl, by kernel_rfl, by kernel_rfl, by kernel_rfl, by kernel_rfl, by decide⟩

/-- What is known of each function. -/
def kd24 : FuncId → Kd
  | 32 => .x (cloneH 1 1)
  | 30 => .p c30
  | 11 => .p c11
  | 13 => .p c13
  | 17 => .p c17
  | 14 => .p c14
  | 33 => .p c33
  | 34 => .p c34
  | 35 => .x (cloneH 3 40)
  | 15 => .p c15
  | 18 => .p c18
  | 39 => .x (cloneH 3 40)
  | 40 => .x (insertH 3 40)
  | 37 => .h c37
  | 21 => .p c21
  | 23 => .p c23
  | 24 => .p c24
  | 9 => .p c9
  | 36 => .p c36
  | 26 => .p c26
  | 10 => .p c10
  | 31 => .p c31
  | 12 => .p c12
  | 16 => .p c16
  | 19 => .p c19
  | 3 => .p c3
  | 29 => .p c29
  | 20 => .p c20
  | 28 => .p c28
  | 38 => .p c38
  | 22 => .p c22
  | 25 => .p c25
  | 4 => .p c4
  | 5 => .p c5
  | 27 => .p c27
  | 6 => .p c6
  | 7 => .p c7
  | 8 => .p c8
  | 44 => .p c44
  | 43 => .p c43
  | 42 => .p c42
  | _ => .no
def pos24 : FuncId → Nat
  | 32 => 0
  | 30 => 1
  | 11 => 2
  | 13 => 3
  | 17 => 4
  | 14 => 5
  | 33 => 6
  | 34 => 7
  | 35 => 8
  | 15 => 9
  | 18 => 10
  | 39 => 11
  | 40 => 12
  | 37 => 13
  | 21 => 14
  | 23 => 15
  | 24 => 16
  | 9 => 17
  | 36 => 18
  | 26 => 19
  | 10 => 20
  | 31 => 21
  | 12 => 22
  | 16 => 23
  | 19 => 24
  | 3 => 25
  | 29 => 26
  | 20 => 27
  | 28 => 28
  | 38 => 29
  | 22 => 30
  | 25 => 31
  | 4 => 32
  | 5 => 33
  | 27 => 34
  | 6 => 35
  | 7 => 36
  | 8 => 37
  | 44 => 38
  | 43 => 39
  | 42 => 40
  | _ => 0
def C24 : Cfg := ⟨kd24, pos24⟩
abbrev N24 : Nat := 41
theorem kd24_ok : ∀ f, (C24.kd f).ok Try.prog f := by
  intro f
  show (kd24 f).ok Try.prog f
  unfold kd24
  split
  · exact snd_clone hmix okx32
  · exact ok30
  · exact ok11
  · exact ok13
  · exact ok17
  · exact ok14
  · exact ok33
  · exact ok34
  · exact snd_clone hmix okx35
  · exact ok15
  · exact ok18
  · exact snd_clone hmix okx39
  · exact snd_insert okx40
  · exact ok37
  · exact ok21
  · exact ok23
  · exact ok24
  · exact ok9
  · exact ok36
  · exact ok26
  · exact ok10
  · exact ok31
  · exact ok12
  · exact ok16
  · exact ok19
  · exact ok3
  · exact ok29
  · exact ok20
  · exact ok28
  · exact ok38
  · exact ok22
  · exact ok25
  · exact ok4
  · exact ok5
  · exact ok27
  · exact ok6
  · exact ok7
  · exact ok8
  · exact ok44
  · exact ok43
  · exact ok42
  · trivial
theorem tab24_ok (n : Nat) : TabOK Try.prog (C24.tab n) := Cfg.tab_ok hmix kd24_ok n

theorem p32 {n : Nat} (hn : 0 < n) (args : List AV) (h : AH) : callA (C24.tab n) 32 args h = cloneH 1 1 args h := (callA_h (fun _ => Cfg.tab_xp rfl _ _)).trans (Cfg.tab_x rfl rfl hn args h)
theorem p30 {n : Nat} (hn : 1 < n) (args : List AV) : (C24.tab n).p 30 args = runP (C24.tab 1) c30 args := Cfg.tab_p rfl rfl hn args
theorem a30 {n : Nat} (args : List AV) (h : AH) : callA (C24.tab n) 30 args h = vC (purEs h args) (C24.tab n) 30 args h := callA_eq _ _ _ _
theorem p11 {n : Nat} (hn : 2 < n) (args : List AV) : (C24.tab n).p 11 args = runP (C24.tab 2) c11 args := Cfg.tab_p rfl rfl hn args
theorem a11 {n : Nat} (args : List AV) (h : AH) : callA (C24.tab n) 11 args h = vC (purEs h args) (C24.tab n) 11 args h := callA_eq _ _ _ _
theorem p13 {n : Nat} (hn : 3 < n) (args : List AV) : (C24.tab n).p 13 args = runP (C24.tab 3) c13 args := Cfg.tab_p rfl rfl hn args
theorem a13 {n : Nat} (args : List AV) (h : AH) : callA (C24.tab n) 13 args h = vC (purEs h args) (C24.tab n) 13 args h := callA_eq _ _ _ _
theorem p17 {n : Nat} (hn : 4 < n) (args : List AV) : (C24.tab n).p 17 args = runP (C24.tab 4) c17 args := Cfg.tab_p rfl rfl hn args
theorem a17 {n : Nat} (args : List AV) (h : AH) : callA (C24.tab n) 17 args h = vC (purEs h args) (C24.tab n) 17 args h := callA_eq _ _ _ _
theorem p14 {n : Nat} (hn : 5 < n) (args : List AV) : (C24.tab n).p 14 args = runP (C24.tab 5) c14 args := Cfg.tab_p rfl rfl hn args
theorem a14 {n : Nat} (args : List AV) (h : AH) : callA (C24.tab n) 14 args h = vC (purEs h args) (C24.tab n) 14 args h := callA_eq _ _ _ _
theorem p33 {n : Nat} (hn : 6 < n) (args : List AV) : (C24.tab n).p 33 args = runP (C24.tab 6) c33 args := Cfg.tab_p rfl rfl hn args
theorem a33 {n : Nat} (args : List AV) (h : AH) : callA (C24.tab n) 33 args h = vC (purEs h args) (C24.tab n) 33 args h := callA_eq _ _ _ _
theorem p34 {n : Nat} (hn : 7 < n) (args : List AV) : (C24.tab n).p 34 args = runP (C24.tab 7) c34 args := Cfg.tab_p rfl rfl hn args
theorem a34 {n : Nat} (args : List AV) (h : AH) : callA (C24.tab n) 34 args h = vC (purEs h args) (C24.tab n) 34 args h := callA_eq _ _ _ _
theorem p35 {n : Nat} (hn : 8 < n) (args : List AV) (h : AH) : callA (C24.tab n) 35 args h = cloneH 3 40 args h := (callA_h (fun _ => Cfg.tab_xp rfl _ _)).trans (Cfg.tab_x rfl rfl hn args h)
theorem p15 {n : Nat} (hn : 9 < n) (args : List AV) : (C24.tab n).p 15 args = runP (C24.tab 9) c15 args := Cfg.tab_p rfl rfl hn args
theorem a15 {n : Nat} (args : List AV) (h : AH) : callA (C24.tab n) 15 args h = vC (purEs h args) (C24.tab n) 15 args h := callA_eq _ _ _ _
theorem p18 {n : Nat} (hn : 10 < n) (args : List AV) : (C24.tab n).p 18 args = runP (C24.tab 10) c18 args := Cfg.tab_p rfl rfl hn args
theorem a18 {n : Nat} (args : List AV) (h : AH) : callA (C24.tab n) 18 args h = vC (purEs h args) (C24.tab n) 18 args h := callA_eq _ _ _ _
theorem p39 {n : Nat} (hn : 11 < n) (args : List AV) (h : AH) : callA (C24.tab n) 39 args h = cloneH 3 40 args h := (callA_h (fun _ => Cfg.tab_xp rfl _ _)).trans (Cfg.tab_x rfl rfl hn args h)
theorem p40 {n : Nat} (hn : 12 < n) (args : List AV) (h : AH) : callA (C24.tab n) 40 args h = insertH 3 40 args h := (callA_h (fun _ => Cfg.tab_xp rfl _ _)).trans (Cfg.tab_x rfl rfl hn args h)
theorem p37 {n : Nat} (hn : 13 < n) (args : List AV) (h : AH) : callA (C24.tab n) 37 args h = runH (C24.tab 13) c37 args h := (callA_h (fun _ => Cfg.tab_hp rfl _ _)).trans (Cfg.tab_h rfl rfl hn args h)
theorem p21 {n : Nat} (hn : 14 < n) (args : List AV) : (C24.tab n).p 21 args = runP (C24.tab 14) c21 args := Cfg.tab_p rfl rfl hn args
theorem a21 {n : Nat} (args : List AV) (h : AH) : callA (C24.tab n) 21 args h = vC (purEs h args) (C24.tab n) 21 args h := callA_eq _ _ _ _
theorem p23 {n : Nat} (hn : 15 < n) (args : List AV) : (C24.tab n).p 23 args = runP (C24.tab 15) c23 args := Cfg.tab_p rfl rfl hn args
theorem a23 {n : Nat} (args : List AV) (h : AH) : callA (C24.tab n) 23 args h = vC (purEs h args) (C24.tab n) 23 args h := callA_eq _ _ _ _
theorem p24 {n : Nat} (hn : 16 < n) (args : List AV) : (C24.tab n).p 24 args = runP (C24.tab 16) c24 args := Cfg.tab_p rfl rfl hn args
theorem a24 {n : Nat} (args : List AV) (h : AH) : callA (C24.tab n) 24 args h = vC (purEs h args) (C24.tab n) 24 args h := callA_eq _ _ _ _
theorem p9 {n : Nat} (hn : 17 < n) (args : List AV) : (C24.tab n).p 9 args = runP (C24.tab 17) c9 args := Cfg.tab_p rfl rfl hn args
theorem a9 {n : Nat} (args : List AV) (h : AH) : callA (C24.tab n) 9 args h = vC (purEs h args) (C24.tab n) 9 args h := callA_eq _ _ _ _
theorem p36 {n : Nat} (hn : 18 < n) (args : List AV) : (C24.tab n).p 36 args = runP (C24.tab 18) c36 args := Cfg.tab_p rfl rfl hn args
theorem a36 {n : Nat} (args : List AV) (h : AH) : callA (C24.tab n) 36 args h = vC (purEs h args) (C24.tab n) 36 args h := callA_eq _ _ _ _
theorem p26 {n : Nat} (hn : 19 < n) (args : List AV) : (C24.tab n).p 26 args = runP (C24.tab 19) c26 args := Cfg.tab_p rfl rfl hn args
theorem a26 {n : Nat} (args : List AV) (h : AH) : callA (C24.tab n) 26 args h = vC (purEs h args) (C24.tab n) 26 args h := callA_eq _ _ _ _
theorem p10 {n : Nat} (hn : 20 < n) (args : List AV) : (C24.tab n).p 10 args = runP (C24.tab 20) c10 args := Cfg.tab_p rfl rfl hn args
theorem a10 {n : Nat} (args : List AV) (h : AH) : callA (C24.tab n) 10 args h = vC (purEs h args) (C24.tab n) 10 args h := callA_eq _ _ _ _
theorem p31 {n : Nat} (hn : 21 < n) (args : List AV) : (C24.tab n).p 31 args = runP (C24.tab 21) c31 args := Cfg.tab_p rfl rfl hn args
theorem a31 {n : Nat} (args : List AV) (h : AH) : callA (C24.tab n) 31 args h = vC (purEs h args) (C24.tab n) 31 args h := callA_eq _ _ _ _
theorem p12 {n : Nat} (hn : 22 < n) (args : List AV) : (C24.tab n).p 12 args = runP (C24.tab 22) c12 args := Cfg.tab_p rfl rfl hn args
theorem a12 {n : Nat} (args : List AV) (h : AH) : callA (C24.tab n) 12 args h = vC (purEs h args) (C24.tab n) 12 args h := callA_eq _ _ _ _
theorem p16 {n : Nat} (hn : 23 < n) (args : List AV) : (C24.tab n).p 16 args = runP (C24.tab 23) c16 args := Cfg.tab_p rfl rfl hn args
theorem a16 {n : Nat} (args : List AV) (h : AH) : callA (C24.tab n) 16 args h = vC (purEs h args) (C24.tab n) 16 args h := callA_eq _ _ _ _
theorem p19 {n : Nat} (hn : 24 < n) (args : List AV) : (C24.tab n).p 19 args = runP (C24.tab 24) c19 args := Cfg.tab_p rfl rfl hn args
theorem a19 {n : Nat} (args : List AV) (h : AH) : callA (C24.tab n) 19 args h = vC (purEs h args) (C24.tab n) 19 args h := callA_eq _ _ _ _
theorem p3 {n : Nat} (hn : 25 < n) (args : List AV) : (C24.tab n).p 3 args = runP (C24.tab 25) c3 args := Cfg.tab_p rfl rfl hn args
theorem a3 {n : Nat} (args : List AV) (h : AH) : callA (C24.tab n) 3 args h = vC (purEs h args) (C24.tab n) 3 args h := callA_eq _ _ _ _
theorem p29 {n : Nat} (hn : 26 < n) (args : List AV) : (C24.tab n).p 29 args = runP (C24.tab 26) c29 args := Cfg.tab_p rfl rfl hn args
theorem a29 {n : Nat} (args : List AV) (h : AH) : callA (C24.tab n) 29 args h = vC (purEs h args) (C24.tab n) 29 args h := callA_eq _ _ _ _
theorem p20 {n : Nat} (hn : 27 < n) (args : List AV) : (C24.tab n).p 20 args = runP (C24.tab 27) c20 args := Cfg.tab_p rfl rfl hn args
theorem a20 {n : Nat} (args : List AV) (h : AH) : callA (C24.tab n) 20 args h = vC (purEs h args) (C24.tab n) 20 args h := callA_eq _ _ _ _
theorem p28 {n : Nat} (hn : 28 < n) (args : List AV) : (C24.tab n).p 28 args = runP (C24.tab 28) c28 args := Cfg.tab_p rfl rfl hn args
theorem a28 {n : Nat} (args : List AV) (h : AH) : callA (C24.tab n) 28 args h = vC (purEs h args) (C24.tab n) 28 args h := callA_eq _ _ _ _
theorem p38 {n : Nat} (hn : 29 < n) (args : List AV) : (C24.tab n).p 38 args = runP (C24.tab 29) c38 args := Cfg.tab_p rfl rfl hn args
theorem a38 {n : Nat} (args : List AV) (h : AH) : callA (C24.tab n) 38 args h = vC (purEs h args) (C24.tab n) 38 args h := callA_eq _ _ _ _
theorem p22 {n : Nat} (hn : 30 < n) (args : List AV) : (C24.tab n).p 22 args = runP (C24.tab 30) c22 args := Cfg.tab_p rfl rfl hn args
theorem a22 {n : Nat} (args : List AV) (h : AH) : callA (C24.tab n) 22 args h = vC (purEs h args) (C24.tab n) 22 args h := callA_eq _ _ _ _
theorem p25 {n : Nat} (hn : 31 < n) (args : List AV) : (C24.tab n).p 25 args = runP (C24.tab 31) c25 args := Cfg.tab_p rfl rfl hn args
theorem a25 {n : Nat} (args : List AV) (h : AH) : callA (C24.tab n) 25 args h = vC (purEs h args) (C24.tab n) 25 args h := callA_eq _ _ _ _
theorem p4 {n : Nat} (hn : 32 < n) (args : List AV) : (C24.tab n).p 4 args = runP (C24.tab 32) c4 args := Cfg.tab_p rfl rfl hn args
theorem a4 {n : Nat} (args : List AV) (h : AH) : callA (C24.tab n) 4 args h = vC (purEs h args) (C24.tab n) 4 args h := callA_eq _ _ _ _
theorem p5 {n : Nat} (hn : 33 < n) (args : List AV) : (C24.tab n).p 5 args = runP (C24.tab 33) c5 args := Cfg.tab_p rfl rfl hn args
theorem a5 {n : Nat} (args : List AV) (h : AH) : callA (C24.tab n) 5 args h = vC (purEs h args) (C24.tab n) 5 args h := callA_eq _ _ _ _
theorem p27 {n : Nat} (hn : 34 < n) (args : List AV) : (C24.tab n).p 27 args = runP (C24.tab 34) c27 args := Cfg.tab_p rfl rfl hn args
theorem a27 {n : Nat} (args : List AV) (h : AH) : callA (C24.tab n) 27 args h = vC (purEs h args) (C24.tab n) 27 args h := callA_eq _ _ _ _
theorem p6 {n : Nat} (hn : 35 < n) (args : List AV) : (C24.tab n).p 6 args = runP (C24.tab 35) c6 args := Cfg.tab_p rfl rfl hn args
theorem a6 {n : Nat} (args : List AV) (h : AH) : callA (C24.tab n) 6 args h = vC (purEs h args) (C24.tab n) 6 args h := callA_eq _ _ _ _
theorem p7 {n : Nat} (hn : 36 < n) (args : List AV) : (C24.tab n).p 7 args = runP (C24.tab 36) c7 args := Cfg.tab_p rfl rfl hn args
theorem a7 {n : Nat} (args : List AV) (h : AH) : callA (C24.tab n) 7 args h = vC (purEs h args) (C24.tab n) 7 args h := callA_eq _ _ _ _
theorem p8 {n : Nat} (hn : 37 < n) (args : List AV) : (C24.tab n).p 8 args = runP (C24.tab 37) c8 args := Cfg.tab_p rfl rfl hn args
theorem a8 {n : Nat} (args : List AV) (h : AH) : callA (C24.tab n) 8 args h = vC (purEs h args) (C24.tab n) 8 args h := callA_eq _ _ _ _
theorem p44 {n : Nat} (hn : 38 < n) (args : List AV) : (C24.tab n).p 44 args = runP (C24.tab 38) c44 args := Cfg.tab_p rfl rfl hn args
theorem a44 {n : Nat} (args : List AV) (h : AH) : callA (C24.tab n) 44 args h = vC (purEs h args) (C24.tab n) 44 args h := callA_eq _ _ _ _
theorem p43 {n : Nat} (hn : 39 < n) (args : List AV) : (C24.tab n).p 43 args = runP (C24.tab 39) c43 args := Cfg.tab_p rfl rfl hn args
theorem a43 {n : Nat} (args : List AV) (h : AH) : callA (C24.tab n) 43 args h = vC (purEs h args) (C24.tab n) 43 args h := callA_eq _ _ _ _
theorem p42 {n : Nat} (hn : 40 < n) (args : List AV) : (C24.tab n).p 42 args = runP (C24.tab 40) c42 args := Cfg.tab_p rfl rfl hn args
theorem a42 {n : Nat} (args : List AV) (h : AH) : callA (C24.tab n) 42 args h = vC (purEs h args) (C24.tab n) 42 args h := callA_eq _ _ _ _
end Go.Proofs.Ytldgegojhaamoaa
