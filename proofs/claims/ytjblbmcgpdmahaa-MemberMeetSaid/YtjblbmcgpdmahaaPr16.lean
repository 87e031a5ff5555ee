/-
  member.Peers, of values.
-/
import Derived.Test.YtjblbmcgpdmahaaLit16
import Derived.Test.YtjblbmcgpdmahaaAmTb
import Derived.Test.YtjblbmcgpdmahaaAmDel
import Derived.Test.YtjblbmcgpdmahaaAmPr
set_option linter.unusedSimpArgs false
set_option linter.unusedVariables false
namespace Go.Proofs.Ytjblbmcgpdmahaa.Pr
open Go.Am

theorem hmix : Try.prog.follows .mixedOrders = true := by kernel_rfl

/-- What is known of each function. -/
noncomputable def kdPr : FuncId → Kd
  | 30 => .p c30
  | 25 => .p c25
  | 40 => .h c40
  | _ => .no
def posPr : FuncId → Nat
  | 30 => 0
  | 25 => 1
  | 40 => 2
  | _ => 0
noncomputable def CPr : Cfg := ⟨kdPr, posPr⟩
abbrev NPr : Nat := 3
theorem kdPr_ok : ∀ f, (CPr.kd f).ok Try.prog f := by
  intro f
  show (kdPr f).ok Try.prog f
  unfold kdPr
  split
  · exact ok30
  · exact ok25
  · exact ok40
  · trivial
theorem tabPr_ok (n : Nat) : TabOK Try.prog (CPr.tab n) := Cfg.tab_ok hmix kdPr_ok n

theorem p30 {n : Nat} (hn : 0 < n) (args : List AV) : (CPr.tab n).p 30 args = runP (CPr.tab 0) c30 args := Cfg.tab_p rfl rfl hn args
theorem a30 {n : Nat} (args : List AV) (h : AH) : callA (CPr.tab n) 30 args h = vC (purEs h args) (CPr.tab n) 30 args h := callA_eq _ _ _ _
theorem p25 {n : Nat} (hn : 1 < n) (args : List AV) : (CPr.tab n).p 25 args = runP (CPr.tab 1) c25 args := Cfg.tab_p rfl rfl hn args
theorem a25 {n : Nat} (args : List AV) (h : AH) : callA (CPr.tab n) 25 args h = vC (purEs h args) (CPr.tab n) 25 args h := callA_eq _ _ _ _
theorem p40 {n : Nat} (hn : 2 < n) (args : List AV) (h : AH) : callA (CPr.tab n) 40 args h = runH (CPr.tab 2) c40 args h := (callA_h (fun _ => Cfg.tab_hp rfl _ _)).trans (Cfg.tab_h rfl rfl hn args h)

theorem sBw {n : Nat} (hn : 2 < n) (f : Bool) (es : List AV) (h : AH) : callA (CPr.tab n) 40 [.lst f es] h = some (.fn (.func 58) [] [.ptr h.length 0 0 0], h ++ [.var [.lst f es]]) := by
  rw [p40 hn, runH_eq]
  simp -implicitDefEqProofs (disch := omega) [wrap_of, ilt_t, ilt_f, ile_t, ile_f, nlt_t, nlt_f, nle_t, nle_f, ieq_t, ieq_f, imin_l, imin_r, imax_l, imax_r, take_app1, take_map_all, c40]
theorem okP : Go.Am.Pr.peersOK Try.prog 12 40 25 = true := by kernel_rfl
theorem okB : Go.Am.Bw.bwOK Try.prog 58 2 true = true := by kernel_rfl
theorem peers_ok (args : List AV) (v : AV) (h : AH) (hr : Go.Am.Pr.peersY (CPr.tab NPr) 25 args = some v) : Snd Try.prog 12 args h v h :=
  Go.Am.Pr.peers_y hmix (tabPr_ok NPr) okP okB (fun f es h => sBw (by decide) f es h) args v h hr
end Go.Proofs.Ytjblbmcgpdmahaa.Pr
namespace Go.Proofs.Ytjblbmcgpdmahaa
theorem peers_ok (args : List Go.Am.AV) (v : Go.Am.AV) (h : Go.Am.AH) (hr : Go.Am.Pr.peersY (Pr.CPr.tab Pr.NPr) 25 args = some v) : Go.Am.Snd Try.prog 12 args h v h := Pr.peers_ok args v h hr
end Go.Proofs.Ytjblbmcgpdmahaa
