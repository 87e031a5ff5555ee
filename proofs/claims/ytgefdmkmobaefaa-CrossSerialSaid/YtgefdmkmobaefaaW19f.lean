/-
 The law CrossSerial is true, whatever the input.
-/
import Derived.Test.YtgefdmkmobaefaaRows
import Derived.Test.YtgefdmkmobaefaaXd19
import Derived.ProofKit
set_option linter.unusedSimpArgs false
set_option linter.unusedVariables false
namespace Go.Proofs.Ytgefdmkmobaefaa
open Go.ChangeShapes Go.WideShapes Go.ChangeAt Go.RowKit Go.Am
theorem crossSerial_own : ownKnob Try.prog.godebug = none := by kernel_rfl
theorem crossSerial_laid : laidOutB Try.prog = true := by kernel_rfl
theorem crossSerial_tds : paramTDs Try.prog 9 Try.f9.params.toList = some [(false, [.l true [.i .u8, .i .u8, .i .u8, .i .u8, .i .u8, .i .u8]])] := by kernel_rfl
set_option maxRecDepth 100000 in
theorem crossSerial_lifted (os : Os) (started : os.Started) (H : Type) (enc : TypeId × Value → H) :
  ReturnsInHanded {} Try.checked os 9 .any (Rows.crossSerialSpec.pre6 enc Try.prog Try.f9 Rows.crossSerialRow.domain false) (Rows.crossSerialSpec.post enc Try.prog Try.f9 false true false false) := by
 refine returnsInHanded_of_change (C := Try.checked) crossSerial_own started (by kernel_rfl) Try.func9
  (ChangeSpec.witness6 (enc := enc) (C := Try.checked) false ⟨#[], #[.slice none 0 0], []⟩ 8 (by kernel_rfl) (by kernel_rfl) (by kernel_rfl) (by kernel_rfl)) ?_
 intro W base args ds gs before hval0 hW hcnd _
 have hval : ∀ (j : Nat) t v, Try.f9.params[j]? = some t → args[j]? = some v → Value.okWide Try.prog W .any base t v := hval0
 exact law_contract hmix (tab19_ok 99) crossSerial_laid ok9 rfl (by kernel_rfl) crossSerial_tds (by kernel_rfl) (tb := 4) (by kernel_rfl)
  (fun H ds hl => by
   match ds, hl with
   | [d0], _ => rfl) law9 hval hW
theorem crossSerial_holds : Rows.CrossSerialSaid :=
 OpenClaim.holds_of_wide 9 Try.f9 rfl rfl rfl rfl rfl rfl rfl ⟨rfl, rfl, rfl, rfl, rfl⟩ rfl rfl rfl rfl rfl (by kernel_rfl) Try.func9 (by kernel_rfl)
  (of_decide_eq_true (by kernel_rfl)) (by unfold Func.isWrapper; first | (rw [if_pos (by decide +kernel)]; kernel_rfl) | (rw [if_neg (by decide +kernel)]; exact ⟨rfl, rfl⟩))
  (fun os started H enc _ => crossSerial_lifted os started H enc)
end Go.Proofs.Ytgefdmkmobaefaa
