/-
  The law NameCut is true, whatever the input.
-/
import Derived.Test.YtalckkfoplaeeaaRows
import Derived.Test.YtalckkfoplaeeaaJ06
import Derived.ProofKit
set_option linter.unusedSimpArgs false
set_option linter.unusedVariables false
namespace Go.Proofs.Ytalckkfoplaeeaa
open Go.ChangeShapes Go.WideShapes Go.ChangeAt Go.RowKit Go.Am

theorem nameCut_own : ownKnob Try.prog.godebug = none := by kernel_rfl
theorem nameCut_laid : laidOutB Try.prog = true := by kernel_rfl
theorem nameCut_tds : paramTDs Try.prog 9 Try.f9.params.toList = some [(false, [.l false [.s]]), (false, [.i .u8])] := by kernel_rfl
set_option maxRecDepth 100000 in
theorem nameCut_lifted (os : Os) (started : os.Started) (H : Type) (enc : TypeId × Value → H) :
    ReturnsInHanded {} Try.checked os 9 .any (Rows.nameCutSpec.pre6 enc Try.prog Try.f9 Rows.nameCutRow.domain false) (Rows.nameCutSpec.post enc Try.prog Try.f9 false true false false) := by
  refine returnsInHanded_of_change (C := Try.checked) nameCut_own started (by kernel_rfl) Try.func9
    (ChangeSpec.witness6 (enc := enc) (C := Try.checked) false ⟨#[], #[.slice none 0 0, .int .u8 0], []⟩ 8 (by kernel_rfl) (by kernel_rfl) (by kernel_rfl) (by kernel_rfl)) ?_
  intro W base args ds gs before hval0 hW hcnd _
  have hval : ∀ (j : Nat) t v, Try.f9.params[j]? = some t → args[j]? = some v → Value.okWide Try.prog W .any base t v := hval0
  exact law_contract hmix (tab06_ok 22) nameCut_laid ok9 rfl (by kernel_rfl) nameCut_tds (by kernel_rfl) (tb := 4) (by kernel_rfl)
    (fun H ds hl => by
      match ds, hl with
      | [d0, d1], _ => rfl) law9 hval hW
/-- The statement. -/
theorem nameCut_holds : Rows.NameCutSaid :=
  OpenClaim.holds_of_wide 9 Try.f9 rfl rfl rfl rfl rfl rfl rfl ⟨rfl, rfl, rfl, rfl, rfl⟩ rfl rfl rfl rfl rfl (by kernel_rfl) Try.func9 (by kernel_rfl)
    (of_decide_eq_true (by kernel_rfl)) (by unfold Func.isWrapper; first | (rw [if_pos (by decide +kernel)]; kernel_rfl) | (rw [if_neg (by decide +kernel)]; exact ⟨rfl, rfl⟩))
    (fun os started H enc _ => nameCut_lifted os started H enc)
end Go.Proofs.Ytalckkfoplaeeaa
