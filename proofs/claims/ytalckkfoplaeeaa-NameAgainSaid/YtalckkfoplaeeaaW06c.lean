/-
  The law NameAgain is true, whatever the input.
-/
import Derived.Test.YtalckkfoplaeeaaRows
import Derived.Test.YtalckkfoplaeeaaJ06
import Derived.ProofKit
set_option linter.unusedSimpArgs false
set_option linter.unusedVariables false
namespace Go.Proofs.Ytalckkfoplaeeaa
open Go.ChangeShapes Go.WideShapes Go.ChangeAt Go.RowKit Go.Am

theorem nameAgain_own : ownKnob Try.prog.godebug = none := by kernel_rfl
theorem nameAgain_laid : laidOutB Try.prog = true := by kernel_rfl
theorem nameAgain_tds : paramTDs Try.prog 9 Try.f5.params.toList = some [(false, [.s])] := by kernel_rfl
set_option maxRecDepth 100000 in
theorem nameAgain_lifted (os : Os) (started : os.Started) (H : Type) (enc : TypeId × Value → H) :
    ReturnsInHanded {} Try.checked os 5 .any (Rows.nameAgainSpec.pre6 enc Try.prog Try.f5 Rows.nameAgainRow.domain false) (Rows.nameAgainSpec.post enc Try.prog Try.f5 false true false false) := by
  refine returnsInHanded_of_change (C := Try.checked) nameAgain_own started (by kernel_rfl) Try.func5
    (ChangeSpec.witness6 (enc := enc) (C := Try.checked) false ⟨#[], #[.string ⟨#[]⟩], []⟩ 8 (by kernel_rfl) (by kernel_rfl) (by kernel_rfl) (by kernel_rfl)) ?_
  intro W base args ds gs before hval0 hW hcnd _
  have hval : ∀ (j : Nat) t v, Try.f5.params[j]? = some t → args[j]? = some v → Value.okWide Try.prog W .any base t v := hval0
  exact law_contract hmix (tab06_ok 17) nameAgain_laid ok5 rfl (by kernel_rfl) nameAgain_tds (by kernel_rfl) (tb := 4) (by kernel_rfl)
    (fun H ds hl => by
      match ds, hl with
      | [d0], _ => rfl) law5 hval hW
/-- The statement. -/
theorem nameAgain_holds : Rows.NameAgainSaid :=
  OpenClaim.holds_of_wide 5 Try.f5 rfl rfl rfl rfl rfl rfl rfl ⟨rfl, rfl, rfl, rfl, rfl⟩ rfl rfl rfl rfl rfl (by kernel_rfl) Try.func5 (by kernel_rfl)
    (of_decide_eq_true (by kernel_rfl)) (by unfold Func.isWrapper; first | (rw [if_pos (by decide +kernel)]; kernel_rfl) | (rw [if_neg (by decide +kernel)]; exact ⟨rfl, rfl⟩))
    (fun os started H enc _ => nameAgain_lifted os started H enc)
end Go.Proofs.Ytalckkfoplaeeaa
