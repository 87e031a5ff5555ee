/-
  The law NameBack is true, whatever the input.
-/
import Derived.Test.YtalckkfoplaeeaaRows
import Derived.Test.YtalckkfoplaeeaaJ06
import Derived.ProofKit
set_option linter.unusedSimpArgs false
set_option linter.unusedVariables false
namespace Go.Proofs.Ytalckkfoplaeeaa
open Go.ChangeShapes Go.WideShapes Go.ChangeAt Go.RowKit Go.Am

theorem nameBack_own : ownKnob Try.prog.godebug = none := by kernel_rfl
theorem nameBack_laid : laidOutB Try.prog = true := by kernel_rfl
theorem nameBack_tds : paramTDs Try.prog 9 Try.f4.params.toList = some [(false, [.l false [.s]])] := by kernel_rfl
set_option maxRecDepth 100000 in
theorem nameBack_lifted (os : Os) (started : os.Started) (H : Type) (enc : TypeId × Value → H) :
    ReturnsInHanded {} Try.checked os 4 .any (Rows.nameBackSpec.pre6 enc Try.prog Try.f4 Rows.nameBackRow.domain false) (Rows.nameBackSpec.post enc Try.prog Try.f4 false true false false) := by
  refine returnsInHanded_of_change (C := Try.checked) nameBack_own started (by kernel_rfl) Try.func4
    (ChangeSpec.witness6 (enc := enc) (C := Try.checked) false ⟨#[], #[.slice none 0 0], []⟩ 8 (by kernel_rfl) (by kernel_rfl) (by kernel_rfl) (by kernel_rfl)) ?_
  intro W base args ds gs before hval0 hW hcnd _
  have hval : ∀ (j : Nat) t v, Try.f4.params[j]? = some t → args[j]? = some v → Value.okWide Try.prog W .any base t v := hval0
  exact law_contract hmix (tab06_ok 16) nameBack_laid ok4 rfl (by kernel_rfl) nameBack_tds (by kernel_rfl) (tb := 4) (by kernel_rfl)
    (fun H ds hl => by
      match ds, hl with
      | [d0], _ => rfl) law4 hval hW
/-- The statement. -/
theorem nameBack_holds : Rows.NameBackSaid :=
  OpenClaim.holds_of_wide 4 Try.f4 rfl rfl rfl rfl rfl rfl rfl ⟨rfl, rfl, rfl, rfl, rfl⟩ rfl rfl rfl rfl rfl (by kernel_rfl) Try.func4 (by kernel_rfl)
    (of_decide_eq_true (by kernel_rfl)) (by unfold Func.isWrapper; first | (rw [if_pos (by decide +kernel)]; kernel_rfl) | (rw [if_neg (by decide +kernel)]; exact ⟨rfl, rfl⟩))
    (fun os started H enc _ => nameBack_lifted os started H enc)
end Go.Proofs.Ytalckkfoplaeeaa
