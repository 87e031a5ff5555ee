/-
  The law NameTells is true, whatever the input.
-/
import Derived.Test.YtalckkfoplaeeaaRows
import Derived.Test.YtalckkfoplaeeaaJ06
import Derived.ProofKit
set_option linter.unusedSimpArgs false
set_option linter.unusedVariables false
namespace Go.Proofs.Ytalckkfoplaeeaa
open Go.ChangeShapes Go.WideShapes Go.ChangeAt Go.RowKit Go.Am

theorem nameTells_own : ownKnob Try.prog.godebug = none := by kernel_rfl
theorem nameTells_laid : laidOutB Try.prog = true := by kernel_rfl
theorem nameTells_tds : paramTDs Try.prog 9 Try.f3.params.toList = some [(false, [.s]), (false, [.s]), (false, [.l false [.s]])] := by kernel_rfl
set_option maxRecDepth 100000 in
theorem nameTells_lifted (os : Os) (started : os.Started) (H : Type) (enc : TypeId × Value → H) :
    ReturnsInHanded {} Try.checked os 3 .any (Rows.nameTellsSpec.pre6 enc Try.prog Try.f3 Rows.nameTellsRow.domain false) (Rows.nameTellsSpec.post enc Try.prog Try.f3 false true false false) := by
  refine returnsInHanded_of_change (C := Try.checked) nameTells_own started (by kernel_rfl) Try.func3
    (ChangeSpec.witness6 (enc := enc) (C := Try.checked) false ⟨#[], #[.string ⟨#[]⟩, .string ⟨#[]⟩, .slice none 0 0], []⟩ 8 (by kernel_rfl) (by kernel_rfl) (by kernel_rfl) (by kernel_rfl)) ?_
  intro W base args ds gs before hval0 hW hcnd _
  have hval : ∀ (j : Nat) t v, Try.f3.params[j]? = some t → args[j]? = some v → Value.okWide Try.prog W .any base t v := hval0
  exact law_contract hmix (tab06_ok 15) nameTells_laid ok3 rfl (by kernel_rfl) nameTells_tds (by kernel_rfl) (tb := 4) (by kernel_rfl)
    (fun H ds hl => by
      match ds, hl with
      | [d0, d1, d2], _ => rfl) law3 hval hW
/-- The statement. -/
theorem nameTells_holds : Rows.NameTellsSaid :=
  OpenClaim.holds_of_wide 3 Try.f3 rfl rfl rfl rfl rfl rfl rfl ⟨rfl, rfl, rfl, rfl, rfl⟩ rfl rfl rfl rfl rfl (by kernel_rfl) Try.func3 (by kernel_rfl)
    (of_decide_eq_true (by kernel_rfl)) (by unfold Func.isWrapper; first | (rw [if_pos (by decide +kernel)]; kernel_rfl) | (rw [if_neg (by decide +kernel)]; exact ⟨rfl, rfl⟩))
    (fun os started H enc _ => nameTells_lifted os started H enc)
end Go.Proofs.Ytalckkfoplaeeaa
