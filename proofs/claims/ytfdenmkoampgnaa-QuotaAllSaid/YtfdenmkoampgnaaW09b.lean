/-
  The law QuotaAll is true, whatever the input.
-/
import Derived.Test.YtfdenmkoampgnaaRows
import Derived.Test.YtfdenmkoampgnaaZ09
import Derived.ProofKit
set_option linter.unusedSimpArgs false
set_option linter.unusedVariables false
namespace Go.Proofs.Ytfdenmkoampgnaa
open Go.ChangeShapes Go.WideShapes Go.ChangeAt Go.RowKit Go.Am

theorem quotaAll_own : ownKnob Try.prog.godebug = none := by kernel_rfl
theorem quotaAll_laid : laidOutB Try.prog = true := by kernel_rfl
theorem quotaAll_tds : paramTDs Try.prog 9 Try.f4.params.toList = some [(false, [.l true [.i .u8, .i .u8, .i .u8, .i .u8, .i .u8, .l false [.i .u8]]]), (false, [.i .u8])] := by kernel_rfl
set_option maxRecDepth 100000 in
theorem quotaAll_lifted (os : Os) (started : os.Started) (H : Type) (enc : TypeId × Value → H) :
    ReturnsInHanded {} Try.checked os 4 .any (Rows.quotaAllSpec.pre6 enc Try.prog Try.f4 Rows.quotaAllRow.domain false) (Rows.quotaAllSpec.post enc Try.prog Try.f4 false true false false) := by
  refine returnsInHanded_of_change (C := Try.checked) quotaAll_own started (by kernel_rfl) Try.func4
    (ChangeSpec.witness6 (enc := enc) (C := Try.checked) false ⟨#[], #[.slice none 0 0, .int .u8 0], []⟩ 8 (by kernel_rfl) (by kernel_rfl) (by kernel_rfl) (by kernel_rfl)) ?_
  intro W base args ds gs before hval0 hW hcnd _
  have hval : ∀ (j : Nat) t v, Try.f4.params[j]? = some t → args[j]? = some v → Value.okWide Try.prog W .any base t v := hval0
  exact law_contract hmix (tab09_ok 67) quotaAll_laid ok4 rfl (by kernel_rfl) quotaAll_tds (by kernel_rfl) (tb := 4) (by kernel_rfl)
    (fun H ds hl => by
      match ds, hl with
      | [d0, d1], _ => rfl) law4 hval hW
/-- The statement. -/
theorem quotaAll_holds : Rows.QuotaAllSaid :=
  OpenClaim.holds_of_wide 4 Try.f4 rfl rfl rfl rfl rfl rfl rfl ⟨rfl, rfl, rfl, rfl, rfl⟩ rfl rfl rfl rfl rfl (by kernel_rfl) Try.func4 (by kernel_rfl)
    (of_decide_eq_true (by kernel_rfl)) (by unfold Func.isWrapper; first | (rw [if_pos (by decide +kernel)]; kernel_rfl) | (rw [if_neg (by decide +kernel)]; exact ⟨rfl, rfl⟩))
    (fun os started H enc _ => quotaAll_lifted os started H enc)
end Go.Proofs.Ytfdenmkoampgnaa
