/-
  The law QuotaNearest is true, whatever the input.
-/
import Derived.Test.YtfdenmkoampgnaaRows
import Derived.Test.YtfdenmkoampgnaaZ09
import Derived.ProofKit
set_option linter.unusedSimpArgs false
set_option linter.unusedVariables false
namespace Go.Proofs.Ytfdenmkoampgnaa
open Go.ChangeShapes Go.WideShapes Go.ChangeAt Go.RowKit Go.Am

theorem quotaNearest_own : ownKnob Try.prog.godebug = none := by kernel_rfl
theorem quotaNearest_laid : laidOutB Try.prog = true := by kernel_rfl
theorem quotaNearest_tds : paramTDs Try.prog 9 Try.f6.params.toList = some [(false, [.l true [.i .u8, .i .u8, .i .u8, .i .u8, .i .u8, .l false [.i .u8]]]), (false, [.l true [.i .u8, .i .i8, .i .i8]]), (false, [.i .u8])] := by kernel_rfl
set_option maxRecDepth 100000 in
theorem quotaNearest_lifted (os : Os) (started : os.Started) (H : Type) (enc : TypeId × Value → H) :
    ReturnsInHanded {} Try.checked os 6 .any (Rows.quotaNearestSpec.pre6 enc Try.prog Try.f6 Rows.quotaNearestRow.domain false) (Rows.quotaNearestSpec.post enc Try.prog Try.f6 false true false false) := by
  refine returnsInHanded_of_change (C := Try.checked) quotaNearest_own started (by kernel_rfl) Try.func6
    (ChangeSpec.witness6 (enc := enc) (C := Try.checked) false ⟨#[], #[.slice none 0 0, .slice none 0 0, .int .u8 0], []⟩ 8 (by kernel_rfl) (by kernel_rfl) (by kernel_rfl) (by kernel_rfl)) ?_
  intro W base args ds gs before hval0 hW hcnd _
  have hval : ∀ (j : Nat) t v, Try.f6.params[j]? = some t → args[j]? = some v → Value.okWide Try.prog W .any base t v := hval0
  exact law_contract hmix (tab09_ok 69) quotaNearest_laid ok6 rfl (by kernel_rfl) quotaNearest_tds (by kernel_rfl) (tb := 4) (by kernel_rfl)
    (fun H ds hl => by
      match ds, hl with
      | [d0, d1, d2], _ => rfl) law6 hval hW
/-- The statement. -/
theorem quotaNearest_holds : Rows.QuotaNearestSaid :=
  OpenClaim.holds_of_wide 6 Try.f6 rfl rfl rfl rfl rfl rfl rfl ⟨rfl, rfl, rfl, rfl, rfl⟩ rfl rfl rfl rfl rfl (by kernel_rfl) Try.func6 (by kernel_rfl)
    (of_decide_eq_true (by kernel_rfl)) (by unfold Func.isWrapper; first | (rw [if_pos (by decide +kernel)]; kernel_rfl) | (rw [if_neg (by decide +kernel)]; exact ⟨rfl, rfl⟩))
    (fun os started H enc _ => quotaNearest_lifted os started H enc)
end Go.Proofs.Ytfdenmkoampgnaa
