/-
  The law QuotaSet is true, whatever the input.
-/
import Derived.Test.YtfdenmkoampgnaaRows
import Derived.Test.YtfdenmkoampgnaaZ09
import Derived.ProofKit
set_option linter.unusedSimpArgs false
set_option linter.unusedVariables false
namespace Go.Proofs.Ytfdenmkoampgnaa
open Go.ChangeShapes Go.WideShapes Go.ChangeAt Go.RowKit Go.Am

theorem quotaSet_own : ownKnob Try.prog.godebug = none := by kernel_rfl
theorem quotaSet_laid : laidOutB Try.prog = true := by kernel_rfl
theorem quotaSet_tds : paramTDs Try.prog 9 Try.f5.params.toList = some [(false, [.l true [.i .u8, .i .u8, .i .u8, .i .u8, .i .u8, .l false [.i .u8]]]), (false, [.l true [.i .u8, .i .i8, .i .i8]]), (false, [.i .u8]), (false, [.i .i64]), (false, [.i .i64])] := by kernel_rfl
set_option maxRecDepth 100000 in
theorem quotaSet_lifted (os : Os) (started : os.Started) (H : Type) (enc : TypeId × Value → H) :
    ReturnsInHanded {} Try.checked os 5 .any (Rows.quotaSetSpec.pre6 enc Try.prog Try.f5 Rows.quotaSetRow.domain false) (Rows.quotaSetSpec.post enc Try.prog Try.f5 false true false false) := by
  refine returnsInHanded_of_change (C := Try.checked) quotaSet_own started (by kernel_rfl) Try.func5
    (ChangeSpec.witness6 (enc := enc) (C := Try.checked) false ⟨#[], #[.slice none 0 0, .slice none 0 0, .int .u8 0, .int .i64 0, .int .i64 0], []⟩ 8 (by kernel_rfl) (by kernel_rfl) (by kernel_rfl) (by kernel_rfl)) ?_
  intro W base args ds gs before hval0 hW hcnd _
  have hval : ∀ (j : Nat) t v, Try.f5.params[j]? = some t → args[j]? = some v → Value.okWide Try.prog W .any base t v := hval0
  exact law_contract hmix (tab09_ok 68) quotaSet_laid ok5 rfl (by kernel_rfl) quotaSet_tds (by kernel_rfl) (tb := 4) (by kernel_rfl)
    (fun H ds hl => by
      match ds, hl with
      | [d0, d1, d2, d3, d4], _ => rfl) law5 hval hW
/-- The statement. -/
theorem quotaSet_holds : Rows.QuotaSetSaid :=
  OpenClaim.holds_of_wide 5 Try.f5 rfl rfl rfl rfl rfl rfl rfl ⟨rfl, rfl, rfl, rfl, rfl⟩ rfl rfl rfl rfl rfl (by kernel_rfl) Try.func5 (by kernel_rfl)
    (of_decide_eq_true (by kernel_rfl)) (by unfold Func.isWrapper; first | (rw [if_pos (by decide +kernel)]; kernel_rfl) | (rw [if_neg (by decide +kernel)]; exact ⟨rfl, rfl⟩))
    (fun os started H enc _ => quotaSet_lifted os started H enc)
end Go.Proofs.Ytfdenmkoampgnaa
