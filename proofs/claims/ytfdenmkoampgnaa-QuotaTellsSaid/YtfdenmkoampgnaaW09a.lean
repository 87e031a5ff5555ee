/-
  The law QuotaTells is true, whatever the input.
-/
import Derived.Test.YtfdenmkoampgnaaRows
import Derived.Test.YtfdenmkoampgnaaZ09
import Derived.ProofKit
set_option linter.unusedSimpArgs false
set_option linter.unusedVariables false
namespace Go.Proofs.Ytfdenmkoampgnaa
open Go.ChangeShapes Go.WideShapes Go.ChangeAt Go.RowKit Go.Am

theorem quotaTells_own : ownKnob Try.prog.godebug = none := by kernel_rfl
theorem quotaTells_laid : laidOutB Try.prog = true := by kernel_rfl
theorem quotaTells_tds : paramTDs Try.prog 9 Try.f3.params.toList = some [(false, [.l true [.i .u8, .i .u8, .i .u8, .i .u8, .i .u8, .l false [.i .u8]]]), (false, [.l true [.i .u8, .i .i8, .i .i8]]), (false, [.i .u8]), (false, [.i .u8]), (true, [.i .i64, .i .i64]), (false, [.l true [.i .i64, .i .i64, .i .i64]])] := by kernel_rfl
set_option maxRecDepth 100000 in
theorem quotaTells_lifted (os : Os) (started : os.Started) (H : Type) (enc : TypeId × Value → H) :
    ReturnsInHanded {} Try.checked os 3 .any (Rows.quotaTellsSpec.pre6 enc Try.prog Try.f3 Rows.quotaTellsRow.domain false) (Rows.quotaTellsSpec.post enc Try.prog Try.f3 false true false false) := by
  refine returnsInHanded_of_change (C := Try.checked) quotaTells_own started (by kernel_rfl) Try.func3
    (ChangeSpec.witness6 (enc := enc) (C := Try.checked) false ⟨#[], #[.slice none 0 0, .slice none 0 0, .int .u8 0, .int .u8 0, .agg #[.int .i64 0, .int .i64 0], .slice none 0 0], []⟩ 8 (by kernel_rfl) (by kernel_rfl) (by kernel_rfl) (by kernel_rfl)) ?_
  intro W base args ds gs before hval0 hW hcnd _
  have hval : ∀ (j : Nat) t v, Try.f3.params[j]? = some t → args[j]? = some v → Value.okWide Try.prog W .any base t v := hval0
  exact law_contract hmix (tab09_ok 66) quotaTells_laid ok3 rfl (by kernel_rfl) quotaTells_tds (by kernel_rfl) (tb := 4) (by kernel_rfl)
    (fun H ds hl => by
      match ds, hl with
      | [d0, d1, d2, d3, d4, d5], _ => rfl) law3 hval hW
/-- The statement. -/
theorem quotaTells_holds : Rows.QuotaTellsSaid :=
  OpenClaim.holds_of_wide 3 Try.f3 rfl rfl rfl rfl rfl rfl rfl ⟨rfl, rfl, rfl, rfl, rfl⟩ rfl rfl rfl rfl rfl (by kernel_rfl) Try.func3 (by kernel_rfl)
    (of_decide_eq_true (by kernel_rfl)) (by unfold Func.isWrapper; first | (rw [if_pos (by decide +kernel)]; kernel_rfl) | (rw [if_neg (by decide +kernel)]; exact ⟨rfl, rfl⟩))
    (fun os started H enc _ => quotaTells_lifted os started H enc)
end Go.Proofs.Ytfdenmkoampgnaa
