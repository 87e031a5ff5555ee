/-
  The law HoldRight is true, whatever the input.
-/
import Derived.Test.YtdnoopjpkcmpjaaRows
import Derived.Test.YtdnoopjpkcmpjaaZ08
import Derived.ProofKit
set_option linter.unusedSimpArgs false
set_option linter.unusedVariables false
namespace Go.Proofs.Ytdnoopjpkcmpjaa
open Go.ChangeShapes Go.WideShapes Go.ChangeAt Go.RowKit Go.Am

theorem holdRight_own : ownKnob Try.prog.godebug = none := by kernel_rfl
theorem holdRight_laid : laidOutB Try.prog = true := by kernel_rfl
theorem holdRight_tds : paramTDs Try.prog 9 Try.f5.params.toList = some [(false, [.l true [.i .u8, .i .u8, .i .u8, .i .u8, .i .u8, .l false [.i .u8]]]), (false, [.l true [.i .u8, .i .u8, .i .u8, .i .u8, .i .u8]]), (true, [.i .u8, .i .u8, .i .u8, .i .u8, .i .u8])] := by kernel_rfl
set_option maxRecDepth 100000 in
theorem holdRight_lifted (os : Os) (started : os.Started) (H : Type) (enc : TypeId × Value → H) :
    ReturnsInHanded {} Try.checked os 5 .any (Rows.holdRightSpec.pre6 enc Try.prog Try.f5 Rows.holdRightRow.domain false) (Rows.holdRightSpec.post enc Try.prog Try.f5 false true false false) := by
  refine returnsInHanded_of_change (C := Try.checked) holdRight_own started (by kernel_rfl) Try.func5
    (ChangeSpec.witness6 (enc := enc) (C := Try.checked) false ⟨#[], #[.slice none 0 0, .slice none 0 0, .agg #[.int .u8 0, .int .u8 0, .int .u8 0, .int .u8 0, .int .u8 0]], []⟩ 8 (by kernel_rfl) (by kernel_rfl) (by kernel_rfl) (by kernel_rfl)) ?_
  intro W base args ds gs before hval0 hW hcnd _
  have hval : ∀ (j : Nat) t v, Try.f5.params[j]? = some t → args[j]? = some v → Value.okWide Try.prog W .any base t v := hval0
  exact law_contract hmix (tab08_ok 93) holdRight_laid ok5 rfl (by kernel_rfl) holdRight_tds (by kernel_rfl) (tb := 4) (by kernel_rfl)
    (fun H ds hl => by
      match ds, hl with
      | [d0, d1, d2], _ => rfl) law5 hval hW
/-- The statement. -/
theorem holdRight_holds : Rows.HoldRightSaid :=
  OpenClaim.holds_of_wide 5 Try.f5 rfl rfl rfl rfl rfl rfl rfl ⟨rfl, rfl, rfl, rfl, rfl⟩ rfl rfl rfl rfl rfl (by kernel_rfl) Try.func5 (by kernel_rfl)
    (of_decide_eq_true (by kernel_rfl)) (by unfold Func.isWrapper; first | (rw [if_pos (by decide +kernel)]; kernel_rfl) | (rw [if_neg (by decide +kernel)]; exact ⟨rfl, rfl⟩))
    (fun os started H enc _ => holdRight_lifted os started H enc)
end Go.Proofs.Ytdnoopjpkcmpjaa
