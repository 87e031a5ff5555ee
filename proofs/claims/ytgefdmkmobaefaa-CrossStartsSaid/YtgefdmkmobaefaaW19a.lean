/-
  The law CrossStarts is true, whatever the input.
-/
import Derived.Test.YtgefdmkmobaefaaRows
import Derived.Test.YtgefdmkmobaefaaZ19
import Derived.ProofKit
set_option linter.unusedSimpArgs false
set_option linter.unusedVariables false
namespace Go.Proofs.Ytgefdmkmobaefaa
open Go.ChangeShapes Go.WideShapes Go.ChangeAt Go.RowKit Go.Am

theorem crossStarts_own : ownKnob Try.prog.godebug = none := by kernel_rfl
theorem crossStarts_laid : laidOutB Try.prog = true := by kernel_rfl
theorem crossStarts_tds : paramTDs Try.prog 9 Try.f3.params.toList = some [(false, [.i .u8]), (false, [.l true [.i .i64, .l false [.i .i64], .l false [.s]]])] := by kernel_rfl
set_option maxRecDepth 100000 in
theorem crossStarts_lifted (os : Os) (started : os.Started) (H : Type) (enc : TypeId × Value → H) :
    ReturnsInHanded {} Try.checked os 3 .any (Rows.crossStartsSpec.pre6 enc Try.prog Try.f3 Rows.crossStartsRow.domain false) (Rows.crossStartsSpec.post enc Try.prog Try.f3 false true false false) := by
  refine returnsInHanded_of_change (C := Try.checked) crossStarts_own started (by kernel_rfl) Try.func3
    (ChangeSpec.witness6 (enc := enc) (C := Try.checked) false ⟨#[], #[.int .u8 0, .slice none 0 0], []⟩ 8 (by kernel_rfl) (by kernel_rfl) (by kernel_rfl) (by kernel_rfl)) ?_
  intro W base args ds gs before hval0 hW hcnd _
  have hval : ∀ (j : Nat) t v, Try.f3.params[j]? = some t → args[j]? = some v → Value.okWide Try.prog W .any base t v := hval0
  exact law_contract hmix (tab19_ok 60) crossStarts_laid ok3 rfl (by kernel_rfl) crossStarts_tds (by kernel_rfl) (tb := 4) (by kernel_rfl)
    (fun H ds hl => by
      match ds, hl with
      | [d0, d1], _ => rfl) law3 hval hW
/-- The statement. -/
theorem crossStarts_holds : Rows.CrossStartsSaid :=
  OpenClaim.holds_of_wide 3 Try.f3 rfl rfl rfl rfl rfl rfl rfl ⟨rfl, rfl, rfl, rfl, rfl⟩ rfl rfl rfl rfl rfl (by kernel_rfl) Try.func3 (by kernel_rfl)
    (of_decide_eq_true (by kernel_rfl)) (by unfold Func.isWrapper; first | (rw [if_pos (by decide +kernel)]; kernel_rfl) | (rw [if_neg (by decide +kernel)]; exact ⟨rfl, rfl⟩))
    (fun os started H enc _ => crossStarts_lifted os started H enc)
end Go.Proofs.Ytgefdmkmobaefaa
