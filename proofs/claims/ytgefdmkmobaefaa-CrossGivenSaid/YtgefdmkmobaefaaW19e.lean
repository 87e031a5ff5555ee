/-
 The law CrossGiven is true, whatever the input.
-/
import Derived.Test.YtgefdmkmobaefaaRows
import Derived.Test.YtgefdmkmobaefaaXl19
import Derived.ProofKit
set_option linter.unusedSimpArgs false
set_option linter.unusedVariables false
namespace Go.Proofs.Ytgefdmkmobaefaa
open Go.ChangeShapes Go.WideShapes Go.ChangeAt Go.RowKit Go.Am
theorem crossGiven_own : ownKnob Try.prog.godebug = none := by kernel_rfl
theorem crossGiven_laid : laidOutB Try.prog = true := by kernel_rfl
theorem crossGiven_tds : paramTDs Try.prog 9 Try.f8.params.toList = some [(false, [.l true [.i .u8, .i .u8, .i .u8, .i .u8, .i .u8, .i .u8]]), (false, [.l true [.i .u8, .i .u8, .i .u8, .i .u8, .i .u8, .i .u8]])] := by kernel_rfl
set_option maxRecDepth 100000 in
theorem crossGiven_lifted (os : Os) (started : os.Started) (H : Type) (enc : TypeId × Value → H) :
  ReturnsInHanded {} Try.checked os 8 .any (Rows.crossGivenSpec.pre6 enc Try.prog Try.f8 Rows.crossGivenRow.domain false) (Rows.crossGivenSpec.post enc Try.prog Try.f8 false true false false) := by
 refine returnsInHanded_of_change (C := Try.checked) crossGiven_own started (by kernel_rfl) Try.func8
  (ChangeSpec.witness6 (enc := enc) (C := Try.checked) false ⟨#[], #[.slice none 0 0, .slice none 0 0], []⟩ 8 (by kernel_rfl) (by kernel_rfl) (by kernel_rfl) (by kernel_rfl)) ?_
 intro W base args ds gs before hval0 hW hcnd _
 have hval : ∀ (j : Nat) t v, Try.f8.params[j]? = some t → args[j]? = some v → Value.okWide Try.prog W .any base t v := hval0
 exact law_contract hmix (tab19_ok 96) crossGiven_laid ok8 rfl (by kernel_rfl) crossGiven_tds (by kernel_rfl) (tb := 4) (by kernel_rfl)
  (fun H ds hl => by
   match ds, hl with
   | [d0, d1], _ => rfl) law8 hval hW
theorem crossGiven_holds : Rows.CrossGivenSaid :=
 OpenClaim.holds_of_wide 8 Try.f8 rfl rfl rfl rfl rfl rfl rfl ⟨rfl, rfl, rfl, rfl, rfl⟩ rfl rfl rfl rfl rfl (by kernel_rfl) Try.func8 (by kernel_rfl)
  (of_decide_eq_true (by kernel_rfl)) (by unfold Func.isWrapper; first | (rw [if_pos (by decide +kernel)]; kernel_rfl) | (rw [if_neg (by decide +kernel)]; exact ⟨rfl, rfl⟩))
  (fun os started H enc _ => crossGiven_lifted os started H enc)
end Go.Proofs.Ytgefdmkmobaefaa
