/-
  The law CacheRises is true, whatever the input.
-/
import Derived.Test.YtnokdfhhnjmeoaaRows
import Derived.Test.YtnokdfhhnjmeoaaL23
import Derived.ProofKit
set_option linter.unusedSimpArgs false
set_option linter.unusedVariables false
namespace Go.Proofs.Ytnokdfhhnjmeoaa
open Go.ChangeShapes Go.WideShapes Go.ChangeAt Go.RowKit Go.Am

theorem cacheRises_own : ownKnob Try.prog.godebug = none := by kernel_rfl
theorem cacheRises_laid : laidOutB Try.prog = true := by kernel_rfl
theorem cacheRises_tds : paramTDs Try.prog 9 Try.f8.params.toList = some [(false, [.l true [.i .u8, .i .i64, .i .i64, .s, .i .i64, .l false [.i .u8], .i .i64]])] := by kernel_rfl
set_option maxRecDepth 100000 in
theorem cacheRises_lifted (os : Os) (started : os.Started) (H : Type) (enc : TypeId × Value → H) :
    ReturnsInHanded {} Try.checked os 8 .any (Rows.cacheRisesSpec.pre6 enc Try.prog Try.f8 Rows.cacheRisesRow.domain false) (Rows.cacheRisesSpec.post enc Try.prog Try.f8 false true false false) := by
  refine returnsInHanded_of_change (C := Try.checked) cacheRises_own started (by kernel_rfl) Try.func8
    (ChangeSpec.witness6 (enc := enc) (C := Try.checked) false ⟨#[], #[.slice none 0 0], []⟩ 8 (by kernel_rfl) (by kernel_rfl) (by kernel_rfl) (by kernel_rfl)) ?_
  intro W base args ds gs before hval0 hW hcnd _
  have hval : ∀ (j : Nat) t v, Try.f8.params[j]? = some t → args[j]? = some v → Value.okWide Try.prog W .any base t v := hval0
  exact law_contract hmix (tab23_ok 51) cacheRises_laid ok8 rfl (by kernel_rfl) cacheRises_tds (by kernel_rfl) (tb := 4) (by kernel_rfl)
    (fun H ds hl => by
      match ds, hl with
      | [d0], _ => rfl) law8 hval hW
/-- The statement. -/
theorem cacheRises_holds : Rows.CacheRisesSaid :=
  OpenClaim.holds_of_wide 8 Try.f8 rfl rfl rfl rfl rfl rfl rfl ⟨rfl, rfl, rfl, rfl, rfl⟩ rfl rfl rfl rfl rfl (by kernel_rfl) Try.func8 (by kernel_rfl)
    (of_decide_eq_true (by kernel_rfl)) (by unfold Func.isWrapper; first | (rw [if_pos (by decide +kernel)]; kernel_rfl) | (rw [if_neg (by decide +kernel)]; exact ⟨rfl, rfl⟩))
    (fun os started H enc _ => cacheRises_lifted os started H enc)
end Go.Proofs.Ytnokdfhhnjmeoaa
