/-
 The law CrossTells is true, whatever the input.
-/
import Derived.Test.YtgefdmkmobaefaaRows
import Derived.Test.YtgefdmkmobaefaaX19YK
import Derived.ProofKit
set_option linter.unusedSimpArgs false
set_option linter.unusedVariables false
namespace Go.Proofs.Ytgefdmkmobaefaa
open Go.ChangeShapes Go.WideShapes Go.ChangeAt Go.RowKit Go.Am
theorem crossTells_own : ownKnob Try.prog.godebug = none := by kernel_rfl
theorem crossTells_laid : laidOutB Try.prog = true := by kernel_rfl
theorem crossTells_tds : paramTDs Try.prog 9 Try.f5.params.toList = some [(false, [.l true [.i .u8, .i .u8, .i .u8, .i .u8, .i .u8, .i .u8]]), (true, [.i .i64, .i .i64, .i .i64, .l false [.i .i64], .l false [.i .u8]]), (false, [.s])] := by kernel_rfl
set_option maxRecDepth 100000 in
theorem crossTells_lifted (os : Os) (started : os.Started) (H : Type) (enc : TypeId × Value → H) :
  ReturnsInHanded {} Try.checked os 5 .any (Rows.crossTellsSpec.pre6 enc Try.prog Try.f5 Rows.crossTellsRow.domain false) (Rows.crossTellsSpec.post enc Try.prog Try.f5 false true false false) := by
 refine returnsInHanded_of_change (C := Try.checked) crossTells_own started (by kernel_rfl) Try.func5
  (ChangeSpec.witness6 (enc := enc) (C := Try.checked) false ⟨#[], #[.slice none 0 0, .agg #[.int .i64 0, .int .i64 0, .int .i64 0, .slice none 0 0, .slice none 0 0], .string ⟨#[]⟩], []⟩ 8 (by kernel_rfl) (by kernel_rfl) (by kernel_rfl) (by kernel_rfl)) ?_
 intro W base args ds gs before hval0 hW hcnd _
 have hval : ∀ (j : Nat) t v, Try.f5.params[j]? = some t → args[j]? = some v → Value.okWide Try.prog W .any base t v := hval0
 exact law_contract hmix (tab19_ok 88) crossTells_laid ok5 rfl (by kernel_rfl) crossTells_tds (by kernel_rfl) (tb := 4) (by kernel_rfl)
  (fun H ds hl => by
   match ds, hl with
   | [d0, d1, d2], _ => rfl) law5 hval hW
theorem crossTells_holds : Rows.CrossTellsSaid :=
 OpenClaim.holds_of_wide 5 Try.f5 rfl rfl rfl rfl rfl rfl rfl ⟨rfl, rfl, rfl, rfl, rfl⟩ rfl rfl rfl rfl rfl (by kernel_rfl) Try.func5 (by kernel_rfl)
  (of_decide_eq_true (by kernel_rfl)) (by unfold Func.isWrapper; first | (rw [if_pos (by decide +kernel)]; kernel_rfl) | (rw [if_neg (by decide +kernel)]; exact ⟨rfl, rfl⟩))
  (fun os started H enc _ => crossTells_lifted os started H enc)
end Go.Proofs.Ytgefdmkmobaefaa
