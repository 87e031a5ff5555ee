/-
  The law QuotaAdds is true, whatever the input.
-/
import Derived.Test.YtfdenmkoampgnaaGreatRows
import Derived.Test.YtfdenmkoampgnaaGreatZ49
import Derived.ProofKit
set_option linter.unusedSimpArgs false
set_option linter.unusedVariables false
namespace Go.Proofs.YtfdenmkoampgnaaGreat
open Go.ChangeShapes Go.WideShapes Go.ChangeAt Go.RowKit Go.Am

theorem quotaAdds_own : ownKnob Tryz.prog.godebug = none := by kernel_rfl
theorem quotaAdds_laid : laidOutB Tryz.prog = true := by kernel_rfl
theorem quotaAdds_tds : paramTDs Tryz.prog 9 Tryz.f3.params.toList = some [(false, [.l true [.i .u8, .i .u8, .i .u8, .i .u8, .i .u8, .l false [.i .u8]]]), (false, [.l true [.i .u8, .i .i8, .i .i8]]), (false, [.i .u8]), (false, [.i .u8]), (false, [.i .u8])] := by kernel_rfl
set_option maxRecDepth 100000 in
theorem quotaAdds_lifted (os : Os) (started : os.Started) (H : Type) (enc : TypeId × Value → H) :
    ReturnsInHanded {} Tryz.checked os 3 .any (Rows.quotaAddsSpec.pre6 enc Tryz.prog Tryz.f3 Rows.quotaAddsRow.domain false) (Rows.quotaAddsSpec.post enc Tryz.prog Tryz.f3 false true false false) := by
  refine returnsInHanded_of_change (C := Tryz.checked) quotaAdds_own started (by kernel_rfl) Tryz.func3
    (ChangeSpec.witness6 (enc := enc) (C := Tryz.checked) false ⟨#[], #[.slice none 0 0, .slice none 0 0, .int .u8 0, .int .u8 0, .int .u8 0], []⟩ 8 (by kernel_rfl) (by kernel_rfl) (by kernel_rfl) (by kernel_rfl)) ?_
  intro W base args ds gs before hval0 hW hcnd _
  have hval : ∀ (j : Nat) t v, Tryz.f3.params[j]? = some t → args[j]? = some v → Value.okWide Tryz.prog W .any base t v := hval0
  exact law_contract hmix (tab49_ok 87) quotaAdds_laid ok3 rfl (by kernel_rfl) quotaAdds_tds (by kernel_rfl) (tb := 4) (by kernel_rfl)
    (fun H ds hl => by
      match ds, hl with
      | [d0, d1, d2, d3, d4], _ => rfl) law3 hval hW
/-- The statement. -/
theorem quotaAdds_holds : Rows.QuotaAddsSaid :=
  OpenClaim.holds_of_wide 3 Tryz.f3 rfl rfl rfl rfl rfl rfl rfl ⟨rfl, rfl, rfl, rfl, rfl⟩ rfl rfl rfl rfl rfl (by kernel_rfl) Tryz.func3 (by kernel_rfl)
    (of_decide_eq_true (by kernel_rfl)) (by unfold Func.isWrapper; first | (rw [if_pos (by decide +kernel)]; kernel_rfl) | (rw [if_neg (by decide +kernel)]; exact ⟨rfl, rfl⟩))
    (fun os started H enc _ => quotaAdds_lifted os started H enc)
end Go.Proofs.YtfdenmkoampgnaaGreat
