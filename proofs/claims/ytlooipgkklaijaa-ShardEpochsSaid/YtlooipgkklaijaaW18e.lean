/-
  The law ShardEpochs is true, whatever the input.
-/
import Derived.Test.YtlooipgkklaijaaRows
import Derived.Test.YtlooipgkklaijaaZ18
import Derived.ProofKit
set_option linter.unusedSimpArgs false
set_option linter.unusedVariables false
namespace Go.Proofs.Ytlooipgkklaijaa
open Go.ChangeShapes Go.WideShapes Go.ChangeAt Go.RowKit Go.Am

theorem shardEpochs_own : ownKnob Try.prog.godebug = none := by kernel_rfl
theorem shardEpochs_laid : laidOutB Try.prog = true := by kernel_rfl
theorem shardEpochs_tds : paramTDs Try.prog 9 Try.f7.params.toList = some [(false, [.i .u8]), (false, [.l true [.i .u8, .s, .i .i64]]), (true, [.i .u8, .s, .i .i64]), (false, [.s])] := by kernel_rfl
set_option maxRecDepth 100000 in
theorem shardEpochs_lifted (os : Os) (started : os.Started) (H : Type) (enc : TypeId × Value → H) :
    ReturnsInHanded {} Try.checked os 7 .any (Rows.shardEpochsSpec.pre6 enc Try.prog Try.f7 Rows.shardEpochsRow.domain false) (Rows.shardEpochsSpec.post enc Try.prog Try.f7 false true false false) := by
  refine returnsInHanded_of_change (C := Try.checked) shardEpochs_own started (by kernel_rfl) Try.func7
    (ChangeSpec.witness6 (enc := enc) (C := Try.checked) false ⟨#[], #[.int .u8 0, .slice none 0 0, .agg #[.int .u8 0, .string ⟨#[]⟩, .int .i64 0], .string ⟨#[]⟩], []⟩ 8 (by kernel_rfl) (by kernel_rfl) (by kernel_rfl) (by kernel_rfl)) ?_
  intro W base args ds gs before hval0 hW hcnd _
  have hval : ∀ (j : Nat) t v, Try.f7.params[j]? = some t → args[j]? = some v → Value.okWide Try.prog W .any base t v := hval0
  exact law_contract hmix (tab18_ok 61) shardEpochs_laid ok7 rfl (by kernel_rfl) shardEpochs_tds (by kernel_rfl) (tb := 4) (by kernel_rfl)
    (fun H ds hl => by
      match ds, hl with
      | [d0, d1, d2, d3], _ => rfl) law7 hval hW
/-- The statement. -/
theorem shardEpochs_holds : Rows.ShardEpochsSaid :=
  OpenClaim.holds_of_wide 7 Try.f7 rfl rfl rfl rfl rfl rfl rfl ⟨rfl, rfl, rfl, rfl, rfl⟩ rfl rfl rfl rfl rfl (by kernel_rfl) Try.func7 (by kernel_rfl)
    (of_decide_eq_true (by kernel_rfl)) (by unfold Func.isWrapper; first | (rw [if_pos (by decide +kernel)]; kernel_rfl) | (rw [if_neg (by decide +kernel)]; exact ⟨rfl, rfl⟩))
    (fun os started H enc _ => shardEpochs_lifted os started H enc)
end Go.Proofs.Ytlooipgkklaijaa
