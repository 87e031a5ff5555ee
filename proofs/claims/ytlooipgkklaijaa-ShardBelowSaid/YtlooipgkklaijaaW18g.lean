/-
  The law ShardBelow is true, whatever the input.
-/
import Derived.Test.YtlooipgkklaijaaRows
import Derived.Test.YtlooipgkklaijaaZ18
import Derived.ProofKit
set_option linter.unusedSimpArgs false
set_option linter.unusedVariables false
namespace Go.Proofs.Ytlooipgkklaijaa
open Go.ChangeShapes Go.WideShapes Go.ChangeAt Go.RowKit Go.Am

theorem shardBelow_own : ownKnob Try.prog.godebug = none := by kernel_rfl
theorem shardBelow_laid : laidOutB Try.prog = true := by kernel_rfl
theorem shardBelow_tds : paramTDs Try.prog 9 Try.f9.params.toList = some [(false, [.i .u8]), (false, [.l true [.i .u8, .s, .i .i64]]), (false, [.s]), (false, [.s])] := by kernel_rfl
set_option maxRecDepth 100000 in
theorem shardBelow_lifted (os : Os) (started : os.Started) (H : Type) (enc : TypeId × Value → H) :
    ReturnsInHanded {} Try.checked os 9 .any (Rows.shardBelowSpec.pre6 enc Try.prog Try.f9 Rows.shardBelowRow.domain false) (Rows.shardBelowSpec.post enc Try.prog Try.f9 false true false false) := by
  refine returnsInHanded_of_change (C := Try.checked) shardBelow_own started (by kernel_rfl) Try.func9
    (ChangeSpec.witness6 (enc := enc) (C := Try.checked) false ⟨#[], #[.int .u8 0, .slice none 0 0, .string ⟨#[]⟩, .string ⟨#[]⟩], []⟩ 8 (by kernel_rfl) (by kernel_rfl) (by kernel_rfl) (by kernel_rfl)) ?_
  intro W base args ds gs before hval0 hW hcnd _
  have hval : ∀ (j : Nat) t v, Try.f9.params[j]? = some t → args[j]? = some v → Value.okWide Try.prog W .any base t v := hval0
  exact law_contract hmix (tab18_ok 63) shardBelow_laid ok9 rfl (by kernel_rfl) shardBelow_tds (by kernel_rfl) (tb := 4) (by kernel_rfl)
    (fun H ds hl => by
      match ds, hl with
      | [d0, d1, d2, d3], _ => rfl) law9 hval hW
/-- The statement. -/
theorem shardBelow_holds : Rows.ShardBelowSaid :=
  OpenClaim.holds_of_wide 9 Try.f9 rfl rfl rfl rfl rfl rfl rfl ⟨rfl, rfl, rfl, rfl, rfl⟩ rfl rfl rfl rfl rfl (by kernel_rfl) Try.func9 (by kernel_rfl)
    (of_decide_eq_true (by kernel_rfl)) (by unfold Func.isWrapper; first | (rw [if_pos (by decide +kernel)]; kernel_rfl) | (rw [if_neg (by decide +kernel)]; exact ⟨rfl, rfl⟩))
    (fun os started H enc _ => shardBelow_lifted os started H enc)
end Go.Proofs.Ytlooipgkklaijaa
