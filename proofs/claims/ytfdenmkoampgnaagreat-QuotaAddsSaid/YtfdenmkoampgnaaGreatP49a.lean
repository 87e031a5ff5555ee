import Derived.Test.YtfdenmkoampgnaaGreatU49GG
import Derived.Test.YtfdenmkoampgnaaGreatTrGM
set_option linter.unusedSimpArgs false
set_option linter.unusedVariables false
namespace Go.Proofs.YtfdenmkoampgnaaGreat
open Go.Am Go.Tr

theorem quo_inv (t : Tr.Tree) (gs : List Gi) : InvQ t (quoL t gs).1 := by
  have key : ∀ (l : List Gi) (s : List Qu × Bool), InvQ t s.1 → InvQ t (l.foldl (quoS t) s).1 := by
    intro l
    induction l with
    | nil => intro s h; exact h
    | cons g l ih =>
      intro s h
      rw [List.foldl_cons]
      exact ih _ (h.set _ _ _)
  exact key _ _ (InvQ.nil t)
end Go.Proofs.YtfdenmkoampgnaaGreat
