/- Part of the proof that TopStepsCard holds. -/
import Derived.Test.YtghgbehknhmnaaaGreatDoorLiE
import Derived.Test.YtghgbehknhmnaaaGreatDoorRows
import Derived.ProofKit
set_option linter.all false
namespace Go.Proofs.YtghgbehknhmnaaaGreatDoor
open Go.ChangeShapes Go.WideShapes Go.ChangeAt Go.RowKit
def mc:(Rows.topStepsRow.inPlace==Tryz.pinned.checked.prog.inPlace 4)=true:=aj
def iJ:(Rows.topStepsRow.unfollowed==Tryz.pinned.checked.prog.unfollowed 4)=true:=aj
def l9:(Rows.topStepsRow.recurses==Tryz.pinned.checked.prog.recurses 4)=true:=aj
def iK:(Rows.topStepsRow.named==Tryz.pinned.checked.prog.varsNamed 4)=true:=aj
set_option maxRecDepth 100000 in
def oR:joinedFacts Tryz.pinned.checked.prog 4 Tryz.f4 Rows.topStepsSpec Rows.topStepsRow=true:=by
 simp only[joinedFacts,aD]
 repeat' apply And.intro
 all_goals first | with_reducible exact mc | with_reducible exact iJ | with_reducible exact l9 | with_reducible exact iK | kernel_rfl
end Go.Proofs.YtghgbehknhmnaaaGreatDoor
