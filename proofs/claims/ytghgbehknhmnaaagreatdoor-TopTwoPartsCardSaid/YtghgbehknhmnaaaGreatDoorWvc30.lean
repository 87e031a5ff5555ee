/- Part of the proof that TopTwoPartsCard holds. -/
import Derived.Test.YtghgbehknhmnaaaGreatDoorLiE
import Derived.Test.YtghgbehknhmnaaaGreatDoorRows
import Derived.ProofKit
set_option linter.all false
namespace Go.Proofs.YtghgbehknhmnaaaGreatDoor
open Go.ChangeShapes Go.WideShapes Go.ChangeAt Go.RowKit
def qL:(Rows.topTwoPartsRow.inPlace==Tryz.pinned.checked.prog.inPlace 5)=true:=aj
def mc:(Rows.topTwoPartsRow.unfollowed==Tryz.pinned.checked.prog.unfollowed 5)=true:=aj
def oR:(Rows.topTwoPartsRow.recurses==Tryz.pinned.checked.prog.recurses 5)=true:=aj
def n9:(Rows.topTwoPartsRow.named==Tryz.pinned.checked.prog.varsNamed 5)=true:=aj
set_option maxRecDepth 100000 in
def s9:joinedFacts Tryz.pinned.checked.prog 5 Tryz.f5 Rows.topTwoPartsSpec Rows.topTwoPartsRow=true:=by
 simp only[joinedFacts,aF]
 repeat' apply And.intro
 all_goals first | with_reducible exact qL | with_reducible exact mc | with_reducible exact oR | with_reducible exact n9 | kernel_rfl
end Go.Proofs.YtghgbehknhmnaaaGreatDoor
