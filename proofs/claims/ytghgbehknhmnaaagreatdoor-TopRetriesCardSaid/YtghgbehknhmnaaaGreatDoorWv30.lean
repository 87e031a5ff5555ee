/- Part of the proof that TopRetriesCard holds. -/
import Derived.Test.YtghgbehknhmnaaaGreatDoorLiD
import Derived.Test.YtghgbehknhmnaaaGreatDoorRows
import Derived.ProofKit
set_option linter.all false
namespace Go.Proofs.YtghgbehknhmnaaaGreatDoor
open Go.ChangeShapes Go.WideShapes Go.ChangeAt Go.RowKit
def vb:(Rows.topRetriesRow.inPlace==Tryz.pinned.checked.prog.inPlace 3)=true:=aj
def sD:(Rows.topRetriesRow.unfollowed==Tryz.pinned.checked.prog.unfollowed 3)=true:=aj
def uB:(Rows.topRetriesRow.recurses==Tryz.pinned.checked.prog.recurses 3)=true:=aj
def sK:(Rows.topRetriesRow.named==Tryz.pinned.checked.prog.varsNamed 3)=true:=aj
set_option maxRecDepth 100000 in
def w6:joinedFacts Tryz.pinned.checked.prog 3 Tryz.f3 Rows.topRetriesSpec Rows.topRetriesRow=true:=by
 simp only[joinedFacts,aF]
 repeat' apply And.intro
 all_goals first | with_reducible exact vb | with_reducible exact sD | with_reducible exact uB | with_reducible exact sK | kernel_rfl
end Go.Proofs.YtghgbehknhmnaaaGreatDoor
