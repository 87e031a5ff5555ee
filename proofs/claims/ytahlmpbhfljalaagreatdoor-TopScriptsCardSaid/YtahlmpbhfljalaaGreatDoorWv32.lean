/- Part of the proof that TopScriptsCard holds. -/
import Derived.Test.YtahlmpbhfljalaaGreatDoorAl0
import Derived.Test.YtahlmpbhfljalaaGreatDoorRows
import Derived.ProofKit
set_option linter.all false
namespace Go.Proofs.YtahlmpbhfljalaaGreatDoor
open Go.ChangeShapes Go.WideShapes Go.ChangeAt Go.RowKit
def uy:(Rows.topScriptsRow.inPlace==Tryz.pinned.checked.prog.inPlace 3)=true:=ai
def rM:(Rows.topScriptsRow.unfollowed==Tryz.pinned.checked.prog.unfollowed 3)=true:=ai
def tW:(Rows.topScriptsRow.recurses==Tryz.pinned.checked.prog.recurses 3)=true:=ai
def rO:(Rows.topScriptsRow.named==Tryz.pinned.checked.prog.varsNamed 3)=true:=ai
set_option maxRecDepth 100000 in
def vY:joinedFacts Tryz.pinned.checked.prog 3 Tryz.f3 Rows.topScriptsSpec Rows.topScriptsRow=true:=by
 simp only[joinedFacts,aC]
 repeat' apply And.intro
 all_goals first | with_reducible exact uy | with_reducible exact rM | with_reducible exact tW | with_reducible exact rO | kernel_rfl
end Go.Proofs.YtahlmpbhfljalaaGreatDoor
