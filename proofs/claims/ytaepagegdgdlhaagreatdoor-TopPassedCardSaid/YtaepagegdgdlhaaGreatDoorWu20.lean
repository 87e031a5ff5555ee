/- Part of the proof that TopPassedCard holds. -/
import Derived.Test.YtaepagegdgdlhaaGreatDoorCrE
import Derived.Test.YtaepagegdgdlhaaGreatDoorRows
import Derived.ProofKit
set_option linter.all false
namespace Go.Proofs.YtaepagegdgdlhaaGreatDoor
open Go.ChangeShapes Go.WideShapes Go.ChangeAt Go.RowKit
def CJ:joinedFacts Tryz.pinned.checked.prog 3 Tryz.f3 Rows.topPassedSpec Rows.topPassedRow=true:=ai
end Go.Proofs.YtaepagegdgdlhaaGreatDoor
