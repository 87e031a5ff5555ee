/- Part of the proof that TopTwoPartsCard holds. -/
import Derived.Test.YtghgbehknhmnaaaGreatDoorRows
import Derived.Test.YtghgbehknhmnaaaGreatDoorAmS
import Derived.ProofKit
import Derived.LaidHandle
import Derived.LaidLaws
import Derived.Stop.Joined
import Derived.ChangeVars
set_option linter.all false
namespace Go.Proofs.YtghgbehknhmnaaaGreatDoor
open Go.ChangeShapes Go.WideShapes Go.ChangeAt Go.RowKit
def P4:ownKnob Tryz.prog.godebug=none:=aj
def Ud:Tryz.prog.globalNamed "errors.errorType" = some 0:=aj
def Ub:(Tryz.prog.cutTypes.find? (·.1 == "internal/reflectlite.rtype")).map (·.2)=some 198:=aj
def L2:((List.range Tryz.prog.types.size).filter λt=>Tryz.prog.rowNamed t [101,114,114,111,114])=[74]:=aj
def Ba{W:World}(h:laidMetH Tryz.prog [("errors.errorType",Rows.laid_errors_errorType)] W):∀p∈Go.Am.G0,W.cell? ⟨p.1,0,none⟩=some p.2:=by
 have h':laidMet Tryz.prog [] W/\handlesMet Tryz.prog [("errors.errorType",Rows.laid_errors_errorType)] W:=h;let⟨name,u,ty,e1,v,r,q,i⟩:=h'.2 _ (cr.2 rfl);have o:name=[101,114,114,111,114]:=(bB e1).symm;subst o;obtain rfl:=bB (Ub.symm.trans v);have b:ty∈(List.range Tryz.prog.types.size).filter λt=>Tryz.prog.rowNamed t [101,114,114,111,114]:=bZ.2 ⟨fB.2 r,q⟩
 rw[L2]at b;obtain rfl:=cr.1 b;have n:typeHandle Tryz.prog 74 = .pointer (some ⟨2,74,none⟩):=aj
 rw[n]at i;intro p l;obtain rfl:=cr.1 l
 simpa using World.var?_cell Ud i 0
def L0:laidOutB Tryz.prog=true:=aj
noncomputable def CF(os:Os):World :=
 let w0:=World.holding Tryz.prog os ⟨#[],#[],[]⟩
 {w0 with heap:=w0.heap.modify 0 λ
   | .cells _ t frozen=>.cells #[.iface 198 (.agg #[.pointer (some ⟨2,74,none⟩)])] t frozen
   |o=>o}
end Go.Proofs.YtghgbehknhmnaaaGreatDoor
