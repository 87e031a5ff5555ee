/- The statement TopPassedCard holds, with no condition. -/
import Derived.Test.YtaepagegdgdlhaaGreatDoorRows
import Derived.Test.YtaepagegdgdlhaaGreatDoorFs20
import Derived.Test.YtaepagegdgdlhaaGreatDoorWu20
import Derived.Test.YtaepagegdgdlhaaGreatDoorTie
import Derived.Test.YtaepagegdgdlhaaGreatDoorCards
import Derived.ProofKit
import Derived.LaidHandle
import Derived.LaidLaws
import Derived.Stop.Joined
import Derived.ChangeVars
import Derived.SevenTiedAt
set_option linter.all false
namespace Go.Proofs.YtaepagegdgdlhaaGreatDoor
open Go.ChangeShapes Go.WideShapes Go.ChangeAt Go.RowKit Go.Am
theorem Gj:ownKnob Tryz.prog.godebug=none:=ai
theorem Dm:laidOutB Tryz.prog=true:=ai
theorem Gh:uG Tryz.prog 9 Tryz.f3.params.toList=some [(false,[.i .u8]),(false,[.l true [.i .u8,.i .i64,.i .i64,.s,.s,.i .i64,.i .i64,.i .i64,.l false [.i .u8],.s,.i .i64]]),(false,[.s]),(false,[.i .u8]),(false,[.i .u8]),(false,[.l true [.i .u8,.i .u8,.i .u8,.i .u8,.i .u8,.i .u8]])]:=ai
noncomputable def Hj(os:Os):World :=
 let w0:=World.holding Tryz.prog os ⟨#[],#[],[]⟩
 {w0 with heap:=w0.heap.modify 0 λ
   | .cells _ t frozen=>.cells #[.iface 288 (.agg #[.pointer (some ⟨2,171,none⟩)])] t frozen
   |o=>o}
abbrev inS:Array Value := #[.int .u8 0,.slice none 0 0,.string ⟨#[]⟩,.int .u8 0,.int .u8 0,.slice none 0 0]
theorem Gr(os:Os):laidMetH Tryz.prog [("errors.errorType",Rows.laid_errors_errorType)] ((Hj os).forCall (λ_ _=>0) ⟨#[],inS,[]⟩).memory :=
 laidMetH_of_parts (laidMet_nil _ _) ai
set_option maxRecDepth 100000 in
theorem Ay(os:Os)(started:os.Started)(H:Type)(enc:TypeId×Value->H):
  ReturnsInHanded {} Tryz.checked os 3 .any (λw args=>(Rows.topPassedSpec.pre enc Tryz.prog Tryz.f3 [] false w args/\laidMetH Tryz.prog [("errors.errorType",Rows.laid_errors_errorType)] w)/\sizedMet enc Tryz.prog Tryz.f3 (OpenSpec.ofChange Rows.topPassedSpec) false w args) (Rows.topPassedSpec.post enc Tryz.prog Tryz.f3 false true false false):=by
 refine returnsInHanded_of_change_and (C:=Tryz.checked) (X:=λw _=>laidMetH Tryz.prog [("errors.errorType",Rows.laid_errors_errorType)] w) (λ_ _ _ hh h=>h.of_heap hh) Gj started ai Tryz.func3
  (ChangeSpec.witness_at (enc:=enc) (C:=Tryz.checked) (os:=os) (X:=λw _=>laidMetH Tryz.prog [("errors.errorType",Rows.laid_errors_errorType)] w) false (Hj os) inS 8 rfl ai ai ai ai ai (Gr os)) ?_
 intro W base args ds gs before akk hW asX _ hL _;have hval:∀(j:Nat) t v,Tryz.f3.params[j]? = some t->args[j]? = some v->Value.okWide Tryz.prog W .any base t v:=akk
 exact I2 rZ (Um 231) Dm (Qf 3) rfl ai Gh ai (tb:=4) ai
  (λH ds hl=>by
   match ds,hl with
   | [d0,d1,d2,d3,d4,d5],_=>rfl) adO hval hW
theorem vS:Tryz.pinned.checked.prog.funcNamed Rows.topPassedRow.func=some 3:=ai
theorem Dn:Tryz.f3.isInstance Tryz.pinned.checked.prog Rows.topPassedRow.origin Rows.topPassedRow.targs:=of_decide_eq_true ai
theorem Dl:Tryz.f3.isWrapper Tryz.pinned.checked.prog Rows.topPassedRow.wrapper Rows.topPassedRow.mainSum:=by unfold Func.isWrapper;rw[if_neg (of_decide_eq_false ai)];exact⟨rfl,rfl⟩
theorem CI:(Tryz.f3.params.toList.all λt=>!Tryz.prog.wantsStandIn t)=true:=ai
theorem Gi:Rows.TopPassedSaid :=
 OpenClaim.holds_of_wide 3 Tryz.f3 rfl rfl rfl rfl rfl rfl rfl ⟨rfl,rfl,rfl,rfl,rfl⟩ rfl rfl rfl rfl rfl vS Tryz.func3 CJ
  Dn Dl
  (λos started H enc _=>Ay os started H enc)
theorem topPassed_holds:Rows.TopPassedCardSaid :=
 Claim7.holds_tied_plain_at .later [] [.handle] true (true, "6b55c337922b76c9f8010ee04d64425ff75da9b5ab055ce374eb3984960ff740") true
  Gi (λ_ h=>by cases h) ai (λ_ h=>by cases h) topPassed_row_tie rfl ⟨rfl,rfl⟩ ai rfl
  (λf fn hf hfn=>by
   obtain rfl:f=3:=cu (vS.symm.trans hf) |>.symm;obtain rfl:fn=Tryz.f3:=(cu (Tryz.func3.symm.trans hfn)).symm
   exact⟨ai,λj t ht=>by
    have hm:t∈Tryz.f3.params.toList:=aR (by rw[ey];exact ht)
    have:=aO.1 CI t hm;simp only[cv]at this;exact this⟩)
  ai
end Go.Proofs.YtaepagegdgdlhaaGreatDoor
