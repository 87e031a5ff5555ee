/- The statement TopStepsCard holds, with no condition. -/
import Derived.Test.YtghgbehknhmnaaaGreatDoorWh30
import Derived.Test.YtghgbehknhmnaaaGreatDoorLsb30
import Derived.Test.YtghgbehknhmnaaaGreatDoorWvb30
import Derived.Test.YtghgbehknhmnaaaGreatDoorTie
import Derived.Test.YtghgbehknhmnaaaGreatDoorCards
import Derived.SevenTiedAt
set_option linter.all false
namespace Go.Proofs.YtghgbehknhmnaaaGreatDoor
open Go.ChangeShapes Go.WideShapes Go.ChangeAt Go.RowKit Go.Am
theorem sK:qV Tryz.prog 9 Tryz.f4.params.toList=some [(false,[.l true Fw]),(false,[.l true (.i .u8::Fw)]),(false,[.s])]:=aj
abbrev inS:Array Value := #[.slice none 0 0,.slice none 0 0,.string ⟨#[]⟩]
theorem B6(os:Os):laidMetH Tryz.prog [("errors.errorType",Rows.laid_errors_errorType)] ((CF os).forCall (λ_ _=>0) ⟨#[],inS,[]⟩).memory :=
 laidMetH_of_parts (laidMet_nil _ _) aj
theorem acW(args:List AV)(h:qv [(false,[.l true Fw]),(false,[.l true (.i .u8::Fw)]),(false,[.s])] args):pg (en.cz 256) c4 args=some (.bool true):=by
 rw[<-p4 (n:=257) ah]
 exact adb args h
set_option maxRecDepth 100000 in
theorem n9(os:Os)(started:os.Started)(H:Type)(enc:TypeId×Value->H):
  ReturnsInHanded {} Tryz.checked os 4 .any (λw args=>(Rows.topStepsSpec.pre enc Tryz.prog Tryz.f4 [] false w args/\laidMetH Tryz.prog [("errors.errorType",Rows.laid_errors_errorType)] w)/\sizedMet enc Tryz.prog Tryz.f4 (OpenSpec.ofChange Rows.topStepsSpec) false w args) (Rows.topStepsSpec.post enc Tryz.prog Tryz.f4 false true false false):=by
 refine returnsInHanded_of_change_and (C:=Tryz.checked) (X:=λw _=>laidMetH Tryz.prog [("errors.errorType",Rows.laid_errors_errorType)] w) (λ_ _ _ o h=>h.of_heap o) P4 started aj Tryz.func4
  (ChangeSpec.witness_at (enc:=enc) (C:=Tryz.checked) (os:=os) (X:=λw _=>laidMetH Tryz.prog [("errors.errorType",Rows.laid_errors_errorType)] w) false (CF os) inS 8 rfl aj aj aj aj aj (B6 os)) ?_
 intro W base args n gs before b q l _ r _;have i:∀(j:Nat) t v,Tryz.f4.params[j]? = some t->args[j]? = some v->Value.okWide Tryz.prog W .any base t v:=b
 exact DR oM (L8 256) L0 (Jf 4) rfl aj sK aj (tb:=4) aj
  (λH n hl=>by
   match n,hl with
   | [z,y,x],_=>rfl) acW (Ba r) i q
theorem iI:Tryz.pinned.checked.prog.funcNamed Rows.topStepsRow.func=some 4:=aj
theorem sD:Tryz.f4.isInstance Tryz.pinned.checked.prog Rows.topStepsRow.origin Rows.topStepsRow.targs:=of_decide_eq_true aj
theorem qL:Tryz.f4.isWrapper Tryz.pinned.checked.prog Rows.topStepsRow.wrapper Rows.topStepsRow.mainSum:=by unfold Func.isWrapper;rw[if_neg (of_decide_eq_false aj)];exact⟨rfl,rfl⟩
theorem oh:(Tryz.f4.params.toList.all λt=>!Tryz.prog.wantsStandIn t)=true:=aj
theorem s9:Rows.TopStepsSaid :=
 OpenClaim.holds_of_wide 4 Tryz.f4 rfl rfl rfl rfl rfl rfl rfl ⟨rfl,rfl,rfl,rfl,rfl⟩ rfl rfl rfl rfl rfl iI Tryz.func4 oR
  sD qL
  (λos started H enc _=>n9 os started H enc)
theorem topSteps_holds:Rows.TopStepsCardSaid :=
 Claim7.holds_tied_plain_at .later [] [.handle] true (true, "5d0d6756769c300c637b1f1dda3132952f0fa0ffa3173ebdfd981d8c2fc82d29") true
  s9 (λ_ h=>by cases h) aj (λ_ h=>by cases h) topSteps_row_tie rfl ⟨rfl,rfl⟩ aj rfl
  (λf fn n b=>by
   obtain rfl:f=4:=bz (iI.symm.trans n) |>.symm;obtain rfl:fn=Tryz.f4:=(bz (Tryz.func4.symm.trans b)).symm
   exact⟨aj,λj t i=>by
    have l:t∈Tryz.f4.params.toList:=bK (by rw[dA];exact i)
    have:=aL.1 oh t l;simp only[cI]at this;exact this⟩)
  aj
end Go.Proofs.YtghgbehknhmnaaaGreatDoor
