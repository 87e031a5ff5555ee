/- The statement TopRetriesCard holds, with no condition. -/
import Derived.Test.YtghgbehknhmnaaaGreatDoorWh30
import Derived.Test.YtghgbehknhmnaaaGreatDoorLs30
import Derived.Test.YtghgbehknhmnaaaGreatDoorWv30
import Derived.Test.YtghgbehknhmnaaaGreatDoorTie
import Derived.Test.YtghgbehknhmnaaaGreatDoorCards
import Derived.SevenTiedAt
set_option linter.all false
namespace Go.Proofs.YtghgbehknhmnaaaGreatDoor
open Go.ChangeShapes Go.WideShapes Go.ChangeAt Go.RowKit Go.Am
theorem zP:qV Tryz.prog 9 Tryz.f3.params.toList=some [(false,[.l true Fw]),(false,[.l true (.i .u8::Fw)]),(false,[.l false [.i .u8]])]:=aj
abbrev inS:Array Value := #[.slice none 0 0,.slice none 0 0,.slice none 0 0]
theorem B6(os:Os):laidMetH Tryz.prog [("errors.errorType",Rows.laid_errors_errorType)] ((CF os).forCall (λ_ _=>0) ⟨#[],inS,[]⟩).memory :=
 laidMetH_of_parts (laidMet_nil _ _) aj
theorem acW(args:List AV)(h:qv [(false,[.l true Fw]),(false,[.l true (.i .u8::Fw)]),(false,[.l false [.i .u8]])] args):pg (en.cz 254) c3 args=some (.bool true):=by
 rw[<-p3 (n:=257) ah]
 exact ajd args h
set_option maxRecDepth 100000 in
theorem vU(os:Os)(started:os.Started)(H:Type)(enc:TypeId×Value->H):
  ReturnsInHanded {} Tryz.checked os 3 .any (λw args=>(Rows.topRetriesSpec.pre enc Tryz.prog Tryz.f3 [] false w args/\laidMetH Tryz.prog [("errors.errorType",Rows.laid_errors_errorType)] w)/\sizedMet enc Tryz.prog Tryz.f3 (OpenSpec.ofChange Rows.topRetriesSpec) false w args) (Rows.topRetriesSpec.post enc Tryz.prog Tryz.f3 false true false false):=by
 refine returnsInHanded_of_change_and (C:=Tryz.checked) (X:=λw _=>laidMetH Tryz.prog [("errors.errorType",Rows.laid_errors_errorType)] w) (λ_ _ _ n h=>h.of_heap n) P4 started aj Tryz.func3
  (ChangeSpec.witness_at (enc:=enc) (C:=Tryz.checked) (os:=os) (X:=λw _=>laidMetH Tryz.prog [("errors.errorType",Rows.laid_errors_errorType)] w) false (CF os) inS 8 rfl aj aj aj aj aj (B6 os)) ?_
 intro W base args ds gs before b o l _ q _;have i:∀(j:Nat) t v,Tryz.f3.params[j]? = some t->args[j]? = some v->Value.okWide Tryz.prog W .any base t v:=b
 exact DR oM (L8 254) L0 (Jf 3) rfl aj zP aj (tb:=4) aj
  (λH ds hl=>by
   match ds,hl with
   | [y,x,r],_=>rfl) acW (Ba q) i o
theorem qL:Tryz.pinned.checked.prog.funcNamed Rows.topRetriesRow.func=some 3:=aj
theorem zi:Tryz.f3.isInstance Tryz.pinned.checked.prog Rows.topRetriesRow.origin Rows.topRetriesRow.targs:=of_decide_eq_true aj
theorem zh:Tryz.f3.isWrapper Tryz.pinned.checked.prog Rows.topRetriesRow.wrapper Rows.topRetriesRow.mainSum:=by unfold Func.isWrapper;rw[if_neg (of_decide_eq_false aj)];exact⟨rfl,rfl⟩
theorem wZ:(Tryz.f3.params.toList.all λt=>!Tryz.prog.wantsStandIn t)=true:=aj
theorem zQ:Rows.TopRetriesSaid :=
 OpenClaim.holds_of_wide 3 Tryz.f3 rfl rfl rfl rfl rfl rfl rfl ⟨rfl,rfl,rfl,rfl,rfl⟩ rfl rfl rfl rfl rfl qL Tryz.func3 w6
  zi zh
  (λos started H enc _=>vU os started H enc)
theorem topRetries_holds:Rows.TopRetriesCardSaid :=
 Claim7.holds_tied_plain_at .later [] [.handle] true (true, "5d0d6756769c300c637b1f1dda3132952f0fa0ffa3173ebdfd981d8c2fc82d29") true
  zQ (λ_ h=>by cases h) aj (λ_ h=>by cases h) topRetries_row_tie rfl ⟨rfl,rfl⟩ aj rfl
  (λf fn n b=>by
   obtain rfl:f=3:=bp (qL.symm.trans n) |>.symm;obtain rfl:fn=Tryz.f3:=(bp (Tryz.func3.symm.trans b)).symm
   exact⟨aj,λj t i=>by
    have l:t∈Tryz.f3.params.toList:=bK (by rw[dD];exact i)
    have:=aM.1 wZ t l;simp only[cL]at this;exact this⟩)
  aj
end Go.Proofs.YtghgbehknhmnaaaGreatDoor
