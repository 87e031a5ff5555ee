/- The statement TopTwoPartsCard holds, with no condition. -/
import Derived.Test.YtghgbehknhmnaaaGreatDoorWh30
import Derived.Test.YtghgbehknhmnaaaGreatDoorLsc30
import Derived.Test.YtghgbehknhmnaaaGreatDoorWvc30
import Derived.Test.YtghgbehknhmnaaaGreatDoorTie
import Derived.Test.YtghgbehknhmnaaaGreatDoorCards
import Derived.SevenTiedAt
set_option linter.all false
namespace Go.Proofs.YtghgbehknhmnaaaGreatDoor
open Go.ChangeShapes Go.WideShapes Go.ChangeAt Go.RowKit Go.Am
theorem zi:qV Tryz.prog 9 Tryz.f5.params.toList=some [(false,[.l true Fw]),(false,[.l true (.i .u8::Fw)]),(false,[.l true (.i .u8::Fw)]),(false,[.i .u8]),(false,[.i .u8])]:=aj
abbrev inS:Array Value := #[.slice none 0 0,.slice none 0 0,.slice none 0 0,.int .u8 0,.int .u8 0]
theorem B6(os:Os):laidMetH Tryz.prog [("errors.errorType",Rows.laid_errors_errorType)] ((CF os).forCall (λ_ _=>0) ⟨#[],inS,[]⟩).memory :=
 laidMetH_of_parts (laidMet_nil _ _) aj
theorem ada(args:List AV)(h:qv [(false,[.l true Fw]),(false,[.l true (.i .u8::Fw)]),(false,[.l true (.i .u8::Fw)]),(false,[.i .u8]),(false,[.i .u8])] args):pg (en.cz 257) c5 args=some (.bool true):=by
 rw[<-p5 (n:=258) af]
 exact adb args h
set_option maxRecDepth 100000 in
theorem sD(os:Os)(started:os.Started)(H:Type)(enc:TypeId×Value->H):
  ReturnsInHanded {} Tryz.checked os 5 .any (λw args=>(Rows.topTwoPartsSpec.pre enc Tryz.prog Tryz.f5 [] false w args/\laidMetH Tryz.prog [("errors.errorType",Rows.laid_errors_errorType)] w)/\sizedMet enc Tryz.prog Tryz.f5 (OpenSpec.ofChange Rows.topTwoPartsSpec) false w args) (Rows.topTwoPartsSpec.post enc Tryz.prog Tryz.f5 false true false false):=by
 refine returnsInHanded_of_change_and (C:=Tryz.checked) (X:=λw _=>laidMetH Tryz.prog [("errors.errorType",Rows.laid_errors_errorType)] w) (λ_ _ _ o h=>h.of_heap o) P4 started aj Tryz.func5
  (ChangeSpec.witness_at (enc:=enc) (C:=Tryz.checked) (os:=os) (X:=λw _=>laidMetH Tryz.prog [("errors.errorType",Rows.laid_errors_errorType)] w) false (CF os) inS 8 rfl aj aj aj aj aj (B6 os)) ?_
 intro W base args n gs before b q l _ r _;have i:∀(j:Nat) t v,Tryz.f5.params[j]? = some t->args[j]? = some v->Value.okWide Tryz.prog W .any base t v:=b
 exact DR oM (L8 257) L0 (Jf 5) rfl aj zi aj (tb:=4) aj
  (λH n hl=>by
   match n,hl with
   | [E,A,z,y,x],_=>rfl) ada (Ba r) i q
theorem l9:Tryz.pinned.checked.prog.funcNamed Rows.topTwoPartsRow.func=some 5:=aj
theorem vU:Tryz.f5.isInstance Tryz.pinned.checked.prog Rows.topTwoPartsRow.origin Rows.topTwoPartsRow.targs:=of_decide_eq_true aj
theorem vb:Tryz.f5.isWrapper Tryz.pinned.checked.prog Rows.topTwoPartsRow.wrapper Rows.topTwoPartsRow.mainSum:=by unfold Func.isWrapper;rw[if_neg (of_decide_eq_false aj)];exact⟨rfl,rfl⟩
theorem sK:(Tryz.f5.params.toList.all λt=>!Tryz.prog.wantsStandIn t)=true:=aj
theorem zj:Rows.TopTwoPartsSaid :=
 OpenClaim.holds_of_wide 5 Tryz.f5 rfl rfl rfl rfl rfl rfl rfl ⟨rfl,rfl,rfl,rfl,rfl⟩ rfl rfl rfl rfl rfl l9 Tryz.func5 s9
  vU vb
  (λos started H enc _=>sD os started H enc)
theorem topTwoParts_holds:Rows.TopTwoPartsCardSaid :=
 Claim7.holds_tied_plain_at .later [] [.handle] true (true, "5d0d6756769c300c637b1f1dda3132952f0fa0ffa3173ebdfd981d8c2fc82d29") true
  zj (λ_ h=>by cases h) aj (λ_ h=>by cases h) topTwoParts_row_tie rfl ⟨rfl,rfl⟩ aj rfl
  (λf fn n b=>by
   obtain rfl:f=5:=bB (l9.symm.trans n) |>.symm;obtain rfl:fn=Tryz.f5:=(bB (Tryz.func5.symm.trans b)).symm
   exact⟨aj,λj t i=>by
    have l:t∈Tryz.f5.params.toList:=bL (by rw[dD];exact i)
    have:=aM.1 sK t l;simp only[cK]at this;exact this⟩)
  aj
end Go.Proofs.YtghgbehknhmnaaaGreatDoor
