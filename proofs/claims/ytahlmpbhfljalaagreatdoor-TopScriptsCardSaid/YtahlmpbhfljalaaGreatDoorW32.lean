/- The statement TopScriptsCard holds, with no condition. -/
import Derived.Test.YtahlmpbhfljalaaGreatDoorLs32
import Derived.Test.YtahlmpbhfljalaaGreatDoorWv32
import Derived.Test.YtahlmpbhfljalaaGreatDoorWg32
import Derived.Test.YtahlmpbhfljalaaGreatDoorTie
import Derived.Test.YtahlmpbhfljalaaGreatDoorCards
import Derived.SevenTiedAt
import Derived.HandedShaped
set_option linter.all false
namespace Go.Proofs.YtahlmpbhfljalaaGreatDoor
open Go.ChangeShapes Go.WideShapes Go.ChangeAt Go.RowKit Go.Am
theorem uD{H:Type}{enc:TypeId×Value->H}{a:Assume}{C:Checked}{os:Os}{f:FuncId}{fn:Func}{s:ChangeSpec}{n:List PathCond}{apart fresh b again:Bool}{X:World->Array Value->Prop}
  (N:∀(w w':World)(args:Array Value),w.heap=w'.heap->X w args->X w' args)
  (own:ownKnob C.prog.godebug=none) (started:os.Started) (o:C.prog.inits.idxOf? f=none) (A:C.prog.funcs[f]? = some fn)
  (l:∃(w:World) (tape:Tape) (i:Input),w.os=os/\(w.forCall tape i).Shaped C.prog/\i.vars=[]/\Input.okWide C.prog (w.forCall tape i) .any w.heap.size f i/\
   ((s.pre enc C.prog fn n apart (w.forCall tape i).memory i.args/\X (w.forCall tape i).memory i.args)/\sizedMet enc C.prog fn (OpenSpec.ofChange s) apart (w.forCall tape i).memory i.args)/\a.holds C.prog (lone (Frame.enter C.prog f i.args .normal) [] (w.forCall tape i)))
  (h:∀(W:World)(base:Nat)(args:Array Value)(F gs:List (DataW H))(before:List MemPlace),
   (∀(j:Nat) t v,fn.params[j]? = some t->args[j]? = some v->Value.okWide C.prog W .any base t v)->
   DataW.Whole enc C.prog fn.params.toList s.vars apart W args.toList F gs before->X W args->W.ShapedOpen C.prog->
   Calls C.prog f args W λe G=>∃v,e = .returned v/\s.post enc C.prog fn apart fresh b again W args v G) :
  ReturnsInHanded a C os f .any (λw args=>(s.pre enc C.prog fn n apart w args/\X w args)/\sizedMet enc C.prog fn (OpenSpec.ofChange s) apart w args) (s.post enc C.prog fn apart fresh b again):=by
 refine returnsInHanded_of_calls own started o l ?_;intro w tape i _ y _ z r _;let⟨_,_,_,E,x,_,_,_,_,q⟩:=z;obtain rfl:E=fn:=bB (x.symm.trans A);let⟨⟨⟨F,gs,before,K,_⟩,hx⟩,_⟩:=r;refine(h (w.forCall tape i) w.heap.size i.args F gs before q (DataW.Whole.of_heap (w':=w.forCall tape i) (by rfl) K) (N _ _ _ (by rfl) hx) y).mono λe G ⟨v,M,L⟩=>?_
 subst M;exact ChangeSpec.post_blind L
theorem yE:qi Tryz.prog 9 Tryz.f3.params.toList=some [(false,[.l true Qb])]:=ai
abbrev inS:Array Value := #[.slice none 0 0]
theorem wz(os:Os):((mH os).forCall (λ_ _=>0) ⟨#[],inS,[]⟩).Shaped Tryz.prog:=World.shaped_of_RefB ai ai
theorem AA(os:Os):Input.okWideB Tryz.prog ((mH os).forCall (λ_ _=>0) ⟨#[],inS,[]⟩) 3 ⟨#[],inS,[]⟩=true:=ai
theorem ac7(args:List AV)(h:pO [(false,[.l true Qb])] args):qP (gV.fk 195) c3 args=some (.bool true):=by
 rw[<-p3 (n:=272) af]
 exact aiT args h
set_option maxRecDepth 100000 in
theorem ve(os:Os)(started:os.Started)(H:Type)(enc:TypeId×Value->H):
  ReturnsInHanded {} Tryz.checked os 3 .any (λw args=>(Rows.topScriptsSpec.pre enc Tryz.prog Tryz.f3 [] false w args/\laidMetH Tryz.prog sC w)/\sizedMet enc Tryz.prog Tryz.f3 (OpenSpec.ofChange Rows.topScriptsSpec) false w args) (Rows.topScriptsSpec.post enc Tryz.prog Tryz.f3 false true false false):=by
 refine uD (C:=Tryz.checked) (X:=λw _=>laidMetH Tryz.prog sC w) (λ_ _ _ n h=>h.of_heap n) Pz started ai Tryz.func3
  (ChangeSpec.witness_shaped (enc:=enc) (C:=Tryz.checked) (os:=os) (X:=λw _=>laidMetH Tryz.prog sC w) false (mH os) inS 8 rfl (wz os) (AA os) ai ai (AK os inS)) ?_
 intro W base args l gs before b o r q;have i:∀(j:Nat) t v,Tryz.f3.params[j]? = some t->args[j]? = some v->Value.okWide Tryz.prog W .any base t v:=b
 exact C5 nr (LP 195) LD (Fb 3) rfl ai yE ai (tb:=4) ai
  (λH l hl=>by
   match l,hl with
   | [x],_=>rfl) ac7 (HC r q) i o
theorem pY:Tryz.pinned.checked.prog.funcNamed Rows.topScriptsRow.func=some 3:=ai
theorem xW:Tryz.f3.isInstance Tryz.pinned.checked.prog Rows.topScriptsRow.origin Rows.topScriptsRow.targs:=of_decide_eq_true ai
theorem xV:Tryz.f3.isWrapper Tryz.pinned.checked.prog Rows.topScriptsRow.wrapper Rows.topScriptsRow.mainSum:=by unfold Func.isWrapper;rw[if_neg (of_decide_eq_false ai)];exact⟨rfl,rfl⟩
theorem vX:(Tryz.f3.params.toList.all λt=>!Tryz.prog.wantsStandIn t)=true:=ai
theorem yF:Rows.TopScriptsSaid :=
 OpenClaim.holds_of_wide 3 Tryz.f3 rfl rfl rfl rfl rfl rfl rfl ⟨rfl,rfl,rfl,rfl,rfl⟩ rfl rfl rfl rfl rfl pY Tryz.func3 vY
  xW xV
  (λos started H enc _=>ve os started H enc)
theorem topScripts_holds:Rows.TopScriptsCardSaid :=
 Claim7.holds_tied_plain_at .later [] [.data,.data,.data,.data,.handle,.sentinel,.sentinel,.data,.pinned] true (true, "92b28c4b143193c7d143eda59d840fc3f2c3dd58ac71b6d09d13068897d530d8") true
  yF (λ_ h=>by cases h) ai (λ_ h=>by cases h) topScripts_row_tie rfl ⟨rfl,rfl⟩ ai rfl
  (λf fn n b=>by
   obtain rfl:f=3:=bB (pY.symm.trans n) |>.symm;obtain rfl:fn=Tryz.f3:=(bB (Tryz.func3.symm.trans b)).symm
   exact⟨ai,λj t i=>by
    have l:t∈Tryz.f3.params.toList:=bE (by rw[cI];exact i)
    have:=aJ.1 vX t l;simp only[cD]at this;exact this⟩)
  gU
end Go.Proofs.YtahlmpbhfljalaaGreatDoor
