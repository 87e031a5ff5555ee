/- Part of the proof that TopScriptsCard holds. -/
import Derived.Test.YtahlmpbhfljalaaGreatDoorRows
import Derived.Test.YtahlmpbhfljalaaGreatDoorL06
import Derived.ProofKit
import Derived.LaidHandle
import Derived.LaidLaws
import Derived.LaidSub
import Derived.LaidMore
import Derived.Lib.LaidTab
import Derived.Shelf.Vars
import Derived.Stop.Joined
import Derived.ChangeVars
import Derived.ChangeArms
set_option linter.all false
namespace Go.Proofs.YtahlmpbhfljalaaGreatDoor
open Go.ChangeShapes Go.WideShapes Go.ChangeAt Go.RowKit
def Pz:ownKnob Tryz.prog.godebug=none:=ai
def T6:(Tryz.prog.cutTypes.find? (·.1 == "internal/reflectlite.rtype")).map (·.2)=some 185:=ai
def PA:((List.range Tryz.prog.types.size).filter λt=>Tryz.prog.rowNamed t [101,114,114,111,114])=[73]:=ai
def LD:laidOutB Tryz.prog=true:=ai
def LG:Tryz.prog.globalNamed "catacomb/report.words" = some 0:=ai
def T9:Tryz.prog.globalNamed "errors.errorType" = some 1:=ai
def T8:Tryz.prog.globalNamed "strconv.ErrSyntax" = some 2:=ai
def T7:Tryz.prog.globalNamed "strconv.ErrRange" = some 3:=ai
def LF:Tryz.prog.globalNamed "internal/strconv.uint64pow10" = some 5:=ai
def T5:(Tryz.prog.globals[0]?).map (·.type)=some 77:=ai
def T4:(Tryz.prog.globals[2]?).map (·.type)=some 73:=ai
def TZ:(Tryz.prog.globals[3]?).map (·.type)=some 73:=ai
def TY:(Tryz.prog.globals[5]?).map (·.type)=some 354:=ai
def pM{P:Program}{W:World}{nm:String}{g:Nat}{cs:Array Value}(hg:P.globalNamed nm=some g)(h:W.var? P nm=some cs):∃t fr,W.heap[g]? = some (.cells cs t fr):=by
 unfold World.var? at h;rw[hg]at h;simp only[bH]at h;split at h
 .rename_i cs' t fr b;cases h;exact⟨t,fr,b⟩
 .cases h
def AU{H:Type}{enc:TypeId×Value->H}{P:Program}{w:World}{base:Nat}{sp:aA}{held:Bool}{l:Nat}{t e:TypeId}{n:Nat}{cs:List Value}{zs:List aq}{p:List MemPlace}
  (E:P.underlying t=some (.array n e)) (K:P.underlying e=some .string) (v:P.cellsOf e=1) (r:P.cellsOf t=n)
  (h:DataW.trod enc P w base sp held l t cs=some (.agg (zs.map λz=>.lit (.string z)),p)):∀(j:Nat)(s:aq),zs[j]? = some s->cs[j]? = some (.string ⟨s.toArray⟩):=by
 cases l with
 |zero=>simp[DataW.trod]at h
 |succ l =>
  simp only[DataW.trod,E,v,r,Nat.mul_one]at h;split at h
  .rename_i hl;let⟨xs,x,hx⟩:=dB.1 h
   have q:xs.map (·.1)=zs.map λz=>(DataW.lit (.string z):DataW H):=by
    have:=congrArg Prod.fst hx
    simpa using this
   have A:xs.length=n:=by simpa using Lib.mapM_length x
   have y:zs.length=n:=by
    have:=congrArg List.length q;simp at this;omega
   intro i s hs;have F:i<n:=by have:=(az.1 hs).1;omega
   let⟨b,M,G⟩:=Lib.mapM_at x i i (by simp[F])
   obtain⟨z,L,rfl,_⟩:=DataW.trod_string K G
   have h1:cs[i]? = some (.string z):=by
    have:=congrArg (·[0]?) L
    simpa[cH,bR]using this
   have h2:(xs.map (·.1))[i]? = some (DataW.lit (.string z.data.toList):DataW H):=by simp[M]
   rw[q]at h2;simp only[bM,dB,DataW.lit.injEq,Lit.string.injEq]at h2;let⟨N,o,e⟩:=h2;rw[hs]at o;cases o;rw[h1,e]
  .cases h
def EZ{P:Program}{W:World}{nm:String}{d:DataW Unit}(h:laidMet P [(nm,d)] W):∃g t cs b p,P.globalNamed nm=some g/\(P.globals[g]?).map (·.type)=some t/\W.var? P nm=some cs/\DataW.trod (λ_=>()) P W 0 (λ_=>true) false b t cs.toList=some (d,p):=by
 let⟨ps,⟨g,t,cs,b,p,q,hg,l,i,n,_,_⟩,_⟩:=h;exact⟨g,t,cs,b,p,hg,l,i,n⟩
abbrev sC:List (String×DataW Unit):=[("math/bits.deBruijn32tab",Rows.laid_math_bits_deBruijn32tab),("math/bits.deBruijn64tab",Rows.laid_math_bits_deBruijn64tab),("internal/strconv.uint64pow10",Rows.laid_internal_strconv_uint64pow10),("unicode/utf8.acceptRanges",Rows.laid_unicode_utf8_acceptRanges),("errors.errorType",Rows.laid_errors_errorType),("strconv.ErrRange",Rows.laid_strconv_ErrRange),("strconv.ErrSyntax",Rows.laid_strconv_ErrSyntax),("catacomb/report.words",Rows.laid_catacomb_report_words),("unicode/utf8.first",Rows.laid_unicode_utf8_first)]
def qo{W:World}(h:laidMetH Tryz.prog sC W)(nm:String):laidMetH Tryz.prog (sC.filter λx=>x.1==nm) W:=h.filter _
def HC{W:World}(h:laidMetH Tryz.prog sC W)(L:W.ShapedOpen Tryz.prog):∀p∈Go.Am.G0,∃cur t fr,W.heap[p.1]? = some (.cells cur t fr)/\p.2 cur:=by
 have c0:∃cur t fr,W.heap[0]? = some (.cells cur t fr)/\Go.Am.GI (Go.Am.GA.map (·.2)).head! cur:=by
  have h0:laidMet Tryz.prog [("catacomb/report.words",Rows.laid_catacomb_report_words)] W:=qo h "catacomb/report.words";let⟨g,t,cs,x,p,hg,F,A,G⟩:=EZ h0;obtain rfl:=bB (LG.symm.trans hg);obtain rfl:=bB (T5.symm.trans F);let⟨t,fr,b⟩:=pM LG A;refine⟨cs,t,fr,b,λj s hs=>?_⟩
  have:=AU (n:=18) (e:=9) ai Tryz.underlying9 ai ai (zs:=(Go.Am.GA.map (·.2)).head!) G j s hs
  simpa using this
 have T:∃cur t fr,W.heap[1]? = some (.cells cur t fr)/\cur[0]? = some (.iface 185 (.agg #[.pointer (some ⟨10,73,none⟩)])):=by
  have h':laidMet Tryz.prog [] W/\handlesMet Tryz.prog [("errors.errorType",Rows.laid_errors_errorType)] W:=qo h "errors.errorType";let⟨name,u,ty,e1,S,Q,P,M⟩:=h'.2 _ (bS.2 rfl);have O:name=[101,114,114,111,114]:=(bB e1).symm;subst O;obtain rfl:=bB (T6.symm.trans S);have y:ty∈(List.range Tryz.prog.types.size).filter λt=>Tryz.prog.rowNamed t [101,114,114,111,114]:=bU.2 ⟨eV.2 Q,P⟩
  rw[PA]at y;obtain rfl:=bS.1 y;have b:typeHandle Tryz.prog 73 = .pointer (some ⟨10,73,none⟩):=ai
  rw[b]at M;let⟨t,fr,l⟩:=pM T9 M;exact⟨_,t,fr,l,rfl⟩
 have iface:∀ {g:Nat} {nm:String} {s:String} {d:DataW Unit},laidMet Tryz.prog [(nm,.iface s d)] W->Tryz.prog.globalNamed nm=some g->(Tryz.prog.globals[g]?).map (·.type)=some 73->∃cur t fr,W.heap[g]? = some (.cells cur t fr)/\∃v,cur[0]? = some v/\(v = .nilIface\/∃t p,v = .iface t p):=by
  intro g nm s d h0 o E;let⟨U,t,cs,x,p,hg,F,A,G⟩:=EZ h0;obtain rfl:=bB (o.symm.trans hg);obtain rfl:=bB (E.symm.trans F);let⟨t,fr,b⟩:=pM o A;let⟨K,u,v,H,_,_⟩:=iface_of_trod Tryz.underlying73 G;refine⟨cs,t,fr,b,.iface u v,?_,.inr ⟨u,v,rfl⟩⟩;rw[<-cI,H];rfl
 have c2:=iface (qo h "strconv.ErrSyntax") T8 T4;have c3:=iface (qo h "strconv.ErrRange") T7 TZ
 have c4:∃cur t fr,W.heap[4]? = some (.cells cur t fr)/\∃m,cur[0]? = some (.int .i64 m):=by
  have r:Tryz.prog.globals.size=10:=ai
  let⟨m,y⟩:=cell_of_shapedOpen_int (g:=4) (t:=3) (zero := #[.int .i64 0]) (k:=.i64) L (by rw[r];decide) ai rfl ai ai Tryz.underlying3
  let⟨cs,b,hs,_⟩:=L.1 4 #[.int .i64 0] 3 (by rw[r];decide) ai
  refine⟨cs,_,_,b,m,?_⟩
  simpa[World.cell?,b]using y
 have c5:∃cur t fr,W.heap[5]? = some (.cells cur t fr)/\cur=(((List.range 20).map λi=>((10 ^ i:Nat):Int)).map λz=>Value.int .u64 z).toArray:=by
  have h0:laidMet Tryz.prog [("internal/strconv.uint64pow10",Rows.laid_internal_strconv_uint64pow10)] W:=qo h "internal/strconv.uint64pow10";have h1:Lib.TabIs Tryz.prog W "internal/strconv.uint64pow10" .u64 ((List.range 20).map λi=>((10 ^ i:Nat):Int)):=Lib.tabIs_of_head (rest:=[]) LF TY (n:=20) (e:=167) ai ai ai ai h0
  let⟨t,fr,b⟩:=pM LF h1;exact⟨_,t,fr,b,rfl⟩
 intro p l
 rcases aZ.1 l with l | l
 .simp only[Go.Am.GM,aY,dz,or_false]at l
  rcases l with rfl | rfl | rfl | rfl | rfl
  .exact T
  .exact c2
  .exact c3
  .exact c4
  .exact c5
 .obtain⟨q,N,rfl⟩:=b7.1 l;obtain rfl:=bS.1 N;exact c0
def firstCells:Array Value:=(Go.Pinned.utf8FirstZ.map λ(n:Nat)=>Value.int .u8 (Int.ofNat n)).toArray
noncomputable def mH(os:Os):World :=
 let w0:=World.doorLaid Tryz.prog 84 os
 {w0 with heap:=w0.heap.modify 6 λ
   | .cells _ t frozen=>.cells firstCells t frozen
   |o=>o}
def M7(os:Os)(args:Array Value):(DataW.laidRun Tryz.prog ((mH os).forCall (λ_ _=>0) ⟨#[],args,[]⟩).memory 8 ((sC.filter λx=>x.2.handleName?.isNone).map (·.1))).map (·.1)=some (sC.filter λx=>x.2.handleName?.isNone):=ai
def Kg(os:Os)(args:Array Value):(DataW.laidRun Tryz.prog ((mH os).forCall (λ_ _=>0) ⟨#[],args,[]⟩).memory 8 ((sC.filter λx=>x.2.handleName?.isNone).map (·.1))).map (λx=>decide x.2.Nodup&&laidRowsB Tryz.prog ((mH os).forCall (λ_ _=>0) ⟨#[],args,[]⟩).memory x.2)=some true:=ai
def E4(os:Os)(args:Array Value):(sC.filter λx=>x.2.handleName?.isSome).all (handleAtB Tryz.prog ((mH os).forCall (λ_ _=>0) ⟨#[],args,[]⟩).memory)=true:=ai
def AK(os:Os)(args:Array Value):laidMetH Tryz.prog sC ((mH os).forCall (λ_ _=>0) ⟨#[],args,[]⟩).memory :=
 laidMetH_of_parts (laidMet_of_run' 8 (M7 os args) (Kg os args)) (E4 os args)
end Go.Proofs.YtahlmpbhfljalaaGreatDoor
