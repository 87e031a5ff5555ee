/- Part of the proof that TopPassedCard holds. -/
import Derived.Test.YtaepagegdgdlhaaGreatDoorAmRs
import Derived.Test.YtaepagegdgdlhaaGreatDoorAmKe
set_option linter.all false
namespace Go.Am.Nm
open Go.Am Go.RowKit
def nB:au->au
 | []=>[]
 |b::t=>if b=47 then t else b::t
def pW:au->Bool
 | []=>false
 |b::_=>decide (b=47)
def upTo(s:au):au:=s.takeWhile λb=>!decide (b=47)
def from_(s:au):au:=s.dropWhile λb=>!decide (b=47)
def xh(s:au):Int:=if s.all (λb=>!decide (b=47))=true then -1 else((upTo s).length:Int)
def QD(s:au):(from_ s).length<=s.length:=(iV _).length_le
def aao{b:UInt8}{t:au}:(from_ (nB (b::t))).length<(b::t).length:=by
 by_cases h:b=47
 .have e:nB (b::t)=t:=by simp[nB,h]
  rw[e];have:=QD t;simp only[aQ];omega
 .have e:nB (b::t)=b::t:=by simp[nB,h]
  rw[e];have:=QD t;simp only[from_,fB,h,decide_false,gh,if_true,aQ];unfold from_ at this;omega
def pV(p:au):List (au×Bool):=match p with
 | []=>[]
 |b::t=>(upTo (nB (b::t)),pW (b::t))::pV (from_ (nB (b::t)))
termination_by p.length
decreasing_by exact aao
def zC:pV []=[]:=by rw[pV]
def wS{p:au}(h:p≠[]):pV p=(upTo (nB p),pW p)::pV (from_ (nB p)):=by
 cases p with
 |nil=>exact absurd rfl h
 |cons b t=>rw[pV]
def Ik(s:au):upTo s++from_ s=s:=gQ
def acB{s:au}(h:s.all (λb=>!decide (b=47))=true):upTo s=s/\from_ s=[]:=by
 have h1:=Ik s;unfold upTo from_ at *
 have:s.dropWhile (λb=>!decide (b=47))=[]:=by
  clear h1
  induction s with
  |nil=>rfl
  |cons x s ih =>
   simp only[bH,aH]at h;rw[fB,if_pos h.1];exact ih h.2
 rw[this,dz]at h1;exact⟨h1,this⟩
def Y4(s:au):s.take (upTo s).length=upTo s:=by
 have:=Ik s;have h2:(upTo s++from_ s).take (upTo s).length=upTo s:=ah
 rwa [this]at h2
def aaB(s:au):s.drop (upTo s).length=from_ s:=by
 have:=Ik s;have h2:(upTo s++from_ s).drop (upTo s).length=from_ s:=ah
 rwa [this]at h2
def b0:AC:=.seq (.ops (.op (some 6) (.load 1 false (.t 1)) (.op (some 7) (.bin .neq (.t 6) (.c (.str []))) (.nil))))
 (.cond (.t 7) (.skip) (.exit 0))
def l1(fC:FuncId):AC:=.ops (.op (some 9) (.load 1 false (.t 1)) (.op (some 10) (.call fC [(.t 9),(.c (.str [47]))]) (.op (some 8) (.mv (.t 10)) (.op (some 11) (.ext (.t 8) 0) (.op (some 12) (.ext (.t 8) 1) (.op (some 3) (.mv (.t 11)) (.op (some 4) (.mv (.t 12)) (.nil))))))))
def l2(fI:FuncId):AC:=.ops (.op (some 13) (.mv (.t 3)) (.op (some 14) (.call fI [(.t 13),(.c (.int .u8 47))]) (.op (some 5) (.mv (.t 14)) (.nil))))
def x3:AC:=.seq (.ops (.op (some 15) (.mv (.t 5)) (.op (some 16) (.bin .lss (.t 15) (.c (.int .i64 0))) (.nil))))
 (.cond (.t 16) (.ops (.op (some 17) (.mv (.t 3)) (.op (some 18) (.len true (.t 17)) (.op (some 5) (.mv (.t 18)) (.nil))))) (.skip))
def l5:List AI:=[⟨some 19,none,.mv (.t 0)⟩,⟨some 20,none,.mv (.t 3)⟩,⟨some 21,none,.mv (.t 5)⟩,⟨some 22,none,.Sj (.t 20) none (some (.t 21))⟩,⟨some 23,none,.mv (.t 4)⟩]
def l5b:List AI:=[⟨some 25,none,.un .not (.t 24)⟩]
def l6:AC:=.ops (.op (some 26) (.mv (.t 3)) (.op (some 27) (.mv (.t 5)) (.op (some 28) (.Sj (.t 26) (some (.t 27)) none) (.op none (.store 1 (.t 1) (.t 28)) (.nil)))))
def Oa(P:Program)(f fC fI:FuncId):Bool:=match P.funcs[f]? with
 |some fn=>match fn.body with
  |some (.block 0 (.loop (.seq B0 (.block 1 (.seq R1 (.seq R2 (.seq X3 (.seq (.seq (.region _ Vg false) (.cond (.tmp 25) .ret .skip)) R6)))))))) =>
   decide (fn.ntmps=29)&&(fn.name == "runtime.NumGoroutine")==false&&fn.results.isEmpty&&ku P 29 B0 b0&&ku P 29 R1 (l1 fC)&&ku P 29 R2 (l2 fI)&&ku P 29 X3 x3&&ku P 29 R6 l6 &&
   (match Vg.toList with
    | [o1,o2,o3,o4,o5,o6,o7]=>sI P 29 [o1,o2,o3,o4,o5,o6,o7] [o1,o2,o3,o4,o5] l5&&sI P 29 [o1,o2,o3,o4,o5,o6,o7] [o7] l5b&&o6.guard.isNone &&
      decide (o6.dst=some 24)&&(match o6.op with | .call {callee:=.value (.tmp 19),args,argTypes:=_}=>(match args.toList with | [.tmp 22,.tmp 23]=>true | _=>false) | _=>false)
    |_=>false)
  |_=>false
 |none=>false
section
variable{P:Program}{Γ:kP}
def ab4{V:aB}{e:Env}{p:au}(h1:e 1 = .ptr 0 0 0 0):eval Γ b0 V (AX×St) (λx s=>some (x,s)) ⟨e,[.var [.str p]]⟩ =
  some (if p=[]then .exit 0 else .normal,⟨(e.put 6 (.str p)).put 7 (.bool (!decide (p=[]))),[.var [.str p]]⟩):=by
 by_cases hp:p=[]<;>simp -implicitDefEqProofs (disch:=omega)[kS,nG,nH,nI,nJ,nC,nD,nE,nF,nK,nL,lX,lW,lZ,lY,kg,jT,b0,h1,lB,hp]
def alH{V:aB}{fC:FuncId}(hC:∀p,Γ.p fC [.str p,.str [47]]=some (.kT [.str (nB p),.bool (pW p)])){e:Env}{p:au}(h1:e 1 = .ptr 0 0 0 0):
  ∃e',eval Γ (l1 fC) V (AX×St) (λx s=>some (x,s)) ⟨e,[.var [.str p]]⟩=some (.normal,⟨e',[.var [.str p]]⟩)/\e' 0=e 0/\e' 1=e 1/\e' 3 = .str (nB p)/\e' 4 = .bool (pW p):=by
 refine⟨(((((((e.put 9 (.str p)).put 10 (.kT [.str (nB p),.bool (pW p)])).put 8 (.kT [.str (nB p),.bool (pW p)])).put 11 (.str (nB p))).put 12 (.bool (pW p))).put 3 (.str (nB p))).put 4 (.bool (pW p))),?_,rfl,rfl,rfl,rfl⟩;have hc:=λh=>JH (Γ:=Γ) (f:=fC) (args:=[.str p,.str [47]]) (h:=h) rfl (hC p)
 simp -implicitDefEqProofs (disch:=omega)[kS,nG,nH,nI,nJ,nC,nD,nE,nF,nK,nL,lX,lW,lZ,lY,kg,jT,l1,h1,hc]
def alG{V:aB}{fI:FuncId}(hI:∀s,Γ.p fI [.str s,.int .u8 47]=some (.int .i64 (xh s))){e:Env}{h:AH}{r:au}(h3:e 3 = .str r):
  ∃e',eval Γ (l2 fI) V (AX×St) (λx s=>some (x,s)) ⟨e,h⟩=some (.normal,⟨e',h⟩)/\e' 0=e 0/\e' 1=e 1/\e' 3 = .str r/\e' 4=e 4/\e' 5 = .int .i64 (xh r):=by
 refine⟨((e.put 13 (.str r)).put 14 (.int .i64 (xh r))).put 5 (.int .i64 (xh r)),?_,rfl,rfl,h3,rfl,rfl⟩;have hc:=λh=>JH (Γ:=Γ) (f:=fI) (args:=[.str r,.int .u8 47]) (h:=h) rfl (hI r)
 simp -implicitDefEqProofs (disch:=omega)[kS,nG,nH,nI,nJ,nC,nD,nE,nF,nK,nL,lX,lW,lZ,lY,kg,jT,l2,h3,hc]
def alz{V:aB}{e:Env}{h:AH}{r:au}(h3:e 3 = .str r)(h5:e 5 = .int .i64 (xh r)):
  ∃e',eval Γ x3 V (AX×St) (λx s=>some (x,s)) ⟨e,h⟩=some (.normal,⟨e',h⟩)/\e' 0=e 0/\e' 1=e 1/\e' 3 = .str r/\e' 4=e 4/\e' 5 = .int .i64 ((upTo r).length:Int):=by
 by_cases hr:r.all (λb=>!decide (b=47))=true
 .have e1:xh r = -1:=by unfold xh;rw[if_pos hr]
  rw[e1]at h5;refine⟨((((e.put 15 (.int .i64 (-1))).put 16 (.bool true)).put 17 (.str r)).put 18 (.int .i64 r.length)).put 5 (.int .i64 r.length),?_,rfl,rfl,h3,rfl,by rw[(acB hr).1];rfl⟩
  simp -implicitDefEqProofs (disch:=omega)[kS,nG,nH,nI,nJ,nC,nD,nE,nF,nK,nL,lX,lW,lZ,lY,kg,jT,x3,h3,h5]
 .have e1:xh r=((upTo r).length:Int):=by unfold xh;rw[if_neg hr]
  rw[e1]at h5;refine⟨(e.put 15 (.int .i64 ((upTo r).length:Int))).put 16 (.bool false),?_,rfl,rfl,h3,rfl,h5⟩;simp -implicitDefEqProofs (disch:=omega)[kS,nG,nH,nI,nJ,nC,nD,nE,nF,nK,nL,lX,lW,lZ,lY,kg,jT,x3,h5]
def alF{e:Env}{h:AH}{r:au}(h3:e 3 = .str r)(h5:e 5 = .int .i64 ((upTo r).length:Int)):
  ∃e',flat Γ l5 ⟨e,h⟩=some ⟨e',h⟩/\e' 0=e 0/\e' 1=e 1/\e' 3 = .str r/\e' 4=e 4/\e' 5 = .int .i64 ((upTo r).length:Int)/\e' 19=e 0/\e' 22 = .str (upTo r)/\e' 23=e 4:=by
 have hle:(upTo r).length<=r.length:=(gJ _).length_le;refine⟨((((e.put 19 (e 0)).put 20 (.str r)).put 21 (.int .i64 ((upTo r).length:Int))).put 22 (.str (upTo r))).put 23 (e 4),?_,rfl,rfl,h3,rfl,h5,rfl,rfl,rfl⟩;simp[l5,flat,exec,h3,h5,lI,nat?,St.put,hle,Y4]
def alE{V:aB}{e:Env}{p r:au}(h1:e 1 = .ptr 0 0 0 0)(h3:e 3 = .str r)(h5:e 5 = .int .i64 ((upTo r).length:Int)):
  ∃e',eval Γ l6 V (AX×St) (λx s=>some (x,s)) ⟨e,[.var [.str p]]⟩=some (.normal,⟨e',[.var [.str (from_ r)]]⟩)/\e' 0=e 0/\e' 1=e 1:=by
 have hle:(upTo r).length<=r.length:=(gJ _).length_le;refine⟨((e.put 26 (.str r)).put 27 (.int .i64 ((upTo r).length:Int))).put 28 (.str (from_ r)),?_,rfl,rfl⟩;simp -implicitDefEqProofs (disch:=omega)[kS,nG,nH,nI,nJ,nC,nD,nE,nF,nK,nL,lX,lW,lZ,lY,kg,jT,l6,h1,h3,h5,hle,aaB]
end
open Go.Am Go.RowKit
variable{W:World}{β:kW}{O Z:az}
section
variable{P:Program}{Γ:kP}
def CW{w:World}(s:au):qW O w (.str s) (.string ⟨s.toArray⟩):=by
 have:=qW.str (O:=O) (w:=w) ⟨s.toArray⟩
 simpa using this
def u9{w:World}{s:au}{v:Value}(h:VR β Z w (.str s) v):v = .string ⟨s.toArray⟩:=by
 obtain⟨b,rfl,rfl⟩:=h.pH;cases b;simp
def Zi(W:World)(c:Nat):Nat->Prop:=λb=>b<W.heap.size/\b≠c
def βi(c:Nat):kW:=λi v=>if i=0/\v=0 then some ⟨some c,0,1,1⟩else none
def T4(W:World)(c:Nat)(p:au):Prop:=∃elem,W.heap[c]? = some (.cells #[.string ⟨p.toArray⟩] elem (0,0))
def T4.lt{c:Nat}{p:au}(h:T4 W c p):c<W.heap.size:=by
 let⟨_,h⟩:=h;exact(aW.1 h).1
def RW(c:Nat):βi c 0 0=some ⟨some c,0,1,1⟩:=by simp[βi]
def IB{c k b:Nat}{p:au}(h:owned (βi c) [.var [.str p]] k b):k=0/\b=c:=by
 let⟨X,hX,bd,h1,h2⟩:=h;cases k with
 |zero =>
  simp only[bz,bp]at hX;subst hX;simp only[RW,bp]at h2;subst h2;simp only[bp]at h1;exact⟨rfl,h1.symm⟩
 |succ k=>simp at hX
def vt{c:Nat}{p:au}(hb:T4 W c p):Rel (Zi W c) (βi c) [.var [.str p]] W:=by
 let⟨elem,hc⟩:=hb;refine⟨λb hb=>hb.1,λk b ho hz=>hz.2 (IB ho).2,λi v hi=>?_,λi v sz es v' hX=>?_,λi X hX=>?_,λi j b h1 h2=>by rw[(IB h1).1,(IB h2).1]⟩
 .simp only[dM]at hi;simp only[βi];rw[if_neg aa]
 .cases i with
  |zero=>simp at hX
  |succ i=>simp at hX
 .cases i with
  |zero =>
   simp only[bz,bp]at hX;subst hX;refine⟨c,_,elem,RW c,hc,rfl,λj y hy=>?_⟩
   cases j with
   |zero =>
    simp only[bz,bp]at hy;subst hy;exact⟨_,rfl,rfl,.pure _ _ (CW p)⟩
   |succ j=>simp at hy
  |succ i=>simp at hX
def XZ{c:Nat}{p:au}(R:Rel Z β [.var [.str p]] W)(hβ:β 0 0=some ⟨some c,0,1,1⟩):T4 W c p:=by
 let⟨c',cur,elem,e1,e2,e3,e4⟩:=R.blk 0 _ rfl;rw[hβ]at e1;simp only[bp,Bd.mk.injEq]at e1;obtain⟨rfl,_⟩:=e1;let⟨v,g1,_,g3⟩:=e4 0 _ rfl;have hv:=u9 g3;subst hv;have:cur = #[.string ⟨p.toArray⟩]:=by
  have hs:cur.size=1:=e3;apply Array.ext
  .simpa using hs
  .intro j h1 h2;have hj:j=0:=by omega
   subst hj;have:=cE h1;rw[g1]at this
   simpa using this.symm
 exact⟨elem,by rw[<-this];exact e2⟩
def adI(W:World):Rel (λb=>b<W.heap.size) (λ_ _=>none) [] W :=
 ⟨λ_ h=>h,λi c ho=>by let⟨X,hX,_⟩:=ho;simp at hX,λ_ _ _=>rfl,λi v sz es v' hX=>by simp at hX,λi X hX=>by simp at hX,λi j c ho=>by let⟨X,hX,_⟩:=ho;simp at hX⟩
def e0(l:Nat):Env:=λt=>if t=0 then .fn (.yield l) [] []else if t=1 then .ptr 0 0 0 0 else .dead
def OX{w:World}{f:Fn}{v:Value}(h:VR β O w (.fn f [] []) v):v = .func f #[] #[]:=by
 cases h with
 |pure _ _ h=>cases h
 |fn _ _ _ va vc h1 h2 =>
  have e1:va=[]:=aY (an h1.symm)
  have e2:vc=[]:=aY (an h2.symm)
  subst e1 e2;rfl
def Xd{w:World}(f:Fn):VR β O w (.fn f [] []) (.func f #[] #[]):=.fn f [] [] [] [] rfl rfl (λj y v h=>by simp at h) (λj y v h=>by simp at h)
structure Head(l c:Nat)(a:Act):Prop where
 size:a.tmps.size=29
 yld:a.tmps.getD 0 undef = .func (.yield l) #[] #[]
 box:a.tmps.getD 1 undef = .pointer (some ⟨c,0,none⟩)
 defers:a.defers=[]
def Wt{l c:Nat}{a:Act}{p:au}(H:Head l c a)(hb:T4 W c p):kF (Zi W c) (βi c) [.var [.str p]] W (e0 l) a 29:=by
 refine⟨H.size,λt=>?_⟩
 unfold e0
 by_cases h0:t=0
 .rw[if_pos h0,h0,H.yld];exact Xd _
 .rw[if_neg h0]
  by_cases h1:t=1
  .rw[if_pos h1,h1,H.box];exact .ptr 0 0 0 0 ⟨some c,0,1,1⟩ c (RW c) rfl
  .rw[if_neg h1];exact .dead _
def RQ{l c:Nat}{a:Act}{p:au}(H:Head l c a)(hb:T4 W c p):At 29 (Zi W c) (βi c) [.var [.str p]] W (Zi W c) [] ⟨e0 l,[.var [.str p]]⟩ a (βi c) W :=
 ⟨vt hb,λ_ _ _=>rfl,rfl,rfl,rfl,λ_ _ _ e=>e,lS.refl _ _,Wt H hb,H.defers,λ_ h=>h⟩
def Ky{c:Nat}{h:AH}{W':World}{s:St}{a:Act}{β':kW}(A:At 29 (Zi W c) β h W (Zi W c) [] s a β' W'):W.grownBy W' (some c) :=
 ⟨A.os,A.tape,A.output,A.stay.1,λk hk hne=>A.keep k hk ⟨hk,λe=>hne (by rw[e])⟩⟩
def VH{fn:Func}(hres:fn.results.isEmpty=true){R:Ending->World->Prop}{a:Act}(hd:a.defers=[])(hR:R (.returned (.tuple #[])) W){x:Exit}(hx:x = .ret\/x = .normal):bodyPostM Fence.wide 0 P fn R x a W:=by
 have hr:(results fn a.tmps).run P W = .ok (.tuple #[]) W:=by
  have:fn.results = #[]:=gU (by simpa[Array.isEmpty]using hres)
  simp[results,this]
 have:LeavesInM Fence.wide 0 P fn a.tmps R a.defers .returning W:=by
  rw[hd];exact⟨_,hr,hR⟩
 rcases hx with rfl | rfl<;>exact this
end
open Go.Am Go.RowKit
variable{f fC fI:FuncId}
section
variable{P:Program}{Γ:kP}
def enc(x:au×Bool):Array Value := #[.string ⟨x.1.toArray⟩,.bool x.2]
def B5{o:Oper}(h:o.guard=none){y:Nat->Option Bool}:Region.wanted o y=true:=by unfold Region.wanted;rw[h]
def e6(l:Nat)(r:au):Env:=λt=>if t=0 then .fn (.yield l) [] []else if t=1 then .ptr 0 0 0 0 else if t=3 then .str r else if t=5 then .int .i64 ((upTo r).length:Int)else .dead
def IA (hm:P.follows .mixedOrders=true) (hΓ:mH P Γ) (ok:Oa P f fC fI=true)
  (hC:∀p,Γ.p fC [.str p,.str [47]]=some (.kT [.str (nB p),.bool (pW p)])) (hI:∀s,Γ.p fI [.str s,.int .u8 47]=some (.int .i64 (xh s)))
  {path:au} {c:Nat} {w:World} (hb:T4 w c path) (Kb:az):acr P f #[.pointer (some ⟨c,0,none⟩)] ((pV path).map enc) c Kb w:=by
 unfold Oa at ok;split at ok
 .rename_i fn hf;split at ok
  .rename_i B0 R1 R2 X3 id5 Vg R6 hbody;simp only[aH,decide_eq_true_eq]at ok;let⟨⟨⟨⟨⟨⟨⟨⟨hn,_⟩,hres⟩,k0⟩,k1⟩,k2⟩,k3⟩,k6⟩,k5⟩:=ok;split at k5
   .rename_i o1 o2 o3 o4 o5 o6 o7 Wh;simp only[aH,decide_eq_true_eq]at k5;let⟨⟨⟨⟨q1,q2⟩,q3⟩,q4⟩,q5⟩:=k5;split at q5
    .rename_i args ats hop;split at q5
     .rename_i hargs;intro l J Jx W hW hsz tJ tX hY h0;have Ji:=hb.lt;have hbW:T4 W c path:=by
       let⟨elem,h1⟩:=hb;exact⟨elem,(hW c Ji).trans h1⟩
      refine callsIn_of_wp_marks hf hbody trivial ?_ rfl;generalize hR:(λ(e:Ending)(W':World)=>(∃v,e = .returned v)/\(J ((pV path).map enc).length W'\/Jx W'))=R
      have hlen:((pV path).map enc).length=(pV path).length:=ah
      have fin:∀ {a:Act} {W':World} {x:Exit},a.defers=[]->(J (pV path).length W'\/Jx W')->(x = .ret\/x = .normal)->bodyPostM Fence.wide 0 P fn R x a W':=λhd hJ hx =>
       VH hres hd (by rw[<-hR,hlen];exact⟨⟨_,rfl⟩,hJ⟩) hx
      have key:∀(k:Nat)(p:au)(i:Nat)(a:Act)(W1:World),(pV p).length=k->(pV path).drop i=pV p->i<=(pV path).length->Head l c a->T4 W1 c p->J i W1->
        Code.roundsIn Fence.wide 0 P (.seq B0 (.block 1 (.seq R1 (.seq R2 (.seq X3 (.seq (.seq (.region id5 Vg false) (.cond (.tmp 25) .ret .skip)) R6)))))) (Exit.inBlock 0 (bodyPostM Fence.wide 0 P fn R)) (k+1) a W1:=by
       intro k
       induction k with
       |zero =>
        intro p i a W1 hk hd hi H WD hJ;have hp:p=[]:=by
         cases p with
         |nil=>rfl
         |cons x t=>rw[wS ah]at hk;simp at hk
        subst hp
        have hiN:i=(pV path).length:=by
         have:=congrArg List.length hd;rw[zC]at this;simp at this;omega
        rw[roundsIn_succ];refine wpIn_seq ((RQ H WD).step hm hΓ (vt WD) k0 (x:=.exit 0) (by rw[ab4 rfl,if_pos rfl]) λa' β' W' A=>?_)
        exact fin (x:=.normal) A.defers (.inl (hiN▸tJ i _ _ hJ (Ky A))) (.inr rfl)
       |succ k ih =>
        intro p i a W1 hk hd hi H WD hJ;have hp:p≠[]:=by
         rintro rfl
         rw[zC]at hk;simp at hk
        have akU:=wS hp;rw[akU]at hk hd
        have hiN:i<(pV path).length:=by
         have:=congrArg List.length hd;simp at this;omega
        have wq:(pV path)[i]=(upTo (nB p),pW p):=by
         rw[cU hiN]at hd;exact(List.cons.inj hd).1
        have hd':(pV path).drop (i+1)=pV (from_ (nB p)):=by
         rw[cU hiN]at hd;exact(List.cons.inj hd).2
        have apZ:∀(hi':i<((pV path).map enc).length),((pV path).map enc)[i] = #[.string ⟨(upTo (nB p)).toArray⟩,.bool (pW p)]:=λhi'=>by
         rw[gw,wq];rfl
        rw[roundsIn_succ];refine wpIn_seq ((RQ H WD).step hm hΓ (vt WD) k0 (x:=.normal) (by rw[ab4 rfl,if_neg hp]) λa1 β1 V1 A1=>?_)
        refine wpIn_block (wpIn_seq ?_);let⟨e2,ev2,f20,f21,f23,f24⟩:=alH (Γ:=Γ) (V:=λi=>decide (1<=i)) hC (e:=((e0 l).put 6 (.str p)).put 7 (.bool (!decide (p=[])))) (p:=p) rfl
        refine A1.step hm hΓ (vt WD) k1 (x:=.normal) ev2 λa2 β2 V2 A2=>?_
        refine wpIn_seq ?_;let⟨e3,ev3,f30,f31,f33,f34,f35⟩:=alG (Γ:=Γ) (V:=λi=>decide (1<=i)) hI (h:=[.var [.str p]]) f23
        refine A2.step hm hΓ (vt WD) k2 (x:=.normal) ev3 λa3 β3 V3 A3=>?_
        refine wpIn_seq ?_;let⟨e4,ev4,f40,f41,f43,f44,f45⟩:=alz (Γ:=Γ) (V:=λi=>decide (1<=i)) (h:=[.var [.str p]]) f33 f35
        refine A3.step hm hΓ (vt WD) k3 (x:=.normal) ev4 λa4 β4 V4 A4=>?_
        refine wpIn_seq (wpIn_seq ?_);let⟨e5,ev5,f50,f51,f53,f54,f55,f56,f57,f58⟩:=alF (Γ:=Γ) (h:=[.var [.str p]]) f43 f45;refine wpIn_region_list ?_;rw[Wh];have g0:e5 0 = .fn (.yield l) [] []:=by rw[f50,f40,f30,f20];rfl
        have g1:e5 1 = .ptr 0 0 0 0:=by rw[f51,f41,f31,f21];rfl
        have g4:e5 4 = .bool (pW p):=by rw[f54,f44,f34,f24]
        have g19:e5 19 = .fn (.yield l) [] []:=by rw[f56,f40,f30,f20];rfl
        have g23:e5 23 = .bool (pW p):=by rw[f58,f44,f34,f24]
        refine Ba (Q:=λx a' W'=>x = .normal/\∃β',At 29 (Zi W1 c) (βi c) [.var [.str p]] W1 (Zi W1 c) [] ⟨e5,[.var [.str p]]⟩ a' β' W') (λ⟨_,_,h,_⟩=>by cases h) [o6,o7] ?_ (λch a w h=>by cases h.1)
         [o1,o2,o3,o4,o5] a4 V4 (C8 hΓ [o1,o2,o3,o4,o5] l5 ⟨e4,[.var [.str p]]⟩ ⟨e5,[.var [.str p]]⟩ a4 V4 β4 (by rw[Wh];exact q1) (W:=λ_=>true) (λ_ _ _ _=>rfl) ev5 A4.rel A4.env
          λa' w' β' R' F' E' K'=>⟨rfl,β',A4.next (vt WD) (V:=λi=>decide (1<=i)) (λi hi=>by simpa using hi) R' F'.Y2 E' K'.defers⟩)
        rintro a5 V5 ⟨_,β5,A5⟩
        have hJ5:J i V5:=tJ i _ _ hJ (Ky A5);have akg:β5 0 0=some ⟨some c,0,1,1⟩:=A5.ext _ _ _ (RW c);have ap9:T4 V5 c p:=XZ A5.rel akg;have O2:∀t v,e5 t=v->VR β5 (Own (Zi W1 c) β5 [.var [.str p]]) V5 v (a5.tmps.getD t undef):=λt v h=>by rw[<-h];exact A5.env.2 t
        have c0:a5.tmps.getD 0 undef = .func (.yield l) #[] #[]:=OX (O2 _ _ g0)
        have c1:a5.tmps.getD 1 undef = .pointer (some ⟨c,0,none⟩):=by
         let⟨bd,c',h1,h2,h3⟩:=(O2 _ _ g1).oE;rw[akg]at h1;cases h1;cases h2;exact h3
        have c3:a5.tmps.getD 3 undef = .string ⟨(nB p).toArray⟩:=u9 (O2 _ _ f53);have c5:a5.tmps.getD 5 undef = .int .i64 ((upTo (nB p)).length:Int):=(O2 _ _ f55).nr;have c19:a5.tmps.getD 19 undef = .func (.yield l) #[] #[]:=OX (O2 _ _ g19);have c22:a5.tmps.getD 22 undef = .string ⟨(upTo (nB p)).toArray⟩:=u9 (O2 _ _ f57);have c23:a5.tmps.getD 23 undef = .bool (pW p):=(O2 _ _ g23).pF
        have hvs:args.map a5.eval = #[.string ⟨(upTo (nB p)).toArray⟩,.bool (pW p)]:=by
         have:args = #[.tmp 22,.tmp 23]:=dI (by simpa using hargs)
         rw[this];simp[Act.eval,c22,c23]
        have hy:=hY i (by rw[hlen];exact hiN) V5 hJ5
        rw[apZ]at hy;have q3':o6.guard=none:=by simpa using q3
        unfold wpListIn;rw[if_pos (B5 q3')];refine NI hop (l:=l) (by simpa[Act.eval]using c19) hvs hy (λe W' he=>by rcases he with⟨rfl,_⟩ | ⟨rfl,_⟩<;>exact⟨_,rfl⟩) λb W3 hR3=>?_
        rw[q4]
        -- behind the round: 'not', in the empty memory
        obtain⟨a6,ha6⟩:∃a6,a6=a5.put (some 24) (.bool b):=⟨_,rfl⟩;rw[<-ha6];have s6:a6.tmps.size=29:=by rw[ha6];simp[Act.put,A5.env.1]
        have aqg:∀t,t≠24->a6.tmps.getD t undef=a5.tmps.getD t undef:=λt ht=>by
         rw[ha6];simp[Act.put,bP,cD (Ne.symm ht)]
        have c24:a6.tmps.getD 24 undef = .bool b:=by
         rw[ha6];simp[Act.put,bP,A5.env.1]
        have E6:kF (λb=>b<W3.heap.size) (λ_ _=>none) [] W3 (λt=>if t=24 then .bool b else .dead) a6 29:=by
         refine⟨s6,λt=>?_⟩
         show VR _ _ _ (if t=24 then .bool b else .dead) _
         by_cases ht:t=24
         .rw[if_pos ht,ht,c24];exact .pure _ _ (.bool b)
         .rw[if_neg ht];exact .dead _
        have ev7:flat Γ l5b ⟨λt=>if t=24 then .bool b else .dead,[]⟩=some ⟨Env.put (λt=>if t=24 then .bool b else .dead) 25 (.bool (!b)),[]⟩:=by
         simp[l5b,flat,exec,un,mc,St.put]
        show wpListIn Fence.wide 0 P Vg _ ([o7]++[]) a6 W3
        refine Ba (P:=P) (m:=0) (ops:=Vg) (Q:=λx a' W'=>x = .normal/\a'.tmps.size=29/\(∀t,t≠25->a'.tmps.getD t undef=a6.tmps.getD t undef)/\a'.tmps.getD 25 undef = .bool (!b)/\a'.defers=[]/\W3.grownBy W' none)
         (λ⟨_,_,h,_⟩=>by cases h) [] ?_ (λch a w h=>by cases h.1) [o7] a6 W3
         (C8 hΓ [o7] l5b _ _ a6 W3 _ (by rw[Wh];exact q2) (W:=λt=>decide (t=25)) (λx hx t ht=>by simp only[l5b,aM]at hx;subst hx;simp at ht;simp[ht]) ev7 (adI W3) E6
          λa' w' β' R' F' E' K'=>⟨rfl,E'.1,λt ht=>K'.same t (by simpa using ht),?_,?_,?_⟩)
        .rintro a7 W7 ⟨_,s7,h7,wD,hd7,hg7⟩
         have hgc:W3.grownBy W7 (some c):=⟨hg7.os,hg7.tape,hg7.output,hg7.size,λk hk _=>hg7.block k hk ah⟩
         show Code.wpIn Fence.wide 0 P (.cond (.tmp 25) .ret .skip) _ a7 W7
         rcases hR3 with⟨he,hJ3,hk3⟩ | ⟨he,hJ3⟩
         .have hbt:b=true:=by injection he with he;injection he
          subst hbt;refine wpIn_cond_false (by simpa[Act.eval]using wD) (wpIn_skip ?_)
          have hJ7:J (i+1) W7:=tJ _ _ _ hJ3 hgc;have akX:T4 W7 c p:=by
           let⟨elem,h1⟩:=ap9;have e1:=(hk3 c Ji (.inl rfl)).trans h1;exact⟨elem,(hg7.block c (aW.1 e1).1 ah).trans e1⟩
          have g7:∀t,t≠24->t≠25->a7.tmps.getD t undef=a5.tmps.getD t undef:=λt h1 h2=>(h7 t h2).trans (aqg t h1)
          have A7:At 29 (Zi W7 c) (βi c) [.var [.str p]] W7 (Zi W7 c) [] ⟨e6 l (nB p),[.var [.str p]]⟩ a7 (βi c) W7:=by
           refine⟨vt akX,λ_ _ _=>rfl,rfl,rfl,rfl,λ_ _ _ e=>e,lS.refl _ _,⟨s7,λt=>?_⟩,hd7,λ_ h=>h⟩
           show VR _ _ _ (if t=0 then .fn (.yield l) [] []else if t=1 then .ptr 0 0 0 0 else if t=3 then .str (nB p)else if t=5 then .int .i64 ((upTo (nB p)).length:Int)else .dead) _
           by_cases t0:t=0
           .rw[if_pos t0,t0,g7 0 aa aa,c0];exact Xd _
           rw[if_neg t0]
           by_cases t1:t=1
           .rw[if_pos t1,t1,g7 1 aa aa,c1];exact .ptr 0 0 0 0 ⟨some c,0,1,1⟩ c (RW c) rfl
           rw[if_neg t1]
           by_cases t3:t=3
           .rw[if_pos t3,t3,g7 3 aa aa,c3];exact .pure _ _ (CW _)
           rw[if_neg t3]
           by_cases t5:t=5
           .rw[if_pos t5,t5,g7 5 aa aa,c5];exact .pure _ _ (.int _ _)
           rw[if_neg t5];exact .dead _
          show Code.wpIn Fence.wide 0 P R6 _ a7 W7;let⟨e8,ev8,f80,f81⟩:=alE (Γ:=Γ) (V:=λi=>decide (1<=i)) (e:=e6 l (nB p)) (p:=p) (r:=nB p) rfl rfl rfl
          refine A7.step hm hΓ (vt akX) k6 (x:=.normal) ev8 λa8 β8 W8 A8=>?_
          have akf:β8 0 0=some ⟨some c,0,1,1⟩:=A8.ext _ _ _ (RW c);have alJ:∀t v,e8 t=v->VR β8 (Own (Zi W7 c) β8 [.var [.str (from_ (nB p))]]) W8 v (a8.tmps.getD t undef):=λt v h=>by rw[<-h];exact A8.env.2 t
          have H8:Head l c a8:=by
           refine⟨A8.env.1,OX (alJ 0 _ f80),?_,A8.defers⟩;let⟨bd,c',h1,h2,h3⟩:=(alJ 1 _ f81).oE;rw[akf]at h1;cases h1;cases h2;exact h3
          exact ih (from_ (nB p)) (i+1) a8 W8 (by simpa using hk) hd' hiN H8 (XZ A8.rel akf) (tJ _ _ _ hJ7 (Ky A8))
         .have hbt:b=false:=by injection he with he;injection he
          subst hbt;refine wpIn_cond_true (by simpa[Act.eval]using wD) (wpIn_ret ?_)
          exact fin (x:=.ret) hd7 (.inr (tX _ _ hJ3 hgc)) (.inl rfl)
        .have:=E'.2 25;simp only[Env.put]at this;exact VR.pF (by simpa using this)
        .rw[K'.defers,ha6];simp[Act.put,A5.defers]
        .exact⟨F'.os,F'.tape,F'.output,F'.stay.1,λk hk _=>F'.nN k hk hk⟩
      refine wpIn_block (wpIn_loop_rounds ((pV path).length+1) (key _ path 0 _ W rfl ah (cH _) ⟨?_,?_,?_,rfl⟩ hbW h0))
      .simp[hn]
      .simp[bP,iZ]
      .simp[bP,iZ]
     .cases q5
    .cases q5
   .cases k5
  .cases ok
 .cases ok
def Aj{fn:Func}(hf:P.funcs[f]? = some fn)(hb:fn.body.isSome=true)(hn:(fn.name == "runtime.NumGoroutine")=false)(args:Array Value)(w:World):(callFunc f args).run P w = .ok (.enter f args) w:=by
 have hb':fn.body.isNone=false:=by cases hfb:fn.body<;>simp_all
 simp only[callFunc,Sem.run_bind,run_program,Result.andThen_ok,hf,hn,hb',aU,if_false,Sem.run_pure]
def U7(ok:Oa P f fC fI=true)(args:Array Value)(w:World):(callFunc f args).run P w = .ok (.enter f args) w:=by
 unfold Oa at ok;split at ok
 .rename_i fn hf;split at ok
  .rename_i hbody;simp only[aH,decide_eq_true_eq,beq_iff_eq]at ok;exact Aj hf (by rw[hbody];rfl) (an ok.1.1.1.1.1.1.1.2) args w
  .cases ok
 .cases ok
end
open Go.Am Go.RowKit
def r0:AC:=.ops (.op (some 2) (.alloc [.jB true []]) (.op (some 3) (.alloc [.int .i64 0]) (.nil)))
def x1:AC:=.seq (.ops (.op (some 7) (.mv (.t 0)) (.op (some 8) (.bin .eql (.t 7) (.c (.str [47]))) (.nil))))
 (.cond (.t 8) (.seq (.ops (.op none (.store 1 (.t 2) (.c (.jB true []))) (.op none (.store 1 (.t 3) (.c (.int .i64 0))) (.nil))))
 (.ret)) (.skip))
def r3:AC:=.ops (.op (some 4) (.alloc [.jB true []]) (.nil))
def r4(fP:FuncId):AC:=.ops (.op (some 9) (.mv (.t 0)) (.op (some 10) (.call fP [(.t 9)]) (.nil)))
def bA(fR:FuncId):AC:=.block 1 (.seq (.seq (.ops (.op (some 13) (.mv (.t 6)) (.op (some 14) (.un .not (.t 13)) (.op (some 15) (.mv (.t 14)) (.sc 19 false 15 16 18 (.op (some 16) (.mv (.t 5)) (.op (some 17) (.call fR [(.t 16)]) (.op (some 18) (.un .not (.t 17)) (.nil)))) (.t 18) (.op (some 20) (.mv (.t 19)) (.sc 24 false 20 21 23 (.op (some 21) (.load 1 false (.t 4)) (.op (some 22) (.len false (.t 21)) (.op (some 23) (.bin .eql (.t 22) (.c (.int .i64 12))) (.nil)))) (.t 23) (.nil))))))))
 (.cond (.t 24) (.seq (.ops (.op none (.store 1 (.t 2) (.c (.jB true []))) (.op none (.store 1 (.t 3) (.c (.int .i64 60))) (.nil))))
 (.ret)) (.skip)))
 (.ops (.op (some 25) (.load 1 false (.t 4)) (.op (some 26) (.mv (.t 5)) (.op (some 27) (.me 1 (.str []) 1 [(0,(.t 26))]) (.op (some 28) (.app 1 16 (.t 25) (.t 27)) (.op none (.store 1 (.t 4) (.t 28)) (.nil))))))))
def post:AC:=.seq (.seq (.ops (.op (some 29) (.load 1 false (.t 4)) (.op (some 30) (.len false (.t 29)) (.op (some 31) (.bin .eql (.t 30) (.c (.int .i64 0))) (.nil)))))
 (.cond (.t 31) (.seq (.ops (.op none (.store 1 (.t 2) (.c (.jB true []))) (.op none (.store 1 (.t 3) (.c (.int .i64 60))) (.nil))))
 (.ret)) (.skip)))
 (.seq (.ops (.op (some 32) (.load 1 false (.t 4)) (.op none (.store 1 (.t 2) (.t 32)) (.op none (.store 1 (.t 3) (.c (.int .i64 0))) (.nil)))))
 (.ret))
def zP(os:List Oper)(t s:Tmp):Bool:=match os with
 | [o]=>decide (o.dst=some t)&&o.guard.isNone&&(match o.op with | .assign (.tmp s')=>decide (s'=s) | _=>false)
 |_=>false
def CX(P:Program)(f fP fR:FuncId):Bool:=match P.funcs[f]? with
 |some fn=>match fn.body with
  |some (.seq R0 (.seq X1 (.seq R3 (.seq (.seq R4 (.block 0 (.rangeFunc (.tmp 10) ps (.seq (.region _ ajf false) (.region _ aje false)) bd))) PO)))) =>
   decide (fn.ntmps=33)&&ri P fn.results.toList [.cell 2 1 false,.cell 3 1 false]&&ku P 33 R0 r0&&ku P 33 X1 x1&&ku P 33 R3 r3&&ku P 33 R4 (r4 fP)&&ku P 33 bd (bA fR)&&Vt bd&&ku P 33 PO post &&
   (match ps.toList with | [11,12]=>true | _=>false)&&zP ajf.toList 5 11&&zP aje.toList 6 12&&(fn.name == "runtime.NumGoroutine")==false
  |_=>false
 |none=>false
section
variable{P:Program}{Γ:kP}
def alD{V:aB}{e:Env}:eval Γ r0 V (AX×St) (λx s=>some (x,s)) ⟨e,[]⟩=some (.normal,⟨(e.put 2 (.ptr 0 0 0 0)).put 3 (.ptr 1 0 0 0),[.var [.jB true []],.var [.int .i64 0]]⟩):=by
 simp -implicitDefEqProofs (disch:=omega)[kS,nG,nH,nI,nJ,nC,nD,nE,nF,nK,nL,lX,lW,lZ,lY,kg,jT,r0]
def alA{V:aB}{e:Env}{p:au}(h0:e 0 = .str p)(h2:e 2 = .ptr 0 0 0 0)(h3:e 3 = .ptr 1 0 0 0):eval Γ x1 V (AX×St) (λx s=>some (x,s)) ⟨e,[.var [.jB true []],.var [.int .i64 0]]⟩ =
  some (if p=[47]then .ret else .normal,⟨(e.put 7 (.str p)).put 8 (.bool (decide (p=[47]))),[.var [.jB true []],.var [.int .i64 0]]⟩):=by
 by_cases hp:p=[47]<;>simp -implicitDefEqProofs (disch:=omega)[kS,nG,nH,nI,nJ,nC,nD,nE,nF,nK,nL,lX,lW,lZ,lY,kg,jT,x1,h0,h2,h3,lB,hp]
def alC{V:aB}{e:Env}:eval Γ r3 V (AX×St) (λx s=>some (x,s)) ⟨e,[.var [.jB true []],.var [.int .i64 0]]⟩=some (.normal,⟨e.put 4 (.ptr 2 0 0 0),[.var [.jB true []],.var [.int .i64 0],.var [.jB true []]]⟩):=by
 simp -implicitDefEqProofs (disch:=omega)[kS,nG,nH,nI,nJ,nC,nD,nE,nF,nK,nL,lX,lW,lZ,lY,kg,jT,r3]
def alB{V:aB}{e:Env}{p:au}{fP YR:FuncId}(hP:∀h,jM Γ fP [.str p] h=some (.fn (.func YR) [] [.ptr h.length 0 0 0],h++[.var [.str p]]))(h0:e 0 = .str p):
  eval Γ (r4 fP) V (AX×St) (λx s=>some (x,s)) ⟨e,[.var [.jB true []],.var [.int .i64 0],.var [.jB true []]]⟩ =
  some (.normal,⟨(e.put 9 (.str p)).put 10 (.fn (.func YR) [] [.ptr 3 0 0 0]),[.var [.jB true []],.var [.int .i64 0],.var [.jB true []],.var [.str p]]⟩):=by
 simp -implicitDefEqProofs (disch:=omega)[kS,nG,nH,nI,nJ,nC,nD,nE,nF,nK,nL,lX,lW,lZ,lY,kg,jT,r4,h0,hP]
def TV(i:Nat)(l:List au):AH:=[.var [.jB true []],.var [.int .i64 0],.var [.own 4 i 0 i],.gone,.row i 1 (l.map AV.str)]
def YE(i:Nat)(l:List au):AH:=[.var [.jB true []],.var [.int .i64 60],.var [.own 4 i 0 i],.gone,.row i 1 (l.map AV.str)]
def aau{V:aB}{e:Env}{s:au}{b:Bool}{fR:FuncId}{jL:au->Bool}(hR:∀s,Γ.p fR [.str s]=some (.bool (jL s)))(h2:e 2 = .ptr 0 0 0 0)(h3:e 3 = .ptr 1 0 0 0)(h4:e 4 = .ptr 2 0 0 0)
  (h5:e 5 = .str s) (h6:e 6 = .bool b) {i:Nat} {l:List au} (hl:l.length=i) (hi:i<=12) :
  eval Γ (bA fR) V (AX×AH) (λex s=>some (ex,s.h)) ⟨e,TV i l⟩=some (if (b&&(jL s&&decide (i<12)))=true then(.normal,TV (i+1) (l++[s]))else(.ret,YE i l)):=by
 have hc:=λh=>JH (Γ:=Γ) (f:=fR) (args:=[.str s]) (h:=h) rfl (hR s)
 cases b with
 |false=>simp -implicitDefEqProofs (disch:=omega)[kS,nG,nH,nI,nJ,nC,nD,nE,nF,nK,nL,lX,lW,lZ,lY,kg,jT,bA,TV,YE,h2,h3,h6]
 |true =>
  cases hr:jL s with
  |false =>
   rw[hr]at hc;simp -implicitDefEqProofs (disch:=omega)[kS,nG,nH,nI,nJ,nC,nD,nE,nF,nK,nL,lX,lW,lZ,lY,kg,jT,bA,TV,YE,h2,h3,h5,h6,hc]
  |true =>
   rw[hr]at hc
   by_cases h12:i<12
   .simp -implicitDefEqProofs (disch:=omega)[kS,nG,nH,nI,nJ,nC,nD,nE,nF,nK,nL,lX,lW,lZ,lY,kg,jT,bA,TV,h4,h5,h6,hc,h12]
   .simp -implicitDefEqProofs (disch:=omega)[kS,nG,nH,nI,nJ,nC,nD,nE,nF,nK,nL,lX,lW,lZ,lY,kg,jT,bA,TV,YE,h2,h3,h4,h5,h6,hc,h12]
def aat{V:aB}{e:Env}(h2:e 2 = .ptr 0 0 0 0)(h3:e 3 = .ptr 1 0 0 0)(h4:e 4 = .ptr 2 0 0 0){i:Nat}{l:List au}:
  ∃e',eval Γ post V (AX×St) (λx s=>some (x,s)) ⟨e,TV i l⟩=some (.ret,⟨e',if i=0 then YE i l else[.var [.own 4 i 0 i],.var [.int .i64 0],.var [.own 4 i 0 i],.gone,.row i 1 (l.map AV.str)]⟩)/\e' 2 = .ptr 0 0 0 0/\e' 3 = .ptr 1 0 0 0:=by
 by_cases hi:i=0
 .subst hi;refine⟨((e.put 29 (.own 4 0 0 0)).put 30 (.int .i64 0)).put 31 (.bool true),?_,h2,h3⟩;simp -implicitDefEqProofs (disch:=omega)[kS,nG,nH,nI,nJ,nC,nD,nE,nF,nK,nL,lX,lW,lZ,lY,kg,jT,post,TV,YE,h2,h3,h4]
 .have h0:¬((i:Int)=0):=by omega
  refine⟨(((e.put 29 (.own 4 i 0 i)).put 30 (.int .i64 i)).put 31 (.bool false)).put 32 (.own 4 i 0 i),?_,h2,h3⟩;simp -implicitDefEqProofs (disch:=omega)[kS,nG,nH,nI,nJ,nC,nD,nE,nF,nK,nL,lX,lW,lZ,lY,kg,jT,post,TV,h2,h3,h4,hi]
end
open Go.Am Go.RowKit
def EJ(jL:au->Bool)(x:au×Bool):Bool:=x.2&&jL x.1
def rD(jL:au->Bool)(path:au):Option (List au) :=
 if path=[47]then some []else if pV path≠[]/\(pV path).length<=12/\(pV path).all (EJ jL)=true then some ((pV path).map (·.1))else none
def ve(jL:au->Bool)(path:au):AV:=match rD jL path with
 |some l=>.kT [.jB (decide (path=[47])) (l.map AV.str),.int .i64 0]
 |none=>.kT [.jB true [],.int .i64 60]
variable{f fP fR YR fC fI:FuncId}
section
variable{P:Program}{Γ:kP}
def H7{t s:Tmp}{os:List Oper}{ops:Array Oper}(Wh:ops.toList=os)(ok:zP os t s=true){id l m:Nat}{a:Act}{w:World}{Q:Exit->Act->World->Prop}(h:Q .normal (a.put (some t) (a.tmps.getD s undef)) w):
  (Code.region id ops false).wpIn (Fence.wide.inRound l) m P Q a w:=by
 unfold zP at ok;split at ok
 .rename_i o;simp only[aH,decide_eq_true_eq]at ok;let⟨⟨q1,q2⟩,q3⟩:=ok;split at q3
  .rename_i s' ho;have hs:s'=s:=by simpa using q3
   subst hs;refine wpIn_region_list ?_;rw[Wh];unfold wpListIn;rw[if_pos (B5 (an q2))]
   refine ID (λc hc=>by rw[ho]at hc;cases hc) ?_
   unfold Oper.wp
   have hx:(execOp a.eval o).run P w = .ok (.value (a.eval (.tmp s'))) w:=by
    unfold execOp;simp only[ho,Sem.run_pure]
   rw[hx,Oper.upon_value,q1];exact h
  .cases q3
 .cases ok
def e1(x:Option (au×Bool)):Env:=λt=>if t=2 then .ptr 0 0 0 0 else if t=3 then .ptr 1 0 0 0 else if t=4 then .ptr 2 0 0 0 else if t=5 then(x.elim .dead λx=>.str x.1)else if t=6 then(x.elim .dead λx=>.bool x.2)else .dead
def af9{Z:az}{β:kW}{h:AH}{W:World}{k:Nat}{p:au}(R:Rel Z β h W)(hk:h[k]? = some (.var [.str p])):∃c,β k 0=some ⟨some c,0,1,1⟩/\T4 W c p:=by
 let⟨c,cur,elem,e1,e2,e3,e4⟩:=R.blk k _ hk;let⟨v,g1,_,g3⟩:=e4 0 _ rfl;have hv:=u9 g3;subst hv;have:cur = #[.string ⟨p.toArray⟩]:=by
  have hs:cur.size=1:=e3;apply Array.ext
  .simpa using hs
  .intro j h1 h2;have hj:j=0:=by omega
   subst hj;have:=cE h1;rw[g1]at this
   simpa using this.symm
 exact⟨c,e1,elem,by rw[<-this];exact e2⟩
def aap{O:az}{β:kW}{w:World}{f:Fn}{b c:Nat}{v:Value}(hβ:β b 0=some ⟨some c,0,1,1⟩)(h:VR β O w (.fn f [] [.ptr b 0 0 0]) v):v = .func f #[] #[.pointer (some ⟨c,0,none⟩)]:=by
 cases h with
 |pure _ _ h=>cases h
 |fn _ _ _ va vc h1 h2 q1 q2 =>
  have e1:va=[]:=aY (an h1.symm)
  subst e1
  match vc,h2 with
  | [u],_ =>
   let⟨bd,c',g1,g2,g3⟩:=(q2 0 _ u rfl rfl).oE;rw[hβ]at g1;cases g1;cases g2;rw[g3];simp
def Sg(hm:P.follows .mixedOrders=true)(hΓ:mH P Γ)(ok:CX P f fP fR=true)(okP:Oa P YR fC fI=true){jL:au->Bool}
  (hC:∀p,Γ.p fC [.str p,.str [47]]=some (.kT [.str (nB p),.bool (pW p)])) (hI:∀s,Γ.p fI [.str s,.int .u8 47]=some (.int .i64 (xh s)))
  (hR:∀s,Γ.p fR [.str s]=some (.bool (jL s))) (hP:∀p h,jM Γ fP [.str p] h=some (.fn (.func YR) [] [.ptr h.length 0 0 0],h++[.var [.str p]]))
  (path:au) (h:AH):zl P f [.str path] h (ve jL path) h:=by
 unfold CX at ok;split at ok
 .rename_i fn hf;split at ok
  .rename_i R0 X1 R3 R4 ps idA ajf idB aje bd PO hbody;simp only[aH,decide_eq_true_eq,beq_iff_eq]at ok;let⟨⟨⟨⟨⟨⟨⟨⟨⟨⟨⟨⟨hn,hres⟩,k0⟩,k1⟩,k3⟩,k4⟩,kb⟩,nb⟩,kp⟩,hps⟩,ha⟩,hb⟩,hname⟩:=ok;have apJ:ps = #[11,12]:=by
    split at hps
    .rename_i h1;exact dI (an h1)
    .cases hps
   subst apJ;refine Lw rfl ⟨⟨fn,hf,by rw[hbody];rfl,an hname⟩,λZ β w vs R hl hv=>?_⟩ h
   refine(callsIn_wide (n:=1)).1 (callsIn_of_wp_marks hf hbody trivial ?_ rfl);generalize hRR:(λ(e:Ending)(w':World)=>∃v β' r0 h1 h2,e = .returned v/\sD h1 r0=some (ve jL path,h2)/\Rel Z β' h1 w'/\Fr Z β [] w β' h1 w'/\VR β' (Own Z β' h1) w' r0 v)=RR
   have A0:=At.start (n:=33) R hl hv ah
   rw[hn];refine wpIn_seq (A0.step hm hΓ R k0 (x:=.normal) alD λa1 β1 W1 A1=>?_)
   refine wpIn_seq (A1.step hm hΓ R k1 (alA (p:=path) rfl rfl rfl) λa2 β2 W2 A2=>?_)
   by_cases hp:path=[47]
   .rw[if_pos hp];refine A2.adN (x:=.ret) (r:=.kT [.jB true [],.int .i64 0]) hres (by simp -implicitDefEqProofs (disch:=omega)[kS,nG,nH,nI,nJ,nC,nD,nE,nF,nK,nL,lX,lW,lZ,lY,kg,jT,]) (.inl rfl) λu β' W' h1 h2 h3=>?_
    rw[<-hRR];exact⟨u,β',.kT [.jB true [],.int .i64 0],_,_,rfl,(by simp -implicitDefEqProofs (disch:=omega)[kS,nG,nH,nI,nJ,nC,nD,nE,nF,nK,nL,lX,lW,lZ,lY,kg,jT,ve,rD,hp];rfl),h1,h2,h3⟩
   rw[if_neg hp];refine wpIn_seq (A2.step hm hΓ R k3 (x:=.normal) alC λa3 β3 W3 A3=>?_)
   refine wpIn_seq (wpIn_seq (A3.step hm hΓ R k4 (x:=.normal) (alB (p:=path) (hP path) rfl) λa4 β4 W4 A4=>?_))
   let⟨β5,A5⟩:=A4.jI (i:=2) (sz:=1) af rfl
   let⟨c,hβ,WD⟩:=af9 (k:=3) (p:=path) A5.rel rfl;have hlen:((pV path).map enc).length=(pV path).length:=ah
   have hne:pV path≠[]->rD jL path=none\/(rD jL path=some ((pV path).map (·.1))/\(pV path).length<=12):=λh0=>by
    unfold rD;rw[if_neg hp];split
    .rename_i h1;exact .inr ⟨rfl,h1.2.1⟩
    .exact .inl rfl
   -- the activation of round i
   obtain⟨T0,hT0⟩:∃T0:Array Value->Array Value,T0=λx=>((#[11,12]:Array Tmp).zip x).foldl (λt (p,v)=>t.setIfInBounds p v) a4.tmps:=⟨_,rfl⟩
   have hT:∀x:au×Bool,T0 (enc x)=(a4.tmps.setIfInBounds 11 (.string ⟨x.1.toArray⟩)).setIfInBounds 12 (.bool x.2):=λx=>by rw[hT0];simp[enc]
   have hs4:a4.tmps.size=33:=A5.env.1
   refine wpIn_block (UP hm hΓ kb nb A5.rel (kb:=3) (c:=c) ⟨_,rfl,_,rfl,hβ⟩ (gf:=YR) (lb := #[.pointer (some ⟨c,0,none⟩)]) (aap hβ (A5.env.2 10)) (U7 okP)
    (encs:=(pV path).map enc) (IA hm hΓ okP hC hI WD _) (λx hx=>by
     obtain⟨y,_,rfl⟩:=bx.1 hx;rfl)
    (λi hh=>i<=12/\((pV path).take i).all (EJ jL)=true/\hh=TV i (((pV path).take i).map (·.1)))
    (λex hh=>ex = .ret/\rD jL path=none/\∃i l,hh=YE i l) 5 rfl
    (λi hh hi=>by obtain⟨_,_,rfl⟩:=hi;simp[TV,IJ,AV.okM]) (λex hh hi=>by obtain⟨_,_,i,l,rfl⟩:=hi;simp[YE,IJ,AV.okM])
    ⟨aa,ah,rfl⟩
    (λi hi=>(({tmps:=T0 ((pV path).map enc)[i],defers:=[]}:Act).put (some 5) ((T0 ((pV path).map enc)[i]).getD 11 undef)).put (some 6) ((({tmps:=T0 ((pV path).map enc)[i],defers:=[]}:Act).put (some 5) ((T0 ((pV path).map enc)[i]).getD 11 undef)).tmps.getD 12 undef))
    (λl i hi W K hK=>?_) (λi=>e1 (pV path)[i]?) (λi hi O' β' W hst Bn=>?_) (λi hh hi hI=>?_) (λD W' hh β' hD hI R' F' hk=>?_) (λD ex W' hh β' hD hne hX R' F' hk=>?_))
   .refine wpIn_seq (H7 rfl ha ?_);refine H7 rfl hb ?_;rw[hT0]at hK;exact hK
   .have hi':i<(pV path).length:=by simpa using hi
    rw[aG hi'];have he:((pV path).map enc)[i]=enc (pV path)[i]:=ah
    rw[he,hT];refine⟨by simp[Act.put,hs4],λt=>?_⟩
    obtain⟨x,hx⟩:∃x,x=(pV path)[i]:=⟨_,rfl⟩;rw[<-hx];obtain⟨v1,Me⟩:∃v1:Value,v1 = .string ⟨x.1.toArray⟩:=⟨_,rfl⟩;rw[<-Me];have m2:VR β' O' W (.ptr 0 0 0 0) (a4.tmps.getD 2 undef):=(A5.env.2 2).mono Bn hst;have m3:VR β' O' W (.ptr 1 0 0 0) (a4.tmps.getD 3 undef):=(A5.env.2 3).mono Bn hst;have m4:VR β' O' W (.ptr 2 0 0 0) (a4.tmps.getD 4 undef):=(A5.env.2 4).mono Bn hst
    show VR β' O' W (if t=2 then .ptr 0 0 0 0 else if t=3 then .ptr 1 0 0 0 else if t=4 then .ptr 2 0 0 0 else if t=5 then .str x.1 else if t=6 then .bool x.2 else .dead) _
    have other:∀t,t≠5->t≠6->t≠11->t≠12->((({tmps:=(a4.tmps.setIfInBounds 11 v1).setIfInBounds 12 (.bool x.2),defers:=[]}:Act).put (some 5) (((a4.tmps.setIfInBounds 11 v1).setIfInBounds 12 (.bool x.2)).getD 11 undef)).put (some 6)
      ((({tmps:=(a4.tmps.setIfInBounds 11 v1).setIfInBounds 12 (.bool x.2),defers:=[]}:Act).put (some 5) (((a4.tmps.setIfInBounds 11 v1).setIfInBounds 12 (.bool x.2)).getD 11 undef)).tmps.getD 12 undef)).tmps.getD t undef=a4.tmps.getD t undef:=λt h1 h2 h3 h4=>by
     simp[Act.put,bP,cD (Ne.symm h1),cD (Ne.symm h2),cD (Ne.symm h3),cD (Ne.symm h4)]
    by_cases t2:t=2
    .rw[if_pos t2,t2,other 2 aa aa aa aa];exact m2
    rw[if_neg t2]
    by_cases t3:t=3
    .rw[if_pos t3,t3,other 3 aa aa aa aa];exact m3
    rw[if_neg t3]
    by_cases t4:t=4
    .rw[if_pos t4,t4,other 4 aa aa aa aa];exact m4
    rw[if_neg t4]
    by_cases t5:t=5
    .rw[if_pos t5,t5]
     have:((({tmps:=(a4.tmps.setIfInBounds 11 v1).setIfInBounds 12 (.bool x.2),defers:=[]}:Act).put (some 5) (((a4.tmps.setIfInBounds 11 v1).setIfInBounds 12 (.bool x.2)).getD 11 undef)).put (some 6)
      ((({tmps:=(a4.tmps.setIfInBounds 11 v1).setIfInBounds 12 (.bool x.2),defers:=[]}:Act).put (some 5) (((a4.tmps.setIfInBounds 11 v1).setIfInBounds 12 (.bool x.2)).getD 11 undef)).tmps.getD 12 undef)).tmps.getD 5 undef=v1:=by
      simp[Act.put,bP,hs4]
     rw[this,Me];exact .pure _ _ (CW _)
    rw[if_neg t5]
    by_cases t6:t=6
    .rw[if_pos t6,t6]
     have:((({tmps:=(a4.tmps.setIfInBounds 11 v1).setIfInBounds 12 (.bool x.2),defers:=[]}:Act).put (some 5) (((a4.tmps.setIfInBounds 11 v1).setIfInBounds 12 (.bool x.2)).getD 11 undef)).put (some 6)
      ((({tmps:=(a4.tmps.setIfInBounds 11 v1).setIfInBounds 12 (.bool x.2),defers:=[]}:Act).put (some 5) (((a4.tmps.setIfInBounds 11 v1).setIfInBounds 12 (.bool x.2)).getD 11 undef)).tmps.getD 12 undef)).tmps.getD 6 undef = .bool x.2:=by
      simp[Act.put,bP,hs4]
     rw[this];exact .pure _ _ (.bool _)
    rw[if_neg t6];exact .dead _
   .have hi':i<(pV path).length:=by simpa using hi
    obtain⟨h12,hall,rfl⟩:=hI;rw[aG hi'];obtain⟨x,hx⟩:∃x,x=(pV path)[i]:=⟨_,rfl⟩;have abM:(pV path).take (i+1)=(pV path).take i++[x]:=by rw[hx];exact bC hi'
    have YL:=aau (Γ:=Γ) (V:=o9 [] 5) (e:=e1 (some (pV path)[i])) (s:=x.1) (b:=x.2) hR rfl rfl rfl (by rw[hx];rfl) (by rw[hx];rfl) (i:=i) (l:=((pV path).take i).map (·.1)) aj h12
    by_cases hg:(x.2&&(jL x.1&&decide (i<12)))=true
    .rw[if_pos hg]at YL;simp only[aH,decide_eq_true_eq]at hg;refine⟨_,_,YL,λ_=>⟨aa,?_,?_⟩,λh0=>absurd rfl h0⟩
     .rw[abM,fQ,hall];simp[EJ,hg.1,hg.2.1]
     .rw[abM];simp[TV,j5,kL,j9]
    .rw[if_neg hg]at YL;refine⟨_,_,YL,λh0=>(by cases h0),λ_=>⟨rfl,?_,i,_,rfl⟩⟩
     unfold rD;rw[if_neg hp,if_neg]
     rintro⟨_,h1,h2⟩
     apply hg;have S3:EJ jL x=true:=by rw[hx];exact aO.1 h2 _ (aS hi')
     simp only[EJ,aH]at S3;have:i<12:=aa
     simp[S3.1,S3.2,this]
   .obtain⟨h12,hall,rfl⟩:=hI;rw[hlen]at h12 hall;have A6:=A5.behind R hD R' F';rw[hlen]at A6;let⟨e',ev,g2,g3⟩:=aat (Γ:=Γ) (V:=λi=>decide (([]:AH).length<=i)) (e:=((((((kR [AV.str path]).put 2 (.ptr 0 0 0 0)).put 3 (.ptr 1 0 0 0)).put 7 (.str path)).put 8 (.bool (decide (path=[47])))).put 4 (.ptr 2 0 0 0) |>.put 9 (.str path) |>.put 10 (.fn (.func YR) [] [.ptr 3 0 0 0]))) rfl rfl rfl (i:=(pV path).length) (l:=((pV path).take (pV path).length).map (·.1))
    refine A6.j8 hm hΓ R hk kp (x:=.ret) ev λa' β'' W'' A7 hk7=>?_
    rw[dB]at A7 hall
    by_cases hz:pV path=[]
    .rw[hz]at A7;simp only[bq,if_true]at A7;refine A7.Oo (x:=.ret) (r:=.kT [.jB true [],.int .i64 60]) R (cQ A5.stay.1 hD) hk7 hres (by simp -implicitDefEqProofs (disch:=omega)[kS,nG,nH,nI,nJ,nC,nD,nE,nF,nK,nL,lX,lW,lZ,lY,kg,jT,YE,g2,g3]) (.inl rfl) λu β' W' h1 h2 h3=>?_
     rw[<-hRR];exact⟨u,β',.kT [.jB true [],.int .i64 60],_,_,rfl,(by simp -implicitDefEqProofs (disch:=omega)[kS,nG,nH,nI,nJ,nC,nD,nE,nF,nK,nL,lX,lW,lZ,lY,kg,jT,ve,rD,hp,hz];rfl),h1,h2,h3⟩
    .have OD:¬(pV path).length=0:=λh0=>hz (aY h0)
     rw[if_neg OD]at A7;refine A7.Oo (x:=.ret) (r:=.kT [.own 4 (pV path).length 0 (pV path).length,.int .i64 0]) R (cQ A5.stay.1 hD) hk7 hres (by simp -implicitDefEqProofs (disch:=omega)[kS,nG,nH,nI,nJ,nC,nD,nE,nF,nK,nL,lX,lW,lZ,lY,kg,jT,g2,g3]) (.inl rfl) λu β' W' h1 h2 h3=>?_
     rw[<-hRR]
     have hsl:rD jL path=some ((pV path).map (·.1)):=by
      unfold rD;rw[if_neg hp,if_pos ⟨hz,h12,hall⟩]
     refine⟨u,β',.kT [.own 4 (pV path).length 0 (pV path).length,.int .i64 0],_,?hh,rfl,?_,h1,h2,h3⟩
     rotate_left
     simp -implicitDefEqProofs (disch:=omega)[kS,nG,nH,nI,nJ,nC,nD,nE,nF,nK,nL,lX,lW,lZ,lY,kg,jT,ve,hsl,hp];rfl
   .obtain⟨rfl,hsl,i,l,rfl⟩:=hX;have A6:=A5.behind R hD R' F';refine A6.Oo (x:=.ret) (r:=.kT [.jB true [],.int .i64 60]) R (cQ A5.stay.1 hD) hk hres (by simp -implicitDefEqProofs (disch:=omega)[kS,nG,nH,nI,nJ,nC,nD,nE,nF,nK,nL,lX,lW,lZ,lY,kg,jT,YE]) (.inl rfl) λu β' W' h1 h2 h3=>?_
    rw[<-hRR];exact⟨u,β',.kT [.jB true [],.int .i64 60],_,_,rfl,(by simp -implicitDefEqProofs (disch:=omega)[kS,nG,nH,nI,nJ,nC,nD,nE,nF,nK,nL,lX,lW,lZ,lY,kg,jT,ve,hsl];rfl),h1,h2,h3⟩
  .cases ok
 .cases ok
def AD(jL:au->Bool):List AV->Option AV
 | [.str path]=>some (ve jL path)
 |_=>none
def Y8(hm:P.follows .mixedOrders=true)(hΓ:mH P Γ)(ok:CX P f fP fR=true)(okP:Oa P YR fC fI=true){jL:au->Bool}
  (hC:∀p,Γ.p fC [.str p,.str [47]]=some (.kT [.str (nB p),.bool (pW p)])) (hI:∀s,Γ.p fI [.str s,.int .u8 47]=some (.int .i64 (xh s)))
  (hR:∀s,Γ.p fR [.str s]=some (.bool (jL s))) (hP:∀p h,jM Γ fP [.str p] h=some (.fn (.func YR) [] [.ptr h.length 0 0 0],h++[.var [.str p]]))
  (args:List AV) (r:AV) (h:AH) (hr:AD jL args=some r):zl P f args h r h:=by
 unfold AD at hr;split at hr
 .cases hr;exact Sg hm hΓ ok okP hC hI hR hP _ h
 .cases hr
end
end Go.Am.Nm
