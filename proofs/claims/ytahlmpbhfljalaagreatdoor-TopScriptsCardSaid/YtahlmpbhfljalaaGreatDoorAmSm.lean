/- Part of the proof that TopScriptsCard holds. -/
import Derived.Test.YtahlmpbhfljalaaGreatDoorAmRs
import Derived.Test.YtahlmpbhfljalaaGreatDoorAmKe
set_option linter.all false
namespace Go.Am.Nm
open Go.Am Go.RowKit
attribute [local simp] Go.Am.mN Go.Am.sI Go.Am.sJ Go.Am.sK Go.Am.sL Go.Am.sg Go.Am.si Go.Am.sj Go.Am.su Go.Am.sM Go.Am.sN Go.Am.oR Go.Am.oQ Go.Am.oT Go.Am.oS Go.Am.ko Go.Am.jx
def kH:aq->aq
 | []=>[]
 |b::t=>if b=47 then t else b::t
def mK:aq->Bool
 | []=>false
 |b::_=>decide (b=47)
def upTo(s:aq):aq:=s.takeWhile λb=>!decide (b=47)
def from_(s:aq):aq:=s.dropWhile λb=>!decide (b=47)
def sO(s:aq):Int:=if s.all (λb=>!decide (b=47))=true then -1 else((upTo s).length:Int)
def Ji(s:aq):(from_ s).length<=s.length:=(gb _).length_le
def QS{b:UInt8}{t:aq}:(from_ (kH (b::t))).length<(b::t).length:=by
 by_cases h:b=47
 .have e:kH (b::t)=t:=by simp[kH,h]
  rw[e];have:=Ji t;simp only[aK];omega
 .have e:kH (b::t)=b::t:=by simp[kH,h]
  rw[e];have:=Ji t;simp only[from_,dF,h,decide_false,ef,if_true,aK];unfold from_ at this;omega
def mJ(p:aq):List (aq×Bool):=match p with
 | []=>[]
 |b::t=>(upTo (kH (b::t)),mK (b::t))::mJ (from_ (kH (b::t)))
termination_by p.length
decreasing_by exact QS
def vo:mJ []=[]:=by rw[mJ]
def rW{p:aq}(h:p≠[]):mJ p=(upTo (kH p),mK p)::mJ (from_ (kH p)):=by
 cases p with
 |nil=>exact absurd rfl h
 |cons b t=>rw[mJ]
def Cy(s:aq):upTo s++from_ s=s:=eX
def TU{s:aq}(h:s.all (λb=>!decide (b=47))=true):upTo s=s/\from_ s=[]:=by
 have h1:=Cy s;unfold upTo from_ at *
 have:s.dropWhile (λb=>!decide (b=47))=[]:=by
  clear h1
  induction s with
  |nil=>rfl
  |cons x s i =>
   simp only[cm,aC]at h;rw[dF,if_pos h.1];exact i h.2
 rw[this,b9]at h1;exact⟨h1,this⟩
def PC(s:aq):s.take (upTo s).length=upTo s:=by
 have:=Cy s;have h2:(upTo s++from_ s).take (upTo s).length=upTo s:=ah
 rwa [this]at h2
def Rb(s:aq):s.drop (upTo s).length=from_ s:=by
 have:=Cy s;have h2:(upTo s++from_ s).drop (upTo s).length=from_ s:=ah
 rwa [this]at h2
def b0:AC:=.seq (.ops (.op (some 6) (.load 1 false (.t 1)) (.op (some 7) (.bin .neq (.t 6) (.c (.str []))) (.nil))))
 (.cond (.t 7) (.skip) (.exit 0))
def l1(b:FuncId):AC:=.ops (.op (some 9) (.load 1 false (.t 1)) (.op (some 10) (.call b [(.t 9),(.c (.str [47]))]) (.op (some 8) (.mv (.t 10)) (.op (some 11) (.ext (.t 8) 0) (.op (some 12) (.ext (.t 8) 1) (.op (some 3) (.mv (.t 11)) (.op (some 4) (.mv (.t 12)) (.nil))))))))
def l2(b:FuncId):AC:=.ops (.op (some 13) (.mv (.t 3)) (.op (some 14) (.call b [(.t 13),(.c (.int .u8 47))]) (.op (some 5) (.mv (.t 14)) (.nil))))
def x3:AC:=.seq (.ops (.op (some 15) (.mv (.t 5)) (.op (some 16) (.bin .lss (.t 15) (.c (.int .i64 0))) (.nil))))
 (.cond (.t 16) (.ops (.op (some 17) (.mv (.t 3)) (.op (some 18) (.len true (.t 17)) (.op (some 5) (.mv (.t 18)) (.nil))))) (.skip))
def l5:List AI:=[⟨some 19,none,.mv (.t 0)⟩,⟨some 20,none,.mv (.t 3)⟩,⟨some 21,none,.mv (.t 5)⟩,⟨some 22,none,.GR (.t 20) none (some (.t 21))⟩,⟨some 23,none,.mv (.t 4)⟩]
def l5b:List AI:=[⟨some 25,none,.un .not (.t 24)⟩]
def l6:AC:=.ops (.op (some 26) (.mv (.t 3)) (.op (some 27) (.mv (.t 5)) (.op (some 28) (.GR (.t 26) (some (.t 27)) none) (.op none (.store 1 (.t 1) (.t 28)) (.nil)))))
def G4(P:Program)(f x v:FuncId):Bool:=match P.funcs[f]? with
 |some fn=>match fn.body with
  |some (.block 0 (.loop (.seq B0 (.block 1 (.seq E (.seq A (.seq y (.seq (.seq (.region _ b false) (.cond (.tmp 25) .ret .skip)) z)))))))) =>
   decide (fn.ntmps=29)&&(fn.name == "runtime.NumGoroutine")==false&&fn.results.isEmpty&&ir P 29 B0 b0&&ir P 29 E (l1 x)&&ir P 29 A (l2 v)&&ir P 29 y x3&&ir P 29 z l6 &&
   (match b.toList with
    | [r,q,o,n,l,h,i]=>ku P 29 [r,q,o,n,l,h,i] [r,q,o,n,l] l5&&ku P 29 [r,q,o,n,l,h,i] [i] l5b&&h.guard.isNone &&
      decide (h.dst=some 24)&&(match h.op with | .call {callee:=.value (.tmp 19),args,argTypes:=_}=>(match args.toList with | [.tmp 22,.tmp 23]=>true | _=>false) | _=>false)
    |_=>false)
  |_=>false
 |none=>false
variable{r:aq}
section
variable{P:Program}{Γ:ja}
def Tm{V:aA}{e:Env}{p:aq}(h1:e 1 = .ptr 0 0 0 0):eval Γ b0 V (AX×St) (λx s=>some (x,s)) ⟨e,[.var [.str p]]⟩ =
  some (if p=[]then .exit 0 else .normal,⟨(e.put 6 (.str p)).put 7 (.bool (!decide (p=[]))),[.var [.str p]]⟩):=by
 by_cases b:p=[]<;>simp(disch:=omega)[b0,h1,mw,b]
def aeF{V:aA}{b:FuncId}(l:∀p,Γ.p b [.str p,.str [47]]=some (.iV [.str (kH p),.bool (mK p)])){e:Env}{p:aq}(h1:e 1 = .ptr 0 0 0 0):
  ∃e',eval Γ (l1 b) V (AX×St) (λx s=>some (x,s)) ⟨e,[.var [.str p]]⟩=some (.normal,⟨e',[.var [.str p]]⟩)/\e' 0=e 0/\e' 1=e 1/\e' 3 = .str (kH p)/\e' 4 = .bool (mK p):=by
 refine⟨(((((((e.put 9 (.str p)).put 10 (.iV [.str (kH p),.bool (mK p)])).put 8 (.iV [.str (kH p),.bool (mK p)])).put 11 (.str (kH p))).put 12 (.bool (mK p))).put 3 (.str (kH p))).put 4 (.bool (mK p))),?_,rfl,rfl,rfl,rfl⟩;have i:=λh=>vO (Γ:=Γ) (f:=b) (args:=[.str p,.str [47]]) (h:=h) rfl (l p)
 simp(disch:=omega)[l1,h1,i]
def aeE{V:aA}{b:FuncId}(l:∀s,Γ.p b [.str s,.int .u8 47]=some (.int .i64 (sO s))){e:Env}{h:AH}(h3:e 3 = .str r):
  ∃e',eval Γ (l2 b) V (AX×St) (λx s=>some (x,s)) ⟨e,h⟩=some (.normal,⟨e',h⟩)/\e' 0=e 0/\e' 1=e 1/\e' 3 = .str r/\e' 4=e 4/\e' 5 = .int .i64 (sO r):=by
 refine⟨((e.put 13 (.str r)).put 14 (.int .i64 (sO r))).put 5 (.int .i64 (sO r)),?_,rfl,rfl,h3,rfl,rfl⟩;have i:=λh=>vO (Γ:=Γ) (f:=b) (args:=[.str r,.int .u8 47]) (h:=h) rfl (l r)
 simp(disch:=omega)[l2,h3,i]
def aev{V:aA}{e:Env}{h:AH}(h3:e 3 = .str r)(h5:e 5 = .int .i64 (sO r)):
  ∃e',eval Γ x3 V (AX×St) (λx s=>some (x,s)) ⟨e,h⟩=some (.normal,⟨e',h⟩)/\e' 0=e 0/\e' 1=e 1/\e' 3 = .str r/\e' 4=e 4/\e' 5 = .int .i64 ((upTo r).length:Int):=by
 by_cases i:r.all (λb=>!decide (b=47))=true
 .have e1:sO r = -1:=by unfold sO;rw[if_pos i]
  rw[e1]at h5;refine⟨((((e.put 15 (.int .i64 (-1))).put 16 (.bool true)).put 17 (.str r)).put 18 (.int .i64 r.length)).put 5 (.int .i64 r.length),?_,rfl,rfl,h3,rfl,by rw[(TU i).1];rfl⟩
  simp(disch:=omega)[x3,h3,h5]
 .have e1:sO r=((upTo r).length:Int):=by unfold sO;rw[if_neg i]
  rw[e1]at h5;refine⟨(e.put 15 (.int .i64 ((upTo r).length:Int))).put 16 (.bool false),?_,rfl,rfl,h3,rfl,h5⟩;simp(disch:=omega)[x3,h5]
def aeD{e:Env}{h:AH}(h3:e 3 = .str r)(h5:e 5 = .int .i64 ((upTo r).length:Int)):
  ∃e',flat Γ l5 ⟨e,h⟩=some ⟨e',h⟩/\e' 0=e 0/\e' 1=e 1/\e' 3 = .str r/\e' 4=e 4/\e' 5 = .int .i64 ((upTo r).length:Int)/\e' 19=e 0/\e' 22 = .str (upTo r)/\e' 23=e 4:=by
 have b:(upTo r).length<=r.length:=(eW _).length_le;refine⟨((((e.put 19 (e 0)).put 20 (.str r)).put 21 (.int .i64 ((upTo r).length:Int))).put 22 (.str (upTo r))).put 23 (e 4),?_,rfl,rfl,h3,rfl,h5,rfl,rfl,rfl⟩;simp[l5,flat,exec,h3,h5,jB,nat?,St.put,b,PC]
def aeC{V:aA}{e:Env}{p:aq}(h1:e 1 = .ptr 0 0 0 0)(h3:e 3 = .str r)(h5:e 5 = .int .i64 ((upTo r).length:Int)):
  ∃e',eval Γ l6 V (AX×St) (λx s=>some (x,s)) ⟨e,[.var [.str p]]⟩=some (.normal,⟨e',[.var [.str (from_ r)]]⟩)/\e' 0=e 0/\e' 1=e 1:=by
 have b:(upTo r).length<=r.length:=(eW _).length_le;refine⟨((e.put 26 (.str r)).put 27 (.int .i64 ((upTo r).length:Int))).put 28 (.str (from_ r)),?_,rfl,rfl⟩;simp(disch:=omega)[l6,h1,h3,h5,b,Rb]
end
variable{W:World}{β:iW}{O Z:ay}
section
variable{P:Program}{Γ:ja}
def qK{w:World}(s:aq):mM O w (.str s) (.string ⟨s.toArray⟩):=by
 have:=mM.str (O:=O) (w:=w) ⟨s.toArray⟩
 simpa using this
def nP{w:World}{s:aq}{v:Value}(h:VR β Z w (.str s) v):v = .string ⟨s.toArray⟩:=by
 obtain⟨b,rfl,rfl⟩:=h.lN;cases b;simp
def Zi(W:World)(c:Nat):Nat->Prop:=λb=>b<W.heap.size/\b≠c/\∀q∈G0,b≠q.1
def Py(W:World)(c:Nat):TypeId:=match W.heap[c]? with
 |some (.cells _ e _)=>e
 |_=>0
def βi(W:World)(c:Nat):iW:=λi v=>if i=0/\v=0 then some ⟨some c,0,1,1,Py W c⟩else none
def GlW(W:World)(c:Nat):Prop:=∀q∈G0,(∃cur t fr,W.heap[q.1]? = some (.cells cur t fr)/\q.2 cur)/\q.1≠c
structure Lh(W:World)(c:Nat)(p:aq):Prop where
 box:∃elem,W.heap[c]? = some (.cells #[.string ⟨p.toArray⟩] elem (0,0))
 gl:GlW W c
def GlW.same{i:World}{c:Nat}(h:GlW W c)(hs:∀q∈G0,i.heap[q.1]? = W.heap[q.1]?):GlW i c:=λq b=>⟨by rw[hs q b];exact(h q b).1,(h q b).2⟩
def Lh.lt{c:Nat}{p:aq}(h:Lh W c p):c<W.heap.size:=by
 let⟨⟨_,h⟩,_⟩:=h;exact(aH.1 h).1
def xS(W:World)(c:Nat):βi W c 0 0=some ⟨some c,0,1,1,Py W c⟩:=by simp[βi]
def mR{c k b:Nat}{p:aq}(h:owned (βi W c) [.var [.str p]] k b):k=0/\b=c:=by
 let⟨X,l,bd,h1,h2⟩:=h;cases k with
 |zero =>
  simp only[aS,aP]at l;subst l;simp only[xS,aP]at h2;subst h2;simp only[aP]at h1;exact⟨rfl,h1.symm⟩
 |succ k=>simp at l
def pS{c:Nat}{p:aq}(x:Lh W c p):Rel (Zi W c) (βi W c) [.var [.str p]] W:=by
 let⟨⟨elem,z⟩,hg⟩:=x;refine⟨λb x=>x.1,λk b l n=>n.2.1 (mR l).2,λi v A=>?_,λi v sz es v' h=>?_,λi X h=>?_,λi j b h1 h2=>by rw[(mR h1).1,(mR h2).1],λq r=>⟨λl=>?_,(hg q r).1⟩⟩
 .simp only[dr]at A;simp only[βi];rw[if_neg aa]
 .cases i with
  |zero=>simp at h
  |succ i=>simp at h
 .cases i with
  |zero =>
   simp only[aS,aP]at h;subst h;refine⟨c,_,elem,(xS W c).trans (by simp[Py,z]),z,rfl,λj y o=>?_⟩
   cases j with
   |zero =>
    simp only[aS,aP]at o;subst o;exact⟨_,rfl,rfl,.pure _ _ (qK p)⟩
   |succ j=>simp at o
  |succ i=>simp at h
 .rcases l with n | ⟨k,l⟩
  .exact n.2.2 q r rfl
  .exact(hg q r).2 (mR l).2
def S7{h:AH}{i c:Nat}{cs:List AV}(R:Rel Z β h W)(n:h[i]? = some (.var cs)){bd:Bd}(b:β i 0=some bd)(o:bd.cb=some c):GlW W c:=λq l=>⟨(R.gl q l).2,λe=>(R.gl q l).1 (e▸.inr ⟨i,_,n,bd,o,b⟩)⟩
def HZ{c:Nat}{p:aq}(R:Rel Z β [.var [.str p]] W){T:TypeId}(b:β 0 0=some ⟨some c,0,1,1,T⟩):Lh W c p:=by
 let⟨q,cur,elem,e1,o,n,l⟩:=R.blk 0 _ rfl;rw[b]at e1;simp only[aP,Bd.mk.injEq]at e1;obtain⟨rfl,_⟩:=e1;let⟨v,g1,_,g3⟩:=l 0 _ rfl;have h:=nP g3;subst h;have:cur = #[.string ⟨p.toArray⟩]:=by
  have hs:cur.size=1:=n;apply Array.ext
  .simpa using hs
  .intro j h1 h2;have i:j=0:=by omega
   subst i;have:=bT h1;rw[g1]at this
   simpa using this.symm
 exact⟨⟨elem,by rw[<-this];exact o⟩,S7 R rfl b rfl⟩
def EN{P:Program}{n d t:Nat}{ops:Array Oper}{all:List Oper}{o:Oper}(ok:ku P n all [o] [⟨some d,none,.un .not (.t t)⟩]=true){a:Act}{b:Bool}(r:a.tmps.getD t undef = .bool b){Q:Exit->Act->World->Prop}
  (h:Q .normal (a.put (some d) (.bool (!b))) W):wpList P ops Q [o] a W:=by
 simp only[ku,wk,aC,decide_eq_true_eq,gN]at ok;let⟨⟨⟨l,_⟩,i⟩,hg⟩:=ok;let⟨dst,op,type,pos,after,guard⟩:=o;dsimp only at l i hg;subst l;cases guard with
 |some g=>cases hg
 |none =>
 unfold ua at i;split at i<;>rename_i heq<;>first | (cases i;done) | (cases heq;done) | skip
 cases heq;simp only[aC,decide_eq_true_eq]at i;obtain⟨rfl,hx⟩:=i;rename_i x;have q:a.eval x = .bool b:=by
  cases x<;>first | (cases hx;done) | skip
  simp only[kj,beq_iff_eq]at hx;subst hx
  simpa[Act.eval]using r
 unfold wpList;refine .inl ?_;unfold Oper.wp
 simpa[execOp,q,Op.unary,Oper.upon,wpList]using h
def e0(l:Nat):Env:=λt=>if t=0 then .fn (.yield l) [] []else if t=1 then .ptr 0 0 0 0 else .dead
def uL{w:World}{f:Fn}{v:Value}(h:VR β O w (.fn f [] []) v):v = .func f #[] #[]:=by
 cases h with
 |pure _ _ h=>cases h
 |fn _ _ _ i b h1 h2 =>
  have e1:i=[]:=aV (ak h1.symm)
  have l:b=[]:=aV (ak h2.symm)
  subst e1 l;rfl
def HE{w:World}(f:Fn):VR β O w (.fn f [] []) (.func f #[] #[]):=.fn f [] [] [] [] rfl rfl (λj y v h=>by simp at h) (λj y v h=>by simp at h)
structure Head(l c:Nat)(a:Act):Prop where
 size:a.tmps.size=29
 yld:a.tmps.getD 0 undef = .func (.yield l) #[] #[]
 box:a.tmps.getD 1 undef = .pointer (some ⟨c,0,none⟩)
 defers:a.defers=[]
def Nv{l c:Nat}{a:Act}{p:aq}(H:Head l c a)(b:Lh W c p):iP (Zi W c) (βi W c) [.var [.str p]] W (e0 l) a 29:=by
 refine⟨H.size,λt=>?_⟩
 unfold e0
 by_cases h0:t=0
 .rw[if_pos h0,h0,H.yld];exact HE _
 .rw[if_neg h0]
  by_cases h1:t=1
  .rw[if_pos h1,h1,H.box];exact .ptr 0 0 0 0 ⟨some c,0,1,1,_⟩ c (xS W c) rfl
  .rw[if_neg h1];exact .dead _
def JC{l c:Nat}{a:Act}{p:aq}(H:Head l c a)(b:Lh W c p):At 29 (Zi W c) (βi W c) [.var [.str p]] W (Zi W c) [] ⟨e0 l,[.var [.str p]]⟩ a (βi W c) W :=
 ⟨pS b,λ_ _ _=>rfl,rfl,rfl,rfl,λ_ _ _ e=>e,jJ.refl _ _,Nv H b,H.defers,λ_ h=>h⟩
def DJ{c:Nat}{p:aq}{h:World}(n:Lh W c p){s:St}{a:Act}{β':iW}(A:At 29 (Zi W c) (βi W c) [.var [.str p]] W (Zi W c) [] s a β' h):W.grownBy h (some c) :=
 ⟨A.os,A.tape,A.output,A.stay.1,λk hk b=>by
  by_cases hg:∀q∈G0,k≠q.1
  .exact A.keep k hk ⟨hk,λe=>b (by rw[e]),hg⟩
  .simp only[Classical.not_forall,Decidable.not_not]at hg;obtain⟨q,l,rfl⟩:=hg;exact(A.stay.2 _ hk ((pS n).gl q l).1).1⟩
def EY{fn:Func}(b:fn.results.isEmpty=true){R:Ending->World->Prop}{a:Act}(i:a.defers=[])(l:R (.returned (.tuple #[])) W){x:Exit}(hx:x = .ret\/x = .normal):bodyPostM Fence.wide 0 P fn R x a W:=by
 have h:(results fn a.tmps).run P W = .ok (.tuple #[]) W:=by
  have:fn.results = #[]:=ei (by simpa[Array.isEmpty]using b)
  simp[results,this]
 have:LeavesInM Fence.wide 0 P fn a.tmps R a.defers .returning W:=by
  rw[i];exact⟨_,h,l⟩
 rcases hx with rfl | rfl<;>exact this
end
section
variable{P:Program}{Γ:ja}
def enc(x:aq×Bool):Array Value := #[.string ⟨x.1.toArray⟩,.bool x.2]
def pq{o:Oper}(h:o.guard=none){y:Nat->Option Bool}:Region.wanted o y=true:=by unfold Region.wanted;rw[h]
def e6(l:Nat)(r:aq):Env:=λt=>if t=0 then .fn (.yield l) [] []else if t=1 then .ptr 0 0 0 0 else if t=3 then .str r else if t=5 then .int .i64 ((upTo r).length:Int)else .dead
def CO (hm:P.follows .mixedOrders=true) (y:js P Γ) {f fC fI:FuncId} (ok:G4 P f fC fI=true)
  (hC:∀p,Γ.p fC [.str p,.str [47]]=some (.iV [.str (kH p),.bool (mK p)])) (hI:∀s,Γ.p fI [.str s,.int .u8 47]=some (.int .i64 (sO s)))
  {path:aq} {c:Nat} {w:World} (hb:Lh w c path) (Kb:ay) (hKb:∀q∈G0,Kb q.1):OY P f #[.pointer (some ⟨c,0,none⟩)] ((mJ path).map enc) c Kb w:=by
 unfold G4 at ok;split at ok
 .rename_i fn hf;split at ok
  .rename_i B0 R1 R2 X3 id5 K R6 hbody;simp only[aC,decide_eq_true_eq]at ok;let⟨⟨⟨⟨⟨⟨⟨⟨hn,_⟩,hres⟩,k0⟩,k1⟩,k2⟩,k3⟩,k6⟩,k5⟩:=ok;split at k5
   .rename_i o1 o2 o3 o4 o5 o6 o7 X;simp only[aC,decide_eq_true_eq]at k5;let⟨⟨⟨⟨q1,q2⟩,q3⟩,q4⟩,q5⟩:=k5;split at q5
    .rename_i args ats hop;split at q5
     .rename_i hargs;intro l J Jx W hW hsz tJ tX hY h0;have Fq:=hb.lt;have hbW:Lh W c path:=by
       let⟨⟨elem,h1⟩,hg⟩:=hb;exact⟨⟨elem,(hW c Fq).trans h1⟩,hg.same λq hq=>hW _ (by let⟨_,_,_,h,_⟩:=(hg q hq).1;exact(aH.1 h).1)⟩
      refine callsIn_of_wp_marks hf hbody trivial ?_ rfl;generalize hR:(λ(e:Ending)(G:World)=>(∃v,e = .returned v)/\(J ((mJ path).map enc).length G\/Jx G))=R
      have Y:((mJ path).map enc).length=(mJ path).length:=ah
      have fin:∀ {a:Act} {G:World} {x:Exit},a.defers=[]->(J (mJ path).length G\/Jx G)->(x = .ret\/x = .normal)->bodyPostM Fence.wide 0 P fn R x a G:=λN hJ hx =>
       EY hres N (by rw[<-hR,Y];exact⟨⟨_,rfl⟩,hJ⟩) hx
      have key:∀(k:Nat)(p:aq)(i:Nat)(a:Act)(O:World),(mJ p).length=k->(mJ path).drop i=mJ p->i<=(mJ path).length->Head l c a->Lh O c p->J i O->
        Code.roundsIn Fence.wide 0 P (.seq B0 (.block 1 (.seq R1 (.seq R2 (.seq X3 (.seq (.seq (.region id5 K false) (.cond (.tmp 25) .ret .skip)) R6)))))) (Exit.inBlock 0 (bodyPostM Fence.wide 0 P fn R)) (k+1) a O:=by
       intro k
       induction k with
       |zero =>
        intro p i a O hk N hi H n hJ;have hp:p=[]:=by
         cases p with
         |nil=>rfl
         |cons x t=>rw[rW ah]at hk;simp at hk
        subst hp
        have E:i=(mJ path).length:=by
         have:=congrArg List.length N;rw[vo]at this;simp at this;omega
        rw[roundsIn_succ];refine wpIn_seq ((JC H n).step hm y (pS n) k0 (x:=.exit 0) (by rw[Tm rfl,if_pos rfl]) λa' β' G A=>?_)
        exact fin (x:=.normal) A.defers (.inl (E▸tJ i _ _ hJ (DJ n A))) (.inr rfl)
       |succ k ih =>
        intro p i a O hk N hi H n hJ;have hp:p≠[]:=by
         rintro rfl
         rw[vo]at hk;simp at hk
        have adZ:=rW hp;rw[adZ]at hk N
        have E:i<(mJ path).length:=by
         have:=congrArg List.length N;simp at this;omega
        have Di:(mJ path)[i]=(upTo (kH p),mK p):=by
         rw[bz E]at N;exact(fq N).1
        have hd':(mJ path).drop (i+1)=mJ (from_ (kH p)):=by
         rw[bz E]at N;exact(fq N).2
        have Wp:∀(hi':i<((mJ path).map enc).length),((mJ path).map enc)[i] = #[.string ⟨(upTo (kH p)).toArray⟩,.bool (mK p)]:=λhi'=>by
         rw[List.getElem_map,Di];rfl
        rw[roundsIn_succ];refine wpIn_seq ((JC H n).step hm y (pS n) k0 (x:=.normal) (by rw[Tm rfl,if_neg hp]) λa1 β1 V1 A1=>?_)
        refine wpIn_block (wpIn_seq ?_);let⟨e2,ev2,f20,f21,f23,f24⟩:=aeF (Γ:=Γ) (V:=λi=>decide (1<=i)) hC (e:=((e0 l).put 6 (.str p)).put 7 (.bool (!decide (p=[])))) (p:=p) rfl
        refine A1.step hm y (pS n) k1 (x:=.normal) ev2 λa2 β2 V2 A2=>?_
        refine wpIn_seq ?_;let⟨e3,ev3,f30,f31,f33,f34,f35⟩:=aeE (Γ:=Γ) (V:=λi=>decide (1<=i)) hI (h:=[.var [.str p]]) f23
        refine A2.step hm y (pS n) k2 (x:=.normal) ev3 λa3 β3 V3 A3=>?_
        refine wpIn_seq ?_;let⟨e4,ev4,f40,f41,f43,f44,f45⟩:=aev (Γ:=Γ) (V:=λi=>decide (1<=i)) (h:=[.var [.str p]]) f33 f35
        refine A3.step hm y (pS n) k3 (x:=.normal) ev4 λa4 β4 V4 A4=>?_
        refine wpIn_seq (wpIn_seq ?_);let⟨e5,ev5,f50,f51,f53,f54,f55,f56,f57,f58⟩:=aeD (Γ:=Γ) (h:=[.var [.str p]]) f43 f45;refine wpIn_region_list ?_;rw[X];have g0:e5 0 = .fn (.yield l) [] []:=by rw[f50,f40,f30,f20];rfl
        have g1:e5 1 = .ptr 0 0 0 0:=by rw[f51,f41,f31,f21];rfl
        have g4:e5 4 = .bool (mK p):=by rw[f54,f44,f34,f24]
        have g19:e5 19 = .fn (.yield l) [] []:=by rw[f56,f40,f30,f20];rfl
        have g23:e5 23 = .bool (mK p):=by rw[f58,f44,f34,f24]
        refine oA (Q:=λx a' G=>x = .normal/\∃β',At 29 (Zi O c) (βi O c) [.var [.str p]] O (Zi O c) [] ⟨e5,[.var [.str p]]⟩ a' β' G) (λ⟨_,_,h,_⟩=>by cases h) [o6,o7] ?_ (λch a w h=>by cases h.1)
         [o1,o2,o3,o4,o5] a4 V4 (tM y [o1,o2,o3,o4,o5] l5 ⟨e4,[.var [.str p]]⟩ ⟨e5,[.var [.str p]]⟩ a4 V4 β4 (by rw[X];exact q1) (W:=λ_=>true) (λ_ _ _ _=>rfl) ev5 A4.rel A4.env
          λa' w' β' R' F' E' K'=>⟨rfl,β',A4.next (pS n) (V:=λi=>decide (1<=i)) (λi hi=>by simpa using hi) R' F'.Iw E' K'.defers⟩)
        rintro a5 V5 ⟨_,β5,A5⟩
        have hJ5:J i V5:=tJ i _ _ hJ (DJ n A5);have U:β5 0 0=some ⟨some c,0,1,1,_⟩:=A5.ext _ _ _ (xS _ c);have WA:Lh V5 c p:=HZ A5.rel U;have o:∀t v,e5 t=v->VR β5 (Own (Zi O c) β5 [.var [.str p]]) V5 v (a5.tmps.getD t undef):=λt v h=>by rw[<-h];exact A5.env.2 t
        have c0:a5.tmps.getD 0 undef = .func (.yield l) #[] #[]:=uL (o _ _ g0)
        have c1:a5.tmps.getD 1 undef = .pointer (some ⟨c,0,none⟩):=by
         let⟨bd,c',h1,h2,h3⟩:=(o _ _ g1).jl;rw[U]at h1;cases h1;cases h2;exact h3
        have c3:a5.tmps.getD 3 undef = .string ⟨(kH p).toArray⟩:=nP (o _ _ f53);have c5:a5.tmps.getD 5 undef = .int .i64 ((upTo (kH p)).length:Int):=(o _ _ f55).jF;have c19:a5.tmps.getD 19 undef = .func (.yield l) #[] #[]:=uL (o _ _ g19);have c22:a5.tmps.getD 22 undef = .string ⟨(upTo (kH p)).toArray⟩:=nP (o _ _ f57);have c23:a5.tmps.getD 23 undef = .bool (mK p):=(o _ _ g23).lK
        have hvs:args.map a5.eval = #[.string ⟨(upTo (kH p)).toArray⟩,.bool (mK p)]:=by
         have:args = #[.tmp 22,.tmp 23]:=cq (by simpa using hargs)
         rw[this];simp[Act.eval,c22,c23]
        have hy:=hY i (by rw[Y];exact E) V5 hJ5
        rw[Wp]at hy;have q3':o6.guard=none:=by simpa using q3
        unfold wpListIn;rw[if_pos (pq q3')];refine yB hop (l:=l) (by simpa[Act.eval]using c19) hvs hy (λe G S=>by rcases S with⟨rfl,_⟩ | ⟨rfl,_⟩<;>exact⟨_,rfl⟩) λb W3 hR3=>?_
        rw[q4];obtain⟨a6,M⟩:∃a6,a6=a5.put (some 24) (.bool b):=⟨_,rfl⟩;rw[<-M];have s6:a6.tmps.size=29:=by rw[M];simp[Act.put,A5.env.1]
        have WL:∀t,t≠24->a6.tmps.getD t undef=a5.tmps.getD t undef:=λt ht=>by
         rw[M];simp[Act.put,aO,bO (Ne.symm ht)]
        have c24:a6.tmps.getD 24 undef = .bool b:=by
         rw[M];simp[Act.put,aO,A5.env.1]
        show wpListIn Fence.wide 0 P K _ ([o7]++[]) a6 W3
        refine oA (P:=P) (m:=0) (ops:=K) (Q:=λx a' G=>x = .normal/\a'.tmps.size=29/\(∀t,t≠25->a'.tmps.getD t undef=a6.tmps.getD t undef)/\a'.tmps.getD 25 undef = .bool (!b)/\a'.defers=[]/\W3.grownBy G none)
         (λ⟨_,_,h,_⟩=>by cases h) [] ?_ (λch a w h=>by cases h.1) [o7] a6 W3
         (EN q2 c24 ⟨rfl,?_,λt ht=>?_,?_,?_,⟨rfl,rfl,rfl,aT _,λ_ _ _=>rfl⟩⟩)
        .rintro a7 F ⟨_,s7,h7,h25,hd7,z⟩
         have hgc:W3.grownBy F (some c):=⟨z.os,z.tape,z.output,z.size,λk hk _=>z.block k hk ah⟩
         show Code.wpIn Fence.wide 0 P (.cond (.tmp 25) .ret .skip) _ a7 F
         rcases hR3 with⟨S,hJ3,Wn⟩ | ⟨S,hJ3⟩
         .have hbt:b=true:=by injection S with S;injection S
          subst hbt;refine wpIn_cond_false (by simpa[Act.eval]using h25) (wpIn_skip ?_)
          have hJ7:J (i+1) F:=tJ _ _ _ hJ3 hgc;have L:Lh F c p:=by
           let⟨⟨elem,h1⟩,hg⟩:=WA;have e1:=(Wn c Fq (.inl rfl)).trans h1;refine⟨⟨elem,(z.block c (aH.1 e1).1 ah).trans e1⟩,hg.same λq hq=>?_⟩
           have e2:=Wn q.1 (by let⟨_,_,_,h,_⟩:=(hb.gl q hq).1;exact(aH.1 h).1) (.inr (hKb q hq))
           let⟨_,_,_,o1,_⟩:=(hg q hq).1;exact(z.block q.1 (aH.1 (e2.trans o1)).1 ah).trans e2
          have g7:∀t,t≠24->t≠25->a7.tmps.getD t undef=a5.tmps.getD t undef:=λt h1 h2=>(h7 t h2).trans (WL t h1)
          have A7:At 29 (Zi F c) (βi F c) [.var [.str p]] F (Zi F c) [] ⟨e6 l (kH p),[.var [.str p]]⟩ a7 (βi F c) F:=by
           refine⟨pS L,λ_ _ _=>rfl,rfl,rfl,rfl,λ_ _ _ e=>e,jJ.refl _ _,⟨s7,λt=>?_⟩,hd7,λ_ h=>h⟩
           show VR _ _ _ (if t=0 then .fn (.yield l) [] []else if t=1 then .ptr 0 0 0 0 else if t=3 then .str (kH p)else if t=5 then .int .i64 ((upTo (kH p)).length:Int)else .dead) _
           by_cases t0:t=0
           .rw[if_pos t0,t0,g7 0 aa aa,c0];exact HE _
           rw[if_neg t0]
           by_cases t1:t=1
           .rw[if_pos t1,t1,g7 1 aa aa,c1];exact .ptr 0 0 0 0 ⟨some c,0,1,1,_⟩ c (xS _ c) rfl
           rw[if_neg t1]
           by_cases t3:t=3
           .rw[if_pos t3,t3,g7 3 aa aa,c3];exact .pure _ _ (qK _)
           rw[if_neg t3]
           by_cases t5:t=5
           .rw[if_pos t5,t5,g7 5 aa aa,c5];exact .pure _ _ (.int _ _)
           rw[if_neg t5];exact .dead _
          show Code.wpIn Fence.wide 0 P R6 _ a7 F;let⟨e8,ev8,f80,f81⟩:=aeC (Γ:=Γ) (V:=λi=>decide (1<=i)) (e:=e6 l (kH p)) (p:=p) (r:=kH p) rfl rfl rfl
          refine A7.step hm y (pS L) k6 (x:=.normal) ev8 λa8 β8 W8 A8=>?_
          have T:β8 0 0=some ⟨some c,0,1,1,_⟩:=A8.ext _ _ _ (xS _ c);have Z:∀t v,e8 t=v->VR β8 (Own (Zi F c) β8 [.var [.str (from_ (kH p))]]) W8 v (a8.tmps.getD t undef):=λt v h=>by rw[<-h];exact A8.env.2 t
          have H8:Head l c a8:=by
           refine⟨A8.env.1,uL (Z 0 _ f80),?_,A8.defers⟩;let⟨bd,c',h1,h2,h3⟩:=(Z 1 _ f81).jl;rw[T]at h1;cases h1;cases h2;exact h3
          exact ih (from_ (kH p)) (i+1) a8 W8 (by simpa using hk) hd' E H8 (HZ A8.rel T) (tJ _ _ _ hJ7 (DJ L A8))
         .have hbt:b=false:=by injection S with S;injection S
          subst hbt;refine wpIn_cond_true (by simpa[Act.eval]using h25) (wpIn_ret ?_)
          exact fin (x:=.ret) hd7 (.inr (tX _ _ hJ3 hgc)) (.inl rfl)
        .simp[Act.put,s6]
        .simp[Act.put,aO,bO (Ne.symm ht)]
        .simp[Act.put,aO,s6]
        .rw[M];simp[Act.put,A5.defers]
      refine wpIn_block (wpIn_loop_rounds ((mJ path).length+1) (key _ path 0 _ W rfl ah (bp _) ⟨?_,?_,?_,rfl⟩ hbW h0))
      .simp[hn]
      .simp[aO,dw]
      .simp[aO,dw]
     .cases q5
    .cases q5
   .cases k5
  .cases ok
 .cases ok
def oV{f:FuncId}{fn:Func}(l:P.funcs[f]? = some fn)(n:fn.body.isSome=true)(h:(fn.name == "runtime.NumGoroutine")=false)(args:Array Value)(w:World):(callFunc f args).run P w = .ok (.enter f args) w:=by
 have b:fn.body.isNone=false:=by cases i:fn.body<;>simp_all
 simp only[callFunc,Sem.run_bind,run_program,Result.andThen_ok,l,h,b,bq,if_false,Sem.run_pure]
def MG{f l i:FuncId}(ok:G4 P f l i=true)(args:Array Value)(w:World):(callFunc f args).run P w = .ok (.enter f args) w:=by
 unfold G4 at ok;split at ok
 .rename_i fn h;split at ok
  .rename_i b;simp only[aC,decide_eq_true_eq,beq_iff_eq]at ok;exact oV h (by rw[b];rfl) (ak ok.1.1.1.1.1.1.1.2) args w
  .cases ok
 .cases ok
end
attribute [local simp] Go.Am.mN Go.Am.sI Go.Am.sJ Go.Am.sK Go.Am.sL Go.Am.sg Go.Am.si Go.Am.sj Go.Am.su Go.Am.sM Go.Am.sN Go.Am.oR Go.Am.oQ Go.Am.oT Go.Am.oS Go.Am.ko Go.Am.jx
def r0:AC:=.ops (.op (some 2) (.alloc [.en true []]) (.op (some 3) (.alloc [.int .i64 0]) (.nil)))
def x1:AC:=.seq (.ops (.op (some 7) (.mv (.t 0)) (.op (some 8) (.bin .eql (.t 7) (.c (.str [47]))) (.nil))))
 (.cond (.t 8) (.seq (.ops (.op none (.store 1 (.t 2) (.c (.en true []))) (.op none (.store 1 (.t 3) (.c (.int .i64 0))) (.nil))))
 (.ret)) (.skip))
def r3:AC:=.ops (.op (some 4) (.alloc [.en true []]) (.nil))
def r4(b:FuncId):AC:=.ops (.op (some 9) (.mv (.t 0)) (.op (some 10) (.call b [(.t 9)]) (.nil)))
def bA(b:FuncId):AC:=.block 1 (.seq (.seq (.ops (.op (some 13) (.mv (.t 6)) (.op (some 14) (.un .not (.t 13)) (.op (some 15) (.mv (.t 14)) (.sc 19 false 15 16 18 (.op (some 16) (.mv (.t 5)) (.op (some 17) (.call b [(.t 16)]) (.op (some 18) (.un .not (.t 17)) (.nil)))) (.t 18) (.op (some 20) (.mv (.t 19)) (.sc 24 false 20 21 23 (.op (some 21) (.load 1 false (.t 4)) (.op (some 22) (.len false (.t 21)) (.op (some 23) (.bin .eql (.t 22) (.c (.int .i64 12))) (.nil)))) (.t 23) (.nil))))))))
 (.cond (.t 24) (.seq (.ops (.op none (.store 1 (.t 2) (.c (.en true []))) (.op none (.store 1 (.t 3) (.c (.int .i64 60))) (.nil))))
 (.ret)) (.skip)))
 (.ops (.op (some 25) (.load 1 false (.t 4)) (.op (some 26) (.mv (.t 5)) (.op (some 27) (.DD 1 (.str []) 1 [(0,(.t 26))]) (.op (some 28) (.app 1 16 (.t 25) (.t 27)) (.op none (.store 1 (.t 4) (.t 28)) (.nil))))))))
def post:AC:=.seq (.seq (.ops (.op (some 29) (.load 1 false (.t 4)) (.op (some 30) (.len false (.t 29)) (.op (some 31) (.bin .eql (.t 30) (.c (.int .i64 0))) (.nil)))))
 (.cond (.t 31) (.seq (.ops (.op none (.store 1 (.t 2) (.c (.en true []))) (.op none (.store 1 (.t 3) (.c (.int .i64 60))) (.nil))))
 (.ret)) (.skip)))
 (.seq (.ops (.op (some 32) (.load 1 false (.t 4)) (.op none (.store 1 (.t 2) (.t 32)) (.op none (.store 1 (.t 3) (.c (.int .i64 0))) (.nil)))))
 (.ret))
def sG(os:List Oper)(t s:Tmp):Bool:=match os with
 | [o]=>decide (o.dst=some t)&&o.guard.isNone&&(match o.op with | .assign (.tmp s')=>decide (s'=s) | _=>false)
 |_=>false
def ye(P:Program)(f l i:FuncId):Bool:=match P.funcs[f]? with
 |some fn=>match fn.body with
  |some (.seq r (.seq n (.seq q (.seq (.seq o (.block 0 (.rangeFunc (.tmp 10) ps (.seq (.region _ h false) (.region _ b false)) bd))) v)))) =>
   decide (fn.ntmps=33)&&nv P fn.results.toList [.cell 2 1 false,.cell 3 1 false]&&ir P 33 r r0&&ir P 33 n x1&&ir P 33 q r3&&ir P 33 o (r4 l)&&ir P 33 bd (bA i)&&C3 bd&&ir P 33 v post &&
   (match ps.toList with | [11,12]=>true | _=>false)&&sG h.toList 5 11&&sG b.toList 6 12&&(fn.name == "runtime.NumGoroutine")==false
  |_=>false
 |none=>false
section
variable{P:Program}{Γ:ja}
def N0{V:aA}{e:Env}:eval Γ r0 V (AX×St) (λx s=>some (x,s)) ⟨e,[]⟩=some (.normal,⟨(e.put 2 (.ptr 0 0 0 0)).put 3 (.ptr 1 0 0 0),[.var [.en true []],.var [.int .i64 0]]⟩):=by
 simp(disch:=omega)[r0]
def aew{V:aA}{e:Env}{p:aq}(h0:e 0 = .str p)(h2:e 2 = .ptr 0 0 0 0)(h3:e 3 = .ptr 1 0 0 0):eval Γ x1 V (AX×St) (λx s=>some (x,s)) ⟨e,[.var [.en true []],.var [.int .i64 0]]⟩ =
  some (if p=[47]then .ret else .normal,⟨(e.put 7 (.str p)).put 8 (.bool (decide (p=[47]))),[.var [.en true []],.var [.int .i64 0]]⟩):=by
 by_cases b:p=[47]<;>simp(disch:=omega)[x1,h0,h2,h3,mw,b]
def aeA{V:aA}{e:Env}:eval Γ r3 V (AX×St) (λx s=>some (x,s)) ⟨e,[.var [.en true []],.var [.int .i64 0]]⟩=some (.normal,⟨e.put 4 (.ptr 2 0 0 0),[.var [.en true []],.var [.int .i64 0],.var [.en true []]]⟩):=by
 simp(disch:=omega)[r3]
def aez{V:aA}{e:Env}{p:aq}{i b:FuncId}(l:∀h,rF Γ i [.str p] h=some (.fn (.func b) [] [.ptr h.length 0 0 0],h++[.var [.str p]]))(h0:e 0 = .str p):
  eval Γ (r4 i) V (AX×St) (λx s=>some (x,s)) ⟨e,[.var [.en true []],.var [.int .i64 0],.var [.en true []]]⟩ =
  some (.normal,⟨(e.put 9 (.str p)).put 10 (.fn (.func b) [] [.ptr 3 0 0 0]),[.var [.en true []],.var [.int .i64 0],.var [.en true []],.var [.str p]]⟩):=by
 simp(disch:=omega)[r4,h0,l]
def Ln(i:Nat)(l:List aq):AH:=[.var [.en true []],.var [.int .i64 0],.var [.own 4 i 0 i],.gone,.row i 1 (l.map AV.str)]
def Pe(i:Nat)(l:List aq):AH:=[.var [.en true []],.var [.int .i64 60],.var [.own 4 i 0 i],.gone,.row i 1 (l.map AV.str)]
def Q1{V:aA}{e:Env}{s:aq}{b:Bool}{r:FuncId}{iN:aq->Bool}(x:∀s,Γ.p r [.str s]=some (.bool (iN s)))(h2:e 2 = .ptr 0 0 0 0)(h3:e 3 = .ptr 1 0 0 0)(h4:e 4 = .ptr 2 0 0 0)
  (h5:e 5 = .str s) (q:e 6 = .bool b) {i:Nat} {l:List aq} (hl:l.length=i) (z:i<=12) :
  eval Γ (bA r) V (AX×AH) (λy s=>some (y,s.h)) ⟨e,Ln i l⟩=some (if (b&&(iN s&&decide (i<12)))=true then(.normal,Ln (i+1) (l++[s]))else(.ret,Pe i l)):=by
 have n:=λh=>vO (Γ:=Γ) (f:=r) (args:=[.str s]) (h:=h) rfl (x s)
 cases b with
 |false=>simp(disch:=omega)[bA,Ln,Pe,h2,h3,q]
 |true =>
  cases v:iN s with
  |false =>
   rw[v]at n;simp(disch:=omega)[bA,Ln,Pe,h2,h3,h5,q,n]
  |true =>
   rw[v]at n
   by_cases o:i<12
   .simp(disch:=omega)[bA,Ln,h4,h5,q,n,o]
   .simp(disch:=omega)[bA,Ln,Pe,h2,h3,h4,h5,q,n,o]
def Q0{V:aA}{e:Env}(h2:e 2 = .ptr 0 0 0 0)(h3:e 3 = .ptr 1 0 0 0)(h4:e 4 = .ptr 2 0 0 0){i:Nat}{l:List aq}:
  ∃e',eval Γ post V (AX×St) (λx s=>some (x,s)) ⟨e,Ln i l⟩=some (.ret,⟨e',if i=0 then Pe i l else[.var [.own 4 i 0 i],.var [.int .i64 0],.var [.own 4 i 0 i],.gone,.row i 1 (l.map AV.str)]⟩)/\e' 2 = .ptr 0 0 0 0/\e' 3 = .ptr 1 0 0 0:=by
 by_cases b:i=0
 .subst b;refine⟨((e.put 29 (.own 4 0 0 0)).put 30 (.int .i64 0)).put 31 (.bool true),?_,h2,h3⟩;simp(disch:=omega)[post,Ln,Pe,h2,h3,h4]
 .have h0:¬((i:Int)=0):=by omega
  refine⟨(((e.put 29 (.own 4 i 0 i)).put 30 (.int .i64 i)).put 31 (.bool false)).put 32 (.own 4 i 0 i),?_,h2,h3⟩;simp(disch:=omega)[post,Ln,h2,h3,h4,b]
end
attribute [local simp] Go.Am.mN Go.Am.sI Go.Am.sJ Go.Am.sK Go.Am.sL Go.Am.sg Go.Am.si Go.Am.sj Go.Am.su Go.Am.sM Go.Am.sN Go.Am.oR Go.Am.oQ Go.Am.oT Go.Am.oS Go.Am.ko Go.Am.jx
def zM(iN:aq->Bool)(x:aq×Bool):Bool:=x.2&&iN x.1
def n9(iN:aq->Bool)(path:aq):Option (List aq) :=
 if path=[47]then some []else if mJ path≠[]/\(mJ path).length<=12/\(mJ path).all (zM iN)=true then some ((mJ path).map (·.1))else none
def qL(iN:aq->Bool)(path:aq):AV:=match n9 iN path with
 |some l=>.iV [.en (decide (path=[47])) (l.map AV.str),.int .i64 0]
 |none=>.iV [.en true [],.int .i64 60]
section
variable{P:Program}{Γ:ja}
def xe{t s:Tmp}{os:List Oper}{ops:Array Oper}(b:ops.toList=os)(ok:sG os t s=true){id l m:Nat}{a:Act}{w:World}{Q:Exit->Act->World->Prop}(h:Q .normal (a.put (some t) (a.tmps.getD s undef)) w):
  (Code.region id ops false).wpIn (Fence.wide.inRound l) m P Q a w:=by
 unfold sG at ok;split at ok
 .rename_i o;simp only[aC,decide_eq_true_eq]at ok;let⟨⟨q1,r⟩,i⟩:=ok;split at i
  .rename_i s' n;have hs:s'=s:=by simpa using i
   subst hs;refine wpIn_region_list ?_;rw[b];unfold wpListIn;rw[if_pos (pq (ak r))]
   refine CQ (λc q=>by rw[n]at q;cases q) ?_
   unfold Oper.wp
   have hx:(execOp a.eval o).run P w = .ok (.value (a.eval (.tmp s'))) w:=by
    unfold execOp;simp only[n,Sem.run_pure]
   rw[hx,Oper.upon_value,q1];exact h
  .cases i
 .cases ok
def e1(x:Option (aq×Bool)):Env:=λt=>if t=2 then .ptr 0 0 0 0 else if t=3 then .ptr 1 0 0 0 else if t=4 then .ptr 2 0 0 0 else if t=5 then(x.elim .dead λx=>.str x.1)else if t=6 then(x.elim .dead λx=>.bool x.2)else .dead
def H9{Z:ay}{β:iW}{h:AH}{W:World}{k:Nat}{p:aq}(R:Rel Z β h W)(hk:h[k]? = some (.var [.str p])):∃c T,β k 0=some ⟨some c,0,1,1,T⟩/\Lh W c p:=by
 let⟨c,cur,elem,e1,o,n,l⟩:=R.blk k _ hk;let⟨v,g1,_,g3⟩:=l 0 _ rfl;have b:=nP g3;subst b;have:cur = #[.string ⟨p.toArray⟩]:=by
  have hs:cur.size=1:=n;apply Array.ext
  .simpa using hs
  .intro j h1 h2;have i:j=0:=by omega
   subst i;have:=bT h1;rw[g1]at this
   simpa using this.symm
 exact⟨c,elem,e1,⟨elem,by rw[<-this];exact o⟩,S7 R hk e1 rfl⟩
def QU{O:ay}{β:iW}{w:World}{f:Fn}{b c:Nat}{v:Value}{T:TypeId}(i:β b 0=some ⟨some c,0,1,1,T⟩)(h:VR β O w (.fn f [] [.ptr b 0 0 0]) v):v = .func f #[] #[.pointer (some ⟨c,0,none⟩)]:=by
 cases h with
 |pure _ _ h=>cases h
 |fn _ _ _ n l h1 h2 q1 o =>
  have e1:n=[]:=aV (ak h1.symm)
  subst e1
  match l,h2 with
  | [u],_ =>
   let⟨bd,r,g1,q,g3⟩:=(o 0 _ u rfl rfl).jl;rw[i]at g1;cases g1;cases q;rw[g3];simp
def JP(hm:P.follows .mixedOrders=true)(z:js P Γ){f fP fR T fC fI:FuncId}(ok:ye P f fP fR=true)(okP:G4 P T fC fI=true){iN:aq->Bool}
  (hC:∀p,Γ.p fC [.str p,.str [47]]=some (.iV [.str (kH p),.bool (mK p)])) (hI:∀s,Γ.p fI [.str s,.int .u8 47]=some (.int .i64 (sO s)))
  (hR:∀s,Γ.p fR [.str s]=some (.bool (iN s))) (hP:∀p h,rF Γ fP [.str p] h=some (.fn (.func T) [] [.ptr h.length 0 0 0],h++[.var [.str p]]))
  (path:aq) (h:AH):nC P f [.str path] h (qL iN path) h:=by
 unfold ye at ok;split at ok
 .rename_i fn hf;split at ok
  .rename_i R0 X1 R3 R4 ps idA aiA idB akt bd PO M;simp only[aC,decide_eq_true_eq,beq_iff_eq]at ok;let⟨⟨⟨⟨⟨⟨⟨⟨⟨⟨⟨⟨hn,A⟩,k0⟩,k1⟩,k3⟩,k4⟩,kb⟩,nb⟩,kp⟩,hps⟩,ha⟩,hb⟩,hname⟩:=ok;have Wk:ps = #[11,12]:=by
    split at hps
    .rename_i h1;exact cq (ak h1)
    .cases hps
   subst Wk;refine rT rfl ⟨⟨fn,hf,by rw[M];rfl,ak hname⟩,λZ β w vs R hl hv=>?_⟩ h
   refine(callsIn_wide (n:=1)).1 (callsIn_of_wp_marks hf M trivial ?_ rfl);generalize Q:(λ(e:Ending)(w':World)=>∃v β' r0 h1 h2,e = .returned v/\lP h1 r0=some (qL iN path,h2)/\Rel Z β' h1 w'/\Fr Z β [] w β' h1 w'/\VR β' (Own Z β' h1) w' r0 v)=RR
   have A0:=At.start (n:=33) R hl hv ah
   rw[hn];refine wpIn_seq (A0.step hm z R k0 (x:=.normal) N0 λa1 β1 W1 A1=>?_)
   refine wpIn_seq (A1.step hm z R k1 (aew (p:=path) rfl rfl rfl) λa2 β2 W2 A2=>?_)
   by_cases U:path=[47]
   .rw[if_pos U];refine A2.VG (x:=.ret) (r:=.iV [.en true [],.int .i64 0]) A an (.inl rfl) λu β' W' h1 h2 h3=>?_
    rw[<-Q];exact⟨u,β',.iV [.en true [],.int .i64 0],_,_,rfl,(by simp(disch:=omega)[qL,n9,U];rfl),h1,h2,h3⟩
   rw[if_neg U];refine wpIn_seq (A2.step hm z R k3 (x:=.normal) aeA λa3 β3 W3 A3=>?_)
   refine wpIn_seq (wpIn_seq (A3.step hm z R k4 (x:=.normal) (aez (p:=path) (hP path) rfl) λa4 β4 W4 A4=>?_))
   let⟨β5,E⟩:=A4.iJ (i:=2) (sz:=1) af rfl
   let⟨c,_,hβ,hbx⟩:=H9 (k:=3) (p:=path) E.rel rfl;have X:((mJ path).map enc).length=(mJ path).length:=ah
   have hne:mJ path≠[]->n9 iN path=none\/(n9 iN path=some ((mJ path).map (·.1))/\(mJ path).length<=12):=λh0=>by
    unfold n9;rw[if_neg U];split
    .rename_i h1;exact .inr ⟨rfl,h1.2.1⟩
    .exact .inl rfl
   obtain⟨T0,hT0⟩:∃T0:Array Value->Array Value,T0=λx=>((#[11,12]:Array Tmp).zip x).foldl (λt (p,v)=>t.setIfInBounds p v) a4.tmps:=⟨_,rfl⟩
   have hT:∀x:aq×Bool,T0 (enc x)=(a4.tmps.setIfInBounds 11 (.string ⟨x.1.toArray⟩)).setIfInBounds 12 (.bool x.2):=λx=>by rw[hT0];simp[enc]
   have hs4:a4.tmps.size=33:=E.env.1
   refine wpIn_block (Ew hm z kb nb E.rel (kb:=3) (c:=c) ⟨_,rfl,_,rfl,hβ⟩ (gf:=T) (lb := #[.pointer (some ⟨c,0,none⟩)]) (QU hβ (E.env.2 10)) (MG okP)
    (encs:=(mJ path).map enc) (CO hm z okP hC hI hbx _ λq hq=>(E.rel.gl q hq).1) (λx hx=>by
     obtain⟨y,_,rfl⟩:=b7.1 hx;rfl)
    (λi N=>i<=12/\((mJ path).take i).all (zM iN)=true/\N=Ln i (((mJ path).take i).map (·.1)))
    (λex N=>ex = .ret/\n9 iN path=none/\∃i l,N=Pe i l) 5 rfl
    (λi N H=>by obtain⟨_,_,rfl⟩:=H;simp[Ln,AJ,AV.okM]) (λex N H=>by obtain⟨_,_,i,l,rfl⟩:=H;simp[Pe,AJ,AV.okM]) (λp N H=>by cases H.1)
    ⟨aa,ah,rfl⟩
    (λi H=>(({tmps:=T0 ((mJ path).map enc)[i],defers:=[]}:Act).put (some 5) ((T0 ((mJ path).map enc)[i]).getD 11 undef)).put (some 6) ((({tmps:=T0 ((mJ path).map enc)[i],defers:=[]}:Act).put (some 5) ((T0 ((mJ path).map enc)[i]).getD 11 undef)).tmps.getD 12 undef))
    (λl i H W K hK=>?_) (λi=>e1 (mJ path)[i]?) (λi H O' β' W Y L=>?_) (λi N H hI=>?_) (λD W' N β' hD hI R' F' hk=>?_) (λD ex W' N β' hD hne hX R' F' hk=>?_))
   .refine wpIn_seq (xe rfl ha ?_);refine xe rfl hb ?_;rw[hT0]at hK;exact hK
   .have G:i<(mJ path).length:=by simpa using H
    rw[aF G];have he:((mJ path).map enc)[i]=enc (mJ path)[i]:=ah
    rw[he,hT];refine⟨by simp[Act.put,hs4],λt=>?_⟩
    obtain⟨x,hx⟩:∃x,x=(mJ path)[i]:=⟨_,rfl⟩;rw[<-hx];obtain⟨v1,hv1⟩:∃v1:Value,v1 = .string ⟨x.1.toArray⟩:=⟨_,rfl⟩;rw[<-hv1];have m2:VR β' O' W (.ptr 0 0 0 0) (a4.tmps.getD 2 undef):=(E.env.2 2).mono L Y;have m3:VR β' O' W (.ptr 1 0 0 0) (a4.tmps.getD 3 undef):=(E.env.2 3).mono L Y;have m4:VR β' O' W (.ptr 2 0 0 0) (a4.tmps.getD 4 undef):=(E.env.2 4).mono L Y
    show VR β' O' W (if t=2 then .ptr 0 0 0 0 else if t=3 then .ptr 1 0 0 0 else if t=4 then .ptr 2 0 0 0 else if t=5 then .str x.1 else if t=6 then .bool x.2 else .dead) _
    have other:∀t,t≠5->t≠6->t≠11->t≠12->((({tmps:=(a4.tmps.setIfInBounds 11 v1).setIfInBounds 12 (.bool x.2),defers:=[]}:Act).put (some 5) (((a4.tmps.setIfInBounds 11 v1).setIfInBounds 12 (.bool x.2)).getD 11 undef)).put (some 6)
      ((({tmps:=(a4.tmps.setIfInBounds 11 v1).setIfInBounds 12 (.bool x.2),defers:=[]}:Act).put (some 5) (((a4.tmps.setIfInBounds 11 v1).setIfInBounds 12 (.bool x.2)).getD 11 undef)).tmps.getD 12 undef)).tmps.getD t undef=a4.tmps.getD t undef:=λt h1 h2 h3 h4=>by
     simp[Act.put,aO,bO (Ne.symm h1),bO (Ne.symm h2),bO (Ne.symm h3),bO (Ne.symm h4)]
    by_cases t2:t=2
    .rw[if_pos t2,t2,other 2 aa aa aa aa];exact m2
    rw[if_neg t2]
    by_cases t3:t=3
    .rw[if_pos t3,t3,other 3 aa aa aa aa];exact m3
    rw[if_neg t3]
    by_cases t4:t=4
    .rw[if_pos t4,t4,other 4 aa aa aa aa];exact m4
    rw[if_neg t4]
    by_cases t5:t=5
    .rw[if_pos t5,t5]
     have:((({tmps:=(a4.tmps.setIfInBounds 11 v1).setIfInBounds 12 (.bool x.2),defers:=[]}:Act).put (some 5) (((a4.tmps.setIfInBounds 11 v1).setIfInBounds 12 (.bool x.2)).getD 11 undef)).put (some 6)
      ((({tmps:=(a4.tmps.setIfInBounds 11 v1).setIfInBounds 12 (.bool x.2),defers:=[]}:Act).put (some 5) (((a4.tmps.setIfInBounds 11 v1).setIfInBounds 12 (.bool x.2)).getD 11 undef)).tmps.getD 12 undef)).tmps.getD 5 undef=v1:=by
      simp[Act.put,aO,hs4]
     rw[this,hv1];exact .pure _ _ (qK _)
    rw[if_neg t5]
    by_cases t6:t=6
    .rw[if_pos t6,t6]
     have:((({tmps:=(a4.tmps.setIfInBounds 11 v1).setIfInBounds 12 (.bool x.2),defers:=[]}:Act).put (some 5) (((a4.tmps.setIfInBounds 11 v1).setIfInBounds 12 (.bool x.2)).getD 11 undef)).put (some 6)
      ((({tmps:=(a4.tmps.setIfInBounds 11 v1).setIfInBounds 12 (.bool x.2),defers:=[]}:Act).put (some 5) (((a4.tmps.setIfInBounds 11 v1).setIfInBounds 12 (.bool x.2)).getD 11 undef)).tmps.getD 12 undef)).tmps.getD 6 undef = .bool x.2:=by
      simp[Act.put,aO,hs4]
     rw[this];exact .pure _ _ (.bool _)
    rw[if_neg t6];exact .dead _
   .have G:i<(mJ path).length:=by simpa using H
    obtain⟨S,o,rfl⟩:=hI;rw[aF G];obtain⟨x,hx⟩:∃x,x=(mJ path)[i]:=⟨_,rfl⟩;have F:(mJ path).take (i+1)=(mJ path).take i++[x]:=by rw[hx];exact bu G
    have O:=Q1 (Γ:=Γ) (V:=nS [] 5) (e:=e1 (some (mJ path)[i])) (s:=x.1) (b:=x.2) hR rfl rfl rfl (by rw[hx];rfl) (by rw[hx];rfl) (i:=i) (l:=((mJ path).take i).map (·.1)) aj S
    by_cases hg:(x.2&&(iN x.1&&decide (i<12)))=true
    .rw[if_pos hg]at O;simp only[aC,decide_eq_true_eq]at hg;refine⟨_,_,O,λ_=>⟨aa,?_,?_⟩,λh0=>absurd rfl h0⟩
     .rw[F,cg,o];simp[zM,hg.1,hg.2.1]
     .rw[F];simp[Ln,iQ,mc,jV]
    .rw[if_neg hg]at O;refine⟨_,_,O,λh0=>(by cases h0),λ_=>⟨rfl,?_,i,_,rfl⟩⟩
     unfold n9;rw[if_neg U,if_neg]
     rintro⟨_,h1,h2⟩
     apply hg;have hgx:zM iN x=true:=by rw[hx];exact aJ.1 h2 _ (aU G)
     simp only[zM,aC]at hgx;have:i<12:=aa
     simp[hgx.1,hgx.2,this]
   .obtain⟨S,o,rfl⟩:=hI;rw[X]at S o;have A6:=E.behind R hD R' F';rw[X]at A6;let⟨e',ev,g2,g3⟩:=Q0 (Γ:=Γ) (V:=λi=>decide (([]:AH).length<=i)) (e:=((((((iX [AV.str path]).put 2 (.ptr 0 0 0 0)).put 3 (.ptr 1 0 0 0)).put 7 (.str path)).put 8 (.bool (decide (path=[47])))).put 4 (.ptr 2 0 0 0) |>.put 9 (.str path) |>.put 10 (.fn (.func T) [] [.ptr 3 0 0 0]))) rfl rfl rfl (i:=(mJ path).length) (l:=((mJ path).take (mJ path).length).map (·.1))
    refine A6.step1 hm z R hk kp (x:=.ret) ev λa' β'' W'' A7 hk7=>?_
    rw[eM]at A7 o
    by_cases hz:mJ path=[]
    .rw[hz]at A7;simp only[aR,if_true]at A7;refine A7.C2 (x:=.ret) (r:=.iV [.en true [],.int .i64 60]) R (bQ E.stay.1 hD) hk7 A (by simp(disch:=omega)[Pe,g2,g3]) (.inl rfl) λu β' W' h1 h2 h3=>?_
     rw[<-Q];exact⟨u,β',.iV [.en true [],.int .i64 60],_,_,rfl,(by simp(disch:=omega)[qL,n9,U,hz];rfl),h1,h2,h3⟩
    .have Pd:¬(mJ path).length=0:=λh0=>hz (aV h0)
     rw[if_neg Pd]at A7;refine A7.C2 (x:=.ret) (r:=.iV [.own 4 (mJ path).length 0 (mJ path).length,.int .i64 0]) R (bQ E.stay.1 hD) hk7 A (by simp(disch:=omega)[g2,g3]) (.inl rfl) λu β' W' h1 h2 h3=>?_
     rw[<-Q]
     have hsl:n9 iN path=some ((mJ path).map (·.1)):=by
      unfold n9;rw[if_neg U,if_pos ⟨hz,S,o⟩]
     refine⟨u,β',.iV [.own 4 (mJ path).length 0 (mJ path).length,.int .i64 0],_,?N,rfl,?_,h1,h2,h3⟩
     rotate_left
     simp(disch:=omega)[qL,hsl,U];rfl
   .obtain⟨rfl,hsl,i,l,rfl⟩:=hX;have A6:=E.behind R hD R' F';refine A6.C2 (x:=.ret) (r:=.iV [.en true [],.int .i64 60]) R (bQ E.stay.1 hD) hk A (by simp(disch:=omega)[Pe]) (.inl rfl) λu β' W' h1 h2 h3=>?_
    rw[<-Q];exact⟨u,β',.iV [.en true [],.int .i64 60],_,_,rfl,(by simp(disch:=omega)[qL,hsl];rfl),h1,h2,h3⟩
  .cases ok
 .cases ok
def v7(iN:aq->Bool):List AV->Option AV
 | [.str path]=>some (qL iN path)
 |_=>none
def PK(y:P.follows .mixedOrders=true)(n:js P Γ){f q o b x v:FuncId}(ok:ye P f q o=true)(l:G4 P b x v=true){iN:aq->Bool}
  (F:∀p,Γ.p x [.str p,.str [47]]=some (.iV [.str (kH p),.bool (mK p)])) (E:∀s,Γ.p v [.str s,.int .u8 47]=some (.int .i64 (sO s)))
  (z:∀s,Γ.p o [.str s]=some (.bool (iN s))) (A:∀p h,rF Γ q [.str p] h=some (.fn (.func b) [] [.ptr h.length 0 0 0],h++[.var [.str p]]))
  (args:List AV) (r:AV) (h:AH) (i:v7 iN args=some r):nC P f args h r h:=by
 unfold v7 at i;split at i
 .cases i;exact JP y n ok l F E z A _ h
 .cases i
end
end Go.Am.Nm
