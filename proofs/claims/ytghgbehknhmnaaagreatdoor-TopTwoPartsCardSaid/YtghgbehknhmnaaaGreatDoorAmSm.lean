/- Part of the proof that TopTwoPartsCard holds. -/
import Derived.Test.YtghgbehknhmnaaaGreatDoorAmRs
import Derived.Test.YtghgbehknhmnaaaGreatDoorAmKe
set_option linter.all false
namespace Go.Am.Nm
open Go.Am Go.RowKit
attribute [local simp] Go.Am.oB Go.Am.uT Go.Am.uU Go.Am.uV Go.Am.uW Go.Am.uN Go.Am.uO Go.Am.uP Go.Am.uQ Go.Am.uX Go.Am.uY Go.Am.qB Go.Am.qA Go.Am.qD Go.Am.qC Go.Am.lS Go.Am.j6
def lE:au->au
 | []=>[]
 |b::t=>if b=47 then t else b::t
def nK:au->Bool
 | []=>false
 |b::_=>decide (b=47)
def upTo(s:au):au:=s.takeWhile λb=>!decide (b=47)
def from_(s:au):au:=s.dropWhile λb=>!decide (b=47)
def sY(s:au):Int:=if s.all (λb=>!decide (b=47))=true then -1 else((upTo s).length:Int)
def Jq(s:au):(from_ s).length<=s.length:=(gN _).length_le
def Rg{b:UInt8}{t:au}:(from_ (lE (b::t))).length<(b::t).length:=by
 by_cases h:b=47
 .have e:lE (b::t)=t:=by simp[lE,h]
  rw[e];have:=Jq t;simp only[aS];omega
 .have e:lE (b::t)=b::t:=by simp[lE,h]
  rw[e];have:=Jq t;simp only[from_,cV,h,decide_false,eA,if_true,aS];unfold from_ at this;omega
def nI(p:au):List (au×Bool):=match p with
 | []=>[]
 |b::t=>(upTo (lE (b::t)),nK (b::t))::nI (from_ (lE (b::t)))
termination_by p.length
decreasing_by exact Rg
def wm:nI []=[]:=by rw[nI]
def sO{p:au}(h:p≠[]):nI p=(upTo (lE p),nK p)::nI (from_ (lE p)):=by
 cases p with
 |nil=>exact absurd rfl h
 |cons b t=>rw[nI]
def Dq(s:au):upTo s++from_ s=s:=fJ
def T6{s:au}(h:s.all (λb=>!decide (b=47))=true):upTo s=s/\from_ s=[]:=by
 have h1:=Dq s;unfold upTo from_ at *
 have:s.dropWhile (λb=>!decide (b=47))=[]:=by
  clear h1
  induction s with
  |nil=>rfl
  |cons x s i =>
   simp only[bV,aF]at h;rw[cV,if_pos h.1];exact i h.2
 rw[this,cC]at h1;exact⟨h1,this⟩
def P6(s:au):s.take (upTo s).length=upTo s:=by
 have:=Dq s;have h2:(upTo s++from_ s).take (upTo s).length=upTo s:=ai
 rwa [this]at h2
def RA(s:au):s.drop (upTo s).length=from_ s:=by
 have:=Dq s;have h2:(upTo s++from_ s).drop (upTo s).length=from_ s:=ai
 rwa [this]at h2
def b0:AC:=.seq (.ops (.op (some 6) (.load 1 false (.t 1)) (.op (some 7) (.bin .neq (.t 6) (.c (.str []))) (.nil))))
 (.cond (.t 7) (.skip) (.exit 0))
def l1(b:FuncId):AC:=.ops (.op (some 9) (.load 1 false (.t 1)) (.op (some 10) (.call b [(.t 9),(.c (.str [47]))]) (.op (some 8) (.mv (.t 10)) (.op (some 11) (.ext (.t 8) 0) (.op (some 12) (.ext (.t 8) 1) (.op (some 3) (.mv (.t 11)) (.op (some 4) (.mv (.t 12)) (.nil))))))))
def l2(b:FuncId):AC:=.ops (.op (some 13) (.mv (.t 3)) (.op (some 14) (.call b [(.t 13),(.c (.int .u8 47))]) (.op (some 5) (.mv (.t 14)) (.nil))))
def x3:AC:=.seq (.ops (.op (some 15) (.mv (.t 5)) (.op (some 16) (.bin .lss (.t 15) (.c (.int .i64 0))) (.nil))))
 (.cond (.t 16) (.ops (.op (some 17) (.mv (.t 3)) (.op (some 18) (.len true (.t 17)) (.op (some 5) (.mv (.t 18)) (.nil))))) (.skip))
def l5:List AI:=[⟨some 19,none,.mv (.t 0)⟩,⟨some 20,none,.mv (.t 3)⟩,⟨some 21,none,.mv (.t 5)⟩,⟨some 22,none,.Kg (.t 20) none (some (.t 21))⟩,⟨some 23,none,.mv (.t 4)⟩]
def l5b:List AI:=[⟨some 25,none,.un .not (.t 24)⟩]
def l6:AC:=.ops (.op (some 26) (.mv (.t 3)) (.op (some 27) (.mv (.t 5)) (.op (some 28) (.Kg (.t 26) (some (.t 27)) none) (.op none (.store 1 (.t 1) (.t 28)) (.nil)))))
def Hq(P:Program)(f v r:FuncId):Bool:=match P.funcs[f]? with
 |some fn=>match fn.body with
  |some (.block 0 (.loop (.seq B0 (.block 1 (.seq A (.seq z (.seq x (.seq (.seq (.region _ b false) (.cond (.tmp 25) .ret .skip)) y)))))))) =>
   decide (fn.ntmps=29)&&(fn.name == "runtime.NumGoroutine")==false&&fn.results.isEmpty&&je P 29 B0 b0&&je P 29 A (l1 v)&&je P 29 z (l2 r)&&je P 29 x x3&&je P 29 y l6 &&
   (match b.toList with
    | [q,o,o3,n,l,h,i]=>lY P 29 [q,o,o3,n,l,h,i] [q,o,o3,n,l] l5&&lY P 29 [q,o,o3,n,l,h,i] [i] l5b&&h.guard.isNone &&
      decide (h.dst=some 24)&&(match h.op with | .call {callee:=.value (.tmp 19),args,argTypes:=_}=>(match args.toList with | [.tmp 22,.tmp 23]=>true | _=>false) | _=>false)
    |_=>false)
  |_=>false
 |none=>false
variable{r:au}
section
variable{P:Program}{Γ:jE}
def TC{V:aB}{e:Env}{p:au}(h1:e 1 = .ptr 0 0 0 0):eval Γ b0 V (AX×St) (λx s=>some (x,s)) ⟨e,[.var [.str p]]⟩ =
  some (if p=[]then .exit 0 else .normal,⟨(e.put 6 (.str p)).put 7 (.bool (!decide (p=[]))),[.var [.str p]]⟩):=by
 by_cases b:p=[]<;>simp(disch:=omega)[b0,h1,j9,b]
def aeD{V:aB}{b:FuncId}(l:∀p,Γ.p b [.str p,.str [47]]=some (.jg [.str (lE p),.bool (nK p)])){e:Env}{p:au}(h1:e 1 = .ptr 0 0 0 0):
  ∃e',eval Γ (l1 b) V (AX×St) (λx s=>some (x,s)) ⟨e,[.var [.str p]]⟩=some (.normal,⟨e',[.var [.str p]]⟩)/\e' 0=e 0/\e' 1=e 1/\e' 3 = .str (lE p)/\e' 4 = .bool (nK p):=by
 refine⟨(((((((e.put 9 (.str p)).put 10 (.jg [.str (lE p),.bool (nK p)])).put 8 (.jg [.str (lE p),.bool (nK p)])).put 11 (.str (lE p))).put 12 (.bool (nK p))).put 3 (.str (lE p))).put 4 (.bool (nK p))),?_,rfl,rfl,rfl,rfl⟩;have i:=λh=>zL (Γ:=Γ) (f:=b) (args:=[.str p,.str [47]]) (h:=h) rfl (l p)
 simp(disch:=omega)[l1,h1,i]
def aeC{V:aB}{b:FuncId}(l:∀s,Γ.p b [.str s,.int .u8 47]=some (.int .i64 (sY s))){e:Env}{h:AH}(h3:e 3 = .str r):
  ∃e',eval Γ (l2 b) V (AX×St) (λx s=>some (x,s)) ⟨e,h⟩=some (.normal,⟨e',h⟩)/\e' 0=e 0/\e' 1=e 1/\e' 3 = .str r/\e' 4=e 4/\e' 5 = .int .i64 (sY r):=by
 refine⟨((e.put 13 (.str r)).put 14 (.int .i64 (sY r))).put 5 (.int .i64 (sY r)),?_,rfl,rfl,h3,rfl,rfl⟩;have i:=λh=>zL (Γ:=Γ) (f:=b) (args:=[.str r,.int .u8 47]) (h:=h) rfl (l r)
 simp(disch:=omega)[l2,h3,i]
def aev{V:aB}{e:Env}{h:AH}(h3:e 3 = .str r)(h5:e 5 = .int .i64 (sY r)):
  ∃e',eval Γ x3 V (AX×St) (λx s=>some (x,s)) ⟨e,h⟩=some (.normal,⟨e',h⟩)/\e' 0=e 0/\e' 1=e 1/\e' 3 = .str r/\e' 4=e 4/\e' 5 = .int .i64 ((upTo r).length:Int):=by
 by_cases i:r.all (λb=>!decide (b=47))=true
 .have e1:sY r = -1:=by unfold sY;rw[if_pos i]
  rw[e1]at h5;refine⟨((((e.put 15 (.int .i64 (-1))).put 16 (.bool true)).put 17 (.str r)).put 18 (.int .i64 r.length)).put 5 (.int .i64 r.length),?_,rfl,rfl,h3,rfl,by rw[(T6 i).1];rfl⟩
  simp(disch:=omega)[x3,h3,h5]
 .have e1:sY r=((upTo r).length:Int):=by unfold sY;rw[if_neg i]
  rw[e1]at h5;refine⟨(e.put 15 (.int .i64 ((upTo r).length:Int))).put 16 (.bool false),?_,rfl,rfl,h3,rfl,h5⟩;simp(disch:=omega)[x3,h5]
def aeB{e:Env}{h:AH}(h3:e 3 = .str r)(h5:e 5 = .int .i64 ((upTo r).length:Int)):
  ∃e',flat Γ l5 ⟨e,h⟩=some ⟨e',h⟩/\e' 0=e 0/\e' 1=e 1/\e' 3 = .str r/\e' 4=e 4/\e' 5 = .int .i64 ((upTo r).length:Int)/\e' 19=e 0/\e' 22 = .str (upTo r)/\e' 23=e 4:=by
 have b:(upTo r).length<=r.length:=(fF _).length_le;refine⟨((((e.put 19 (e 0)).put 20 (.str r)).put 21 (.int .i64 ((upTo r).length:Int))).put 22 (.str (upTo r))).put 23 (e 4),?_,rfl,rfl,h3,rfl,h5,rfl,rfl,rfl⟩;simp[l5,flat,exec,h3,h5,jY,nat?,St.put,b,P6]
def aeA{V:aB}{e:Env}{p:au}(h1:e 1 = .ptr 0 0 0 0)(h3:e 3 = .str r)(h5:e 5 = .int .i64 ((upTo r).length:Int)):
  ∃e',eval Γ l6 V (AX×St) (λx s=>some (x,s)) ⟨e,[.var [.str p]]⟩=some (.normal,⟨e',[.var [.str (from_ r)]]⟩)/\e' 0=e 0/\e' 1=e 1:=by
 have b:(upTo r).length<=r.length:=(fF _).length_le;refine⟨((e.put 26 (.str r)).put 27 (.int .i64 ((upTo r).length:Int))).put 28 (.str (from_ r)),?_,rfl,rfl⟩;simp(disch:=omega)[l6,h1,h3,h5,b,RA]
end
variable{W:World}{β:jO}{O Z:az}
section
variable{P:Program}{Γ:jE}
def zv{w:World}(s:au):oF O w (.str s) (.string ⟨s.toArray⟩):=by
 have:=oF.str (O:=O) (w:=w) ⟨s.toArray⟩
 simpa using this
def rD{w:World}{s:au}{v:Value}(h:VR β Z w (.str s) v):v = .string ⟨s.toArray⟩:=by
 obtain⟨b,rfl,rfl⟩:=h.oD;cases b;simp
def Zi(W:World)(c:Nat):Nat->Prop:=λb=>b<W.heap.size/\b≠c/\∀q∈G0,b≠q.1
def βi(c:Nat):jO:=λi v=>if i=0/\v=0 then some ⟨some c,0,1,1⟩else none
def GlW(W:World)(c:Nat):Prop:=∀q∈G0,W.cell? ⟨q.1,0,none⟩=some q.2/\q.1≠c
structure LB(W:World)(c:Nat)(p:au):Prop where
 box:∃elem,W.heap[c]? = some (.cells #[.string ⟨p.toArray⟩] elem (0,0))
 gl:GlW W c
def GlW.same{i:World}{c:Nat}(h:GlW W c)(hs:∀q∈G0,i.heap[q.1]? = W.heap[q.1]?):GlW i c:=λq b=>⟨by rw[World.cell?_of_block (a:=⟨q.1,0,none⟩) (hs q b)];exact(h q b).1,(h q b).2⟩
def LB.lt{c:Nat}{p:au}(h:LB W c p):c<W.heap.size:=by
 let⟨⟨_,h⟩,_⟩:=h;exact(aW.1 h).1
def JU(c:Nat):βi c 0 0=some ⟨some c,0,1,1⟩:=by simp[βi]
def zA{c k b:Nat}{p:au}(h:owned (βi c) [.var [.str p]] k b):k=0/\b=c:=by
 let⟨X,l,bd,h1,h2⟩:=h;cases k with
 |zero =>
  simp only[bH,bn]at l;subst l;simp only[JU,bn]at h2;subst h2;simp only[bn]at h1;exact⟨rfl,h1.symm⟩
 |succ k=>simp at l
def qz{c:Nat}{p:au}(x:LB W c p):Rel (Zi W c) (βi c) [.var [.str p]] W:=by
 let⟨⟨elem,A⟩,hg⟩:=x;refine⟨λb x=>x.1,λk b l n=>n.2.1 (zA l).2,λi v z=>?_,λi v sz es v' h=>?_,λi X h=>?_,λi j b h1 h2=>by rw[(zA h1).1,(zA h2).1],λq r=>⟨λl=>?_,(hg q r).1⟩⟩
 .simp only[dF]at z;simp only[βi];rw[if_neg af]
 .cases i with
  |zero=>simp at h
  |succ i=>simp at h
 .cases i with
  |zero =>
   simp only[bH,bn]at h;subst h;refine⟨c,_,elem,JU c,A,rfl,λj y o=>?_⟩
   cases j with
   |zero =>
    simp only[bH,bn]at o;subst o;exact⟨_,rfl,rfl,.pure _ _ (zv p)⟩
   |succ j=>simp at o
  |succ i=>simp at h
 .rcases l with n | ⟨k,l⟩
  .exact n.2.2 q r rfl
  .exact(hg q r).2 (zA l).2
def Tq{h:AH}{i c:Nat}{cs:List AV}(R:Rel Z β h W)(n:h[i]? = some (.var cs)){bd:Bd}(b:β i 0=some bd)(o:bd.cb=some c):GlW W c:=λq l=>⟨(R.gl q l).2,λe=>(R.gl q l).1 (e▸.inr ⟨i,_,n,bd,o,b⟩)⟩
def O5{c:Nat}{p:au}(R:Rel Z β [.var [.str p]] W)(b:β 0 0=some ⟨some c,0,1,1⟩):LB W c p:=by
 let⟨x,cur,elem,e1,r,q,o⟩:=R.blk 0 _ rfl;rw[b]at e1;simp only[bn,Bd.mk.injEq]at e1;obtain⟨rfl,_⟩:=e1;let⟨v,n,_,l⟩:=o 0 _ rfl;have h:=rD l;subst h;have:cur = #[.string ⟨p.toArray⟩]:=by
  have hs:cur.size=1:=q;apply Array.ext
  .simpa using hs
  .intro j h1 h2;have i:j=0:=by omega
   subst i;have:=cF h1;rw[n]at this
   simpa using this.symm
 exact⟨⟨elem,by rw[<-this];exact r⟩,Tq R rfl b rfl⟩
def Nb{P:Program}{n d t:Nat}{ops:Array Oper}{all:List Oper}{o:Oper}(ok:lY P n all [o] [⟨some d,none,.un .not (.t t)⟩]=true){a:Act}{b:Bool}(v:a.tmps.getD t undef = .bool b){Q:Exit->Act->World->Prop}
  (h:Q .normal (a.put (some d) (.bool (!b))) W):wpList P ops Q [o] a W:=by
 simp only[lY,xo,aF,decide_eq_true_eq,Bool.and_true]at ok;let⟨⟨⟨q,_⟩,i⟩,hg⟩:=ok;let⟨dst,op,type,pos,after,guard⟩:=o;dsimp only at q i hg;subst q;cases guard with
 |some g=>cases hg
 |none =>
 unfold uD at i;split at i<;>rename_i heq<;>first | (cases i;done) | (cases heq;done) | skip
 cases heq;simp only[aF,decide_eq_true_eq]at i;obtain⟨rfl,l⟩:=i;rename_i x;have r:a.eval x = .bool b:=by
  cases x<;>first | (cases l;done) | skip
  simp only[lD,beq_iff_eq]at l;subst l
  simpa[Act.eval]using v
 unfold wpList;refine .inl ?_;unfold Oper.wp
 simpa[execOp,r,Op.unary,Oper.upon,wpList]using h
def e0(l:Nat):Env:=λt=>if t=0 then .fn (.yield l) [] []else if t=1 then .ptr 0 0 0 0 else .dead
def HS{w:World}{f:Fn}{v:Value}(h:VR β O w (.fn f [] []) v):v = .func f #[] #[]:=by
 cases h with
 |pure _ _ h=>cases h
 |fn _ _ _ i b h1 h2 =>
  have e1:i=[]:=bh (an h1.symm)
  have l:b=[]:=bh (an h2.symm)
  subst e1 l;rfl
def Od{w:World}(f:Fn):VR β O w (.fn f [] []) (.func f #[] #[]):=.fn f [] [] [] [] rfl rfl (λj y v h=>by simp at h) (λj y v h=>by simp at h)
structure Head(l c:Nat)(a:Act):Prop where
 size:a.tmps.size=29
 yld:a.tmps.getD 0 undef = .func (.yield l) #[] #[]
 box:a.tmps.getD 1 undef = .pointer (some ⟨c,0,none⟩)
 defers:a.defers=[]
def NS{l c:Nat}{a:Act}{p:au}(H:Head l c a)(b:LB W c p):jt (Zi W c) (βi c) [.var [.str p]] W (e0 l) a 29:=by
 refine⟨H.size,λt=>?_⟩
 unfold e0
 by_cases h0:t=0
 .rw[if_pos h0,h0,H.yld];exact Od _
 .rw[if_neg h0]
  by_cases h1:t=1
  .rw[if_pos h1,h1,H.box];exact .ptr 0 0 0 0 ⟨some c,0,1,1⟩ c (JU c) rfl
  .rw[if_neg h1];exact .dead _
def JP{l c:Nat}{a:Act}{p:au}(H:Head l c a)(b:LB W c p):At 29 (Zi W c) (βi c) [.var [.str p]] W (Zi W c) [] ⟨e0 l,[.var [.str p]]⟩ a (βi c) W :=
 ⟨qz b,λ_ _ _=>rfl,rfl,rfl,rfl,λ_ _ _ e=>e,kC.refl _ _,NS H b,H.defers,λ_ h=>h⟩
def Et{c:Nat}{p:au}{h:World}(n:LB W c p){s:St}{a:Act}{β':jO}(A:At 29 (Zi W c) (βi c) [.var [.str p]] W (Zi W c) [] s a β' h):W.grownBy h (some c) :=
 ⟨A.os,A.tape,A.output,A.stay.1,λk hk b=>by
  by_cases hg:∀q∈G0,k≠q.1
  .exact A.keep k hk ⟨hk,λe=>b (by rw[e]),hg⟩
  .simp only[Classical.not_forall,Decidable.not_not]at hg;obtain⟨q,l,rfl⟩:=hg;exact(A.stay.2 _ hk ((qz n).gl q l).1).1⟩
def Nw{fn:Func}(b:fn.results.isEmpty=true){R:Ending->World->Prop}{a:Act}(l:a.defers=[])(n:R (.returned (.tuple #[])) W){x:Exit}(h:x = .ret\/x = .normal):bodyPostM Fence.wide 0 P fn R x a W:=by
 have i:(results fn a.tmps).run P W = .ok (.tuple #[]) W:=by
  have:fn.results = #[]:=eB (by simpa[Array.isEmpty]using b)
  simp[results,this]
 have:LeavesInM Fence.wide 0 P fn a.tmps R a.defers .returning W:=by
  rw[l];exact⟨_,i,n⟩
 rcases h with rfl | rfl<;>exact this
end
section
variable{P:Program}{Γ:jE}
def enc(x:au×Bool):Array Value := #[.string ⟨x.1.toArray⟩,.bool x.2]
def yF{o:Oper}(h:o.guard=none){y:Nat->Option Bool}:Region.wanted o y=true:=by unfold Region.wanted;rw[h]
def e6(l:Nat)(r:au):Env:=λt=>if t=0 then .fn (.yield l) [] []else if t=1 then .ptr 0 0 0 0 else if t=3 then .str r else if t=5 then .int .i64 ((upTo r).length:Int)else .dead
def DG (hm:P.follows .mixedOrders=true) (z:j3 P Γ) {f fC fI:FuncId} (ok:Hq P f fC fI=true)
  (hC:∀p,Γ.p fC [.str p,.str [47]]=some (.jg [.str (lE p),.bool (nK p)])) (hI:∀s,Γ.p fI [.str s,.int .u8 47]=some (.int .i64 (sY s)))
  {path:au} {c:Nat} {w:World} (hb:LB w c path) (Kb:az) (hKb:∀q∈G0,Kb q.1):TR P f #[.pointer (some ⟨c,0,none⟩)] ((nI path).map enc) c Kb w:=by
 unfold Hq at ok;split at ok
 .rename_i fn hf;split at ok
  .rename_i B0 R1 R2 X3 id5 K R6 hbody;simp only[aF,decide_eq_true_eq]at ok;let⟨⟨⟨⟨⟨⟨⟨⟨hn,_⟩,hres⟩,k0⟩,k1⟩,k2⟩,k3⟩,k6⟩,k5⟩:=ok;split at k5
   .rename_i o1 o2 o3 o4 o5 o6 o7 Y;simp only[aF,decide_eq_true_eq]at k5;let⟨⟨⟨⟨q1,q2⟩,q3⟩,q4⟩,q5⟩:=k5;split at q5
    .rename_i args ats hop;split at q5
     .rename_i hargs;intro l J Jx W hW hsz tJ tX hY h0;have GU:=hb.lt;have hbW:LB W c path:=by
       let⟨⟨elem,h1⟩,hg⟩:=hb;exact⟨⟨elem,(hW c GU).trans h1⟩,hg.same λq hq=>hW _ (qu (hg q hq).1)⟩
      refine callsIn_of_wp_marks hf hbody trivial ?_ rfl;generalize hR:(λ(e:Ending)(G:World)=>(∃v,e = .returned v)/\(J ((nI path).map enc).length G\/Jx G))=R
      have Z:((nI path).map enc).length=(nI path).length:=ai
      have fin:∀ {a:Act} {G:World} {x:Exit},a.defers=[]->(J (nI path).length G\/Jx G)->(x = .ret\/x = .normal)->bodyPostM Fence.wide 0 P fn R x a G:=λN hJ hx =>
       Nw hres N (by rw[<-hR,Z];exact⟨⟨_,rfl⟩,hJ⟩) hx
      have key:∀(k:Nat)(p:au)(i:Nat)(a:Act)(T:World),(nI p).length=k->(nI path).drop i=nI p->i<=(nI path).length->Head l c a->LB T c p->J i T->
        Code.roundsIn Fence.wide 0 P (.seq B0 (.block 1 (.seq R1 (.seq R2 (.seq X3 (.seq (.seq (.region id5 K false) (.cond (.tmp 25) .ret .skip)) R6)))))) (Exit.inBlock 0 (bodyPostM Fence.wide 0 P fn R)) (k+1) a T:=by
       intro k
       induction k with
       |zero =>
        intro p i a T hk N hi H n hJ;have hp:p=[]:=by
         cases p with
         |nil=>rfl
         |cons x t=>rw[sO ai]at hk;simp at hk
        subst hp
        have F:i=(nI path).length:=by
         have:=congrArg List.length N;rw[wm]at this;simp at this;omega
        rw[roundsIn_succ];refine wpIn_seq ((JP H n).step hm z (qz n) k0 (x:=.exit 0) (by rw[TC rfl,if_pos rfl]) λa' β' G A=>?_)
        exact fin (x:=.normal) A.defers (.inl (F▸tJ i _ _ hJ (Et n A))) (.inr rfl)
       |succ k ih =>
        intro p i a T hk N hi H n hJ;have hp:p≠[]:=by
         rintro rfl
         rw[wm]at hk;simp at hk
        have adZ:=sO hp;rw[adZ]at hk N
        have F:i<(nI path).length:=by
         have:=congrArg List.length N;simp at this;omega
        have NR:(nI path)[i]=(upTo (lE p),nK p):=by
         rw[cm F]at N;exact(List.cons.inj N).1
        have hd':(nI path).drop (i+1)=nI (from_ (lE p)):=by
         rw[cm F]at N;exact(List.cons.inj N).2
        have aka:∀(hi':i<((nI path).map enc).length),((nI path).map enc)[i] = #[.string ⟨(upTo (lE p)).toArray⟩,.bool (nK p)]:=λhi'=>by
         rw[dY,NR];rfl
        rw[roundsIn_succ];refine wpIn_seq ((JP H n).step hm z (qz n) k0 (x:=.normal) (by rw[TC rfl,if_neg hp]) λa1 β1 V1 A1=>?_)
        refine wpIn_block (wpIn_seq ?_);let⟨e2,ev2,f20,f21,f23,f24⟩:=aeD (Γ:=Γ) (V:=λi=>decide (1<=i)) hC (e:=((e0 l).put 6 (.str p)).put 7 (.bool (!decide (p=[])))) (p:=p) rfl
        refine A1.step hm z (qz n) k1 (x:=.normal) ev2 λa2 β2 V2 A2=>?_
        refine wpIn_seq ?_;let⟨e3,ev3,f30,f31,f33,f34,f35⟩:=aeC (Γ:=Γ) (V:=λi=>decide (1<=i)) hI (h:=[.var [.str p]]) f23
        refine A2.step hm z (qz n) k2 (x:=.normal) ev3 λa3 β3 V3 A3=>?_
        refine wpIn_seq ?_;let⟨e4,ev4,f40,f41,f43,f44,f45⟩:=aev (Γ:=Γ) (V:=λi=>decide (1<=i)) (h:=[.var [.str p]]) f33 f35
        refine A3.step hm z (qz n) k3 (x:=.normal) ev4 λa4 β4 V4 A4=>?_
        refine wpIn_seq (wpIn_seq ?_);let⟨e5,ev5,f50,f51,f53,f54,f55,f56,f57,f58⟩:=aeB (Γ:=Γ) (h:=[.var [.str p]]) f43 f45;refine wpIn_region_list ?_;rw[Y];have g0:e5 0 = .fn (.yield l) [] []:=by rw[f50,f40,f30,f20];rfl
        have g1:e5 1 = .ptr 0 0 0 0:=by rw[f51,f41,f31,f21];rfl
        have g4:e5 4 = .bool (nK p):=by rw[f54,f44,f34,f24]
        have g19:e5 19 = .fn (.yield l) [] []:=by rw[f56,f40,f30,f20];rfl
        have g23:e5 23 = .bool (nK p):=by rw[f58,f44,f34,f24]
        refine xw (Q:=λx a' G=>x = .normal/\∃β',At 29 (Zi T c) (βi c) [.var [.str p]] T (Zi T c) [] ⟨e5,[.var [.str p]]⟩ a' β' G) (λ⟨_,_,h,_⟩=>by cases h) [o6,o7] ?_ (λch a w h=>by cases h.1)
         [o1,o2,o3,o4,o5] a4 V4 (zJ z [o1,o2,o3,o4,o5] l5 ⟨e4,[.var [.str p]]⟩ ⟨e5,[.var [.str p]]⟩ a4 V4 β4 (by rw[Y];exact q1) (W:=λ_=>true) (λ_ _ _ _=>rfl) ev5 A4.rel A4.env
          λa' w' β' R' F' E' K'=>⟨rfl,β',A4.next (qz n) (V:=λi=>decide (1<=i)) (λi hi=>by simpa using hi) R' F'.LD E' K'.defers⟩)
        rintro a5 V5 ⟨_,β5,A5⟩
        have hJ5:J i V5:=tJ i _ _ hJ (Et n A5);have X:β5 0 0=some ⟨some c,0,1,1⟩:=A5.ext _ _ _ (JU c);have akh:LB V5 c p:=O5 A5.rel X;have y:∀t v,e5 t=v->VR β5 (Own (Zi T c) β5 [.var [.str p]]) V5 v (a5.tmps.getD t undef):=λt v h=>by rw[<-h];exact A5.env.2 t
        have c0:a5.tmps.getD 0 undef = .func (.yield l) #[] #[]:=HS (y _ _ g0)
        have c1:a5.tmps.getD 1 undef = .pointer (some ⟨c,0,none⟩):=by
         let⟨bd,c',h1,h2,h3⟩:=(y _ _ g1).kY;rw[X]at h1;cases h1;cases h2;exact h3
        have c3:a5.tmps.getD 3 undef = .string ⟨(lE p).toArray⟩:=rD (y _ _ f53);have c5:a5.tmps.getD 5 undef = .int .i64 ((upTo (lE p)).length:Int):=(y _ _ f55).kE;have c19:a5.tmps.getD 19 undef = .func (.yield l) #[] #[]:=HS (y _ _ g19);have Ll:a5.tmps.getD 22 undef = .string ⟨(upTo (lE p)).toArray⟩:=rD (y _ _ f57);have c23:a5.tmps.getD 23 undef = .bool (nK p):=(y _ _ g23).mY
        have hvs:args.map a5.eval = #[.string ⟨(upTo (lE p)).toArray⟩,.bool (nK p)]:=by
         have:args = #[.tmp 22,.tmp 23]:=cR (by simpa using hargs)
         rw[this];simp[Act.eval,Ll,c23]
        have hy:=hY i (by rw[Z];exact F) V5 hJ5
        rw[aka]at hy;have q3':o6.guard=none:=by simpa using q3
        unfold wpListIn;rw[if_pos (yF q3')];refine GV hop (l:=l) (by simpa[Act.eval]using c19) hvs hy (λe G S=>by rcases S with⟨rfl,_⟩ | ⟨rfl,_⟩<;>exact⟨_,rfl⟩) λb W3 hR3=>?_
        rw[q4];obtain⟨a6,M⟩:∃a6,a6=a5.put (some 24) (.bool b):=⟨_,rfl⟩;rw[<-M];have s6:a6.tmps.size=29:=by rw[M];simp[Act.put,A5.env.1]
        have akj:∀t,t≠24->a6.tmps.getD t undef=a5.tmps.getD t undef:=λt ht=>by
         rw[M];simp[Act.put,bD,cH (Ne.symm ht)]
        have c24:a6.tmps.getD 24 undef = .bool b:=by
         rw[M];simp[Act.put,bD,A5.env.1]
        show wpListIn Fence.wide 0 P K _ ([o7]++[]) a6 W3
        refine xw (P:=P) (m:=0) (ops:=K) (Q:=λx a' G=>x = .normal/\a'.tmps.size=29/\(∀t,t≠25->a'.tmps.getD t undef=a6.tmps.getD t undef)/\a'.tmps.getD 25 undef = .bool (!b)/\a'.defers=[]/\W3.grownBy G none)
         (λ⟨_,_,h,_⟩=>by cases h) [] ?_ (λch a w h=>by cases h.1) [o7] a6 W3
         (Nb q2 c24 ⟨rfl,?_,λt ht=>?_,?_,?_,⟨rfl,rfl,rfl,aV _,λ_ _ _=>rfl⟩⟩)
        .rintro a7 O ⟨_,s7,h7,h25,hd7,E⟩
         have hgc:W3.grownBy O (some c):=⟨E.os,E.tape,E.output,E.size,λk hk _=>E.block k hk ai⟩
         show Code.wpIn Fence.wide 0 P (.cond (.tmp 25) .ret .skip) _ a7 O
         rcases hR3 with⟨S,hJ3,hk3⟩ | ⟨S,hJ3⟩
         .have WR:b=true:=by injection S with S;injection S
          subst WR;refine wpIn_cond_false (by simpa[Act.eval]using h25) (wpIn_skip ?_)
          have hJ7:J (i+1) O:=tJ _ _ _ hJ3 hgc;have L:LB O c p:=by
           let⟨⟨elem,h1⟩,hg⟩:=akh;have e1:=(hk3 c GU (.inl rfl)).trans h1;refine⟨⟨elem,(E.block c (aW.1 e1).1 ai).trans e1⟩,hg.same λq hq=>?_⟩
           have e2:=hk3 q.1 (qu (hb.gl q hq).1) (.inr (hKb q hq));let⟨o,o1,_⟩:=cells_of_cell (hg q hq).1;exact(E.block q.1 (aW.1 (e2.trans o1)).1 ai).trans e2
          have g7:∀t,t≠24->t≠25->a7.tmps.getD t undef=a5.tmps.getD t undef:=λt h1 h2=>(h7 t h2).trans (akj t h1)
          have A7:At 29 (Zi O c) (βi c) [.var [.str p]] O (Zi O c) [] ⟨e6 l (lE p),[.var [.str p]]⟩ a7 (βi c) O:=by
           refine⟨qz L,λ_ _ _=>rfl,rfl,rfl,rfl,λ_ _ _ e=>e,kC.refl _ _,⟨s7,λt=>?_⟩,hd7,λ_ h=>h⟩
           show VR _ _ _ (if t=0 then .fn (.yield l) [] []else if t=1 then .ptr 0 0 0 0 else if t=3 then .str (lE p)else if t=5 then .int .i64 ((upTo (lE p)).length:Int)else .dead) _
           by_cases t0:t=0
           .rw[if_pos t0,t0,g7 0 af af,c0];exact Od _
           rw[if_neg t0]
           by_cases t1:t=1
           .rw[if_pos t1,t1,g7 1 af af,c1];exact .ptr 0 0 0 0 ⟨some c,0,1,1⟩ c (JU c) rfl
           rw[if_neg t1]
           by_cases t3:t=3
           .rw[if_pos t3,t3,g7 3 af af,c3];exact .pure _ _ (zv _)
           rw[if_neg t3]
           by_cases t5:t=5
           .rw[if_pos t5,t5,g7 5 af af,c5];exact .pure _ _ (.int _ _)
           rw[if_neg t5];exact .dead _
          show Code.wpIn Fence.wide 0 P R6 _ a7 O;let⟨e8,ev8,f80,f81⟩:=aeA (Γ:=Γ) (V:=λi=>decide (1<=i)) (e:=e6 l (lE p)) (p:=p) (r:=lE p) rfl rfl rfl
          refine A7.step hm z (qz L) k6 (x:=.normal) ev8 λa8 β8 W8 A8=>?_
          have U:β8 0 0=some ⟨some c,0,1,1⟩:=A8.ext _ _ _ (JU c);have aeE:∀t v,e8 t=v->VR β8 (Own (Zi O c) β8 [.var [.str (from_ (lE p))]]) W8 v (a8.tmps.getD t undef):=λt v h=>by rw[<-h];exact A8.env.2 t
          have H8:Head l c a8:=by
           refine⟨A8.env.1,HS (aeE 0 _ f80),?_,A8.defers⟩;let⟨bd,c',h1,h2,h3⟩:=(aeE 1 _ f81).kY;rw[U]at h1;cases h1;cases h2;exact h3
          exact ih (from_ (lE p)) (i+1) a8 W8 (by simpa using hk) hd' F H8 (O5 A8.rel U) (tJ _ _ _ hJ7 (Et L A8))
         .have WR:b=false:=by injection S with S;injection S
          subst WR;refine wpIn_cond_true (by simpa[Act.eval]using h25) (wpIn_ret ?_)
          exact fin (x:=.ret) hd7 (.inr (tX _ _ hJ3 hgc)) (.inl rfl)
        .simp[Act.put,s6]
        .simp[Act.put,bD,cH (Ne.symm ht)]
        .simp[Act.put,bD,s6]
        .rw[M];simp[Act.put,A5.defers]
      refine wpIn_block (wpIn_loop_rounds ((nI path).length+1) (key _ path 0 _ W rfl ai (aT _) ⟨?_,?_,?_,rfl⟩ hbW h0))
      .simp[hn]
      .simp[bD,fL]
      .simp[bD,fL]
     .cases q5
    .cases q5
   .cases k5
  .cases ok
 .cases ok
def rq{f:FuncId}{fn:Func}(l:P.funcs[f]? = some fn)(n:fn.body.isSome=true)(h:(fn.name == "runtime.NumGoroutine")=false)(args:Array Value)(w:World):(callFunc f args).run P w = .ok (.enter f args) w:=by
 have b:fn.body.isNone=false:=by cases i:fn.body<;>simp_all
 simp only[callFunc,Sem.run_bind,run_program,Result.andThen_ok,l,h,b,aZ,if_false,Sem.run_pure]
def MW{f l i:FuncId}(ok:Hq P f l i=true)(args:Array Value)(w:World):(callFunc f args).run P w = .ok (.enter f args) w:=by
 unfold Hq at ok;split at ok
 .rename_i fn h;split at ok
  .rename_i b;simp only[aF,decide_eq_true_eq,beq_iff_eq]at ok;exact rq h (by rw[b];rfl) (an ok.1.1.1.1.1.1.1.2) args w
  .cases ok
 .cases ok
end
attribute [local simp] Go.Am.oB Go.Am.uT Go.Am.uU Go.Am.uV Go.Am.uW Go.Am.uN Go.Am.uO Go.Am.uP Go.Am.uQ Go.Am.uX Go.Am.uY Go.Am.qB Go.Am.qA Go.Am.qD Go.Am.qC Go.Am.lS Go.Am.j6
def r0:AC:=.ops (.op (some 2) (.alloc [.b9 true []]) (.op (some 3) (.alloc [.int .i64 0]) (.nil)))
def x1:AC:=.seq (.ops (.op (some 7) (.mv (.t 0)) (.op (some 8) (.bin .eql (.t 7) (.c (.str [47]))) (.nil))))
 (.cond (.t 8) (.seq (.ops (.op none (.store 1 (.t 2) (.c (.b9 true []))) (.op none (.store 1 (.t 3) (.c (.int .i64 0))) (.nil))))
 (.ret)) (.skip))
def r3:AC:=.ops (.op (some 4) (.alloc [.b9 true []]) (.nil))
def r4(b:FuncId):AC:=.ops (.op (some 9) (.mv (.t 0)) (.op (some 10) (.call b [(.t 9)]) (.nil)))
def bA(b:FuncId):AC:=.block 1 (.seq (.seq (.ops (.op (some 13) (.mv (.t 6)) (.op (some 14) (.un .not (.t 13)) (.op (some 15) (.mv (.t 14)) (.sc 19 false 15 16 18 (.op (some 16) (.mv (.t 5)) (.op (some 17) (.call b [(.t 16)]) (.op (some 18) (.un .not (.t 17)) (.nil)))) (.t 18) (.op (some 20) (.mv (.t 19)) (.sc 24 false 20 21 23 (.op (some 21) (.load 1 false (.t 4)) (.op (some 22) (.len false (.t 21)) (.op (some 23) (.bin .eql (.t 22) (.c (.int .i64 12))) (.nil)))) (.t 23) (.nil))))))))
 (.cond (.t 24) (.seq (.ops (.op none (.store 1 (.t 2) (.c (.b9 true []))) (.op none (.store 1 (.t 3) (.c (.int .i64 60))) (.nil))))
 (.ret)) (.skip)))
 (.ops (.op (some 25) (.load 1 false (.t 4)) (.op (some 26) (.mv (.t 5)) (.op (some 27) (.Em 1 (.str []) 1 [(0,(.t 26))]) (.op (some 28) (.app 1 16 (.t 25) (.t 27)) (.op none (.store 1 (.t 4) (.t 28)) (.nil))))))))
def post:AC:=.seq (.seq (.ops (.op (some 29) (.load 1 false (.t 4)) (.op (some 30) (.len false (.t 29)) (.op (some 31) (.bin .eql (.t 30) (.c (.int .i64 0))) (.nil)))))
 (.cond (.t 31) (.seq (.ops (.op none (.store 1 (.t 2) (.c (.b9 true []))) (.op none (.store 1 (.t 3) (.c (.int .i64 60))) (.nil))))
 (.ret)) (.skip)))
 (.seq (.ops (.op (some 32) (.load 1 false (.t 4)) (.op none (.store 1 (.t 2) (.t 32)) (.op none (.store 1 (.t 3) (.c (.int .i64 0))) (.nil)))))
 (.ret))
def wC(os:List Oper)(t s:Tmp):Bool:=match os with
 | [o]=>decide (o.dst=some t)&&o.guard.isNone&&(match o.op with | .assign (.tmp s')=>decide (s'=s) | _=>false)
 |_=>false
def zw(P:Program)(f l i:FuncId):Bool:=match P.funcs[f]? with
 |some fn=>match fn.body with
  |some (.seq r (.seq n (.seq q (.seq (.seq o (.block 0 (.rangeFunc (.tmp 10) ps (.seq (.region _ h false) (.region _ b false)) bd))) v)))) =>
   decide (fn.ntmps=33)&&oI P fn.results.toList [.cell 2 1 false,.cell 3 1 false]&&je P 33 r r0&&je P 33 n x1&&je P 33 q r3&&je P 33 o (r4 l)&&je P 33 bd (bA i)&&Nk bd&&je P 33 v post &&
   (match ps.toList with | [11,12]=>true | _=>false)&&wC h.toList 5 11&&wC b.toList 6 12&&(fn.name == "runtime.NumGoroutine")==false
  |_=>false
 |none=>false
section
variable{P:Program}{Γ:jE}
def aez{V:aB}{e:Env}:eval Γ r0 V (AX×St) (λx s=>some (x,s)) ⟨e,[]⟩=some (.normal,⟨(e.put 2 (.ptr 0 0 0 0)).put 3 (.ptr 1 0 0 0),[.var [.b9 true []],.var [.int .i64 0]]⟩):=by
 simp(disch:=omega)[r0]
def aew{V:aB}{e:Env}{p:au}(h0:e 0 = .str p)(h2:e 2 = .ptr 0 0 0 0)(h3:e 3 = .ptr 1 0 0 0):eval Γ x1 V (AX×St) (λx s=>some (x,s)) ⟨e,[.var [.b9 true []],.var [.int .i64 0]]⟩ =
  some (if p=[47]then .ret else .normal,⟨(e.put 7 (.str p)).put 8 (.bool (decide (p=[47]))),[.var [.b9 true []],.var [.int .i64 0]]⟩):=by
 by_cases b:p=[47]<;>simp(disch:=omega)[x1,h0,h2,h3,j9,b]
def aey{V:aB}{e:Env}:eval Γ r3 V (AX×St) (λx s=>some (x,s)) ⟨e,[.var [.b9 true []],.var [.int .i64 0]]⟩=some (.normal,⟨e.put 4 (.ptr 2 0 0 0),[.var [.b9 true []],.var [.int .i64 0],.var [.b9 true []]]⟩):=by
 simp(disch:=omega)[r3]
def aex{V:aB}{e:Env}{p:au}{i b:FuncId}(l:∀h,eT Γ i [.str p] h=some (.fn (.func b) [] [.ptr h.length 0 0 0],h++[.var [.str p]]))(h0:e 0 = .str p):
  eval Γ (r4 i) V (AX×St) (λx s=>some (x,s)) ⟨e,[.var [.b9 true []],.var [.int .i64 0],.var [.b9 true []]]⟩ =
  some (.normal,⟨(e.put 9 (.str p)).put 10 (.fn (.func b) [] [.ptr 3 0 0 0]),[.var [.b9 true []],.var [.int .i64 0],.var [.b9 true []],.var [.str p]]⟩):=by
 simp(disch:=omega)[r4,h0,l]
def LI(i:Nat)(l:List au):AH:=[.var [.b9 true []],.var [.int .i64 0],.var [.own 4 i 0 i],.gone,.row i 1 (l.map AV.str)]
def PF(i:Nat)(l:List au):AH:=[.var [.b9 true []],.var [.int .i64 60],.var [.own 4 i 0 i],.gone,.row i 1 (l.map AV.str)]
def Ro{V:aB}{e:Env}{s:au}{b:Bool}{q:FuncId}{iN:au->Bool}(v:∀s,Γ.p q [.str s]=some (.bool (iN s)))(h2:e 2 = .ptr 0 0 0 0)(h3:e 3 = .ptr 1 0 0 0)(h4:e 4 = .ptr 2 0 0 0)
  (h5:e 5 = .str s) (h6:e 6 = .bool b) {i:Nat} {l:List au} (hl:l.length=i) (x:i<=12) :
  eval Γ (bA q) V (AX×AH) (λex s=>some (ex,s.h)) ⟨e,LI i l⟩=some (if (b&&(iN s&&decide (i<12)))=true then(.normal,LI (i+1) (l++[s]))else(.ret,PF i l)):=by
 have n:=λh=>zL (Γ:=Γ) (f:=q) (args:=[.str s]) (h:=h) rfl (v s)
 cases b with
 |false=>simp(disch:=omega)[bA,LI,PF,h2,h3,h6]
 |true =>
  cases r:iN s with
  |false =>
   rw[r]at n;simp(disch:=omega)[bA,LI,PF,h2,h3,h5,h6,n]
  |true =>
   rw[r]at n
   by_cases o:i<12
   .simp(disch:=omega)[bA,LI,h4,h5,h6,n,o]
   .simp(disch:=omega)[bA,LI,PF,h2,h3,h4,h5,h6,n,o]
def Rm{V:aB}{e:Env}(h2:e 2 = .ptr 0 0 0 0)(h3:e 3 = .ptr 1 0 0 0)(h4:e 4 = .ptr 2 0 0 0){i:Nat}{l:List au}:
  ∃e',eval Γ post V (AX×St) (λx s=>some (x,s)) ⟨e,LI i l⟩=some (.ret,⟨e',if i=0 then PF i l else[.var [.own 4 i 0 i],.var [.int .i64 0],.var [.own 4 i 0 i],.gone,.row i 1 (l.map AV.str)]⟩)/\e' 2 = .ptr 0 0 0 0/\e' 3 = .ptr 1 0 0 0:=by
 by_cases b:i=0
 .subst b;refine⟨((e.put 29 (.own 4 0 0 0)).put 30 (.int .i64 0)).put 31 (.bool true),?_,h2,h3⟩;simp(disch:=omega)[post,LI,PF,h2,h3,h4]
 .have h0:¬((i:Int)=0):=by omega
  refine⟨(((e.put 29 (.own 4 i 0 i)).put 30 (.int .i64 i)).put 31 (.bool false)).put 32 (.own 4 i 0 i),?_,h2,h3⟩;simp(disch:=omega)[post,LI,h2,h3,h4,b]
end
attribute [local simp] Go.Am.oB Go.Am.uT Go.Am.uU Go.Am.uV Go.Am.uW Go.Am.uN Go.Am.uO Go.Am.uP Go.Am.uQ Go.Am.uX Go.Am.uY Go.Am.qB Go.Am.qA Go.Am.qD Go.Am.qC Go.Am.lS Go.Am.j6
def Bc(iN:au->Bool)(x:au×Bool):Bool:=x.2&&iN x.1
def oQ(iN:au->Bool)(path:au):Option (List au) :=
 if path=[47]then some []else if nI path≠[]/\(nI path).length<=12/\(nI path).all (Bc iN)=true then some ((nI path).map (·.1))else none
def rF(iN:au->Bool)(path:au):AV:=match oQ iN path with
 |some l=>.jg [.b9 (decide (path=[47])) (l.map AV.str),.int .i64 0]
 |none=>.jg [.b9 true [],.int .i64 60]
section
variable{P:Program}{Γ:jE}
def Dg{t s:Tmp}{os:List Oper}{ops:Array Oper}(b:ops.toList=os)(ok:wC os t s=true){id l m:Nat}{a:Act}{w:World}{Q:Exit->Act->World->Prop}(h:Q .normal (a.put (some t) (a.tmps.getD s undef)) w):
  (Code.region id ops false).wpIn (Fence.wide.inRound l) m P Q a w:=by
 unfold wC at ok;split at ok
 .rename_i o;simp only[aF,decide_eq_true_eq]at ok;let⟨⟨q1,r⟩,i⟩:=ok;split at i
  .rename_i s' n;have hs:s'=s:=by simpa using i
   subst hs;refine wpIn_region_list ?_;rw[b];unfold wpListIn;rw[if_pos (yF (an r))]
   refine DJ (λc q=>by rw[n]at q;cases q) ?_
   unfold Oper.wp
   have v:(execOp a.eval o).run P w = .ok (.value (a.eval (.tmp s'))) w:=by
    unfold execOp;simp only[n,Sem.run_pure]
   rw[v,Oper.upon_value,q1];exact h
  .cases i
 .cases ok
def e1(x:Option (au×Bool)):Env:=λt=>if t=2 then .ptr 0 0 0 0 else if t=3 then .ptr 1 0 0 0 else if t=4 then .ptr 2 0 0 0 else if t=5 then(x.elim .dead λx=>.str x.1)else if t=6 then(x.elim .dead λx=>.bool x.2)else .dead
def YO{Z:az}{β:jO}{h:AH}{W:World}{k:Nat}{p:au}(R:Rel Z β h W)(hk:h[k]? = some (.var [.str p])):∃c,β k 0=some ⟨some c,0,1,1⟩/\LB W c p:=by
 let⟨c,cur,elem,e1,r,q,o⟩:=R.blk k _ hk;let⟨v,n,_,l⟩:=o 0 _ rfl;have b:=rD l;subst b;have:cur = #[.string ⟨p.toArray⟩]:=by
  have hs:cur.size=1:=q;apply Array.ext
  .simpa using hs
  .intro j h1 h2;have i:j=0:=by omega
   subst i;have:=cF h1;rw[n]at this
   simpa using this.symm
 exact⟨c,e1,⟨elem,by rw[<-this];exact r⟩,Tq R hk e1 rfl⟩
def Ri{O:az}{β:jO}{w:World}{f:Fn}{b c:Nat}{v:Value}(i:β b 0=some ⟨some c,0,1,1⟩)(h:VR β O w (.fn f [] [.ptr b 0 0 0]) v):v = .func f #[] #[.pointer (some ⟨c,0,none⟩)]:=by
 cases h with
 |pure _ _ h=>cases h
 |fn _ _ _ o n h1 h2 q1 q =>
  have e1:o=[]:=bh (an h1.symm)
  subst e1
  match n,h2 with
  | [u],_ =>
   let⟨bd,y,l,x,r⟩:=(q 0 _ u rfl rfl).kY;rw[i]at l;cases l;cases x;rw[r];simp
def Ke(hm:P.follows .mixedOrders=true)(z:j3 P Γ){f fP fR T fC fI:FuncId}(ok:zw P f fP fR=true)(okP:Hq P T fC fI=true){iN:au->Bool}
  (hC:∀p,Γ.p fC [.str p,.str [47]]=some (.jg [.str (lE p),.bool (nK p)])) (hI:∀s,Γ.p fI [.str s,.int .u8 47]=some (.int .i64 (sY s)))
  (hR:∀s,Γ.p fR [.str s]=some (.bool (iN s))) (hP:∀p h,eT Γ fP [.str p] h=some (.fn (.func T) [] [.ptr h.length 0 0 0],h++[.var [.str p]]))
  (path:au) (h:AH):ux P f [.str path] h (rF iN path) h:=by
 unfold zw at ok;split at ok
 .rename_i fn hf;split at ok
  .rename_i R0 X1 R3 R4 ps idA akS idB akR bd PO M;simp only[aF,decide_eq_true_eq,beq_iff_eq]at ok;let⟨⟨⟨⟨⟨⟨⟨⟨⟨⟨⟨⟨hn,A⟩,k0⟩,k1⟩,k3⟩,k4⟩,kb⟩,nb⟩,kp⟩,hps⟩,ha⟩,hb⟩,hname⟩:=ok;have ajW:ps = #[11,12]:=by
    split at hps
    .rename_i h1;exact cR (an h1)
    .cases hps
   subst ajW;refine wh rfl ⟨⟨fn,hf,by rw[M];rfl,an hname⟩,λZ β w vs R hl hv=>?_⟩ h
   refine(callsIn_wide (n:=1)).1 (callsIn_of_wp_marks hf M trivial ?_ rfl);generalize Q:(λ(e:Ending)(w':World)=>∃v β' r0 h1 h2,e = .returned v/\nr h1 r0=some (rF iN path,h2)/\Rel Z β' h1 w'/\Fr Z β [] w β' h1 w'/\VR β' (Own Z β' h1) w' r0 v)=RR
   have A0:=At.start (n:=33) R hl hv ai
   rw[hn];refine wpIn_seq (A0.step hm z R k0 (x:=.normal) aez λa1 β1 W1 A1=>?_)
   refine wpIn_seq (A1.step hm z R k1 (aew (p:=path) rfl rfl rfl) λa2 β2 W2 A2=>?_)
   by_cases X:path=[47]
   .rw[if_pos X];refine A2.VE (x:=.ret) (r:=.jg [.b9 true [],.int .i64 0]) A aq (.inl rfl) λu β' W' h1 h2 h3=>?_
    rw[<-Q];exact⟨u,β',.jg [.b9 true [],.int .i64 0],_,_,rfl,(by simp(disch:=omega)[rF,oQ,X];rfl),h1,h2,h3⟩
   rw[if_neg X];refine wpIn_seq (A2.step hm z R k3 (x:=.normal) aey λa3 β3 W3 A3=>?_)
   refine wpIn_seq (wpIn_seq (A3.step hm z R k4 (x:=.normal) (aex (p:=path) (hP path) rfl) λa4 β4 W4 A4=>?_))
   let⟨β5,E⟩:=A4.jl (i:=2) (sz:=1) ah rfl
   let⟨c,hβ,hbx⟩:=YO (k:=3) (p:=path) E.rel rfl;have Y:((nI path).map enc).length=(nI path).length:=ai
   have hne:nI path≠[]->oQ iN path=none\/(oQ iN path=some ((nI path).map (·.1))/\(nI path).length<=12):=λh0=>by
    unfold oQ;rw[if_neg X];split
    .rename_i h1;exact .inr ⟨rfl,h1.2.1⟩
    .exact .inl rfl
   obtain⟨T0,hT0⟩:∃T0:Array Value->Array Value,T0=λx=>((#[11,12]:Array Tmp).zip x).foldl (λt (p,v)=>t.setIfInBounds p v) a4.tmps:=⟨_,rfl⟩
   have hT:∀x:au×Bool,T0 (enc x)=(a4.tmps.setIfInBounds 11 (.string ⟨x.1.toArray⟩)).setIfInBounds 12 (.bool x.2):=λx=>by rw[hT0];simp[enc]
   have hs4:a4.tmps.size=33:=E.env.1
   refine wpIn_block (ME hm z kb nb E.rel (kb:=3) (c:=c) ⟨_,rfl,_,rfl,hβ⟩ (gf:=T) (lb := #[.pointer (some ⟨c,0,none⟩)]) (Ri hβ (E.env.2 10)) (MW okP)
    (encs:=(nI path).map enc) (DG hm z okP hC hI hbx _ λq hq=>(E.rel.gl q hq).1) (λx U=>by
     obtain⟨y,_,rfl⟩:=cQ.1 U;rfl)
    (λi N=>i<=12/\((nI path).take i).all (Bc iN)=true/\N=LI i (((nI path).take i).map (·.1)))
    (λex N=>ex = .ret/\oQ iN path=none/\∃i l,N=PF i l) 5 rfl
    (λi N H=>by obtain⟨_,_,rfl⟩:=H;simp[LI,DK,AV.okM]) (λex N H=>by obtain⟨_,_,i,l,rfl⟩:=H;simp[PF,DK,AV.okM]) (λp N H=>by cases H.1)
    ⟨af,ai,rfl⟩
    (λi H=>(({tmps:=T0 ((nI path).map enc)[i],defers:=[]}:Act).put (some 5) ((T0 ((nI path).map enc)[i]).getD 11 undef)).put (some 6) ((({tmps:=T0 ((nI path).map enc)[i],defers:=[]}:Act).put (some 5) ((T0 ((nI path).map enc)[i]).getD 11 undef)).tmps.getD 12 undef))
    (λl i H W K hK=>?_) (λi=>e1 (nI path)[i]?) (λi H O' β' W hst L=>?_) (λi N H hI=>?_) (λD W' N β' hD hI R' F' hk=>?_) (λD ex W' N β' hD hne hX R' F' hk=>?_))
   .refine wpIn_seq (Dg rfl ha ?_);refine Dg rfl hb ?_;rw[hT0]at hK;exact hK
   .have G:i<(nI path).length:=by simpa using H
    rw[aH G];have he:((nI path).map enc)[i]=enc (nI path)[i]:=ai
    rw[he,hT];refine⟨by simp[Act.put,hs4],λt=>?_⟩
    obtain⟨x,U⟩:∃x,x=(nI path)[i]:=⟨_,rfl⟩;rw[<-U];obtain⟨v1,D1⟩:∃v1:Value,v1 = .string ⟨x.1.toArray⟩:=⟨_,rfl⟩;rw[<-D1];have m2:VR β' O' W (.ptr 0 0 0 0) (a4.tmps.getD 2 undef):=(E.env.2 2).mono L hst;have m3:VR β' O' W (.ptr 1 0 0 0) (a4.tmps.getD 3 undef):=(E.env.2 3).mono L hst;have m4:VR β' O' W (.ptr 2 0 0 0) (a4.tmps.getD 4 undef):=(E.env.2 4).mono L hst
    show VR β' O' W (if t=2 then .ptr 0 0 0 0 else if t=3 then .ptr 1 0 0 0 else if t=4 then .ptr 2 0 0 0 else if t=5 then .str x.1 else if t=6 then .bool x.2 else .dead) _
    have other:∀t,t≠5->t≠6->t≠11->t≠12->((({tmps:=(a4.tmps.setIfInBounds 11 v1).setIfInBounds 12 (.bool x.2),defers:=[]}:Act).put (some 5) (((a4.tmps.setIfInBounds 11 v1).setIfInBounds 12 (.bool x.2)).getD 11 undef)).put (some 6)
      ((({tmps:=(a4.tmps.setIfInBounds 11 v1).setIfInBounds 12 (.bool x.2),defers:=[]}:Act).put (some 5) (((a4.tmps.setIfInBounds 11 v1).setIfInBounds 12 (.bool x.2)).getD 11 undef)).tmps.getD 12 undef)).tmps.getD t undef=a4.tmps.getD t undef:=λt h1 h2 h3 h4=>by
     simp[Act.put,bD,cH (Ne.symm h1),cH (Ne.symm h2),cH (Ne.symm h3),cH (Ne.symm h4)]
    by_cases t2:t=2
    .rw[if_pos t2,t2,other 2 af af af af];exact m2
    rw[if_neg t2]
    by_cases t3:t=3
    .rw[if_pos t3,t3,other 3 af af af af];exact m3
    rw[if_neg t3]
    by_cases t4:t=4
    .rw[if_pos t4,t4,other 4 af af af af];exact m4
    rw[if_neg t4]
    by_cases t5:t=5
    .rw[if_pos t5,t5]
     have:((({tmps:=(a4.tmps.setIfInBounds 11 v1).setIfInBounds 12 (.bool x.2),defers:=[]}:Act).put (some 5) (((a4.tmps.setIfInBounds 11 v1).setIfInBounds 12 (.bool x.2)).getD 11 undef)).put (some 6)
      ((({tmps:=(a4.tmps.setIfInBounds 11 v1).setIfInBounds 12 (.bool x.2),defers:=[]}:Act).put (some 5) (((a4.tmps.setIfInBounds 11 v1).setIfInBounds 12 (.bool x.2)).getD 11 undef)).tmps.getD 12 undef)).tmps.getD 5 undef=v1:=by
      simp[Act.put,bD,hs4]
     rw[this,D1];exact .pure _ _ (zv _)
    rw[if_neg t5]
    by_cases t6:t=6
    .rw[if_pos t6,t6]
     have:((({tmps:=(a4.tmps.setIfInBounds 11 v1).setIfInBounds 12 (.bool x.2),defers:=[]}:Act).put (some 5) (((a4.tmps.setIfInBounds 11 v1).setIfInBounds 12 (.bool x.2)).getD 11 undef)).put (some 6)
      ((({tmps:=(a4.tmps.setIfInBounds 11 v1).setIfInBounds 12 (.bool x.2),defers:=[]}:Act).put (some 5) (((a4.tmps.setIfInBounds 11 v1).setIfInBounds 12 (.bool x.2)).getD 11 undef)).tmps.getD 12 undef)).tmps.getD 6 undef = .bool x.2:=by
      simp[Act.put,bD,hs4]
     rw[this];exact .pure _ _ (.bool _)
    rw[if_neg t6];exact .dead _
   .have G:i<(nI path).length:=by simpa using H
    obtain⟨S,o,rfl⟩:=hI;rw[aH G];obtain⟨x,U⟩:∃x,x=(nI path)[i]:=⟨_,rfl⟩;have F:(nI path).take (i+1)=(nI path).take i++[x]:=by rw[U];exact cG G
    have O:=Ro (Γ:=Γ) (V:=pO [] 5) (e:=e1 (some (nI path)[i])) (s:=x.1) (b:=x.2) hR rfl rfl rfl (by rw[U];rfl) (by rw[U];rfl) (i:=i) (l:=((nI path).take i).map (·.1)) ak S
    by_cases hg:(x.2&&(iN x.1&&decide (i<12)))=true
    .rw[if_pos hg]at O;simp only[aF,decide_eq_true_eq]at hg;refine⟨_,_,O,λ_=>⟨af,?_,?_⟩,λh0=>absurd rfl h0⟩
     .rw[F,cq,o];simp[Bc,hg.1,hg.2.1]
     .rw[F];simp[LI,jD,mz,kF]
    .rw[if_neg hg]at O;refine⟨_,_,O,λh0=>(by cases h0),λ_=>⟨rfl,?_,i,_,rfl⟩⟩
     unfold oQ;rw[if_neg X,if_neg]
     rintro⟨_,h1,h2⟩
     apply hg;have hgx:Bc iN x=true:=by rw[U];exact aM.1 h2 _ (aP G)
     simp only[Bc,aF]at hgx;have:i<12:=af
     simp[hgx.1,hgx.2,this]
   .obtain⟨S,o,rfl⟩:=hI;rw[Y]at S o;have A6:=E.behind R hD R' F';rw[Y]at A6;let⟨e',ev,g2,g3⟩:=Rm (Γ:=Γ) (V:=λi=>decide (([]:AH).length<=i)) (e:=((((((jJ [AV.str path]).put 2 (.ptr 0 0 0 0)).put 3 (.ptr 1 0 0 0)).put 7 (.str path)).put 8 (.bool (decide (path=[47])))).put 4 (.ptr 2 0 0 0) |>.put 9 (.str path) |>.put 10 (.fn (.func T) [] [.ptr 3 0 0 0]))) rfl rfl rfl (i:=(nI path).length) (l:=((nI path).take (nI path).length).map (·.1))
    refine A6.ja hm z R hk kp (x:=.ret) ev λa' β'' W'' A7 hk7=>?_
    rw[gI]at A7 o
    by_cases hz:nI path=[]
    .rw[hz]at A7;simp only[bt,if_true]at A7;refine A7.HB (x:=.ret) (r:=.jg [.b9 true [],.int .i64 60]) R (bJ E.stay.1 hD) hk7 A (by simp(disch:=omega)[PF,g2,g3]) (.inl rfl) λu β' W' h1 h2 h3=>?_
     rw[<-Q];exact⟨u,β',.jg [.b9 true [],.int .i64 60],_,_,rfl,(by simp(disch:=omega)[rF,oQ,X,hz];rfl),h1,h2,h3⟩
    .have Q3:¬(nI path).length=0:=λh0=>hz (bh h0)
     rw[if_neg Q3]at A7;refine A7.HB (x:=.ret) (r:=.jg [.own 4 (nI path).length 0 (nI path).length,.int .i64 0]) R (bJ E.stay.1 hD) hk7 A (by simp(disch:=omega)[g2,g3]) (.inl rfl) λu β' W' h1 h2 h3=>?_
     rw[<-Q]
     have hsl:oQ iN path=some ((nI path).map (·.1)):=by
      unfold oQ;rw[if_neg X,if_pos ⟨hz,S,o⟩]
     refine⟨u,β',.jg [.own 4 (nI path).length 0 (nI path).length,.int .i64 0],_,?N,rfl,?_,h1,h2,h3⟩
     rotate_left
     simp(disch:=omega)[rF,hsl,X];rfl
   .obtain⟨rfl,hsl,i,l,rfl⟩:=hX;have A6:=E.behind R hD R' F';refine A6.HB (x:=.ret) (r:=.jg [.b9 true [],.int .i64 60]) R (bJ E.stay.1 hD) hk A (by simp(disch:=omega)[PF]) (.inl rfl) λu β' W' h1 h2 h3=>?_
    rw[<-Q];exact⟨u,β',.jg [.b9 true [],.int .i64 60],_,_,rfl,(by simp(disch:=omega)[rF,hsl];rfl),h1,h2,h3⟩
  .cases ok
 .cases ok
def xb(iN:au->Bool):List AV->Option AV
 | [.str path]=>some (rF iN path)
 |_=>none
def Qb(y:P.follows .mixedOrders=true)(n:j3 P Γ){f q o b x v:FuncId}(ok:zw P f q o=true)(l:Hq P b x v=true){iN:au->Bool}
  (F:∀p,Γ.p x [.str p,.str [47]]=some (.jg [.str (lE p),.bool (nK p)])) (E:∀s,Γ.p v [.str s,.int .u8 47]=some (.int .i64 (sY s)))
  (z:∀s,Γ.p o [.str s]=some (.bool (iN s))) (A:∀p h,eT Γ q [.str p] h=some (.fn (.func b) [] [.ptr h.length 0 0 0],h++[.var [.str p]]))
  (args:List AV) (r:AV) (h:AH) (i:xb iN args=some r):ux P f args h r h:=by
 unfold xb at i;split at i
 .cases i;exact Ke y n ok l F E z A _ h
 .cases i
end
end Go.Am.Nm
