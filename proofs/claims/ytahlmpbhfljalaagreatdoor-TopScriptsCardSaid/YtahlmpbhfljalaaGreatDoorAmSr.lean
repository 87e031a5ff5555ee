/- Part of the proof that TopScriptsCard holds. -/
import Derived.Test.YtahlmpbhfljalaaGreatDoorAmSm
import Derived.Test.YtahlmpbhfljalaaGreatDoorAmRp
import Derived.Shelf.Strings.Search3
set_option linter.all false
namespace Go.Am.Sq
open Go.Am Go.Am.Nm Go.RowKit
attribute [local simp] Go.Am.mN Go.Am.sI Go.Am.sJ Go.Am.sK Go.Am.sL Go.Am.sg Go.Am.si Go.Am.sj Go.Am.su Go.Am.sM Go.Am.sN Go.Am.oR Go.Am.oQ Go.Am.oT Go.Am.oS Go.Am.ko Go.Am.jx
def Qq:List AV->Option AV
 | [.str s,.str [c]]=>some (.int .i64 (Lib.indexByte s c))
 |_=>none
open Go.Shelf Go.Proofs in
def Qp{P:Program}{ρ:Ren}(L:Lays.n143 P ρ)(l:jH P (ρ.f 143)){args:List AV}{r:AV}(h:AH)(b:Qq args=some r):nC P (ρ.f 143) args h r h:=by
 unfold Qq at b;split at b
 .rename_i s c;cases b;refine qc l λZ β w vs R hl i=>?_
  match vs,hl with
  | [v,u],_ =>
   have h1:=nP (i 0 _ v rfl rfl);have h2:=nP (i 1 _ u rfl rfl);subst h1 h2;refine⟨_,λ_ _ _=>.pure _ _ (.int _ _),(Any.strings_Index_one L ⟨s.toArray⟩ c w).mono ?_⟩
   rintro e w' ⟨rfl,rfl⟩
   exact⟨rfl,Below.refl _ _⟩
 .cases b
inductive Pcs(c:UInt8):aq->List aq->Prop
 |last {p:aq} (h:Lib.indexByte p c<0):Pcs c p [p]
 |more {p:aq} {l:List aq} (i:Nat) (h:Lib.indexByte p c=i) (hi:i+1<=p.length) (hl:Pcs c (p.drop (i+1)) l):Pcs c p (p.take i::l)
def r0:AC:=.ops (.op (some 9) (.load 1 false (.t 1)) (.op (some 10) (.len true (.t 9)) (.op (some 11) (.bin .eql (.t 10) (.c (.int .i64 0))) (.nil))))
def r5(b:FuncId):AC:=.ops (.op (some 29) (.load 1 false (.t 2)) (.op (some 30) (.load 1 false (.t 1)) (.op (some 31) (.call b [(.t 29),(.t 30)]) (.op (some 7) (.mv (.t 31)) (.nil)))))
def x6:AC:=.seq (.ops (.op (some 32) (.mv (.t 7)) (.op (some 33) (.bin .lss (.t 32) (.c (.int .i64 0))) (.nil)))) (.cond (.t 33) (.exit 2) (.skip))
def r7:AC:=.ops (.op (some 34) (.load 1 false (.t 2)) (.op (some 35) (.mv (.t 7)) (.op (some 36) (.load 1 false (.t 3)) (.op (some 37) (.bin .add (.t 35) (.t 36)) (.op (some 38) (.GR (.t 34) none (some (.t 37))) (.op (some 8) (.mv (.t 38)) (.nil)))))))
def l8:List AI:=[⟨some 39,none,.mv (.t 0)⟩,⟨some 40,none,.mv (.t 8)⟩]
def l8b:List AI:=[⟨some 42,none,.un .not (.t 41)⟩]
def r9:AC:=.ops (.op (some 43) (.load 1 false (.t 2)) (.op (some 44) (.mv (.t 7)) (.op (some 45) (.load 1 false (.t 1)) (.op (some 46) (.len true (.t 45)) (.op (some 47) (.bin .add (.t 44) (.t 46)) (.op (some 48) (.GR (.t 43) (some (.t 47)) none) (.op none (.store 1 (.t 2) (.t 48)) (.nil))))))))
def l10:List AI:=[⟨some 49,none,.mv (.t 0)⟩,⟨some 50,none,.load 1 false (.t 2)⟩]
def L3(P:Program)(f q:FuncId):Bool:=match P.funcs[f]? with
 |some fn=>match fn.body with
  |some (.seq (.seq z (.cond (.tmp 11) _ .skip)) (.seq (.block 2 (.loop (.block 3 (.seq y (.seq r (.seq x (.seq (.seq (.region _ n false) (.cond (.tmp 42) .ret .skip)) v))))))) (.region _ h false))) =>
   decide (fn.ntmps=52)&&(fn.name == "runtime.NumGoroutine")==false&&fn.results.isEmpty&&ir P 52 z r0&&ir P 52 y (r5 q)&&ir P 52 r x6&&ir P 52 x r7&&ir P 52 v r9 &&
   (match n.toList with
    | [l,i,b,o]=>ku P 52 [l,i,b,o] [l,i] l8&&ku P 52 [l,i,b,o] [o] l8b&&b.guard.isNone &&
      decide (b.dst=some 41)&&(match b.op with | .call {callee:=.value (.tmp 39),args,argTypes:=_}=>(match args.toList with | [.tmp 40]=>true | _=>false) | _=>false)
    |_=>false) &&
   (match h.toList with
    | [l,i,b]=>ku P 52 [l,i,b] [l,i] l10&&b.guard.isNone &&
      decide (b.dst=some 51)&&(match b.op with | .call {callee:=.value (.tmp 49),args,argTypes:=_}=>(match args.toList with | [.tmp 50]=>true | _=>false) | _=>false)
    |_=>false)
  |_=>false
 |none=>false
variable{b l i:Nat}
section
variable{P:Program}{Γ:ja}
structure B3(W:World)(c d d2:Nat)(sep:UInt8)(p:aq):Prop where
 box:∃elem,W.heap[c]? = some (.cells #[.string ⟨p.toArray⟩] elem (0,0))
 sp:∃elem fr,W.heap[d]? = some (.cells #[.string ⟨#[sep]⟩] elem fr)
 zr:∃elem fr,W.heap[d2]? = some (.cells #[.int .i64 0] elem fr)
 cd:d≠c
 cd2:d2≠c
 gl:GlW W c
def Z3(W:World)(c d d2:Nat):Nat->Prop:=λb=>b<W.heap.size/\b≠c/\b≠d/\b≠d2/\∀q∈G0,b≠q.1
variable{c d d2:Nat}{sep:UInt8}{p:aq}{W:World}
def B3.lt(h:B3 W c d d2 sep p):c<W.heap.size:=by
 let⟨_,h⟩:=h.box;exact(aH.1 h).1
def aiz(h:Own (Z3 W c d d2) (βi W c) [.var [.str p]] b):b≠d\/d=c:=by
 rcases h with h | ⟨k,h⟩
 .exact .inl h.2.2.1
 .by_cases e:b=d
  .exact .inr (e▸(mR h).2)
  .exact .inl e
def acr(h:Own (Z3 W c d d2) (βi W c) [.var [.str p]] b):b≠d2\/d2=c:=by
 rcases h with h | ⟨k,h⟩
 .exact .inl h.2.2.2.1
 .by_cases e:b=d2
  .exact .inr (e▸(mR h).2)
  .exact .inl e
def mX(x:B3 W c d d2 sep p):Rel (Z3 W c d d2) (βi W c) [.var [.str p]] W:=by
 let⟨⟨elem,A⟩,_,_,F,z,hg⟩:=x;refine⟨λb x=>x.1,λk b l n=>n.2.1 (mR l).2,λi v E=>?_,λi v sz es v' h=>?_,λi X h=>?_,λi j b h1 h2=>by rw[(mR h1).1,(mR h2).1],λq r=>⟨λl=>?_,(hg q r).1⟩⟩
 .simp only[dr]at E;simp only[βi];rw[if_neg aa]
 .cases i with
  |zero=>simp at h
  |succ i=>simp at h
 .cases i with
  |zero =>
   simp only[aS,aP]at h;subst h;refine⟨c,_,elem,(xS W c).trans (by simp[Py,A]),A,rfl,λj y o=>?_⟩
   cases j with
   |zero =>
    simp only[aS,aP]at o;subst o;exact⟨_,rfl,rfl,.pure _ _ (qK p)⟩
   |succ j=>simp at o
  |succ i=>simp at h
 .rcases l with n | ⟨k,l⟩
  .exact n.2.2.2.2 q r rfl
  .exact(hg q r).2 (mR l).2
def Ml{O:ay}{β:iW}{elem:TypeId}{fr:Nat×Nat}{x:AV}{v:Value}(n:¬O b)(i:W.heap[b]? = some (.cells #[v] elem fr))(l:v.oneCell'=true)(hx:mM O W x v):VR β O W (.iw [x]) (.pointer (some ⟨b,0,none⟩)):=by
 refine .iw [x] b 0 (λ_=>v) n (aH.1 i).1 (λj y h=>?_) (λ_ _ _=>l) (λj y h=>?_)
 .cases j with
  |zero=>rw[cell_of_row W b 0 _ elem fr i];rfl
  |succ j=>simp at h
 .cases j with
  |zero =>
   simp only[aS,aP]at h;subst h;exact hx
  |succ j=>simp at h
def e0(l:Nat)(sep:UInt8):Env:=λt=>if t=0 then .fn (.yield l) [] []else if t=1 then .iw [.str [sep]]else if t=2 then .ptr 0 0 0 0 else if t=3 then .iw [.int .i64 0]else .dead
structure Head(l c d d2:Nat)(a:Act):Prop where
 size:a.tmps.size=52
 yld:a.tmps.getD 0 undef = .func (.yield l) #[] #[]
 sp:a.tmps.getD 1 undef = .pointer (some ⟨d,0,none⟩)
 box:a.tmps.getD 2 undef = .pointer (some ⟨c,0,none⟩)
 zr:a.tmps.getD 3 undef = .pointer (some ⟨d2,0,none⟩)
 defers:a.defers=[]
def BM{a:Act}(H:Head l c d d2 a)(b:B3 W c d d2 sep p):iP (Z3 W c d d2) (βi W c) [.var [.str p]] W (e0 l sep) a 52:=by
 refine⟨H.size,λt=>?_⟩
 unfold e0
 by_cases h0:t=0
 .rw[if_pos h0,h0,H.yld];exact HE _
 rw[if_neg h0]
 by_cases h1:t=1
 .rw[if_pos h1,h1,H.sp];let⟨_,_,h⟩:=b.sp;exact Ml (λn=>(aiz n).elim (λh=>h rfl) b.cd) h rfl (by simpa using qK [sep])
 rw[if_neg h1]
 by_cases h2:t=2
 .rw[if_pos h2,h2,H.box];exact .ptr 0 0 0 0 ⟨some c,0,1,1,_⟩ c (xS W c) rfl
 rw[if_neg h2]
 by_cases h3:t=3
 .rw[if_pos h3,h3,H.zr];let⟨_,_,h⟩:=b.zr;exact Ml (λn=>(acr n).elim (λh=>h rfl) b.cd2) h rfl (.int _ _)
 rw[if_neg h3];exact .dead _
def Aq{a:Act}(H:Head l c d d2 a)(b:B3 W c d d2 sep p):At 52 (Z3 W c d d2) (βi W c) [.var [.str p]] W (Z3 W c d d2) [] ⟨e0 l sep,[.var [.str p]]⟩ a (βi W c) W :=
 ⟨mX b,λ_ _ _=>rfl,rfl,rfl,rfl,λ_ _ _ e=>e,jJ.refl _ _,BM H b,H.defers,λ_ h=>h⟩
def Ap{n:World}(q:B3 W c d d2 sep p){s:St}{a:Act}{β':iW}(A:At 52 (Z3 W c d d2) (βi W c) [.var [.str p]] W (Z3 W c d d2) [] s a β' n):W.grownBy n (some c) :=
 ⟨A.os,A.tape,A.output,A.stay.1,λk hk h=>by
  have l:k≠c:=λe=>h (by rw[e])
  by_cases b:Own (Z3 W c d d2) (βi W c) [.var [.str p]] k
  .rcases b with o | ⟨j,b⟩
   .exact A.keep k hk o
   .exact absurd (mR b).2 l
  .exact(A.stay.2 k hk b).1⟩
def B3.grown{l:World}(i:B3 W c d d2 sep p)(hg:W.grownBy l (some c)){q:aq}(n:∃elem,l.heap[c]? = some (.cells #[.string ⟨q.toArray⟩] elem (0,0))):B3 l c d d2 sep q:=by
 have k:∀b,b≠c->b<W.heap.size->l.heap[b]? = W.heap[b]? := λb i hl=>hg.block b hl (λe=>i (by cases e;rfl))
 refine⟨n,?_,?_,i.cd,i.cd2,i.gl.same λq n=>?_⟩
 .let⟨e,f,h⟩:=i.sp;exact⟨e,f,(k d i.cd (aH.1 h).1).trans h⟩
 .let⟨e,f,h⟩:=i.zr;exact⟨e,f,(k d2 i.cd2 (aH.1 h).1).trans h⟩
 .let⟨⟨_,_,_,h,_⟩,o⟩:=i.gl q n;exact k q.1 o (aH.1 h).1
def H6{Z:ay}{β:iW}{q:aq}(R:Rel Z β [.var [.str q]] W){T:TypeId}(b:β 0 0=some ⟨some c,0,1,1,T⟩):∃elem,W.heap[c]? = some (.cells #[.string ⟨q.toArray⟩] elem (0,0)):=(HZ R b).box
def N0{V:aA}{e:Env}{h:AH}{s:UInt8}(h1:e 1 = .iw [.str [s]]):
  eval Γ r0 V (AX×St) (λx s=>some (x,s)) ⟨e,h⟩=some (.normal,⟨((e.put 9 (.str [s])).put 10 (.int .i64 1)).put 11 (.bool false),h⟩):=by
 simp(disch:=omega)[r0,h1]
def Tl{V:aA}{b:FuncId}(l:∀p s,Γ.p b [.str p,.str [s]]=some (.int .i64 (Lib.indexByte p s))){e:Env}{p:aq}{s:UInt8}(h1:e 1 = .iw [.str [s]])(h2:e 2 = .ptr 0 0 0 0):
  ∃e',eval Γ (r5 b) V (AX×St) (λx s=>some (x,s)) ⟨e,[.var [.str p]]⟩=some (.normal,⟨e',[.var [.str p]]⟩)/\e' 0=e 0/\e' 1=e 1/\e' 2=e 2/\e' 3=e 3/\e' 7 = .int .i64 (Lib.indexByte p s):=by
 refine⟨(((e.put 29 (.str p)).put 30 (.str [s])).put 31 (.int .i64 (Lib.indexByte p s))).put 7 (.int .i64 (Lib.indexByte p s)),?_,rfl,rfl,rfl,rfl,rfl⟩;have i:=λh=>vO (Γ:=Γ) (f:=b) (args:=[.str p,.str [s]]) (h:=h) rfl (l p s)
 simp(disch:=omega)[r5,h1,h2,i]
def Tk{V:aA}{e:Env}{h:AH}{n:Int}(i:e 7 = .int .i64 n):
  eval Γ x6 V (AX×St) (λx s=>some (x,s)) ⟨e,h⟩=some (if n<0 then .exit 2 else .normal,⟨(e.put 32 (.int .i64 n)).put 33 (.bool (decide (n<0))),h⟩):=by
 by_cases b:n<0<;>simp(disch:=omega)[x6,i,b]
def aey{V:aA}{e:Env}{p:aq}(h2:e 2 = .ptr 0 0 0 0)(h3:e 3 = .iw [.int .i64 0])(b:e 7 = .int .i64 i)(l:i+1<=p.length)(h:p.length<=1000000):
  ∃e',eval Γ r7 V (AX×St) (λx s=>some (x,s)) ⟨e,[.var [.str p]]⟩=some (.normal,⟨e',[.var [.str p]]⟩)/\e' 0=e 0/\e' 1=e 1/\e' 2=e 2/\e' 3=e 3/\e' 7=e 7/\e' 8 = .str (p.take i):=by
 refine⟨(((((e.put 34 (.str p)).put 35 (.int .i64 i)).put 36 (.int .i64 0)).put 37 (.int .i64 i)).put 38 (.str (p.take i))).put 8 (.str (p.take i)),?_,rfl,rfl,rfl,rfl,rfl,rfl⟩;simp(disch:=omega)[r7,h2,h3,b]
def aeB{e:Env}{h:AH}:∃e',flat Γ l8 ⟨e,h⟩=some ⟨e',h⟩/\e' 0=e 0/\e' 1=e 1/\e' 2=e 2/\e' 3=e 3/\e' 7=e 7/\e' 39=e 0/\e' 40=e 8 :=
 ⟨(e.put 39 (e 0)).put 40 (e 8),by simp[l8,flat,exec,St.put],rfl,rfl,rfl,rfl,rfl,rfl,rfl⟩
def aex{V:aA}{e:Env}{p:aq}{s:UInt8}(h1:e 1 = .iw [.str [s]])(h2:e 2 = .ptr 0 0 0 0)(b:e 7 = .int .i64 i)(l:i+1<=p.length)(h:p.length<=1000000):
  ∃e',eval Γ r9 V (AX×St) (λx s=>some (x,s)) ⟨e,[.var [.str p]]⟩=some (.normal,⟨e',[.var [.str (p.drop (i+1))]]⟩)/\e' 0=e 0/\e' 1=e 1/\e' 2=e 2/\e' 3=e 3:=by
 refine⟨(((((e.put 43 (.str p)).put 44 (.int .i64 i)).put 45 (.str [s])).put 46 (.int .i64 1)).put 47 (.int .i64 (i+1:Nat))).put 48 (.str (p.drop (i+1))),?_,rfl,rfl,rfl,rfl⟩;simp(disch:=omega)[r9,h1,h2,b]
def Xi{e:Env}{p:aq}(h2:e 2 = .ptr 0 0 0 0):∃e',flat Γ l10 ⟨e,[.var [.str p]]⟩=some ⟨e',[.var [.str p]]⟩/\e' 49=e 0/\e' 50 = .str p :=
 ⟨(e.put 49 (e 0)).put 50 (.str p),by simp[l10,flat,exec,St.put,h2,iC,shape,jv],rfl,rfl⟩
end
section
variable{P:Program}{Γ:ja}
def vH(x:aq):Array Value := #[.string ⟨x.toArray⟩]
def e9(l:Nat)(sep:UInt8)(i:Nat):Env:=λt=>if t=0 then .fn (.yield l) [] []else if t=1 then .iw [.str [sep]]else if t=2 then .ptr 0 0 0 0 else if t=3 then .iw [.int .i64 0]else if t=7 then .int .i64 i else .dead
variable{n:Nat}{Z:ay}{β:iW}{h:AH}{w:World}{Zc:ay}{ds:List Deferred}{s:St}{a:Act}{β':iW}{W:World}
def At.Eb(y:P.follows .mixedOrders=true)(o:js P Γ)(A:At n Z β h w Zc ds s a β' W)(R:Rel Z β h w){c:Code}{l:AC}(ok:ir P n c l=true){x:AX}{s1:St}
  (E:eval Γ l (λi=>decide (h.length<=i)) (AX×St) (λx s=>some (x,s)) s=some (x,s1)) (q:aA) (F:∀t∈rD l,q t=true) {m:Nat} {Q:Exit->Act->World->Prop}
  (K:∀b β'' r,At n Z β h w Zc ds s1 b β'' r->iM q a b->Q x.exit' b r):c.wpIn Fence.wide m P Q a W:=by
 refine wpIn_wide.2 (kR y o l c ok E (W:=q) F A.rel A.env λM s' b w' β'' hk G H L v=>?_)
 simp only[aP,Prod.mk.injEq]at hk;obtain⟨rfl,rfl⟩:=hk;exact K b β'' w' (A.next R (λi z=>by simpa using z) G H L v.defers) v
def Ph(t:Nat):Bool:=decide (t≠1/\t≠3)
end
section
variable{P:Program}{Γ:ja}
def L0 (hm : P.follows .mixedOrders = true) (E : js P Γ) {f fX : FuncId} (ok : L3 P f fX = true) (hX : ∀ p s, Γ.p fX [.str p, .str [s]] = some (.int .i64 (Lib.indexByte p s)))
  {sep:UInt8} {path:aq} {full:List aq} (hp:Pcs sep path full) (hlen:path.length<=1000000) {c d y:Nat} {w:World} (hb:B3 w c d y sep path) (Kb:ay) (hKb:∀q∈G0,Kb q.1) (hKd:Kb d) (ajL:Kb y) :
  OY P f #[.pointer (some ⟨d,0,none⟩),.pointer (some ⟨c,0,none⟩),.pointer (some ⟨y,0,none⟩)] (full.map vH) c Kb w:=by
 unfold L3 at ok;split at ok
 .rename_i fn hf;split at ok
  .rename_i R0 D0 R5 X6 R7 id8 U7 R9 adH SE hbody;simp only[aC,decide_eq_true_eq]at ok;let⟨⟨⟨⟨⟨⟨⟨⟨⟨hn,_⟩,hres⟩,k0⟩,k5⟩,k6⟩,k7⟩,k9⟩,k8⟩,k10⟩:=ok;split at k8
   .rename_i o1 o2 o3 o4 SX;simp only[aC,decide_eq_true_eq]at k8;let⟨⟨⟨⟨q1,q2⟩,q3⟩,q4⟩,q5⟩:=k8;split at q5
    .rename_i args ats hop;split at q5
     .rename_i hargs;split at k10
      .rename_i u1 u2 u3 M;simp only[aC,decide_eq_true_eq]at k10;let⟨⟨⟨v1,v3⟩,v4⟩,v5⟩:=k10;split at v5
       .rename_i args2 akN ajm;split at v5
        .rename_i WD;intro l J Jx W hW hsz tJ tX hY h0;have Fq:=hb.lt;have hbW:B3 W c d y sep path:=by
          let⟨⟨elem,h1⟩,⟨e2,f2,h2⟩,⟨e3,f3,h3⟩,h4,h5,hg⟩:=hb;exact⟨⟨elem,(hW c Fq).trans h1⟩,⟨e2,f2,(hW d (aH.1 h2).1).trans h2⟩,⟨e3,f3,(hW y (aH.1 h3).1).trans h3⟩,h4,h5,hg.same λq hq=>hW _ (by let⟨_,_,_,h,_⟩:=(hg q hq).1;exact(aH.1 h).1)⟩
         have hdw:d<w.heap.size:=by let⟨_,_,h⟩:=hb.sp;exact(aH.1 h).1
         have ajy:y<w.heap.size:=by let⟨_,_,h⟩:=hb.zr;exact(aH.1 h).1
         refine callsIn_of_wp_marks hf hbody trivial ?_ rfl;generalize hR:(λ(e:Ending)(U:World)=>(∃v,e = .returned v)/\(J (full.map vH).length U\/Jx U))=R
         have hln:(full.map vH).length=full.length:=ah
         have fin:∀ {a:Act} {U:World} {x:Exit},a.defers=[]->(J full.length U\/Jx U)->(x = .ret\/x = .normal)->bodyPostM Fence.wide 0 P fn R x a U:=λX hJ hx =>
          EY hres X (by rw[<-hR,hln];exact⟨⟨_,rfl⟩,hJ⟩) hx
         have Tt:∀ {e:Env} {p x:aq} {i t t' dst:Nat} {a5:Act} {V0 V5:World} {β5:iW} {o:Oper} {ag:Array Operand} {ty:Array TypeId} {next:Act->World->Prop} {Q:Exit->Act->World->Prop},B3 V0 c d y sep p->
           At 52 (Z3 V0 c d y) (βi V0 c) [.var [.str p]] V0 (Z3 V0 c d y) [] ⟨e,[.var [.str p]]⟩ a5 β5 V5->J i V0->o.op = .call {callee:=.value (.tmp t),args:=ag,argTypes:=ty}->ag = #[.tmp t']->o.dst=some dst->e t = .fn (.yield l) [] []->e t' = .str x->
           (hi:i<full.length)->full[i]=x->(∀b T,(b=true/\J (i+1) T/\B3 T c d y sep p\/b=false/\Jx T)->next (a5.put (some dst) (.bool b)) T)->o.wpIn Fence.wide 0 P a5 V5 next Q:=by
          intro e p x i t t' dst a5 V0 V5 β5 o ag ty next Q r A hJ ho hag ajA h1 h2 hi hx K;have hg5:=Ap r A;have hJ5:J i V5:=tJ i _ _ hJ hg5;have Wh:β5 0 0=some ⟨some c,0,1,1,_⟩:=A.ext _ _ _ (xS _ c);have WA:B3 V5 c d y sep p:=r.grown hg5 (H6 A.rel Wh);have hy:=hY i (by rw[hln];exact hi) V5 hJ5
          have Wp:(full.map vH)[i]'(by rw[hln];exact hi) = #[.string ⟨x.toArray⟩]:=by rw[List.getElem_map,hx];rfl
          rw[Wp]at hy;have c1:a5.tmps.getD t undef = .func (.yield l) #[] #[]:=uL (by rw[<-h1];exact A.env.2 t)
          have c2:a5.tmps.getD t' undef = .string ⟨x.toArray⟩:=nP (by rw[<-h2];exact A.env.2 t')
          have hvs:ag.map a5.eval = #[.string ⟨x.toArray⟩]:=by
           rw[hag];simp[Act.eval,c2]
          refine yB ho (l:=l) (by simpa[Act.eval]using c1) hvs hy (λe U z=>by rcases z with⟨rfl,_⟩ | ⟨rfl,_⟩<;>exact⟨_,rfl⟩) λb T hR3=>?_
          rw[ajA];refine K b T ?_
          rcases hR3 with⟨z,L,Wn⟩ | ⟨z,L⟩
          .refine .inl ⟨by injection z with z;injection z,L,?_⟩
           let⟨⟨elem,h1⟩,⟨e2,f2,h2⟩,⟨e3,f3,h3⟩,h4,h5,hg⟩:=WA;refine⟨⟨elem,(Wn c Fq (.inl rfl)).trans h1⟩,⟨e2,f2,(Wn d hdw (.inr hKd)).trans h2⟩,⟨e3,f3,(Wn y ajy (.inr ajL)).trans h3⟩,h4,h5,hg.same λq hq=>?_⟩
           exact Wn q.1 (by let⟨_,_,_,h,_⟩:=(hb.gl q hq).1;exact(aH.1 h).1) (.inr (hKb q hq))
          .exact .inr ⟨by injection z with z;injection z,L⟩
         have key:∀ {p:aq} {rest:List aq},Pcs sep p rest->p.length<=1000000->∀(i:Nat)(a:Act)(G:World),full.drop i=rest->i<=full.length->Head l c d y a->B3 G c d y sep p->J i G->
           Code.roundsIn Fence.wide 0 P (.block 3 (.seq R5 (.seq X6 (.seq R7 (.seq (.seq (.region id8 U7 false) (.cond (.tmp 42) .ret .skip)) R9))))) (Exit.inBlock 2 (Exit.then ((Code.region adH SE false).wpIn Fence.wide 0 P (bodyPostM Fence.wide 0 P fn R)) (bodyPostM Fence.wide 0 P fn R))) rest.length a G:=by
          intro p rest hP
          induction hP with
          | @last p hneg =>
           intro hpl i a G X hi H r hJ;have N:i<full.length:=by
            have:=congrArg List.length X;simp at this;omega
           have Di:full[i]=p:=by
            rw[bz N]at X;exact(fq X).1
           have adS:i+1=full.length:=by
            have:=congrArg List.length X;simp at this;omega
           show Code.roundsIn Fence.wide 0 P _ _ (0+1) a G;rw[roundsIn_succ];refine wpIn_block (wpIn_seq ?_);let⟨e2,ev2,f0,f1,f2,f3,f7⟩:=Tl (Γ:=Γ) (V:=λi=>decide (1<=i)) hX (e:=e0 l sep) (p:=p) (s:=sep) rfl rfl
           refine(Aq H r).step hm E (mX r) k5 (x:=.normal) ev2 λa2 β2 V2 A2=>?_
           refine wpIn_seq ?_;refine A2.step hm E (mX r) k6 (x:=.exit 2) (by rw[Tk f7,if_pos hneg]) λa3 β3 V3 A3=>?_
           show (Code.region adH SE false).wpIn Fence.wide 0 P (bodyPostM Fence.wide 0 P fn R) a3 V3;refine wpIn_region_list ?_;rw[M];have z2:((e2.put 32 (.int .i64 (Lib.indexByte p sep))).put 33 (.bool (decide (Lib.indexByte p sep<0)))) 2 = .ptr 0 0 0 0:=f2;let⟨e3,ev3,g49,g50⟩:=Xi (Γ:=Γ) (p:=p) z2
           refine oA (Q:=λx a' U=>x = .normal/\∃β',At 52 (Z3 G c d y) (βi G c) [.var [.str p]] G (Z3 G c d y) [] ⟨e3,[.var [.str p]]⟩ a' β' U) (λ⟨_,_,h,_⟩=>by cases h) [u3] ?_ (λch a w h=>by cases h.1)
            [u1,u2] a3 V3 (tM E [u1,u2] l10 ⟨_,[.var [.str p]]⟩ ⟨e3,[.var [.str p]]⟩ a3 V3 β3 (by rw[M];exact v1) (W:=λ_=>true) (λ_ _ _ _=>rfl) ev3 A3.rel A3.env
             λa' w' β' R' F' E' K'=>⟨rfl,β',A3.next (mX r) (V:=λi=>decide (1<=i)) (λi hi=>by simpa using hi) R' F'.Iw E' K'.defers⟩)
           rintro a4 V4 ⟨_,β4,A4⟩
           have v3':u3.guard=none:=by simpa using v3
           unfold wpListIn;rw[if_pos (pq v3')];refine Tt r A4 hJ ajm (cq (ak WD)) v4 (g49.trans f0) g50 N Di λb T S=>?_
           show bodyPostM Fence.wide 0 P fn R .normal _ T;refine fin (by simp[Act.put,A4.defers]) ?_ (.inr rfl)
           rcases S with⟨_,h,_⟩ | ⟨_,h⟩
           .exact .inl (adS▸h)
           .exact .inr h
          | @more p rest k hk hkl akd ih =>
           intro hpl i a G X hi H r hJ;have N:i<full.length:=by
            have:=congrArg List.length X;simp at this;omega
           have Di:full[i]=p.take k:=by
            rw[bz N]at X;exact(fq X).1
           have hd':full.drop (i+1)=rest:=by
            rw[bz N]at X;exact(fq X).2
           show Code.roundsIn Fence.wide 0 P _ _ (rest.length+1) a G;rw[roundsIn_succ];refine wpIn_block (wpIn_seq ?_);let⟨e2,ev2,f0,f1,f2,f3,f7⟩:=Tl (Γ:=Γ) (V:=λi=>decide (1<=i)) hX (e:=e0 l sep) (p:=p) (s:=sep) rfl rfl
           rw[hk]at f7;refine At.Eb hm E (Aq H r) (mX r) k5 (x:=.normal) ev2 Ph (by simp[r5,rD,wr,mz,Ph]) λa2 β2 V2 A2 K2=>?_
           refine wpIn_seq ?_;refine At.Eb hm E A2 (mX r) k6 (x:=.normal) (by rw[Tk f7,if_neg aa]) Ph af λa3 β3 V3 A3 K3=>?_
           refine wpIn_seq ?_;let⟨e4,ev4,g0,g1,g2,g3,g7,g8⟩:=aey (Γ:=Γ) (V:=λi=>decide (1<=i)) (e:=(e2.put 32 (.int .i64 (k:Int))).put 33 (.bool (decide ((k:Int)<0)))) (p:=p) (i:=k) f2 f3 f7 hkl hpl
           refine At.Eb hm E A3 (mX r) k7 (x:=.normal) ev4 Ph af λa4 β4 V4 A4 K4=>?_
           refine wpIn_seq (wpIn_seq ?_);let⟨e5,ev5,m0,m1,m2,m3,m7,m39,m40⟩:=aeB (Γ:=Γ) (e:=e4) (h:=[.var [.str p]]);refine wpIn_region_list ?_;rw[SX]
           refine oA (Q:=λx a' U=>x = .normal/\∃β',At 52 (Z3 G c d y) (βi G c) [.var [.str p]] G (Z3 G c d y) [] ⟨e5,[.var [.str p]]⟩ a' β' U/\iM Ph a4 a') (λ⟨_,_,h,_⟩=>by cases h) [o3,o4] ?_ (λch a w h=>by cases h.1)
            [o1,o2] a4 V4 (tM E [o1,o2] l8 ⟨e4,[.var [.str p]]⟩ ⟨e5,[.var [.str p]]⟩ a4 V4 β4 (by rw[SX];exact q1) (W:=Ph) (by simp[l8,Ph]) ev5 A4.rel A4.env
             λa' w' β' R' F' E' K'=>⟨rfl,β',A4.next (mX r) (V:=λi=>decide (1<=i)) (λi hi=>by simpa using hi) R' F'.Iw E' K'.defers,K'⟩)
           rintro a5 V5 ⟨_,β5,A5,K5⟩
           have KK:iM Ph a a5:=((K2.trans K3).trans K4).trans K5;have q3':o3.guard=none:=by simpa using q3
           have y0:e5 0 = .fn (.yield l) [] []:=(m0.trans g0).trans f0;have y1:e5 1 = .iw [.str [sep]]:=(m1.trans g1).trans f1;have y2:e5 2 = .ptr 0 0 0 0:=(m2.trans g2).trans f2;have y3:e5 3 = .iw [.int .i64 0]:=(m3.trans g3).trans f3;have y7:e5 7 = .int .i64 (k:Int):=(m7.trans g7).trans f7;have Wh:β5 0 0=some ⟨some c,0,1,1,_⟩:=A5.ext _ _ _ (xS _ c);have Xo:∀t v,e5 t=v->VR β5 (Own (Z3 G c d y) β5 [.var [.str p]]) V5 v (a5.tmps.getD t undef):=λt v h=>by rw[<-h];exact A5.env.2 t
           unfold wpListIn;rw[if_pos (pq q3')];refine Tt r A5 hJ hop (cq (ak hargs)) q4 (m39.trans ((g0.trans f0))) (m40.trans g8) N Di λb T S=>?_
           obtain⟨a6,ha6⟩:∃a6,a6=a5.put (some 41) (.bool b):=⟨_,rfl⟩;rw[<-ha6];have s6:a6.tmps.size=52:=by rw[ha6];simp[Act.put,A5.env.1]
           have WL:∀t,t≠41->a6.tmps.getD t undef=a5.tmps.getD t undef:=λt ht=>by
            rw[ha6];simp[Act.put,aO,bO (Ne.symm ht)]
           have GC:a6.tmps.getD 41 undef = .bool b:=by
            rw[ha6];simp[Act.put,aO,A5.env.1]
           show wpListIn Fence.wide 0 P U7 _ ([o4]++[]) a6 T
           refine oA (P:=P) (m:=0) (ops:=U7) (Q:=λx a' U=>x = .normal/\a'.tmps.size=52/\(∀t,t≠42->a'.tmps.getD t undef=a6.tmps.getD t undef)/\a'.tmps.getD 42 undef = .bool (!b)/\a'.defers=[]/\T.grownBy U none)
            (λ⟨_,_,h,_⟩=>by cases h) [] ?_ (λch a w h=>by cases h.1) [o4] a6 T
            (EN q2 GC ⟨rfl,?_,λt ht=>?_,?_,?_,⟨rfl,rfl,rfl,aT _,λ_ _ _=>rfl⟩⟩)
           .rintro a7 Y ⟨_,s7,h7,h42,hd7,O⟩
            have hgc:T.grownBy Y (some c):=⟨O.os,O.tape,O.output,O.size,λk hk _=>O.block k hk ah⟩
            show Code.wpIn Fence.wide 0 P (.cond (.tmp 42) .ret .skip) _ a7 Y
            rcases S with⟨rfl,L,S⟩ | ⟨rfl,L⟩
            .refine wpIn_cond_false (by simpa[Act.eval]using h42) (wpIn_skip ?_)
             have hJ7:J (i+1) Y:=tJ _ _ _ L hgc
             have F:B3 Y c d y sep p:=S.grown hgc (by
              let⟨elem,h1⟩:=S.box;exact⟨elem,(O.block c (aH.1 h1).1 ah).trans h1⟩)
             have g7':∀t,t≠41->t≠42->a7.tmps.getD t undef=a5.tmps.getD t undef:=λt h1 h2=>(h7 t h2).trans (WL t h1)
             have p1:a5.tmps.getD 1 undef = .pointer (some ⟨d,0,none⟩):=(KK.same 1 rfl).trans H.sp;have p3:a5.tmps.getD 3 undef = .pointer (some ⟨y,0,none⟩):=(KK.same 3 rfl).trans H.zr
             have p2:a5.tmps.getD 2 undef = .pointer (some ⟨c,0,none⟩):=by
              let⟨bd,c',h1,h2,h3⟩:=(Xo 2 _ y2).jl;rw[Wh]at h1;cases h1;cases h2;exact h3
             have H7:Head l c d y a7:=⟨s7,(g7' 0 aa aa).trans (uL (Xo 0 _ y0)),(g7' 1 aa aa).trans p1,(g7' 2 aa aa).trans p2,(g7' 3 aa aa).trans p3,hd7⟩
             have A7:At 52 (Z3 Y c d y) (βi Y c) [.var [.str p]] Y (Z3 Y c d y) [] ⟨e9 l sep k,[.var [.str p]]⟩ a7 (βi Y c) Y:=by
              refine⟨mX F,λ_ _ _=>rfl,rfl,rfl,rfl,λ_ _ _ e=>e,jJ.refl _ _,⟨s7,λt=>?_⟩,hd7,λ_ h=>h⟩
              have z:=(BM H7 F).2 t;unfold e0 at z;show VR _ _ _ (if t=0 then .fn (.yield l) [] []else if t=1 then .iw [.str [sep]]else if t=2 then .ptr 0 0 0 0 else if t=3 then .iw [.int .i64 0]else if t=7 then .int .i64 k else .dead) _
              by_cases t0:t=0
              .rw[if_pos t0]at z⊢;exact z
              rw[if_neg t0]at z⊢
              by_cases t1:t=1
              .rw[if_pos t1]at z⊢;exact z
              rw[if_neg t1]at z⊢
              by_cases t2:t=2
              .rw[if_pos t2]at z⊢;exact z
              rw[if_neg t2]at z⊢
              by_cases t3:t=3
              .rw[if_pos t3]at z⊢;exact z
              rw[if_neg t3]at z⊢
              by_cases t7:t=7
              .rw[if_pos t7,t7,g7' 7 aa aa,(Xo 7 _ y7).jF];exact .pure _ _ (.int _ _)
              rw[if_neg t7];exact .dead _
             show Code.wpIn Fence.wide 0 P R9 _ a7 Y;let⟨e8,ev8,f80,f81,f82,f83⟩:=aex (Γ:=Γ) (V:=λi=>decide (1<=i)) (e:=e9 l sep k) (p:=p) (i:=k) (s:=sep) rfl rfl rfl hkl hpl
             refine At.Eb hm E A7 (mX F) k9 (x:=.normal) ev8 Ph af λa8 β8 W8 A8 K8=>?_
             have adI:β8 0 0=some ⟨some c,0,1,1,_⟩:=A8.ext _ _ _ (xS _ c);have aeK:∀t v,e8 t=v->VR β8 (Own (Z3 Y c d y) β8 [.var [.str (p.drop (k+1))]]) W8 v (a8.tmps.getD t undef):=λt v h=>by rw[<-h];exact A8.env.2 t
             have H8:Head l c d y a8:=by
              refine⟨A8.env.1,uL (aeK 0 _ f80),(K8.same 1 rfl).trans H7.sp,?_,(K8.same 3 rfl).trans H7.zr,A8.defers⟩;let⟨bd,c',h1,h2,h3⟩:=(aeK 2 _ f82).jl;rw[adI]at h1;cases h1;cases h2;exact h3
             have hg8:=Ap F A8;exact ih aj (i+1) a8 W8 hd' aa H8 (F.grown hg8 (H6 A8.rel adI)) (tJ _ _ _ hJ7 hg8)
            .refine wpIn_cond_true (by simpa[Act.eval]using h42) (wpIn_ret ?_)
             exact fin (x:=.ret) hd7 (.inr (tX _ _ L hgc)) (.inl rfl)
           .simp[Act.put,s6]
           .simp[Act.put,aO,bO (Ne.symm ht)]
           .simp[Act.put,aO,s6]
           .rw[ha6];simp[Act.put,A5.defers]
         refine wpIn_seq (wpIn_seq ?_);obtain⟨a0,ha0⟩:∃a0:Act,a0={tmps:=(#[Value.func (.yield l) #[] #[]] ++ #[Value.pointer (some ⟨d,0,none⟩),.pointer (some ⟨c,0,none⟩),.pointer (some ⟨y,0,none⟩)])++Array.replicate (fn.ntmps-(#[Value.func (.yield l) #[] #[]] ++ #[Value.pointer (some ⟨d,0,none⟩),.pointer (some ⟨c,0,none⟩),.pointer (some ⟨y,0,none⟩)]).size) undef,defers:=[]}:=⟨_,rfl⟩;have H0:Head l c d y a0:=by
          rw[ha0];refine⟨?_,?_,?_,?_,?_,rfl⟩
          .simp[hn]
          .simp[aO,dw]
          .simp[aO,dw]
          .simp[aO,dw]
          .simp[aO,dw]
         rw[<-ha0];refine At.Eb hm E (Aq H0 hbW) (mX hbW) k0 (x:=.normal) (N0 rfl) Ph af λa1 β1 V1 A1 K1=>?_
         have h11:a1.tmps.getD 11 undef = .bool false:=by
          have:=A1.env.2 11;exact this.lK
         refine wpIn_cond_false (by simpa[Act.eval]using h11) (wpIn_skip ?_)
         refine wpIn_seq (wpIn_block (wpIn_loop_rounds full.length ?_));have adJ:β1 0 0=some ⟨some c,0,1,1,_⟩:=A1.ext _ _ _ (xS _ c);have hg1:=Ap hbW A1;have H1:Head l c d y a1:=by
          refine⟨A1.env.1,uL (A1.env.2 0),(K1.same 1 rfl).trans H0.sp,?_,(K1.same 3 rfl).trans H0.zr,A1.defers⟩;let⟨bd,c',h1,h2,h3⟩:=(A1.env.2 2).jl;rw[adJ]at h1;cases h1;cases h2;exact h3
         exact key hp hlen 0 a1 V1 ah (bp _) H1 (hbW.grown hg1 (H6 A1.rel adJ)) (tJ _ _ _ h0 hg1)
        .cases v5
       .cases v5
      .cases k10
     .cases q5
    .cases q5
   .cases k8
  .cases ok
 .cases ok
end
end Go.Am.Sq
