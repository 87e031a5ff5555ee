/- Part of the proof that TopPassedCard holds. -/
import Derived.Test.YtaepagegdgdlhaaGreatDoorCrH
set_option linter.all false
namespace Go.Cr
variable{x:Cg}{y:Pg}{l:List Mg}
section
variable{jO:au->Bool}{jD:au->au->Bool}{PS:List au}{w w':Wd}
def mw(m:Mg):Nat:=if m.kind=1 then 4 else if m.kind=2\/m.kind=7 then 3 else if m.kind=4 then 2 else 1
def wt:List Mg->Nat
 | []=>0
 |m::l=>mw m+wt l
def T5:∀a b:List Mg,wt (a++b)=wt a+wt b
 | [],b=>by simp[wt]
 |m::a,b=>by simp[wt,T5 a b];omega
def Po:∀(l:List Mg)(n:Nat),wt (l.take n)<=wt l
 | [],n=>by simp[wt]
 |m::l,0=>by simp[wt]
 |m::l,n+1=>by
  have:=Po l n;simp only[iu,wt];omega
def YW(a l:List Mg):wt (lV a l)<=wt a+wt l:=by
 unfold lV;rw[T5];have:=Po l (200-a.length);omega
def unB(w:Wd)(d:De):Bool:=(cs w d.bo).any λc=>decide (c.de.id=d.id) && !c.sure
def xL{d:De}:unB w d=true↔unsure w d:=by
 unfold unB unsure;rw[fD]
 constructor
 .rintro⟨c,hc,h⟩
  simp only[aH,decide_eq_true_eq,cv]at h;exact⟨c,hc,h.1,h.2⟩
 .rintro⟨c,hc,e,s⟩
  exact⟨c,hc,by simp[e,s]⟩
def U(w:Wd):Nat:=w.jE.countP (unB w)
def Cw{α:Type}{p q:α->Bool}:∀ {l:List α},(∀x∈l,q x=true->p x=true)->∀ {d:α},d∈l->p d=true->q d=false->l.countP q+1<=l.countP p
 | [],_,_,h,_,_=>by cases h
 |a::l,hm,d,hd,h1,h2=>by
  have hm':∀x∈l,q x=true->p x=true:=λx hx=>hm x (bt _ hx)
  have h3:l.countP q<=l.countP p:=jd hm';rw[List.countP_cons,List.countP_cons]
  rcases aP.1 hd with rfl | hd
  .rw[h1,h2];simp;omega
  .have:=Cw hm' hd h1 h2;have h4:q a=true->p a=true:=hm a (bu ..);cases hq:q a with
   |true=>rw[h4 hq];simp;omega
   |false=>cases p a<;>simp<;>omega
def C9{d d':De}(E:CF w w' d x y l)(hx:∀c,x = .set c->c.de.id=d.id)(hne:d'.id≠d.id):(∀j c,c.de.id=d'.id->(c∈cs w' j↔c∈cs w j))/\(∀j,mX w' j d'.id↔mX w j d'.id)/\(∀j,d'.id∈dn w' j↔d'.id∈dn w j):=by
 refine⟨λj c hc=>?_,λj=>?_,λj=>?_⟩
 .rw[E.cs j c];cases x with
  |same=>exact Iff.rfl
  |erase=>exact⟨λh=>h.1,λh=>⟨h,λe=>hne (hc.symm.trans e)⟩⟩
  |set c' =>
   have:=hx c' rfl
   constructor
   .rintro(⟨_,e⟩ | h)
    .grind
    .exact h.1
   grind
 .rw[E.rd j];cases y with
  |same=>exact Iff.rfl
  |ready g=>exact⟨λh=>h.elim id λh=>absurd h.2 hne,.inl⟩
  |CS g=>exact⟨λh=>h.1,λh=>⟨h,λe=>hne e.2⟩⟩
  |Sz g=>exact⟨λh=>h.1,λh=>⟨h,λe=>hne e.2⟩⟩
 .rw[E.dn j];cases y with
  |same=>exact Iff.rfl
  |ready g=>exact Iff.rfl
  |CS g=>exact Iff.rfl
  |Sz g =>
   by_cases e:j=g
   .simp only[if_pos e,aX,aM];exact⟨λh=>h.elim id λh=>absurd h hne,.inl⟩
   .simp only[if_neg e]
def Tr.acR{d:De}{m:Mg}(T:Tr w d m x y l):∀c,x = .set c->c.de=d:=by
 intro c e;cases T with
 |oa c0 _ _ _ h _=>cases e;exact h
 |rC c0 f _ _ _ h _=>cases e;exact h
 |rH c0 f _ _ _ h _=>cases e;exact h
 |_=>cases e
def Tr.CZ{d:De}{m:Mg}(T:Tr w d m x y l):∀c,x = .set c->c.de.id=d.id:=λc e=>by rw[T.acR c e]
def BG{d d':De}{m:Mg}(E:CF w w' d x y l)(T:Tr w d m x y l)(hd:∀d',d'.id=d.id->d'∈w.jE->d'=d)(hd':d'∈w.jE):(unsure w' d'->unsure w d')/\(kz w d'->kz w' d')/\(∀g,d'.id∈dn w g->d'.id∈dn w' g):=by
 by_cases hne:d'.id=d.id
 .have e:=hd d' hne hd';subst e;refine⟨λ⟨c,hc,e,s⟩=>?_,λh c hc e=>?_,λg h=>?_⟩
  .rw[E.cs]at hc;cases T with
   |oa c0 _ _ h1 h2 h3 =>
    rcases hc with⟨_,hc⟩ | hc
    .grind
    grind
   |rC c0 f _ _ h1 h2 h3 =>
    rcases hc with⟨_,hc⟩ | hc
    .exact⟨c0,h1,by rw[h2],h3⟩
    grind
   |rH c0 f _ _ h1 h2 h3 =>
    rcases hc with⟨_,hc⟩ | hc
    .grind
    grind
   |AZ c0 _ _ h1 h2 h3=>exact absurd e hc.2
   |qn c0 _ _ h1 h2 h3 h4=>exact absurd e hc.2
   |_=>exact⟨c,hc,e,s⟩
  .rw[E.cs]at hc;cases T with
   |oa c0 _ _ h1 h2 h3=>exact absurd (by rw[h2]) (h c0 h1)
   |rC c0 f _ _ h1 h2 h3=>exact absurd (by rw[h2]) (h c0 h1)
   |rH c0 f _ _ h1 h2 h3=>exact absurd (by rw[h2]) (h c0 h1)
   |AZ c0 _ _ h1 h2 h3=>exact absurd (by rw[h2]) (h c0 h1)
   |qn c0 _ _ h1 h2 h3 h4=>exact absurd (by rw[h2]) (h c0 h1)
   |_=>exact h c hc e
  .rw[E.dn];cases y with
   |Sz j =>
    by_cases e:g=j
    .grind[List.mem_append_left]
    grind
   |_=>exact h
 .let⟨h1,h2,h3⟩:=C9 E T.CZ hne;refine⟨λ⟨c,hc,e,s⟩=>⟨c,(h1 _ c e).1 hc,e,s⟩,λh c hc e=>h c ((h1 _ c e).1 hc) e,λg h=>(h3 g).2 h⟩
def arS{d:De}{m:Mg}(E:CF w w' d x y l)(T:Tr w d m x y l)(hd:∀d',d'.id=d.id->d'∈w.jE->d'=d):U w'<=U w:=by
 unfold U;rw[E.jE];exact jd λx hx h=>xL.2 ((BG E T hd hx).1 (xL.1 h))
def amD{d:De}{m:Mg}(E:CF w w' d x y l)(T:Tr w d m x y l)(hd:∀d',d'.id=d.id->d'∈w.jE->d'=d)(hdm:d∈w.jE)(h1:unsure w d)(h2:¬unsure w' d):U w'+1<=U w:=by
 unfold U;rw[E.jE];refine Cw (λx hx h=>xL.2 ((BG E T hd hx).1 (xL.1 h))) hdm (xL.2 h1) ?_
 cases h:unB w' d with
 |false=>rfl
 |true=>exact absurd (xL.1 h) h2
def NJ(k:Int)(to id:Int)(n:Nat)(hn:∀g,mw (lF to g k id)<=n):∀l:ay,wt (l.map λg=>lF to g k id)<=n*l.length
 | []=>by simp[wt]
 |g::l=>by
  have h1:=NJ k to id n hn l;have h2:=hn g;simp only[bF,wt,aQ,Nat.mul_add,jx];omega
def ak8{d:De}(h:TT jO PS d):d.jN.length<=4:=by
 have:=qb (A:=d.jN) (B:=[0,1,2,3]) (qX h.up) λx hx=>by
  have:=h.le x hx;have h4:x=0\/x=1\/x=2\/x=3:=aa
  rcases h4 with e | e | e | e<;>simp[e]
 simpa using this
def aic{d:De}{m:Mg}(E:CF w w' d x y l)(T:Tr w d m x y l)(hd:∀d',d'.id=d.id->d'∈w.jE->d'=d)(hdm:d∈w.jE)(h4:d.jN.length<=4):wt l+8*U w'+1<=mw m+8*U w:=by
 have hle:=arS E T hd;have one:∀a b k i,wt [lF a b k i]=mw (lF a b k i):=λa b k i=>by simp[wt]
 have m5:∀a b i,mw (lF a b 5 i)=1:=λa b i=>by simp[mw,lF]
 have m2:∀a b i,mw (lF a b 2 i)=3:=λa b i=>by simp[mw,lF]
 have m3:∀a b i,mw (lF a b 3 i)=1:=λa b i=>by simp[mw,lF]
 have m6:∀a b i,mw (lF a b 6 i)=1:=λa b i=>by simp[mw,lF]
 have m4:∀a b i,mw (lF a b 4 i)=2:=λa b i=>by simp[mw,lF]
 have k1:m.kind=1->mw m=4:=λh=>by simp[mw,h]
 have k2:m.kind=2->mw m=3:=λh=>by simp[mw,h]
 have k3:m.kind=3->mw m=1:=λh=>by simp[mw,h]
 have k4:m.kind=4->mw m=2:=λh=>by simp[mw,h]
 have k5:m.kind=5->mw m=1:=λh=>by simp[mw,h]
 have k6:m.kind=6->mw m=1:=λh=>by simp[mw,h]
 have k7:m.kind=7->mw m=3:=λh=>by simp[mw,h]
 cases T with
 |LH h _ _=>rw[one,m5,k1 h];omega
 |Vc h _ _=>rw[one,m2,k1 h];omega
 |Vb h _ _ _=>rw[one,m3,k1 h];omega
 |G5 h _ _ _=>rw[one,m2,k1 h];omega
 |Dj h _ _=>rw[one,m6,k2 h];omega
 |Di h _ _=>rw[one,m4,k2 h];omega
 |oa c h a1 a2 a3 a4 =>
  have:=amD E (.oa c h a1 a2 a3 a4) hd hdm ⟨c,a2,by rw[a3],a4⟩ (λ⟨c',hc,e,s⟩=>by
   rw[E.cs]at hc
   rcases hc with⟨_,hc⟩ | hc
   .rw[hc]at s;cases s
   .exact hc.2 e)
  have h2:=NJ 4 m.to d.id 2 (λg=>by rw[m4];exact aN _) d.jN
  rw[k2 h];omega
 |rC c f h _ _ _ _=>rw[k2 h];simp only[wt];omega
 |A9 h _ _=>rw[k3 h];simp only[wt];omega
 |AZ c h a1 a2 a3 a4 =>
  have:=amD E (.AZ c h a1 a2 a3 a4) hd hdm ⟨c,a2,by rw[a3],a4⟩ (λ⟨c',hc,e,s⟩=>by
   rw[E.cs]at hc;exact hc.2 e)
  have h2:=NJ 6 m.to d.id 1 (λg=>by rw[m6];exact aN _) d.jN
  rw[k3 h];omega
 |Tg h _ _ _=>rw[one,m5,k4 h];omega
 |MI h _ _=>rw[one,m5,k4 h];omega
 |ET h _ _ _=>rw[k4 h];simp only[wt];omega
 |BH h _ _=>rw[k5 h];simp only[wt];omega
 |qn c h _ _ _ _ _=>rw[k5 h];simp only[wt];omega
 |rH c f h _ _ _ _=>rw[k5 h];simp only[wt];omega
 |RY h _ _ _=>rw[k6 h];simp only[wt];omega
 |Dk h _ _ _=>rw[k6 h];simp only[wt];omega
 |FX h _ _=>rw[one,m6,k7 h];omega
 |FV h _ _=>rw[one,m4,k7 h];omega
 |Yk h _ _=>rw[k7 h];simp only[wt];omega
def Il(H:Inv jO jD PS w){i:Nat}{m:Mg}(hi:w.jQ[i]? = some m)(t:Bool):∃w0,w0=(if t=true then w else tN w i)/\Inv jO jD PS w0/\∃d∈w.jE,m.oU=[d.id]/\∃x y l,Tr w0 d m x y l/\CF w0 (mL jO jD w i t) d x y l:=by
 have hg:=H.ms m (aR hi)
 have e:mL jO jD w i t=v7 jO jD (if t=true then w else tN w i) m:=by
  unfold mL;rw[hi]
 cases t with
 |true =>
  rw[e];simp only[if_true];exact⟨w,rfl,H,QT H hg⟩
 |false =>
  rw[e];simp only[aU,if_false];exact⟨tN w i,rfl,H.ZR i,QT (H.ZR i) (hg.same rfl rfl rfl)⟩
def Inv.uniq(H:Inv jO jD PS w){d:De}(hd:d∈w.jE):∀d',d'.id=d.id->d'∈w.jE->d'=d:=λ_ e h=>H.Gd h hd e
def Y3(H:Inv jO jD PS w){m:Mg}{r:List Mg}(hw:w.jQ=m::r):wt (mL jO jD w 0 false).jQ+8*U (mL jO jD w 0 false)+1<=wt w.jQ+8*U w:=by
 let⟨w0,e0,H0,d,hd,_,x,y,l,T,E⟩:=Il H (i:=0) (m:=m) (by rw[hw];rfl) false
 simp only[aU,if_false]at e0;have e1:w0.jQ=r:=by rw[e0];simp[tN,hw]
 have e2:U w0=U w:=by rw[e0];rfl
 have KT:d∈w0.jE:=by rw[e0];exact hd
 have:=aic E T (H0.uniq KT) KT (ak8 (H0.de d KT));rw[e2]at this;have h2:=YW w0.jQ l;rw[E.jQ,hw];rw[e1]at h2⊢
 grind[wt]
def HN:∀(n:Nat){w:Wd},Inv jO jD PS w->wt w.jQ+8*U w<=n->(mF jO jD n w).jQ=[]
 |0,w,H,h=>by
  unfold mF;cases hw:w.jQ with
  |nil=>rfl
  |cons m r =>
   have:0<mw m:=by unfold mw;split<;>(try split)<;>(try split)<;>decide
   rw[hw]at h;simp only[wt]at h;omega
 |n+1,w,H,h=>by
  unfold mF;cases hw:w.jQ with
  |nil=>simp[hw]
  |cons m r =>
   rw[if_neg ah]
   have:=Y3 H hw;exact HN n (H.take 0 false) aa
def qM(P:Wd->Prop)(hs:∀w,Inv jO jD PS w->P w->∀m r,w.jQ=m::r->P (mL jO jD w 0 false)):∀(n:Nat){w:Wd},Inv jO jD PS w->P w->P (mF jO jD n w)
 |0,_,_,h=>h
 |n+1,w,H,h=>by
  unfold mF;cases hw:w.jQ with
  |nil=>simpa using h
  |cons m r =>
   rw[if_neg ah]
   exact qM P hs n (H.take 0 false) (hs w H h m r hw)
end
section
variable{jO:au->Bool}{jD:au->au->Bool}{PS:List au}{w w':Wd}
def r8{a l:List Mg}{x:Mg}(h:x∈a):x∈lV a l:=cB _ h
def uz{a l:List Mg}{x:Mg}(hl:a.length+l.length<=200)(h:x∈l):x∈lV a l:=by
 unfold lV;rw[br aa]
 exact dG _ h
def GU(a l:List Mg):(lV a l).length<=a.length+l.length:=by
 unfold lV;simp only[aL,bM];omega
def Q1(d:De)(w:Wd):Prop:=unsure w d->∀g∈d.jN,(∃c∈cs w d.bo,c.de.id=d.id/\g∈c.heard)\/∃m∈w.jQ,m.oU=[d.id]/\((m.kind=1/\m.to=g)\/((m.kind=2\/m.kind=3)/\m.fr=g))
def Q2(d:De)(w:Wd):Prop:=(oh w d/\∀g∈d.jN,(∃c∈cs w d.bo,c.de.id=d.id/\g∈c.heard)\/∃m∈w.jQ,m.oU=[d.id]/\((m.kind=4/\m.to=g)\/(m.kind=5/\m.fr=g)))\/(kz w d/\qP w d)
def Q3(d:De)(w:Wd):Prop:=kz w d/\(∀m∈w.jQ,m.oU=[d.id]->m.kind≠1)/\∀g:Nat,mX w g d.id->∃m∈w.jQ,m.oU=[d.id]/\((m.kind=7/\m.fr=g)\/(m.kind=6/\m.to=g))
structure Pk(w:Wd)(m:Mg)(w':Wd)(d:De)(x:Cg)(y:Pg)(l:List Mg):Prop where
 T:Tr w d m x y l
 E:CF w w' d x y l
 hd:d∈w.jE
 hn:m.oU=[d.id]
def wH(H:Inv jO jD PS w){m:Mg}{r:List Mg}(hw:w.jQ=m::r):∃w0,w0={w with jQ:=r}/\Inv jO jD PS w0/\∃d x y l,Pk w0 m (mL jO jD w 0 false) d x y l:=by
 let⟨w0,e0,H0,d,hd,hn,x,y,l,T,E⟩:=Il H (i:=0) (m:=m) (by rw[hw];rfl) false
 simp only[aU,if_false]at e0;have e1:w0={w with jQ:=r}:=by rw[e0];simp[tN,hw]
 exact⟨w0,e1,H0,d,x,y,l,T,E,by rw[e1];exact hd,hn⟩
def G8{d:De}{x:Cg}{y:Pg}{l:List Mg}(E:CF w w' d x y l)(hx:x = .erase\/∃c,x = .set c/\c.sure=true):¬unsure w' d:=by
 rintro⟨c,hc,e,s⟩
 rw[E.cs]at hc
 rcases hx with rfl | ⟨c0,rfl,h⟩
 .exact hc.2 e
 .rcases hc with⟨_,hc⟩ | hc
  .rw[hc,h]at s;cases s
  .exact hc.2 e
def Zq(H:Inv jO jD PS w){d:De}(hd:d∈w.jE)(Q:Q1 d w){m:Mg}{r:List Mg}(hw:w.jQ=m::r):Q1 d (mL jO jD w 0 false):=by
 let⟨w0,e0,H0,d2,x,y,l,T,E,hd2,hn⟩:=wH H hw;have hr:r.length+1<=200:=by have:=H.wi;rw[hw]at this;simpa using this
 have ew:w0.jQ=r:=by rw[e0]
 have KT:d∈w0.jE:=by rw[e0];exact hd
 generalize mL jO jD w 0 false=w' at E;intro hu' g hg;have hu0:unsure w0 d:=(BG E T (H0.uniq hd2) KT).1 hu';have hu:unsure w d:=by rw[e0]at hu0;exact hu0
 have old:∀m',m'∈r->m'∈w'.jQ:=λm' h=>by rw[E.jQ,ew];exact r8 h
 have new:∀z,l=[z]->z∈w'.jQ:=λz h=>by rw[E.jQ,ew,h];exact uz aj (aM.2 rfl)
 have Qg:=Q hu g hg;rw[hw]at Qg;have Qg:(∃c∈cs w0 d.bo,c.de.id=d.id/\g∈c.heard)\/∃m'∈m::r,m'.oU=[d.id]/\((m'.kind=1/\m'.to=g)\/((m'.kind=2\/m'.kind=3)/\m'.fr=g)):=by rw[e0];exact Qg
 by_cases Br:d.id=d2.id
 .have:=H0.Gd KT hd2 Br;subst this
  rcases Qg with⟨c,hc,e,hh⟩ | ⟨m',hm',hn',hk⟩
  .left;cases T with
   |oa c0 _ _ _ _ _=>exact absurd hu' (G8 E (.inr ⟨_,rfl,rfl⟩))
   |AZ c0 _ _ _ _ _=>exact absurd hu' (G8 E (.inl rfl))
   |qn c0 _ _ _ _ _ _=>exact absurd hu' (G8 E (.inl rfl))
   |rH c0 f _ _ _ _ h=>exact absurd hu' (G8 E (.inr ⟨_,rfl,h⟩))
   |rC c0 f _ _ h1 h2 h3 =>
    have:c=c0:=key_inj (H0.cn _) hc h1 (by rw[e,h2])
    rw[this]at hh;exact⟨_,(E.cs _ _).2 (.inl ⟨rfl,rfl⟩),by rw[h2],oL.2 (.inr hh)⟩
   |_=>exact⟨c,(E.cs _ _).2 hc,e,hh⟩
  .rcases aP.1 hm' with rfl | hm'
   .cases T with
    |LH h _ h2 =>
     let⟨c,hc,e,s⟩:=hu0;have:=(H0.ca _ c hc).un s;rw[H0.Gd (H0.ca _ c hc).de KT e]at this;exact absurd h2 (this.1 _)
    |Vc h _ _=>exact .inr ⟨_,new _ rfl,rfl,.inr ⟨.inl rfl,by rcases hk with hk | hk;exact hk.2;omega⟩⟩
    |Vb h _ _ _=>exact .inr ⟨_,new _ rfl,rfl,.inr ⟨.inr rfl,by rcases hk with hk | hk;exact hk.2;omega⟩⟩
    |G5 h _ _ _=>exact .inr ⟨_,new _ rfl,rfl,.inr ⟨.inl rfl,by rcases hk with hk | hk;exact hk.2;omega⟩⟩
    |Dj _ _ h=>exact absurd hu0 (H0.oM h).2
    |Di _ _ h=>exact absurd hu0 (H0.CV h)
    |oa c0 _ _ _ _ _=>exact absurd hu' (G8 E (.inr ⟨_,rfl,rfl⟩))
    |rC c0 f h _ h1 h2 h3=>exact .inl ⟨_,(E.cs _ _).2 (.inl ⟨rfl,rfl⟩),by rw[h2],oL.2 (.inl (by rcases hk with hk | hk;omega;exact hk.2.symm))⟩
    |A9 _ _ h =>
     rcases h with h | h
     .exact absurd hu0 (H0.oM h).2
     .exact absurd hu0 (H0.CV h)
    |AZ c0 _ _ _ _ _=>exact absurd hu' (G8 E (.inl rfl))
    |Tg h _ _ _=>omega
    |MI h _ _=>omega
    |ET h _ _ _=>omega
    |BH h _ _=>omega
    |qn c0 h _ _ _ _ _=>omega
    |rH c0 f h _ _ _ _=>omega
    |RY h _ _ _=>omega
    |Dk h _ _ _=>omega
    |FX h _ _=>omega
    |FV h _ _=>omega
    |Yk h _ _=>omega
   .exact .inr ⟨m',old m' hm',hn',hk⟩
 .let⟨f1,f2,f3⟩:=C9 E T.CZ Br
  rcases Qg with⟨c,hc,e,hh⟩ | ⟨m',hm',hn',hk⟩
  .exact .inl ⟨c,(f1 _ c e).2 hc,e,hh⟩
  .rcases aP.1 hm' with rfl | hm'
   .rw[hn]at hn';simp only[dm,and_true]at hn';exact absurd hn'.symm Br
   .exact .inr ⟨m',old m' hm',hn',hk⟩
def Zp (H:Inv jO jD PS w) {d:De} (hd:d∈w.jE) (Q:Q2 d w) {m:Mg} {r:List Mg} (hw:w.jQ=m::r):Q2 d (mL jO jD w 0 false):=by
 let⟨w0,e0,H0,d2,x,y,l,T,E,hd2,hn⟩:=wH H hw;have hr:r.length+1<=200:=by have:=H.wi;rw[hw]at this;simpa using this
 have ew:w0.jQ=r:=by rw[e0]
 have KT:d∈w0.jE:=by rw[e0];exact hd
 generalize mL jO jD w 0 false=w' at E;have hun:=BG E T (H0.uniq hd2) KT;have old:∀m',m'∈r->m'∈w'.jQ:=λm' h=>by rw[E.jQ,ew];exact r8 h
 have new:∀z,l=[z]->z∈w'.jQ:=λz h=>by rw[E.jQ,ew,h];exact uz aj (aM.2 rfl)
 unfold Q2 at Q;rw[hw]at Q;have Q:(oh w0 d/\∀g∈d.jN,(∃c∈cs w0 d.bo,c.de.id=d.id/\g∈c.heard)\/∃m'∈m::r,m'.oU=[d.id]/\((m'.kind=4/\m'.to=g)\/(m'.kind=5/\m'.fr=g)))\/(kz w0 d/\qP w0 d):=by rw[e0];exact Q
 rcases Q with⟨hs,Q⟩ | ⟨hg,ha⟩
 .have Jb := H0.CV hs;have hng : ¬ kz w0 d := λh => (H0.oM h).1 hs
  by_cases Br:d.id=d2.id
  .have := H0.Gd KT hd2 Br;subst this
   by_cases yB:kz w' d
   .right;refine⟨yB,?_⟩;have hall:qP w0 d->qP w' d:=λh g hg=>hun.2.2 _ (h g hg)
    let⟨c,hc,e,s⟩:=hs;cases T with
    |qn c0 _ _ _ _ _ h=>exact hall h
    |oa c0 _ _ h1 h2 h3=>exact absurd ⟨c0,h1,by rw[h2],h3⟩ Jb
    |rC c0 f _ _ h1 h2 h3=>exact absurd ⟨c0,h1,by rw[h2],h3⟩ Jb
    |AZ c0 _ _ h1 h2 h3=>exact absurd ⟨c0,h1,by rw[h2],h3⟩ Jb
    |rH c0 f _ _ h1 h2 h3=>exact absurd (by rw[h2]) (yB _ ((E.cs _ _).2 (.inl ⟨rfl,rfl⟩)))
    |_=>exact absurd e (yB c ((E.cs _ _).2 hc))
   .left;let⟨c,hc,e,s⟩:=hs;refine⟨?_,λg hg=>?_⟩
    .cases T with
     |qn c0 _ _ _ _ _ h=>exact absurd (λz hz ez=>((E.cs _ _).1 hz).2 ez) yB
     |oa c0 _ _ h1 h2 h3=>exact absurd ⟨c0,h1,by rw[h2],h3⟩ Jb
     |rC c0 f _ _ h1 h2 h3=>exact absurd ⟨c0,h1,by rw[h2],h3⟩ Jb
     |AZ c0 _ _ h1 h2 h3=>exact absurd ⟨c0,h1,by rw[h2],h3⟩ Jb
     |rH c0 f _ _ h1 h2 h3=>exact⟨_,(E.cs _ _).2 (.inl ⟨rfl,rfl⟩),by rw[h2],h3⟩
     |_=>exact⟨c,(E.cs _ _).2 hc,e,s⟩
    .rcases Q g hg with⟨c1,hc1,e1,hh⟩ | ⟨m',hm',hn',hk⟩
     .left;cases T with
      |qn c0 _ _ _ _ _ h=>exact absurd (λz hz ez=>((E.cs _ _).1 hz).2 ez) yB
      |oa c0 _ _ h1 h2 h3=>exact absurd ⟨c0,h1,by rw[h2],h3⟩ Jb
      |rC c0 f _ _ h1 h2 h3=>exact absurd ⟨c0,h1,by rw[h2],h3⟩ Jb
      |AZ c0 _ _ h1 h2 h3=>exact absurd ⟨c0,h1,by rw[h2],h3⟩ Jb
      |rH c0 f _ _ h1 h2 h3 =>
       have:c1=c0:=key_inj (H0.cn _) hc1 h1 (by rw[e1,h2])
       rw[this]at hh;exact⟨_,(E.cs _ _).2 (.inl ⟨rfl,rfl⟩),by rw[h2],oL.2 (.inr hh)⟩
      |_=>exact⟨c1,(E.cs _ _).2 hc1,e1,hh⟩
     .rcases aP.1 hm' with rfl | hm'
      .cases T with
       |LH h _ _=>omega
       |Vc h _ _=>omega
       |Vb h _ _ _=>omega
       |G5 h _ _ _=>omega
       |Dj h _ _=>omega
       |Di h _ _=>omega
       |oa c0 h _ _ _ _=>omega
       |rC c0 f h _ _ _ _=>omega
       |A9 h _ _=>omega
       |AZ c0 h _ _ _ _=>omega
       |Tg h _ _ _=>exact .inr ⟨_,new _ rfl,rfl,.inr ⟨rfl,by rcases hk with hk | hk;exact hk.2;omega⟩⟩
       |MI h _ _=>exact .inr ⟨_,new _ rfl,rfl,.inr ⟨rfl,by rcases hk with hk | hk;exact hk.2;omega⟩⟩
       |ET h h1 h2 h3 =>
        have C:=H0.ca _ c hc;have:=(C.su s).1;rw[H0.Gd C.de KT e]at this
        rcases this _ h1 with h4 | h4
        .exact absurd h4 h2
        .exact absurd h4 h3
       |BH _ _ h =>
        rcases h with h | h
        .exact absurd h hng
        .exact absurd h Jb
       |qn c0 _ _ _ _ _ h=>exact absurd (λz hz ez=>((E.cs _ _).1 hz).2 ez) yB
       |rH c0 f h _ h1 h2 h3=>exact .inl ⟨_,(E.cs _ _).2 (.inl ⟨rfl,rfl⟩),by rw[h2],oL.2 (.inl (by rcases hk with hk | hk;omega;exact hk.2.symm))⟩
       |RY h _ _ _=>omega
       |Dk h _ _ _=>omega
       |FX h _ _=>omega
       |FV h _ _=>omega
       |Yk h _ _=>omega
      .exact .inr ⟨m',old m' hm',hn',hk⟩
  .let⟨f1,f2,f3⟩:=C9 E T.CZ Br;let⟨c,hc,e,s⟩:=hs;refine .inl ⟨⟨c,(f1 _ c e).2 hc,e,s⟩,λg hg=>?_⟩
   rcases Q g hg with⟨c,hc,e,hh⟩ | ⟨m',hm',hn',hk⟩
   .exact .inl ⟨c,(f1 _ c e).2 hc,e,hh⟩
   .rcases aP.1 hm' with rfl | hm'
    .rw[hn]at hn';simp only[dm,and_true]at hn';exact absurd hn'.symm Br
    .exact .inr ⟨m',old m' hm',hn',hk⟩
 .exact .inr ⟨hun.2.1 hg,λg hx=>hun.2.2 _ (ha g hx)⟩
def Zo(H:Inv jO jD PS w){d:De}(hd:d∈w.jE)(Q:Q3 d w){m:Mg}{r:List Mg}(hw:w.jQ=m::r):Q3 d (mL jO jD w 0 false):=by
 let⟨w0,e0,H0,d2,x,y,l,T,E,hd2,hn⟩:=wH H hw;have hr:r.length+1<=200:=by have:=H.wi;rw[hw]at this;simpa using this
 have ew:w0.jQ=r:=by rw[e0]
 have KT:d∈w0.jE:=by rw[e0];exact hd
 generalize mL jO jD w 0 false=w' at E;have hun:=BG E T (H0.uniq hd2) KT;have old:∀m',m'∈r->m'∈w'.jQ:=λm' h=>by rw[E.jQ,ew];exact r8 h
 have new:∀z,l=[z]->z∈w'.jQ:=λz h=>by rw[E.jQ,ew,h];exact uz aj (aM.2 rfl)
 have from':∀z,z∈w'.jQ->z∈r\/z∈l:=λz h=>by
  rw[E.jQ,ew]at h;unfold lV at h
  rcases aX.1 h with h | h
  .exact .inl h
  .exact .inr (cm h)
 unfold Q3 at Q;rw[hw]at Q;have Q:kz w0 d/\(∀m'∈m::r,m'.oU=[d.id]->m'.kind≠1)/\∀g:Nat,mX w0 g d.id->∃m'∈m::r,m'.oU=[d.id]/\((m'.kind=7/\m'.fr=g)\/(m'.kind=6/\m'.to=g)):=by rw[e0];exact Q
 let⟨hg,h1,h3⟩:=Q;have Jb:=(H0.oM hg).2;have Mh:=(H0.oM hg).1;refine⟨hun.2.1 hg,λz hz hzn=>?_,λg hr'=>?_⟩
 .rcases from' z hz with h | h
  .exact h1 z (bt _ h) hzn
  .have:z.kind≠1:=by
    cases T with
    |oa c0 _ _ _ _ _ =>
     obtain⟨g,_,rfl⟩:=bx.1 h;show (4:Int)≠1;decide
    |AZ c0 _ _ _ _ _ =>
     obtain⟨g,_,rfl⟩:=bx.1 h;show (6:Int)≠1;decide
    |_=>first | (rw[aM.1 h];simp only[lF];decide) | cases h
   exact this
 .by_cases Br : d.id = d2.id
  .have:=H0.Gd KT hd2 Br;subst this;have ND:m.kind≠1:=h1 m (bu ..) hn;have zV:mX w0 g d.id:=by
    rw[E.rd]at hr';cases T with
    |G5 h _ _ _=>exact absurd h ND
    |Tg _ _ _ _=>exact hr'.1
    |RY _ _ _ _=>exact hr'.1
    |_=>exact hr'
   let⟨m',hm',hn',hk⟩:=h3 g zV
   rcases aP.1 hm' with rfl | hm'
   .cases T with
    |LH h _ _=>omega
    |Vc h _ _=>omega
    |Vb h _ _ _=>omega
    |G5 h _ _ _=>omega
    |Dj h _ _=>omega
    |Di h _ _=>omega
    |oa c0 h _ _ _ _=>omega
    |rC c0 f h _ _ _ _=>omega
    |A9 h _ _=>omega
    |AZ c0 h _ _ _ _=>omega
    |Tg h _ _ _=>omega
    |MI h _ _=>omega
    |ET h _ _ _=>omega
    |BH h _ _=>omega
    |qn c0 h _ _ _ _ _=>omega
    |rH c0 f h _ _ _ _=>omega
    |RY h h5 _ _ =>
     have e:g=m'.to.toNat:=by rcases hk with hk | hk<;>omega
     rw[E.rd]at hr';exact absurd ⟨e,rfl⟩ hr'.2
    |Dk h h5 _ h6 =>
     have e:g=m'.to.toNat:=by rcases hk with hk | hk<;>omega
     rw[e]at zV;exact absurd zV h6
    |FX h _ _=>exact⟨_,new _ rfl,rfl,.inr ⟨rfl,by rcases hk with hk | hk;exact hk.2;omega⟩⟩
    |FV _ _ h=>exact absurd h Mh
    |Yk _ _ h=>exact absurd h Jb
   .exact⟨m',old m' hm',hn',hk⟩
  .let⟨f1,f2,f3⟩:=C9 E T.CZ Br;let⟨m',hm',hn',hk⟩:=h3 g ((f2 g).1 hr')
   rcases aP.1 hm' with rfl | hm'
   .rw[hn]at hn';simp only[dm,and_true]at hn';exact absurd hn'.symm Br
   .exact⟨m',old m' hm',hn',hk⟩
end
section
variable{jO:au->Bool}{jD:au->au->Bool}{PS:List au}{w w':Wd}
def KD(w:Wd)(k:Nat):List Mg:=((w.bs[k]?).map lR).getD []
def Pj(w:Wd)(k:Nat):List Mg:=((w.ps[k]?).map uo).getD []
def pT (H:Inv jO jD PS w) (k:Nat):(KD w k).length<=4*(cs w k).length:=by
 unfold KD;cases hb:w.bs[k]? with
 |none=>exact cH _
 |some b =>
  rw[tT hb];simp only[bJ,bO];unfold lR
  have:∀l:List Ca,(∀c∈l,c.de.jN.length<=4)->((l.map (pM b)).flatten).length<=4*l.length:=by
   intro l
   induction l with
   |nil=>intro _;simp
   |cons c l ih =>
    intro h;have h1:=ih λx hx=>h x (bt _ hx)
    have h2:=h c (bu ..)
    have h3:(pM b c).length<=c.de.jN.length:=by
     unfold pM
     have:∀z:List (Int×au),((z.map λx=>qv b c x.1 x.2).flatten).length<=z.length:=by
      intro z
      induction z with
      |nil=>simp
      |cons x z ih =>
       have h5:(qv b c x.1 x.2).length<=1:=by
        unfold qv;split<;>(try split)<;>simp
       simp only[bF,gO,aL,aQ];omega
     have:=this (c.de.jN.zip c.de.lu);rw[List.length_zip]at this;omega
    simp only[bF,gO,aL,aQ];omega
  refine this b.cases λc hc=>?_
  have C:=H.ca k c (by rw[tT hb];exact hc)
  exact ak8 (H.de _ C.de)
def yc(H:Inv jO jD PS w)(hr:∀p∈PS,jD p p=true)(k:Nat):(Pj w k).length<=PS.length:=by
 unfold Pj;cases hp:w.ps[k]? with
 |none=>exact cH _
 |some p =>
  simp only[bJ,bO];unfold uo;rw[cV];have P:=H.pt k;have h1:=P.ap;have h2:=P.re;rw[vV hp]at h1 h2
  have hin:∀r∈p.ready,r.path∈PS:=λr hr=>by
   let⟨d,hd,_,hz⟩:=h2 r hr;exact((H.de d hd).pa _ (dO hz).2).2
  -- paths that do not clash are unlike
  have:∀(l:List Rd)(S:List au),(l.Pairwise λr s=>jD r.path s.path=false)->(∀r∈l,r.path∈S)->(∀r∈l,jD r.path r.path=true)->l.length<=S.length:=by
   intro l
   induction l with
   |nil=>intro S _ _ _;exact cH _
   |cons r l ih =>
    intro S Z5 hS hrr;rw[bh]at Z5;have hrS:=hS r (bu ..)
    have:=ih (S.erase r.path) Z5.2 (λs hs=>(ic (λe=>by
     have h1:=Z5.1 s hs;have h2:=hrr r (bu ..);rw[e,h2]at h1;cases h1)).2 (hS s (bt _ hs))) λs hs=>hrr s (bt _ hs)
    rw[gE hrS]at this;have:=fM hrS;simp only[aQ];omega
  exact this p.ready PS h1 hin λr hr'=>hr _ (hin r hr')
def wr(w:Wd):ax->List Mg->List Mg
 | [],l=>l
 |g::gs,l=>wr w gs (lV (lV l (KD w g)) (Pj w g))
def NZ(w:Wd):∀(gs:ax)(l:List Mg),(∀g∈gs,g<w.bs.length/\g<w.ps.length)->gs.foldl zv {w with jQ:=l}={w with jQ:=wr w gs l}
 | [],l,_=>rfl
 |g::gs,l,h=>by
  let⟨h1,h2⟩:=h g (bu ..);rw[aT,wr,<-NZ w gs _ λx hx=>h x (bt _ hx)]
  congr 1
  unfold zv KD Pj;simp only[aG h1,aG h2,bJ,bO,kf]
def Ih(w:Wd):∀(gs:ax)(l:List Mg),∀m∈l,m∈wr w gs l
 | [],_,m,h=>h
 |g::gs,l,m,h=>Ih w gs _ m (r8 (r8 h))
def T6(w:Wd):∀(gs:ax)(l:List Mg)(n:Nat),l.length+n<=200->(gs.map λg=>(KD w g).length+(Pj w g).length).sum<=n->∀g∈gs,(∀m∈KD w g,m∈wr w gs l)/\∀m∈Pj w g,m∈wr w gs l
 | [],_,_,_,_,_,h=>by cases h
 |g::gs,l,n,hn,hs,x,hx=>by
  simp only[bF,List.sum_cons]at hs;have h1:=GU l (KD w g);have h2:=GU (lV l (KD w g)) (Pj w g)
  rcases aP.1 hx with rfl | hx
  .exact⟨λm hm=>Ih w gs _ m (r8 (uz aa hm)),λm hm=>Ih w gs _ m (uz aa hm)⟩
  .exact T6 w gs _ (n-((KD w g).length+(Pj w g).length)) aa aa x hx
def T7(w:Wd):∀(a b:ax)(l:List Mg),wr w (a++b) l=wr w b (wr w a l)
 | [],_,_=>rfl
 |g::a,b,l=>by simp only[bK,wr,T7 w a b]
def uE(H:Inv jO jD PS w)(hw:w.jQ=[]):mD jO jD w=mF jO jD 2000 {w with jQ:=wr w [0,1,2,3] []}:=by
 unfold mD;have:w={w with jQ:=[]}:=by rw[<-hw]
 conv=>lhs;rw[this]
 rw[NZ w [0,1,2,3] [] λg hg=>by
  rw[H.lb,H.lp];simp at hg;omega]
def Inv.said(H:Inv jO jD PS w)(hw:w.jQ=[]):Inv jO jD PS {w with jQ:=wr w [0,1,2,3] []}:=by
 have:=H.Sk [0,1,2,3];have e:w={w with jQ:=[]}:=by rw[<-hw]
 rw[e,NZ w [0,1,2,3] [] λg hg=>by
  rw[H.lb,H.lp];simp at hg;omega]at this
 exact this
def arT(w:Wd):U w<=w.jE.length:=List.countP_le_length
def abh:∀l:List Mg,wt l<=4*l.length
 | []=>cH _
 |m::l=>by
  have h1:=abh l;have h2:mw m<=4:=by unfold mw;split<;>(try split)<;>(try split)<;>decide
  simp only[wt,aQ];omega
def vI(H:Inv jO jD PS w)(hd:w.jE.length<=150):(mF jO jD 2000 w).jQ=[]:=by
 refine HN 2000 H ?_;have h1:=abh w.jQ;have h2:=H.wi;have h3:=arT w;omega
def vK(H:Inv jO jD PS w)(m:Mg)(r:List Mg)(hw:w.jQ=m::r):(mL jO jD w 0 false).jE=w.jE:=by
 let⟨w0,e0,H0,d,x,y,l,S⟩:=wH H hw;rw[S.E.jE,e0]
def Ct(n:Nat)(H:Inv jO jD PS w):(mF jO jD n w).jE=w.jE :=
 qM (λv=>v.jE=w.jE) (λv Hv h m r hw=>(vK Hv m r hw).trans h) n H rfl
def vj:∀(gs:ax)(w:Wd),(gs.foldl zv w).jE=w.jE
 | [],_=>rfl
 |g::gs,w=>by
  rw[aT,vj gs];unfold zv;split
  .split<;>rfl
  .rfl
def ry(H:Inv jO jD PS w):(mD jO jD w).jE=w.jE:=by
 unfold mD;rw[Ct 2000 (H.Sk _),vj]
def sC(H:Inv jO jD PS w)(hd:w.jE.length<=150):(mD jO jD w).jQ=[]:=by
 unfold mD;exact vI (H.Sk _) (by rw[vj];exact hd)
def Oj(H:Inv jO jD PS w){d:De}(hd:d∈w.jE)(n:Nat):(unsure (mF jO jD n w) d->unsure w d)/\(kz w d->kz (mF jO jD n w) d)/\(∀g,d.id∈dn w g->d.id∈dn (mF jO jD n w) g):=by
 refine(qM (λv=>d∈v.jE/\(unsure v d->unsure w d)/\(kz w d->kz v d)/\(∀g,d.id∈dn w g->d.id∈dn v g)) (λv Hv h m r hw=>?_) n H ⟨hd,id,id,λ_=>id⟩).2
 let⟨w0,e0,H0,d2,x,y,l,S⟩:=wH Hv hw;have hv0:d∈w0.jE:=by rw[e0];exact h.1
 have hun:=BG S.E S.T (H0.uniq S.hd) hv0;refine⟨by rw[S.E.jE];exact hv0,λhu=>h.2.1 ?_,λhg=>hun.2.1 ?_,λg hg=>hun.2.2 g ?_⟩
 .have:=hun.1 hu;rw[e0]at this;exact this
 .rw[e0];exact h.2.2.1 hg
 .rw[e0];exact h.2.2.2 g hg
def yw(H:Inv jO jD PS w){d:De}(hd:d∈w.jE)(h:∀g∈d.jN,∃c∈cs w d.bo,c.de.id=d.id/\g∈c.heard):kz w d:=by
 intro c hc e;have C:=H.ca _ c hc;have hcd:c.de=d:=H.Gd C.de hd e;have D:=H.de d hd
 have:=qb (A:=d.jN) (B:=c.heard) (qX D.up) λg hg=>by
  let⟨c',CN,e',hh⟩:=h g hg;have:c'=c:=key_inj (H.cn _) CN hc (e'.trans e.symm);rw[<-this];exact hh
 have h2:=C.lt;rw[hcd]at h2;omega
def R9{d:De}(h:unsure w d):¬kz w d:=λhg=>by
 let⟨c,hc,e,_⟩:=h;exact hg c hc e
def RS(H:Inv jO jD PS w){d:De}{c:Ca}(hc:c∈cs w d.bo)(hcd:c.de=d){g:Int}(hg:g∈d.jN)(hh:g∉c.heard)(hd:d∈w.jE):∃m∈KD w d.bo,m.oU=[d.id]/\m.to=g/\(c.sure=false->m.kind=1)/\(c.sure=true->m.kind=4):=by
 unfold KD;cases hb:w.bs[d.bo]? with
 |none=>rw[QS hb]at hc;cases hc
 |some b =>
  rw[tT hb]at hc;simp only[bJ,bO];have hlen:=(H.de d hd).len;let⟨i,hi,e⟩:=dW hg
  have hz:(g,d.lu[i]'aa)∈d.jN.zip d.lu:=by
   rw[<-e];exact aR (i:=i) (by rw[List.getElem?_zip_eq_some];exact⟨aG hi,aG aa⟩)
  have hin:∀z∈qv b c g (d.lu[i]'aa),z∈lR b:=λz OD=>by
   unfold lR;refine fE.2 ⟨_,bx.2 ⟨c,hc,rfl⟩,?_⟩;unfold pM;rw[hcd];exact fE.2 ⟨_,bx.2 ⟨_,hz,rfl⟩,OD⟩
  cases hs:c.sure with
  |true =>
   refine⟨lF b.id g 4 c.de.id,hin _ ?_,by rw[hcd];rfl,rfl,(λh=>by cases h),(λ_=>rfl)⟩
   unfold qv;rw[if_neg hh,if_pos hs];exact aM.2 rfl
  |false =>
   refine⟨yq b.id g c.de.id (d.lu[i]'aa),hin _ ?_,by rw[hcd];rfl,rfl,(λ_=>rfl),(λh=>by cases h)⟩
   unfold qv;rw[if_neg hh,if_neg (by rw[hs];decide)]
   exact aM.2 rfl
def Ln(H:Inv jO jD PS w)(hw:w.jQ=[])(hl:w.jE.length<=150){d:De}(hd:d∈w.jE)(hf:∀m∈KD w d.bo,m∈wr w [0,1,2,3] []):¬unsure (mD jO jD w) d:=by
 have Hs:=H.said hw;rw[uE H hw]
 have Q:Q1 d {w with jQ:=wr w [0,1,2,3] []}:=λhu g hg=>by
  let⟨c,hc,e,s⟩:=hu;have CN:c∈cs w d.bo:=hc;have hcd:c.de=d:=H.Gd (H.ca _ c CN).de hd e
  by_cases hh:g∈c.heard
  .exact .inl ⟨c,hc,e,hh⟩
  .let⟨m,hm,h1,h2,h3,_⟩:=RS H CN hcd hg hh hd;exact .inr ⟨m,hf m hm,h1,.inl ⟨h3 s,h2⟩⟩
 have R:=qM (λv=>d∈v.jE/\Q1 d v) (λv Hv h m r YC=>⟨by rw[vK Hv m r YC];exact h.1,Zq Hv h.1 h.2 YC⟩) 2000 Hs ⟨hd,Q⟩
 have He:=Hs.drain 2000;have hwe:=vI Hs hl;intro hu;refine R9 hu (yw He R.1 λg hg=>?_)
 rcases R.2 hu g hg with h | ⟨m,hm,_⟩
 .exact h
 .rw[hwe]at hm;cases hm
def DM(H:Inv jO jD PS w)(hw:w.jQ=[])(hl:w.jE.length<=150){d:De}(hd:d∈w.jE)(hf:∀m∈KD w d.bo,m∈wr w [0,1,2,3] [])(hs:oh w d):kz (mD jO jD w) d/\qP (mD jO jD w) d:=by
 have Hs:=H.said hw;rw[uE H hw]
 have Q:Q2 d {w with jQ:=wr w [0,1,2,3] []}:=.inl ⟨hs,λg hg=>by
  let⟨c,hc,e,s⟩:=hs;have hcd:c.de=d:=H.Gd (H.ca _ c hc).de hd e
  by_cases hh:g∈c.heard
  .exact .inl ⟨c,hc,e,hh⟩
  .let⟨m,hm,h1,h2,_,h3⟩:=RS H hc hcd hg hh hd;exact .inr ⟨m,hf m hm,h1,.inl ⟨h3 s,h2⟩⟩⟩
 have R:=qM (λv=>d∈v.jE/\Q2 d v) (λv Hv h m r YC=>⟨by rw[vK Hv m r YC];exact h.1,Zp Hv h.1 h.2 YC⟩) 2000 Hs ⟨hd,Q⟩
 have He:=Hs.drain 2000;have hwe:=vI Hs hl
 rcases R.2 with⟨h1,h2⟩ | h
 .have:=yw He R.1 λg hg=>by
   rcases h2 g hg with h | ⟨m,hm,_⟩
   .exact h
   .rw[hwe]at hm;cases hm
  exact absurd h1 (He.oM this).1
 .exact h
def Pp(w:Wd):∀(gs:ax)(l:List Mg),∀m∈wr w gs l,m∈l\/∃g,m∈KD w g\/m∈Pj w g
 | [],_,m,h=>.inl h
 |g::gs,l,m,h=>by
  have sub:∀a b:List Mg,m∈lV a b->m∈a\/m∈b:=λa b h=>by
   unfold lV at h
   rcases aX.1 h with h | h
   .exact .inl h
   .exact .inr (cm h)
  rcases Pp w gs _ m h with h | h
  .rcases sub _ _ h with h | h
   .rcases sub _ _ h with h | h
    .exact .inl h
    .exact .inr ⟨g,.inl h⟩
   .exact .inr ⟨g,.inr h⟩
  .exact .inr h
def N6(H:Inv jO jD PS w)(hw:w.jQ=[])(hl:w.jE.length<=150){d:De}(hd:d∈w.jE)(hf:∀g,g<4->∀m∈Pj w g,m∈wr w [0,1,2,3] [])(hg:kz w d):∀g,¬mX (mD jO jD w) g d.id:=by
 have Hs:=H.said hw;rw[uE H hw];have Q:Q3 d {w with jQ:=wr w [0,1,2,3] []}:=by
  refine⟨hg,λm hm hn=>?_,λg hr=>?_⟩
  .rcases Pp w _ _ m hm with h | ⟨g,h | h⟩
   .cases h
   · -- said again of a case
    unfold KD at h;cases hb:w.bs[g]? with
    |none=>rw[hb]at h;cases h
    |some b =>
     rw[hb]at h;simp only[bJ,bO]at h;unfold lR at h;let⟨l,hl,hm⟩:=fE.1 h;obtain⟨c,hc,rfl⟩:=bx.1 hl;unfold pM at hm;let⟨l,hl,hm⟩:=fE.1 hm;obtain⟨x,hx,rfl⟩:=bx.1 hl;have hcm:c∈cs w g:=by rw[tT hb];exact hc
     have Mo:m.oU=[c.de.id]:=by
      unfold qv at hm;split at hm
      .cases hm
      .split at hm<;>(rw[aM.1 hm];rfl)
     rw[Mo]at hn;simp only[dm,and_true]at hn;have:c.de=d:=H.Gd (H.ca g c hcm).de hd hn;exact absurd hn (hg c (by rw[<-this];exact H.csb hcm))
   .unfold Pj at h;cases hp:w.ps[g]? with
    |none=>rw[hp]at h;cases h
    |some p =>
     rw[hp]at h;simp only[bJ,bO]at h;unfold uo at h;obtain⟨r,_,rfl⟩:=bx.1 h;show (7:Int)≠1;decide
  .have hr':mX w g d.id:=hr;have hg4:g<4:=by
    let⟨r,zV,_⟩:=hr';rw[<-H.lp];cases hp:w.ps[g]? with
    |none=>simp[rd,hp]at zV
    |some p=>exact(aF.1 hp).1
   have Jf:g<w.ps.length:=by rw[H.lp];exact hg4
   have hp:=aG Jf;let⟨r,zV,e⟩:=hr';rw[vV hp]at zV;refine⟨lF w.ps[g].id (r.id.tmod 8) 7 r.id,hf g hg4 _ ?_,by rw[e];rfl,.inl ⟨rfl,H.pi g _ hp⟩⟩
   unfold Pj;rw[hp];simp only[bJ,bO];unfold uo;exact bx.2 ⟨r,zV,rfl⟩
 have R:=qM (λv=>d∈v.jE/\Q3 d v) (λv Hv h m r YC=>⟨by rw[vK Hv m r YC];exact h.1,Zo Hv h.1 h.2 YC⟩) 2000 Hs ⟨hd,Q⟩
 have hwe:=vI Hs hl;intro g hr;let⟨m,hm,_⟩:=R.2.2.2 g hr;rw[hwe]at hm;cases hm
def yK(H:Inv jO jD PS w)(hw:w.jQ=[]){d:De}(hd:d∈w.jE):(unsure (mD jO jD w) d->unsure w d)/\(kz w d->kz (mD jO jD w) d)/\(∀g,d.id∈dn w g->d.id∈dn (mD jO jD w) g):=by
 rw[uE H hw];exact Oj (H.said hw) hd 2000
def Uf{d:De}(h1:¬unsure w d)(h2:¬oh w d):kz w d:=λc hc e=>by
 cases hs:c.sure with
 |true=>exact h2 ⟨c,hc,e,hs⟩
 |false=>exact h1 ⟨c,hc,e,hs⟩
def xD(H:Inv jO jD PS w){k:Nat}(h:∀d∈w.jE,d.bo=k->kz w d):cs w k=[]:=by
 cases hc:cs w k with
 |nil=>rfl
 |cons c l =>
  have hm:c∈cs w k:=by rw[hc];exact bu ..
  have C:=H.ca k c hm;exact absurd rfl (h c.de C.de C.bo c (by rw[C.bo];exact hm))
def Fc(H:Inv jO jD PS w)(k:Nat):(cs w k).length<=16:=by
 cases hb:w.bs[k]? with
 |none=>rw[QS hb];exact cH _
 |some b=>rw[tT hb];exact(H.bi k b hb).2.2
def MS(H:Inv jO jD PS w)(hl:w.jE.length<=150)(hr:∀p∈PS,jD p p=true)(hP:PS.length<=9):
  (∀k,cs (mV jO jD 6 w) k=[])/\(∀k,rd (mV jO jD 6 w) k=[])/\(mV jO jD 6 w).jQ=[]/\(mV jO jD 6 w).jE=w.jE/\∀d∈w.jE,qP (mV jO jD 6 w) d\/Ed (mV jO jD 6 w) d:=by
 obtain⟨w1,e1⟩:∃w1,w1=mD jO jD w:=⟨_,rfl⟩;have H1:Inv jO jD PS w1:=by rw[e1];exact H.round
 have d1:w1.jE=w.jE:=by rw[e1];exact ry H
 have x1:w1.jQ=[]:=by rw[e1];exact sC H hl
 obtain⟨w2,e2⟩:∃w2,w2=mD jO jD w1:=⟨_,rfl⟩;have H2:Inv jO jD PS w2:=by rw[e2];exact H1.round
 have d2:w2.jE=w.jE:=by rw[e2,ry H1,d1]
 have x2:w2.jQ=[]:=by rw[e2];exact sC H1 (by rw[d1];exact hl)
 obtain⟨w3,e3⟩:∃w3,w3=mD jO jD w2:=⟨_,rfl⟩;have H3:Inv jO jD PS w3:=by rw[e3];exact H2.round
 have d3:w3.jE=w.jE:=by rw[e3,ry H2,d2]
 have x3:w3.jQ=[]:=by rw[e3];exact sC H2 (by rw[d2];exact hl)
 obtain⟨w4,e4⟩:∃w4,w4=mD jO jD w3:=⟨_,rfl⟩;have H4:Inv jO jD PS w4:=by rw[e4];exact H3.round
 have d4:w4.jE=w.jE:=by rw[e4,ry H3,d3]
 have x4:w4.jQ=[]:=by rw[e4];exact sC H3 (by rw[d3];exact hl)
 obtain⟨w5,e5⟩:∃w5,w5=mD jO jD w4:=⟨_,rfl⟩;have H5:Inv jO jD PS w5:=by rw[e5];exact H4.round
 have d5:w5.jE=w.jE:=by rw[e5,ry H4,d4]
 have x5:w5.jQ=[]:=by rw[e5];exact sC H4 (by rw[d4];exact hl)
 have akW:mV jO jD 6 w=mD jO jD w5:=by rw[e5,e4,e3,e2,e1];rfl
 -- the first two bosses' messages fit
 have abY:∀v,Inv jO jD PS v->∀k,k<2->∀m∈KD v k,m∈wr v [0,1,2,3] []:=λv Hv k hk m hm=>by
  have:wr v [0,1,2,3] []=wr v [2,3] (wr v [0,1] []):=T7 v [0,1] [2,3] [];rw[this];refine Ih v _ _ m ((T6 v [0,1] [] 200 ah ?_ k aj).1 m hm)
  have a0:=pT Hv 0;have a1:=pT Hv 1;have b0:=yc Hv hr 0;have b1:=yc Hv hr 1;have c0:=Fc Hv 0;have c1:=Fc Hv 1;simp;omega
 -- if they have none, all fit
 have alc:∀v,Inv jO jD PS v->cs v 0=[]->cs v 1=[]->∀k,k<4->(∀m∈KD v k,m∈wr v [0,1,2,3] [])/\∀m∈Pj v k,m∈wr v [0,1,2,3] []:=λv Hv hc0 hc1 k hk=>by
  refine T6 v [0,1,2,3] [] 200 ah ?_ k aj
  have a0:=pT Hv 0;have a1:=pT Hv 1;have a2:=pT Hv 2;have a3:=pT Hv 3;have b0:=yc Hv hr 0;have b1:=yc Hv hr 1;have b2:=yc Hv hr 2;have b3:=yc Hv hr 3;have c2:=Fc Hv 2;have c3:=Fc Hv 3;rw[hc0]at a0;rw[hc1]at a1;simp only[bq]at a0 a1;simp;omega
 have L1:w1.jE.length<=150:=by rw[d1];exact hl
 have L2:w2.jE.length<=150:=by rw[d2];exact hl
 have L3:w3.jE.length<=150:=by rw[d3];exact hl
 have L4:w4.jE.length<=150:=by rw[d4];exact hl
 have L5:w5.jE.length<=150:=by rw[d5];exact hl
 have s2:∀d∈w.jE,d.bo<2->¬unsure w2 d:=λd hd hb=>by
  rw[e2];exact Ln H1 x1 L1 (by rw[d1];exact hd) (abY w1 H1 _ hb)
 have s3:∀d∈w.jE,d.bo<2->kz w3 d:=λd hd hb=>by
  rw[e3]
  by_cases hs:oh w2 d
  .exact(DM H2 x2 L2 (by rw[d2];exact hd) (abY w2 H2 _ hb) hs).1
  .exact(yK H2 x2 (by rw[d2];exact hd)).2.1 (Uf (s2 d hd hb) hs)
 have c30:cs w3 0=[]:=xD H3 λd hd hb=>s3 d (by rw[<-d3];exact hd) aa
 have Rk:cs w3 1=[]:=xD H3 λd hd hb=>s3 d (by rw[<-d3];exact hd) aa
 have bo4:∀d∈w.jE,d.bo<4:=λd hd=>(H.id d hd).2.1
 have s4:∀d∈w.jE,¬unsure w4 d:=λd hd=>by
  rw[e4];exact Ln H3 x3 L3 (by rw[d3];exact hd) (alc w3 H3 c30 Rk _ (bo4 d hd)).1
 have g4:∀d∈w.jE,d.bo<2->kz w4 d:=λd hd hb=>by
  rw[e4];exact(yK H3 x3 (by rw[d3];exact hd)).2.1 (s3 d hd hb)
 have c40:cs w4 0=[]:=xD H4 λd hd hb=>g4 d (by rw[<-d4];exact hd) aa
 have c41:cs w4 1=[]:=xD H4 λd hd hb=>g4 d (by rw[<-d4];exact hd) aa
 have f4:=alc w4 H4 c40 c41
 have s5:∀d∈w.jE,kz w5 d/\∀g,¬mX w5 g d.id:=λd hd=>by
  by_cases hs:oh w4 d
  .have:=DM H4 x4 L4 (by rw[d4];exact hd) (f4 _ (bo4 d hd)).1 hs
   rw[<-e5]at this;refine⟨this.1,λg hg=>?_⟩
   have hg':=hg;let⟨r,zV,e⟩:=hg';let⟨d',hd',e',hz⟩:=(H5.pt g).re r zV;have:d'=d:=H5.Gd hd' (by rw[d5];exact hd) (by rw[e',e])
   subst this;have hgg:=(dO hz).1;have h7:=this.2 _ hgg;simp only[eG]at h7;exact((H5.pt g).di _ h7).2 hg
  .have hg:=Uf (s4 d hd) hs;have:=N6 H4 x4 L4 (by rw[d4];exact hd) (λg hg m hm=>(f4 g hg).2 m hm) hg
   rw[<-e5]at this;exact⟨by rw[e5];exact(yK H4 x4 (by rw[d4];exact hd)).2.1 hg,this⟩
 have c5:∀k,cs w5 k=[]:=λk=>xD H5 λd hd _=>(s5 d (by rw[<-d5];exact hd)).1
 have r5:∀k,rd w5 k=[]:=λk=>by
  cases hk:rd w5 k with
  |nil=>rfl
  |cons r l =>
   have hm:r∈rd w5 k:=by rw[hk];exact bu ..
   let⟨d,hd,e,_⟩:=(H5.pt k).re r hm;exact absurd ⟨r,hm,e.symm⟩ ((s5 d (by rw[<-d5];exact hd)).2 k)
 -- nothing is said any more
 have ag:∀k,KD w5 k=[]:=λk=>by
  have:=pT H5 k;rw[c5]at this
  simpa using this
 have ak:∀k,Pj w5 k=[]:=λk=>by
  unfold Pj;cases hp:w5.ps[k]? with
  |none=>rfl
  |some p =>
   have:=r5 k;rw[vV hp]at this;simp[uo,this]
 have w6:mD jO jD w5=w5:=by
  rw[uE H5 x5];have:wr w5 [0,1,2,3] []=[]:=by simp[wr,ag,ak,AG]
  rw[this];have:({w5 with jQ:=[]}:Wd)=w5:=by rw[<-x5]
  rw[this];unfold mF;rw[x5];rfl
 have fin:mV jO jD 6 w=w5:=akW.trans w6
 have goal:(∀k,cs w5 k=[])/\(∀k,rd w5 k=[])/\w5.jQ=[]/\w5.jE=w.jE/\∀d∈w.jE,qP w5 d\/Ed w5 d :=
  ⟨c5,r5,x5,d5,λd hd=>H5.go d (by rw[d5];exact hd) (s5 d hd).1⟩
 rw[<-fin]at goal;exact goal
end
section
variable{jO:au->Bool}{jD:au->au->Bool}{PS:List au}{w:Wd}
def Tn(H:Inv jO jD PS w){d:De}(hd:d∈w.jE){g0:Nat}(h:d.id∈dn w g0){g:Int}(hg:g∈d.jN):d.id∈dn w g.toNat\/mX w g.toNat d.id:=by
 by_cases h1:unsure w d
 .let⟨c,hc,e,hs⟩:=h1;have K:=H.ca _ c hc;have ed:c.de=d:=H.Gd K.de hd e;have:=(K.un hs).1 g0;rw[ed]at this;exact absurd h this
 .by_cases h2 : oh w d
  .let⟨c,hc,e,hs⟩:=h2;have K:=H.ca _ c hc;have ed:c.de=d:=H.Gd K.de hd e;have:=(K.su hs).1 g (by rw[ed];exact hg)
   rw[ed]at this;exact this.symm
  .rcases H.go d hd (Uf h1 h2)with h3 | h3
   .exact .inl (h3 g hg)
   .exact absurd h (h3 g0)
def O5(H:Inv jO jD PS w){d:De}(hd:d∈w.jE){g0:Nat}(h:d.id∈dn w g0){path:au}(hpa:∀p∈d.lu,p=path)(hp:jO path=true)(hc:jD path path=true){g:Nat}(hg:(g:Int)∈d.jN){p:Pt}(hps:w.ps[g]? = some p):d.id∈dn w g\/nj jO jD p path=true:=by
 rcases Tn H hd h hg with h1 | h1
 .exact .inl h1
 .right;let⟨r,hr,e⟩:=h1;simp only[eG]at hr;let⟨d',hd',e',hz⟩:=(H.pt g).re r hr;have ed:d'=d:=H.Gd hd' hd (e'.trans e);rw[ed]at hz;have hrp:=hpa _ (dO hz).2;rw[vV hps]at hr;unfold nj;rw[hp,eP,fD];exact⟨r,hr,by rw[hrp];exact hc⟩
def pL(w:Wd)(d:De):Nat:=[0,1,2,3].foldl (λ(s:Nat) g=>if d.id∈dn w g then s+1 else s) 0
def MQ(w:Wd)(d:De):∀(l:ax)(s:Nat),l.foldl (λ(s:Nat) g=>if d.id∈dn w g then s+1 else s) s=s+(l.filter λg=>decide (d.id∈dn w g)).length
 | [],s=>rfl
 |g::l,s=>by
  rw[aT,MQ w d l]
  by_cases c:d.id∈dn w g
  .rw[if_pos c,List.filter_cons_of_pos (an c),aQ];omega
  .rw[if_neg c,List.filter_cons_of_neg (an c)]
def GD(w:Wd)(d:De):ay:=([0,1,2,3].filter λg=>decide (d.id∈dn w g)).map λg:Nat=>(g:Int)
def QW(w:Wd)(d:De):pL w d=(GD w d).length:=by
 unfold pL GD;rw[MQ,bE,cV]
def EY(w:Wd)(d:De):(GD w d).Nodup:=by
 have h0:(([0,1,2,3]:ax).map λg:Nat=>(g:Int)).Nodup:=af
 exact(List.filter_sublist.map _).nodup h0
def Xu(H:Inv jO jD PS w){d:De}(hd:d∈w.jE){g:Nat}(h:d.id∈dn w g):(g:Int)∈d.jN:=by
 let⟨⟨x,hx,e,hxg⟩,_⟩:=(H.pt g).di _ h;rw[<-H.Gd hx hd e];exact hxg
def xy(H:Inv jO jD PS w){d:De}(hd:d∈w.jE){g:Nat}:(g:Int)∈GD w d↔d.id∈dn w g:=by
 unfold GD;rw[bx]
 constructor
 .rintro⟨j,hj,e⟩
  have:j=g:=aa
  subst this
  simpa using(cg.1 hj).2
 .intro h;have h4:=(H.de d hd).le _ (Xu H hd h);refine⟨g,cg.2 ⟨?_,an h⟩,rfl⟩
  have:g=0\/g=1\/g=2\/g=3:=aa
  rcases this with e | e | e | e<;>simp[e]
def ML(H:Inv jO jD PS w){d:De}(hd:d∈w.jE):∀x∈GD w d,x∈d.jN:=λx hx=>by
 have hx':=hx;unfold GD at hx;obtain⟨g,_,rfl⟩:=bx.1 hx;exact Xu H hd ((xy H hd).1 hx')
def Fe(H:Inv jO jD PS w){d:De}(hd:d∈w.jE):pL w d=0↔Ed w d:=by
 rw[QW,eH]
 constructor
 .intro h g hg;have:=(xy H hd).2 hg;rw[h]at this;cases this
 .intro h;rw[gW];intro x hx;have hx':=hx;unfold GD at hx;obtain⟨g,_,rfl⟩:=bx.1 hx;exact h g ((xy H hd).1 hx')
def MP(H:Inv jO jD PS w){d:De}(hd:d∈w.jE):pL w d=d.jN.length↔qP w d:=by
 rw[QW];have F9:=qX (H.de d hd).up
 constructor
 .intro h g hg;have h4:=(H.de d hd).le g hg;apply cT;intro hn
  have hx:g∉GD w d:=λhm=>hn (by
   have:g=((g.toNat:Nat):Int):=aa
   rw[this]at hm;exact(xy H hd).1 hm)
  have:=qb (dg.2 ⟨hx,EY w d⟩) (B:=d.jN) λy hy=>by
   rcases aP.1 hy with rfl | hy
   .exact hg
   .exact ML H hd y hy
  simp only[aQ]at this;omega
 .intro h;have e1:=qb (EY w d) (B:=d.jN) (ML H hd)
  have e2:=qb F9 (B:=GD w d) λx hx=>by
   have h4:=(H.de d hd).le x hx;have:x=((x.toNat:Nat):Int):=aa
   rw[this];exact(xy H hd).2 (h x hx)
  omega
def XD(H:Inv jO jD PS w)(hl:w.jE.length<=150)(hr:∀p∈PS,jD p p=true)(hP:PS.length<=9){d:De}(hd:d∈w.jE):pL (mV jO jD 6 w) d=0\/pL (mV jO jD 6 w) d=d.jN.length:=by
 let⟨_,_,_,h4,h5⟩:=MS H hl hr hP;have H':=Inv.calm 6 H;have hd':d∈(mV jO jD 6 w).jE:=by rw[h4];exact hd
 rcases h5 d hd with h | h
 .exact .inr ((MP H' hd').2 h)
 .exact .inl ((Fe H' hd').2 h)
end
end Go.Cr
