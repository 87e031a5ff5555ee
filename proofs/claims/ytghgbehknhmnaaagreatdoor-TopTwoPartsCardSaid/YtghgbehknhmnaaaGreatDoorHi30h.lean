/- Part of the proof that TopTwoPartsCard holds. -/
import Derived.Test.YtghgbehknhmnaaaGreatDoorHi30f
set_option linter.all false
namespace Go.Proofs.YtghgbehknhmnaaaGreatDoor
open Go.Am Go.Tr Go.Am.Nm Go.Lib
structure Gt(Γ:jE):Prop where
 p12:∀a,Γ.p 12 a=(en.cz 162).p 12 a
 p38:∀a,Γ.p 38 a=(en.cz 162).p 38 a
 c36:∀a H,eT Γ 36 a H=eT (en.cz 162) 36 a H
def WX(d:Nat):Gt (mG (en.cz 162) 35 OR d):=⟨λa=>DE ah a d,λa=>DE ah a d,λa H=>by
 have h1:=λa=>DE (Γ:=en.cz 162) (F:=OR) (show (36:Nat)≠35 by decide) a d
 have h2:=λa H=>UR (Γ:=en.cz 162) (F:=OR) (show (36:Nat)≠35 by decide) a H d
 unfold eT;simp only[h1,h2]⟩
def Fr(H b:AH):Prop:=∀(j:Nat) cs,j≠7->H[j]? = some (.var cs)->b[j]? = some (.var cs)
def Fr.trans{A B C:AH}(h:Fr A B)(k:Fr B C):Fr A C:=λj cs b h1=>k j cs b (h j cs b h1)
def vp(H Y:AH):Fr H (H++Y):=λj cs _ h=>by
 rw[aJ (aD.1 h).1];exact h
def F0(H:AH)(A:AB)(Y:AH):Fr H (H.set 7 A++Y):=λj cs b h=>by
 rw[aJ (by simpa using(aD.1 h).1),aI (λe=>b e.symm)]
 exact h
def FZ{H:AH}{ob v:Nat}{r:List AV}(i:H[ob]? = some (.row v 1 r))(A B:AB)(Y:AH):Fr H ((H.set ob A++Y).set 7 B):=λj cs l h=>by
 have b:ob≠j:=λe=>by rw[e,h]at i;cases i
 rw[aI (λe=>l e.symm),aJ (by simpa using(aD.1 h).1),aI b]
 exact h
def zI(H:AH)(A:AB):Fr H (H.set 7 A):=λj cs b h=>by
 rw[aI (λe=>b e.symm)]
 exact h
def jV(m i:Nat):(m ||| 2 ^ i).testBit=Li.put m.testBit i:=by
 funext j
 rw[JL];unfold Li.put
 by_cases h:i=j
 .simp[h]
 .have:¬j=i:=λe=>h e.symm
  simp[h,this]
def An:Nat->Nat
 |0=>0
 |e+1=>1+10*An e
def zQ(G:Ir)(Γ:jE)(d:Nat):Prop:=∀(m:Nat)(g:FS)(k q c:Nat)(H:AH) es ob o,Tm G c H q es ob o->c+An (Li.left G.cs.length m.testBit+1)<=100000000000->mF k g->m<2 ^ G.cs.length->k+Li.left G.cs.length m.testBit<=G.K->q+Li.left G.cs.length m.testBit<=100->Li.left G.cs.length m.testBit<d->
 ∃b l n es' h i,eT Γ 35 (Fv g::Un m::EN) H=some (.bool b,l)/\Tm G (c+An (Li.left G.cs.length m.testBit+1)) l n es' h i/\Fr H l/\(b=true↔Li.vT G.cs (Fv g) m.testBit)/\(b=false->n=q)
set_option maxHeartbeats 2000000 in
def r35{G:Ir}(hG:G.Ok){Γ:jE}(hΓ:Gt Γ){d:Nat}(ih:zQ G Γ d){m:Nat}(hm:m<2 ^ G.cs.length){g:FS}{k:Nat}(hg:mF k g)(hk:k+Li.left G.cs.length m.testBit<=G.K)(hd:Li.left G.cs.length m.testBit<=d){q:Nat}(akz:q+Li.left G.cs.length m.testBit<=100)
  {H:AH} {es:List (Int×AV)} {ob:Nat} {bk:Int->Nat} {cn:Nat} (PI:cn+An (Li.left G.cs.length m.testBit)<=100000000000) (T:Tm G cn H q es ob bk) {p:Nat} (hp:H[p]? = some (.var (Fc g))) (L:Nat) (e0:Env) (h1:e0 1=Un m) (h5:e0 5 = .ptr 4 0 0 0) (h6:e0 6 = .ptr 0 0 0 0) (h7:e0 7 = .ptr 7 0 0 0) (h8:e0 8 = .ptr 8 0 0 0) (h9:e0 9 = .ptr p 0 0 0) (FU:e0 26 = .b9 false (G.cs.map Pr)) (N0:e0 27=I (G.cs.length:Int))
  (i:Nat) (hi:i<G.cs.length) (c:JT) (hc:G.cs[i]=c) :
  (∃H' es' Vq bk',Tm G (cn+An (Li.left G.cs.length m.testBit)) H' q es' Vq bk'/\Fr H H'/\mN Γ [28] [(.exit 0,[]),(.ret,[11])] mX e0 L ([I (i:Int)],H)=some (.inl ([I ((i+1:Nat):Int)],H'))/\(Li.SC G.cs (Fv g) m.testBit i c->¬Li.vT G.cs (c.run (Fv g)).1 (Li.put m.testBit i)))\/
  (∃H' q' es' Vq bk',Tm G (cn+An (Li.left G.cs.length m.testBit)) H' q' es' Vq bk'/\Fr H H'/\mN Γ [28] [(.exit 0,[]),(.ret,[11])] mX e0 L ([I (i:Int)],H)=some (.inr (.ret,[.bool true],H'))/\Li.vT G.cs (Fv g) m.testBit):=by
 have hn:G.cs.length<=60:=by have:=hG.n;omega
 have hpl:=xl hn;have hl:=T.len;have g0:=iT T.h0 af
 have g3:=iT T.h3 af
 have g4:=iT T.h4 af
 have g8:=iT T.h8 af
 have ajX:=(aD.1 hp).1;have gp:=iT hp ajX;have l0:0<H.length:=af
 have l3:3<H.length:=af
 have l4:4<H.length:=af
 have l7:7<H.length:=af
 have l8:8<H.length:=af
 have hml:m<18446744073709551616:=af
 have F:=Sm (m:=m) (i:=i) af
 have E:=Ss (i:=i) hml;obtain⟨bm,hb1,WS⟩:=hG.bf i c (by rw[<-hc];exact aH hi)
 have PK:=hG.bl;have hib:i<G.bf.length:=af
 have PL:G.bf[i]=bm:=bB ((aH hib).symm.trans hb1);obtain⟨r,NN,hr2⟩:=Sr (WS.u hn) hml;have hcb:i<1000000:=af
 have O:=Er (i:=i) af
 have hp2:2 ^ i<18446744073709551616:=by have:=xl (n:=i) af;omega
 have P:=Ik hml hp2;rw[show ((2 ^ i:Nat):Int)=(2:Int) ^ i by simp]at P O
 have akV:=T.o9;have ne7:¬ob=7:=af
 have ne8:¬ob=8:=af
 cases HL:m.testBit i with
 |true =>
  rw[HL]at E;refine .inl ⟨_,_,_,_,(T.app (Y:=[.var (Pr c).cells]) rfl).mono af,vp _ _,by simp(disch:=omega)[iZ,mX,h1,FU,N0,hc,F,E],λhM=>?_⟩
  rw[hM.no]at HL;cases HL
 |false =>
 rw[HL]at E
 by_cases hr:r=0
 case neg =>
  refine .inl ⟨_,_,_,_,(T.app (Y:=[.var (Pr c).cells]) rfl).mono af,vp _ _,by simp(disch:=omega)[iZ,mX,h1,h5,FU,N0,hi,hc,g3,g4,F,E,PL,NN,hr,jk],λhM=>?_⟩
  refine absurd (hr2.2 λj hj=>?_) hr
  rw[WS.bit]at hj;simp only[aF,decide_eq_true_eq]at hj;obtain⟨hjn,hj⟩:=hj;unfold preB at hj;rw[aH hjn]at hj;simp only[bC]at hj;cases he:G.cs[j].e with
  |none=>rw[he]at hj;simp at hj
  |some e =>
   rw[he]at hj;simp only[bC,decide_eq_true_eq]at hj;exact hM.pre j _ e (aH hjn) he hj
 have hpre:=hr2.1 hr;have hfr:=(Li.Bv (D:=Dv) G.l).1 c (by rw[<-hG.cs,<-hc];exact aP hi)
 obtain⟨⟨x,hx1,hx2,hx3⟩,hfe⟩:=hfr;have hxl:=(aD.1 hx1).1;have W:G.l[c.b]=x:=(aD.1 hx1).2;have hox:=hG.o x (by rw[<-W];exact aP hxl) hx2
 have hGk:=hG.k;obtain⟨f',Q9,Tp,hD3,hD4⟩:=JS hg af hox
 have hD:Γ.p 12 [Fv g,Ov x.op]=some (.jg [Fv f',Av (Dv x.op (Fv g)).2]):=(hΓ.p12 _).trans (hD4 ah)
 have Q:c.run (Fv g)=Dv x.op (Fv g):=by rw[hx3]
 rw[Q,Q9];generalize hra:(Dv x.op (Fv g)).2=a' at *
 obtain⟨run,cb,ce⟩:=c;simp only at hxl W hfe Q;have M:=Li.Nv (m:=G.cs.length) (s:=m.testBit) hi HL;have hm2:m ||| 2 ^ i<2 ^ G.cs.length:=gE hm (iI ah hi)
 have PM:G.cs[i]? = some ⟨run,cb,ce⟩:=by rw[<-hc];exact aH hi
 have hMp:∀(j:Nat) d e,G.cs[j]? = some d->d.e=some e->e.1<cb->m.testBit j=true:=λj d e hj he hlt=>hpre j (by
  have hjl:=(aD.1 hj).1;rw[WS.bit];unfold preB;rw[hj];simp[hjl,he,hlt])
 cases ce with
 |none =>
  have NY:Li.SC G.cs (Fv g) m.testBit i ⟨run,cb,none⟩:=⟨PM,HL,hMp,λe he=>by cases he⟩
  simp only[Fv,Fc,Sc,Ov,Oc,Av,Ac,aK,aL]at hD
  rcases T.od with⟨rfl,Tg⟩ | ⟨v,rw_,ho9,NP,Tg,hoq⟩
  .have g7:=iT Tg af
   generalize z:mN Γ _ _ mX e0 L _=res;have T2:=T.S2 (Y:=[.var [I cb,I (-1)],.var (Fc f'),.var (Ac a')]) rfl (cb:Int);have KT:=F0 H (.var [.own (H.length+3) 0 0 1]) ([.var [I cb,I (-1)],.var (Fc f'),.var (Ac a')]++[.row 0 1 [I cb]]);obtain⟨b,H3,q3,Oo,S,O6,hC,T3,HO,hb,N⟩:=ih (m ||| 2 ^ i) f' (k+1) _ _ _ _ _ _ T2 (by rw[jV,M];exact PI) Tp hm2 (by rw[jV];omega) (by rw[jV];omega) (by rw[jV];omega)
   rw[jV]at hb;rw[jV,M]at T3;simp only[Fv,Fc,Sc,Ac,Un,EN,aS,bt,bW,Nat.reduceAdd,aK,aL]at hC;cases b with
   |true =>
    simp(disch:=omega)[iZ,mX,h1,h5,h6,h7,h8,h9,FU,N0,hi,hc,g0,g3,g4,g8,gp,F,E,PL,NN,hr,W,hD,g7,O,P,nP,kM,jk,hC]at z;exact .inr ⟨H3,q3,Oo,S,O6,T3,KT.trans HO,z.symm,.step i _ NY (by show Li.vT G.cs (run (Fv g)).1 _;rw[Q,Q9];exact hb.1 rfl)⟩
   |false =>
    have N:=N rfl;subst N
    rcases T3.od with⟨h0,_⟩ | ⟨v3,r3,ho3,A,Z,X⟩
    .omega
    .have VF:7<H3.length:=by have:=T3.len;omega
     have W5:=iT Z VF;have U:=(aD.1 A).1;have HP:=iT A U;simp(disch:=omega)[iZ,mX,h1,h5,h6,h7,h8,h9,FU,N0,hi,hc,g0,g3,g4,g8,gp,F,E,PL,NN,hr,W,hD,g7,O,P,nP,kM,jk,hC,W5,HP]at z;exact .inl ⟨_,Oo,S,O6,T3.pop A X,(KT.trans HO).trans (zI _ _),z.symm,λ_ h=>absurd (hb.2 h) ai⟩
  .have g7:=iT Tg af
   have lob:=(aD.1 NP).1;have gob:=iT NP lob;generalize z:mN Γ _ _ mX e0 L _=res;have T2:=T.S0 NP hoq (Y:=[.var [I cb,I (-1)],.var (Fc f'),.var (Ac a')]) rfl (cb:Int);have KT:=FZ NP (.row (v+1) 1 ((rw_.map I).take q++[I cb])) (.var [.own ob (v+1) 0 (q+1)]) [.var [I cb,I (-1)],.var (Fc f'),.var (Ac a')]
   obtain⟨b,H3,q3,Oo,S,O6,hC,T3,HO,hb,N⟩:=ih (m ||| 2 ^ i) f' (k+1) _ _ _ _ _ _ T2 (by rw[jV,M];exact PI) Tp hm2 (by rw[jV];omega) (by rw[jV];omega) (by rw[jV];omega)
   rw[jV]at hb;rw[jV,M]at T3;simp only[Fv,Fc,Sc,Ac,Un,EN,aK,aL]at hC;cases b with
   |true =>
    simp(disch:=omega)[iZ,mX,h1,h5,h6,h7,h8,h9,FU,N0,hi,hc,g0,g3,g4,g8,gp,F,E,PL,NN,hr,W,hD,g7,gob,O,P,nP,kM,jk,hC]at z;exact .inr ⟨H3,q3,Oo,S,O6,T3,KT.trans HO,z.symm,.step i _ NY (by show Li.vT G.cs (run (Fv g)).1 _;rw[Q,Q9];exact hb.1 rfl)⟩
   |false =>
    have N:=N rfl;subst N
    rcases T3.od with⟨h0,_⟩ | ⟨v3,r3,ho3,A,Z,X⟩
    .omega
    .have VF:7<H3.length:=by have:=T3.len;omega
     have W5:=iT Z VF;have U:=(aD.1 A).1;have HP:=iT A U;simp(disch:=omega)[iZ,mX,h1,h5,h6,h7,h8,h9,FU,N0,hi,hc,g0,g3,g4,g8,gp,F,E,PL,NN,hr,W,hD,g7,gob,O,P,nP,kM,jk,hC,W5,HP]at z;exact .inl ⟨_,Oo,S,O6,T3.pop A X,(KT.trans HO).trans (zI _ _),z.symm,λ_ h=>absurd (hb.2 h) ai⟩
 |some e =>
  obtain⟨t,ea⟩:=e;obtain⟨y,hy1,hy2,hy3⟩:=hfe _ rfl;simp only at hy1 hy3;have hyl:=(aD.1 hy1).1;have Hp:G.l[t]=y:=(aD.1 hy1).2;have hya:=hG.a y (by rw[<-Hp];exact aP hyl) hy2
  obtain⟨rs,hS,hrs⟩:=s38 (n:=162) ah hD3 hya
  have hS:=(hΓ.p38 _).trans hS;simp only[Fv,Fc,Sc,Ov,Oc,Av,Ac,aK,aL]at hD hS;cases rs with
  |false =>
   refine .inl ⟨_,_,_,_,(T.app (Y:=[.var [I cb,I t],.var (Fc f'),.var (Ac a')]) rfl).mono af,vp _ _,by simp(disch:=omega)[iZ,mX,h1,h5,h6,h9,FU,N0,hi,hc,g0,g3,g4,gp,F,E,PL,NN,hr,W,hD,Hp,hS,jk],λhM=>?_⟩
   have:=hM.PT _ rfl;simp only at this;rw[Q,hra,<-hy3]at this;exact absurd (hrs.2 this) ai
  |true =>
   have WU:=hrs.1 rfl
   have NY:Li.SC G.cs (Fv g) m.testBit i ⟨run,cb,some (t,ea)⟩:=⟨PM,HL,hMp,λe he=>by
    cases he;simp only;rw[Q,hra,WU,hy3]⟩
   rcases T.od with⟨rfl,Tg⟩ | ⟨v,rw_,ho9,NP,Tg,hoq⟩
   .have g7:=iT Tg af
    generalize z:mN Γ _ _ mX e0 L _=res;have T2:=T.S2 (Y:=[.var [I cb,I t],.var (Fc f'),.var (Ac a')]) rfl (cb:Int);have KT:=F0 H (.var [.own (H.length+3) 0 0 1]) ([.var [I cb,I t],.var (Fc f'),.var (Ac a')]++[.row 0 1 [I cb]]);obtain⟨b,H3,q3,Oo,S,O6,hC,T3,HO,hb,N⟩:=ih (m ||| 2 ^ i) f' (k+1) _ _ _ _ _ _ T2 (by rw[jV,M];exact PI) Tp hm2 (by rw[jV];omega) (by rw[jV];omega) (by rw[jV];omega)
    rw[jV]at hb;rw[jV,M]at T3;simp only[Fv,Fc,Sc,Ac,Un,EN,aS,bt,bW,Nat.reduceAdd,aK,aL]at hC;cases b with
    |true =>
     simp(disch:=omega)[iZ,mX,h1,h5,h6,h7,h8,h9,FU,N0,hi,hc,g0,g3,g4,g8,gp,F,E,PL,NN,hr,W,hD,Hp,hS,g7,O,P,nP,kM,jk,hC]at z;exact .inr ⟨H3,q3,Oo,S,O6,T3,KT.trans HO,z.symm,.step i _ NY (by show Li.vT G.cs (run (Fv g)).1 _;rw[Q,Q9];exact hb.1 rfl)⟩
    |false =>
     have N:=N rfl;subst N
     rcases T3.od with⟨h0,_⟩ | ⟨v3,r3,ho3,A,Z,X⟩
     .omega
     .have VF:7<H3.length:=by have:=T3.len;omega
      have W5:=iT Z VF;have U:=(aD.1 A).1;have HP:=iT A U;simp(disch:=omega)[iZ,mX,h1,h5,h6,h7,h8,h9,FU,N0,hi,hc,g0,g3,g4,g8,gp,F,E,PL,NN,hr,W,hD,Hp,hS,g7,O,P,nP,kM,jk,hC,W5,HP]at z;exact .inl ⟨_,Oo,S,O6,T3.pop A X,(KT.trans HO).trans (zI _ _),z.symm,λ_ h=>absurd (hb.2 h) ai⟩
   .have g7:=iT Tg af
    have lob:=(aD.1 NP).1;have gob:=iT NP lob;generalize z:mN Γ _ _ mX e0 L _=res;have T2:=T.S0 NP hoq (Y:=[.var [I cb,I t],.var (Fc f'),.var (Ac a')]) rfl (cb:Int);have KT:=FZ NP (.row (v+1) 1 ((rw_.map I).take q++[I cb])) (.var [.own ob (v+1) 0 (q+1)]) [.var [I cb,I t],.var (Fc f'),.var (Ac a')]
    obtain⟨b,H3,q3,Oo,S,O6,hC,T3,HO,hb,N⟩:=ih (m ||| 2 ^ i) f' (k+1) _ _ _ _ _ _ T2 (by rw[jV,M];exact PI) Tp hm2 (by rw[jV];omega) (by rw[jV];omega) (by rw[jV];omega)
    rw[jV]at hb;rw[jV,M]at T3;simp only[Fv,Fc,Sc,Ac,Un,EN,aK,aL]at hC;cases b with
    |true =>
     simp(disch:=omega)[iZ,mX,h1,h5,h6,h7,h8,h9,FU,N0,hi,hc,g0,g3,g4,g8,gp,F,E,PL,NN,hr,W,hD,Hp,hS,g7,gob,O,P,nP,kM,jk,hC]at z;exact .inr ⟨H3,q3,Oo,S,O6,T3,KT.trans HO,z.symm,.step i _ NY (by show Li.vT G.cs (run (Fv g)).1 _;rw[Q,Q9];exact hb.1 rfl)⟩
    |false =>
     have N:=N rfl;subst N
     rcases T3.od with⟨h0,_⟩ | ⟨v3,r3,ho3,A,Z,X⟩
     .omega
     .have VF:7<H3.length:=by have:=T3.len;omega
      have W5:=iT Z VF;have U:=(aD.1 A).1;have HP:=iT A U;simp(disch:=omega)[iZ,mX,h1,h5,h6,h7,h8,h9,FU,N0,hi,hc,g0,g3,g4,g8,gp,F,E,PL,NN,hr,W,hD,Hp,hS,g7,gob,O,P,nP,kM,jk,hC,W5,HP]at z;exact .inl ⟨_,Oo,S,O6,T3.pop A X,(KT.trans HO).trans (zI _ _),z.symm,λ_ h=>absurd (hb.2 h) ai⟩
def l35{G:Ir}(U:G.Ok){Γ:jE}(N:Gt Γ){d:Nat}(ih:zQ G Γ d){m:Nat}(hm:m<2 ^ G.cs.length){g:FS}{k:Nat}(hg:mF k g)(hk:k+Li.left G.cs.length m.testBit<=G.K)(hd:Li.left G.cs.length m.testBit<=d){q:Nat}(v:q+Li.left G.cs.length m.testBit<=100)
  {H:AH} {es:List (Int×AV)} {ob:Nat} {bk:Int->Nat} {M:Nat} (PI:M+10*An (Li.left G.cs.length m.testBit)<=100000000000) (T:Tm G M H q es ob bk) {p:Nat} (W:p≠7) (hp:H[p]? = some (.var (Fc g))) (L:Nat) (e0:Env) (h1:e0 1=Un m) (h5:e0 5 = .ptr 4 0 0 0) (h6:e0 6 = .ptr 0 0 0 0) (h7:e0 7 = .ptr 7 0 0 0) (h8:e0 8 = .ptr 8 0 0 0) (h9:e0 9 = .ptr p 0 0 0) (X:e0 26 = .b9 false (G.cs.map Pr)) (F:e0 27=I (G.cs.length:Int)) :
  ∃y,(∃o r es' b l,Tm G (M+10*An (Li.left G.cs.length m.testBit)) o r es' b l/\Fr H o/\((y=(AX.exit 0,[],o)/\r=q/\∀(i:Nat) c,Li.SC G.cs (Fv g) m.testBit i c->¬Li.vT G.cs (c.run (Fv g)).1 (Li.put m.testBit i))\/(y=(AX.ret,[AV.bool true],o)/\Li.vT G.cs (Fv g) m.testBit)))/\
   iter (mN Γ [28] [(.exit 0,[]),(.ret,[11])] mX e0 L) ([I 0],H)=some y :=
 iQ (f:=mN Γ [28] [(.exit 0,[]),(.ret,[11])] mX e0 L) G.cs.length (λi (x:AH×List (Int×AV)×Nat×(Int->Nat))=>([I (i:Int)],x.1)) (λy=>∃o r es' b l,Tm G (M+10*An (Li.left G.cs.length m.testBit)) o r es' b l/\Fr H o/\((y=(AX.exit 0,[],o)/\r=q/\∀(i:Nat) c,Li.SC G.cs (Fv g) m.testBit i c->¬Li.vT G.cs (c.run (Fv g)).1 (Li.put m.testBit i))\/(y=(AX.ret,[AV.bool true],o)/\Li.vT G.cs (Fv g) m.testBit)))
  (λi x=>Tm G (M+i*An (Li.left G.cs.length m.testBit)) x.1 q x.2.1 x.2.2.1 x.2.2.2/\Fr H x.1/\∀(j:Nat) c,j<i->Li.SC G.cs (Fv g) m.testBit j c->¬Li.vT G.cs (c.run (Fv g)).1 (Li.put m.testBit j))
  (λi x Z ⟨T,E,S⟩=>by
   have hGn:=U.n;have P:(i+1)*An (Li.left G.cs.length m.testBit)<=10*An (Li.left G.cs.length m.testBit):=br _ af
   rw[gL]at P
   rcases r35 U N ih hm hg hk hd v af T (E p _ W hp) L e0 h1 h5 h6 h7 h8 h9 X F i Z _ rfl with⟨o,es',b,l,Y,z,O,hn⟩ | ⟨o,r,es',b,l,Y,z,O,hy⟩
   .refine .inl ⟨(o,es',b,l),⟨by rw[gL,<-cw];exact Y,E.trans z,λj c hj A=>?_⟩,O⟩
    by_cases Q:j=i
    .subst Q;have:=A.at_;rw[aH Z]at this;cases this;exact hn A
    .exact S j c af A
   .exact .inr ⟨_,⟨o,r,es',b,l,Y.mono af,E.trans z,.inr ⟨rfl,hy⟩⟩,O⟩)
  (λx ⟨T,E,S⟩=>⟨_,⟨x.1,q,x.2.1,x.2.2.1,x.2.2.2,T.mono (Nat.add_le_add_left (br _ U.n) _),E,.inl ⟨rfl,rfl,λj c A=>S j c (aD.1 A.at_).1 A⟩⟩,by simp(disch:=omega)[iZ,mX,F]⟩) (aT _) (H,es,ob,bk) ⟨by rw[gu,cI];exact T,λ_ _ _ h=>h,λj c hj=>af⟩
def Ch{G:Ir}(r:G.Ok)(m:Nat):(m &&& G.nd=G.nd)↔Li.Whole G.cs m.testBit:=by
 have b:=r.nd.bit
 constructor
 .intro h i c n l;have q:=(aD.1 n).1;have h1:G.nd.testBit i=true:=by
   rw[b];unfold Gj;rw[n];simp[q,l]
  rw[<-h,gU]at h1;simp only[aF]at h1;exact h1.1
 .intro h;apply iH;intro j;rw[gU];cases o:G.nd.testBit j with
  |false=>simp
  |true =>
   have h2:=o;rw[b]at h2;simp only[aF,decide_eq_true_eq]at h2;obtain⟨hl,l⟩:=h2;unfold Gj at l;rw[aH hl]at l;rw[h j _ (aH hl) l];rfl
def QH{G:Ir}{c:Nat}{H:AH}{q:Nat}{es:List (Int×AV)}{ob:Nat}{z:Int->Nat}(T:Tm G c H q es ob z)(m:Int):∃oP:List FS,(∀x∈oP,mF G.K x/\Y0 G m (Fv x))/\oP.length<=c/\Rd H 10 (ko es m (.b9 true [])) Fc oP:=by
 unfold ko;cases i:es.find? λp=>decide (p.1=m)with
 |none=>exact⟨[],ai,ai,xk H (cs:=Fc) (λ_=>rfl) [] true⟩
 |some p =>
  have o:=bI i;have b:=cL i;simp only[decide_eq_true_eq]at b;obtain⟨w,oP,h,y⟩:=T.ls p o;refine⟨oP,λx n=>?_,y,?_⟩
  .rw[<-b];exact h.d x n
  .have:=US (cs:=Fc) (λ_=>rfl) (l:=oP) h.r
   rw[<-h.v]at this;exact this
def LZ{G:Ir}(hG:G.Ok):∀d,zQ G (mG (en.cz 162) 35 OR d) d
 |0=>λm g k q c H es ob bk T hc hg hm hk hq hd=>af
 |d+1=>λm g k q c H es ob bk T hc hg hm hk hq hd=>by
  have hAn:An (Li.left G.cs.length m.testBit+1)=1+10*An (Li.left G.cs.length m.testBit):=rfl;have ih:=LZ hG d;have hΓ:=WX d;generalize l:eT (mG (en.cz 162) 35 OR (d+1)) 35 _ H=res;rw[ow,b6]at l;obtain⟨Γ,ajQ⟩:∃Γ,Γ=mG (en.cz 162) 35 OR d:=⟨_,rfl⟩;rw[<-ajQ]at ih hΓ l;have hn:G.cs.length<=60:=by have:=hG.n;omega
  have hpl:=xl hn;have hml:m<18446744073709551616:=af
  have aj4:=hG.nd.u hn;have hand:=JM hml aj4;have hl:=T.len;have hGk:=hG.k;have T1:=T.app (Y:=[.var (Fc g)]) rfl;have g2:=iT T.h2 af
  have g1:=iT T.h1 af
  have g6:=iT T.h6 af
  have g5:=iT T.h5 af
  have l1:1<H.length:=af
  have l2:2<H.length:=af
  have l5:5<H.length:=af
  have l6:6<H.length:=af
  by_cases hw:m &&& G.nd=G.nd
  .simp(disch:=omega)[OR,g2,hand,hw,jk]at l;exact⟨true,_,_,_,_,_,l.symm,T1.mono af,vp _ _,by simpa using Li.vT.fin ((Ch hG m).1 hw),ai⟩
  simp(disch:=omega)[OR,g2,g5,g6,hand,jk]at l;have X:H.length≠7:=af
  have W:mF G.K g:=hg.mono af
  obtain⟨oP,hst,hsl,hRd⟩:=QH T1 (m:Int);have hp1:(H++[AB.var (Fc g)])[H.length]? = some (.var (Fc g)):=by rw[aQ af];simp
  obtain⟨Z,hZ,F⟩:=s36 (n:=162) ah W af T1.st hp1 (λx M=>(hst x M).1) af hRd
  have F:=(hΓ.c36 _ _).trans F;simp only[Fc,Sc,aK,aL]at F;cases Q:oP.any (SO g)with
  |true =>
   rw[Q]at F;simp(disch:=omega)[F]at l;obtain⟨x,M,hxs⟩:=ct.1 Q;have he:=Uj W (hst x M).1 af hxs
   have P:=(hst x M).2 m rfl;rw[<-he]at P;exact⟨false,_,_,_,_,_,l.symm,(T.app (Y:=.var (Fc g)::Z) (by rw[bV,hZ];rfl)).mono af,vp _ _,an P,λ_=>rfl⟩
  |false =>
   rw[Q]at F;have T2:=T.app (Y:=.var (Fc g)::Z) (by rw[bV,hZ];rfl)
   have hp2:(H++AB.var (Fc g)::Z)[H.length]? = some (.var (Fc g)):=by rw[aQ af];simp
   simp(disch:=omega)[F,g1,jk]at l;have key:=λL e0=>l35 hG hΓ ih hm hg af af (q:=q) af af T2 X hp2 L e0
   simp only[Fc,Sc,aK,aL]at key;generalize M:iter _ _=oo at l;obtain⟨_,⟨E,q3,z,ob3,S,o,HO,hc⟩,rfl⟩:∃y,_/\oo=some y:=by rw[<-M];exact key _ _ aq aq aq aq aq aq aq aq
   rcases hc with⟨rfl,rfl,hno⟩ | ⟨rfl,hyes⟩
   .have hl3:=o.len;have hp3:=HO _ _ X hp2;have lp3:=(aD.1 hp3).1;have gp3:=iT hp3 lp3;have k6:=iT o.h6 af
    have k5:=iT o.h5 af
    have m5:5<E.length:=af
    have m6:6<E.length:=af
    simp only[Fc,Sc,aK,aL]at gp3
    have hnl:¬Li.vT G.cs (Fv g) m.testBit:=λh=>by
     obtain⟨i,c,h1,h2⟩:=h.cases λh=>hw ((Ch hG m).2 h)
     exact hno i c h1 h2
    have P:Y0 G (m:Int) (Fv g):=λm' hmm=>by
     have:m'=m:=af
     rw[this];exact hnl
    have fin:∀ {H' U v' Vq},res=some (.bool false,H')->Tm G (c+10*An (Li.left G.cs.length m.testBit)+1) H' q3 (kQ z (m:Int) v') Vq U->Fr E H'->∃b H' q' es' Vq U,res=some (.bool b,H')/\Tm G (c+An (Li.left G.cs.length m.testBit+1)) H' q' es' Vq U/\Fr H H'/\(b=true↔Li.vT G.cs (Fv g) m.testBit)/\(b=false->q'=q3):=λh1 h2 h3=>⟨false,_,_,_,_,_,h1,h2.mono af,((vp _ _).trans HO).trans h3,an hnl,λ_=>rfl⟩
    cases hf:z.find? λp=>decide (p.1=(m:Int))with
    |none =>
     have hlk:ko z (m:Int) (.b9 true []) = .b9 true []:=by unfold ko;rw[hf];rfl
     simp(disch:=omega)[gp3,k6,k5,hlk,jk]at l
     have hs5:oE (E.set 5 (AB.mp .u64 (kQ z (m:Int) (.own E.length 0 0 1)))++[AB.row 0 10 [Fv g]]):=by
      rw[<-ep _ _ m5];refine pQ (tZ o.st rfl) 5 ?_;simp only[ve,aM,bR];intro p N
      rcases zz o.ks N with rfl | ⟨h1,-⟩
      .right;simp[uI]
      .obtain⟨w,oP,hL,-⟩:=o.ls p h1;have:=o.bkl h1;right;rw[hL.v];simp[uI];omega
     have O:∀(j:Nat) A,j≠5->E[j]? = some A->(E.set 5 (AB.mp .u64 (kQ z (m:Int) (.own E.length 0 0 1)))++[AB.row 0 10 [Fv g]])[j]? = some A:=λj A h5 h=>by
      rw[aJ (by simpa using(aD.1 h).1),aI (λe=>h5 e.symm)]
      exact h
     obtain⟨ob4,T4,ajZ⟩:∃ob4,Tm G (c+10*An (Li.left G.cs.length m.testBit)) E q3 z ob4 S/\ob4≠E.length:=by
      rcases o.od with⟨e1,e2⟩ | ⟨v,r,_,h,_⟩
      .exact⟨E.length+1,o.ord o.len o.st (λ_ _ _ _ h=>h) af (λp N=>by have:=o.bkl N;omega) (.inl ⟨e1,e2⟩),af⟩
      .exact⟨ob3,o,by have:=(aD.1 h).1;omega⟩
     obtain⟨U,T5⟩:=T4.los (key:=(m:Int)) (v':=.own E.length 0 0 1) ak hs5 (b':=E.length) (λj A h5 _ h=>O j A h5 h) af (λe=>ajZ e.symm) (λp N _=>by have:=o.bkl N;omega) (by rw[aJ (an m5),aR m5]) (w:=0) (oP:=[g]) ⟨rfl,by rw[aQ ai];simp,af,λx M=>by rw[cr.1 M];exact⟨W,P⟩⟩ ai
     exact fin l.symm T5 λj cs h7 h=>O j _ (λe=>by rw[e,o.h5]at h;cases h) h
    |some p =>
     have N:=bI hf;have hpm:=cL hf;simp only[decide_eq_true_eq]at hpm;obtain⟨w,oP,hL,hsn⟩:=o.ls p N;have hlk:ko z (m:Int) (.b9 true []) = .own (S p.1) w 0 oP.length:=by unfold ko;rw[hf];exact hL.v
     have hr:=hL.r;have lb:=(aD.1 hr).1;have gb:=iT hr lb;have hb9:=hL.b;have nb5:¬S p.1=5:=af
     have nb6:¬S p.1=6:=af
     have htk:(oP.map Fv).take oP.length=oP.map Fv:=aO ai
     generalize hbb:S p.1=bb at *
     simp(disch:=omega)[gp3,k6,k5,hlk,gb,htk]at l
     have hs5:oE ((E.set bb (.row (w+1) 10 (oP.map Fv++[Fv g]))).set 5 (AB.mp .u64 (kQ z (m:Int) (.own bb (w+1) 0 (oP.length+1))))):=by
      refine pQ (pQ o.st bb rfl) 5 ?_;simp only[ve,aM,bR,dG];intro p N
      rcases zz o.ks N with rfl | ⟨h1,-⟩
      .right;simp[uI,lb]
      .obtain⟨w,oP,hL,-⟩:=o.ls p h1;have:=o.bkl h1;right;rw[hL.v];simp[uI];omega
     have O:∀(j:Nat) A,j≠5->j≠bb->E[j]? = some A->((E.set bb (.row (w+1) 10 (oP.map Fv++[Fv g]))).set 5 (AB.mp .u64 (kQ z (m:Int) (.own bb (w+1) 0 (oP.length+1)))))[j]? = some A:=λj A h5 hb h=>by
      rw[aI (λe=>h5 e.symm),aI (λe=>hb e.symm)]
      exact h
     obtain⟨U,T5⟩:=o.los (key:=(m:Int)) (v':=.own bb (w+1) 0 (oP.length+1)) ak hs5 (b':=bb) O hb9 (by rw[<-hbb];exact o.ob p N) (λp' hp' hne e=>hne (by rw[<-hpm];exact o.inj p' hp' p N (by rw[e,hbb]))) (by rw[aR (an m5)]) (w:=w+1) (oP:=oP++[g]) ⟨ai,by rw[aI af,aR lb];simp,hb9,λx M=>by
      rcases aY.1 M with M | M
      .have:=hL.d x M;rw[hpm]at this;exact this
      .rw[cr.1 M];exact⟨W,P⟩⟩ ak
     exact fin l.symm T5 λj cs h7 h=>O j _ (λe=>by rw[e,o.h5]at h;cases h) (λe=>by rw[e,hr]at h;cases h) h
   .simp(disch:=omega)at l;exact⟨true,_,_,_,_,_,l.symm,o.mono af,(vp _ _).trans HO,an hyes,ai⟩
end Go.Proofs.YtghgbehknhmnaaaGreatDoor
