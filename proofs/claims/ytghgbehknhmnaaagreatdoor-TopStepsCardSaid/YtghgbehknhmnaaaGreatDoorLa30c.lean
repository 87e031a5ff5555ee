/- Part of the proof that TopStepsCard holds. -/
import Derived.Test.YtghgbehknhmnaaaGreatDoorHi30f
set_option linter.all false
namespace Go.Proofs.YtghgbehknhmnaaaGreatDoor
open Go.Am Go.Tr Go.Am.Nm Go.Lib
structure Gt(Γ:jE):Prop where
 p12:∀a,Γ.p 12 a=(en.cz 162).p 12 a
 p38:∀a,Γ.p 38 a=(en.cz 162).p 38 a
 c36:∀a H,eT Γ 36 a H=eT (en.cz 162) 36 a H
def WX(d:Nat):Gt (mG (en.cz 162) 35 OR d):=⟨λa=>DE ah a d,λa=>DE ah a d,λa H=>by
 have h1:=λa=>DE (Γ:=en.cz 162) (F:=OR) (show (36:Nat)≠35 by decide) a d
 have h2:=λa H=>UR (Γ:=en.cz 162) (F:=OR) (show (36:Nat)≠35 by decide) a H d
 unfold eT;simp only[h1,h2]⟩
def Fr(H b:AH):Prop:=∀(j:Nat) cs,j≠7->H[j]? = some (.var cs)->b[j]? = some (.var cs)
def Fr.trans{A B C:AH}(h:Fr A B)(k:Fr B C):Fr A C:=λj cs b h1=>k j cs b (h j cs b h1)
def vp(H Y:AH):Fr H (H++Y):=λj cs _ h=>by
 rw[aI (aA.1 h).1];exact h
def F0(H:AH)(A:AB)(Y:AH):Fr H (H.set 7 A++Y):=λj cs b h=>by
 rw[aI (by simpa using(aA.1 h).1),aH (λe=>b e.symm)]
 exact h
def FZ{H:AH}{ob v:Nat}{r:List AV}(i:H[ob]? = some (.row v 1 r))(A B:AB)(Y:AH):Fr H ((H.set ob A++Y).set 7 B):=λj cs l h=>by
 have b:ob≠j:=λe=>by rw[e,h]at i;cases i
 rw[aH (λe=>l e.symm),aI (by simpa using(aA.1 h).1),aH b]
 exact h
def zI(H:AH)(A:AB):Fr H (H.set 7 A):=λj cs b h=>by
 rw[aH (λe=>b e.symm)]
 exact h
def jV(m i:Nat):(m ||| 2 ^ i).testBit=Li.put m.testBit i:=by
 funext j
 rw[JL];unfold Li.put
 by_cases h:i=j
 .simp[h]
 .have:¬j=i:=λe=>h e.symm
  simp[h,this]
def An:Nat->Nat
 |0=>0
 |e+1=>1+10*An e
def zQ(G:Ir)(Γ:jE)(d:Nat):Prop:=∀(m:Nat)(g:FS)(k q c:Nat)(H:AH) es ob o,Tm G c H q es ob o->c+An (Li.left G.cs.length m.testBit+1)<=100000000000->mF k g->m<2 ^ G.cs.length->k+Li.left G.cs.length m.testBit<=G.K->q+Li.left G.cs.length m.testBit<=100->Li.left G.cs.length m.testBit<d->
 ∃b l n es' h i,eT Γ 35 (Fv g::Un m::EN) H=some (.bool b,l)/\Tm G (c+An (Li.left G.cs.length m.testBit+1)) l n es' h i/\Fr H l/\(b=true↔Li.vT G.cs (Fv g) m.testBit)/\(b=false->n=q)
set_option maxHeartbeats 2000000 in
def r35{G:Ir}(hG:G.Ok){Γ:jE}(hΓ:Gt Γ){d:Nat}(ih:zQ G Γ d){m:Nat}(hm:m<2 ^ G.cs.length){g:FS}{k:Nat}(hg:mF k g)(hk:k+Li.left G.cs.length m.testBit<=G.K)(hd:Li.left G.cs.length m.testBit<=d){q:Nat}(akz:q+Li.left G.cs.length m.testBit<=100)
  {H:AH} {es:List (Int×AV)} {ob:Nat} {bk:Int->Nat} {cn:Nat} (PI:cn+An (Li.left G.cs.length m.testBit)<=100000000000) (T:Tm G cn H q es ob bk) {p:Nat} (hp:H[p]? = some (.var (Fc g))) (L:Nat) (e0:Env) (h1:e0 1=Un m) (h5:e0 5 = .ptr 4 0 0 0) (h6:e0 6 = .ptr 0 0 0 0) (h7:e0 7 = .ptr 7 0 0 0) (h8:e0 8 = .ptr 8 0 0 0) (h9:e0 9 = .ptr p 0 0 0) (FU:e0 26 = .b9 false (G.cs.map Pr)) (N0:e0 27=I (G.cs.length:Int))
  (i:Nat) (hi:i<G.cs.length) (c:JT) (hc:G.cs[i]=c) :
  (∃H' es' Vq bk',Tm G (cn+An (Li.left G.cs.length m.testBit)) H' q es' Vq bk'/\Fr H H'/\mN Γ [28] [(.exit 0,[]),(.ret,[11])] mX e0 L ([I (i:Int)],H)=some (.inl ([I ((i+1:Nat):Int)],H'))/\(Li.SC G.cs (Fv g) m.testBit i c->¬Li.vT G.cs (c.run (Fv g)).1 (Li.put m.testBit i)))\/
  (∃H' q' es' Vq bk',Tm G (cn+An (Li.left G.cs.length m.testBit)) H' q' es' Vq bk'/\Fr H H'/\mN Γ [28] [(.exit 0,[]),(.ret,[11])] mX e0 L ([I (i:Int)],H)=some (.inr (.ret,[.bool true],H'))/\Li.vT G.cs (Fv g) m.testBit):=by
 have hn:G.cs.length<=60:=by have:=hG.n;omega
 have hpl:=xl hn;have hl:=T.len;have g0:=iT T.h0 af
 have g3:=iT T.h3 af
 have g4:=iT T.h4 af
 have g8:=iT T.h8 af
 have ajX:=(aA.1 hp).1;have gp:=iT hp ajX;have l0:0<H.length:=af
 have l3:3<H.length:=af
 have l4:4<H.length:=af
 have l7:7<H.length:=af
 have l8:8<H.length:=af
 have hml:m<18446744073709551616:=af
 have F:=Sm (m:=m) (i:=i) af
 have E:=Ss (i:=i) hml;obtain⟨bm,hb1,WS⟩:=hG.bf i c (by rw[<-hc];exact aG hi)
 have PK:=hG.bl;have hib:i<G.bf.length:=af
 have PL:G.bf[i]=bm:=bz ((aG hib).symm.trans hb1);obtain⟨r,NN,hr2⟩:=Sr (WS.u hn) hml;have hcb:i<1000000:=af
 have O:=Er (i:=i) af
 have hp2:2 ^ i<18446744073709551616:=by have:=xl (n:=i) af;omega
 have P:=Ik hml hp2;rw[show ((2 ^ i:Nat):Int)=(2:Int) ^ i by simp]at P O
 have akV:=T.o9;have ne7:¬ob=7:=af
 have ne8:¬ob=8:=af
 cases HL:m.testBit i with
 |true =>
  rw[HL]at E;refine .inl ⟨_,_,_,_,(T.app (Y:=[.var (Pr c).cells]) rfl).mono af,vp _ _,by simp(disch:=omega)[iZ,mX,h1,FU,N0,hc,F,E],λhM=>?_⟩
  rw[hM.no]at HL;cases HL
 |false =>
 rw[HL]at E
 by_cases hr:r=0
 case neg =>
  refine .inl ⟨_,_,_,_,(T.app (Y:=[.var (Pr c).cells]) rfl).mono af,vp _ _,by simp(disch:=omega)[iZ,mX,h1,h5,FU,N0,hi,hc,g3,g4,F,E,PL,NN,hr,jk],λhM=>?_⟩
  refine absurd (hr2.2 λj hj=>?_) hr
  rw[WS.bit]at hj;simp only[aD,decide_eq_true_eq]at hj;obtain⟨hjn,hj⟩:=hj;unfold preB at hj;rw[aG hjn]at hj;simp only[bB]at hj;cases he:G.cs[j].e with
  |none=>rw[he]at hj;simp at hj
  |some e =>
   rw[he]at hj;simp only[bB,decide_eq_true_eq]at hj;exact hM.pre j _ e (aG hjn) he hj
 have hpre:=hr2.1 hr;have hfr:=(Li.Bv (D:=Dv) G.l).1 c (by rw[<-hG.cs,<-hc];exact aO hi)
 obtain⟨⟨x,hx1,hx2,hx3⟩,hfe⟩:=hfr;have hxl:=(aA.1 hx1).1;have W:G.l[c.b]=x:=(aA.1 hx1).2;have hox:=hG.o x (by rw[<-W];exact aO hxl) hx2
 have hGk:=hG.k;obtain⟨f',Q9,Tp,hD3,hD4⟩:=JS hg af hox
 have hD:Γ.p 12 [Fv g,Ov x.op]=some (.jg [Fv f',Av (Dv x.op (Fv g)).2]):=(hΓ.p12 _).trans (hD4 ah)
 have Q:c.run (Fv g)=Dv x.op (Fv g):=by rw[hx3]
 rw[Q,Q9];generalize hra:(Dv x.op (Fv g)).2=a' at *
 obtain⟨run,cb,ce⟩:=c;simp only at hxl W hfe Q;have M:=Li.Nv (m:=G.cs.length) (s:=m.testBit) hi HL;have hm2:m ||| 2 ^ i<2 ^ G.cs.length:=gv hm (iD ah hi)
 have PM:G.cs[i]? = some ⟨run,cb,ce⟩:=by rw[<-hc];exact aG hi
 have hMp:∀(j:Nat) d e,G.cs[j]? = some d->d.e=some e->e.1<cb->m.testBit j=true:=λj d e hj he hlt=>hpre j (by
  have hjl:=(aA.1 hj).1;rw[WS.bit];unfold preB;rw[hj];simp[hjl,he,hlt])
 cases ce with
 |none =>
  have NY:Li.SC G.cs (Fv g) m.testBit i ⟨run,cb,none⟩:=⟨PM,HL,hMp,λe he=>by cases he⟩
  simp only[Fv,Fc,Sc,Ov,Oc,Av,Ac,aJ,aK]at hD
  rcases T.od with⟨rfl,Tg⟩ | ⟨v,rw_,ho9,NP,Tg,hoq⟩
  .have g7:=iT Tg af
   generalize z:mN Γ _ _ mX e0 L _=res;have T2:=T.S2 (Y:=[.var [I cb,I (-1)],.var (Fc f'),.var (Ac a')]) rfl (cb:Int);have KT:=F0 H (.var [.own (H.length+3) 0 0 1]) ([.var [I cb,I (-1)],.var (Fc f'),.var (Ac a')]++[.row 0 1 [I cb]]);obtain⟨b,H3,q3,Oo,S,O6,hC,T3,HO,hb,N⟩:=ih (m ||| 2 ^ i) f' (k+1) _ _ _ _ _ _ T2 (by rw[jV,M];exact PI) Tp hm2 (by rw[jV];omega) (by rw[jV];omega) (by rw[jV];omega)
   rw[jV]at hb;rw[jV,M]at T3;simp only[Fv,Fc,Sc,Ac,Un,EN,aQ,bu,bU,Nat.reduceAdd,aJ,aK]at hC;cases b with
   |true =>
    simp(disch:=omega)[iZ,mX,h1,h5,h6,h7,h8,h9,FU,N0,hi,hc,g0,g3,g4,g8,gp,F,E,PL,NN,hr,W,hD,g7,O,P,nP,kM,jk,hC]at z;exact .inr ⟨H3,q3,Oo,S,O6,T3,KT.trans HO,z.symm,.step i _ NY (by show Li.vT G.cs (run (Fv g)).1 _;rw[Q,Q9];exact hb.1 rfl)⟩
   |false =>
    have N:=N rfl;subst N
    rcases T3.od with⟨h0,_⟩ | ⟨v3,r3,ho3,A,Z,X⟩
    .omega
    .have VF:7<H3.length:=by have:=T3.len;omega
     have W5:=iT Z VF;have U:=(aA.1 A).1;have HP:=iT A U;simp(disch:=omega)[iZ,mX,h1,h5,h6,h7,h8,h9,FU,N0,hi,hc,g0,g3,g4,g8,gp,F,E,PL,NN,hr,W,hD,g7,O,P,nP,kM,jk,hC,W5,HP]at z;exact .inl ⟨_,Oo,S,O6,T3.pop A X,(KT.trans HO).trans (zI _ _),z.symm,λ_ h=>absurd (hb.2 h) ai⟩
  .have g7:=iT Tg af
   have lob:=(aA.1 NP).1;have gob:=iT NP lob;generalize z:mN Γ _ _ mX e0 L _=res;have T2:=T.S0 NP hoq (Y:=[.var [I cb,I (-1)],.var (Fc f'),.var (Ac a')]) rfl (cb:Int);have KT:=FZ NP (.row (v+1) 1 ((rw_.map I).take q++[I cb])) (.var [.own ob (v+1) 0 (q+1)]) [.var [I cb,I (-1)],.var (Fc f'),.var (Ac a')]
   obtain⟨b,H3,q3,Oo,S,O6,hC,T3,HO,hb,N⟩:=ih (m ||| 2 ^ i) f' (k+1) _ _ _ _ _ _ T2 (by rw[jV,M];exact PI) Tp hm2 (by rw[jV];omega) (by rw[jV];omega) (by rw[jV];omega)
   rw[jV]at hb;rw[jV,M]at T3;simp only[Fv,Fc,Sc,Ac,Un,EN,aJ,aK]at hC;cases b with
   |true =>
    simp(disch:=omega)[iZ,mX,h1,h5,h6,h7,h8,h9,FU,N0,hi,hc,g0,g3,g4,g8,gp,F,E,PL,NN,hr,W,hD,g7,gob,O,P,nP,kM,jk,hC]at z;exact .inr ⟨H3,q3,Oo,S,O6,T3,KT.trans HO,z.symm,.step i _ NY (by show Li.vT G.cs (run (Fv g)).1 _;rw[Q,Q9];exact hb.1 rfl)⟩
   |false =>
    have N:=N rfl;subst N
    rcases T3.od with⟨h0,_⟩ | ⟨v3,r3,ho3,A,Z,X⟩
    .omega
    .have VF:7<H3.length:=by have:=T3.len;omega
     have W5:=iT Z VF;have U:=(aA.1 A).1;have HP:=iT A U;simp(disch:=omega)[iZ,mX,h1,h5,h6,h7,h8,h9,FU,N0,hi,hc,g0,g3,g4,g8,gp,F,E,PL,NN,hr,W,hD,g7,gob,O,P,nP,kM,jk,hC,W5,HP]at z;exact .inl ⟨_,Oo,S,O6,T3.pop A X,(KT.trans HO).trans (zI _ _),z.symm,λ_ h=>absurd (hb.2 h) ai⟩
 |some e =>
  obtain⟨t,ea⟩:=e;obtain⟨y,hy1,hy2,hy3⟩:=hfe _ rfl;simp only at hy1 hy3;have hyl:=(aA.1 hy1).1;have Hp:G.l[t]=y:=(aA.1 hy1).2;have hya:=hG.a y (by rw[<-Hp];exact aO hyl) hy2
  obtain⟨rs,hS,hrs⟩:=s38 (n:=162) ah hD3 hya
  have hS:=(hΓ.p38 _).trans hS;simp only[Fv,Fc,Sc,Ov,Oc,Av,Ac,aJ,aK]at hD hS;cases rs with
  |false =>
   refine .inl ⟨_,_,_,_,(T.app (Y:=[.var [I cb,I t],.var (Fc f'),.var (Ac a')]) rfl).mono af,vp _ _,by simp(disch:=omega)[iZ,mX,h1,h5,h6,h9,FU,N0,hi,hc,g0,g3,g4,gp,F,E,PL,NN,hr,W,hD,Hp,hS,jk],λhM=>?_⟩
   have:=hM.PT _ rfl;simp only at this;rw[Q,hra,<-hy3]at this;exact absurd (hrs.2 this) ai
  |true =>
   have WU:=hrs.1 rfl
   have NY:Li.SC G.cs (Fv g) m.testBit i ⟨run,cb,some (t,ea)⟩:=⟨PM,HL,hMp,λe he=>by
    cases he;simp only;rw[Q,hra,WU,hy3]⟩
   rcases T.od with⟨rfl,Tg⟩ | ⟨v,rw_,ho9,NP,Tg,hoq⟩
   .have g7:=iT Tg af
    generalize z:mN Γ _ _ mX e0 L _=res;have T2:=T.S2 (Y:=[.var [I cb,I t],.var (Fc f'),.var (Ac a')]) rfl (cb:Int);have KT:=F0 H (.var [.own (H.length+3) 0 0 1]) ([.var [I cb,I t],.var (Fc f'),.var (Ac a')]++[.row 0 1 [I cb]]);obtain⟨b,H3,q3,Oo,S,O6,hC,T3,HO,hb,N⟩:=ih (m ||| 2 ^ i) f' (k+1) _ _ _ _ _ _ T2 (by rw[jV,M];exact PI) Tp hm2 (by rw[jV];omega) (by rw[jV];omega) (by rw[jV];omega)
    rw[jV]at hb;rw[jV,M]at T3;simp only[Fv,Fc,Sc,Ac,Un,EN,aQ,bu,bU,Nat.reduceAdd,aJ,aK]at hC;cases b with
    |true =>
     simp(disch:=omega)[iZ,mX,h1,h5,h6,h7,h8,h9,FU,N0,hi,hc,g0,g3,g4,g8,gp,F,E,PL,NN,hr,W,hD,Hp,hS,g7,O,P,nP,kM,jk,hC]at z;exact .inr ⟨H3,q3,Oo,S,O6,T3,KT.trans HO,z.symm,.step i _ NY (by show Li.vT G.cs (run (Fv g)).1 _;rw[Q,Q9];exact hb.1 rfl)⟩
    |false =>
     have N:=N rfl;subst N
     rcases T3.od with⟨h0,_⟩ | ⟨v3,r3,ho3,A,Z,X⟩
     .omega
     .have VF:7<H3.length:=by have:=T3.len;omega
      have W5:=iT Z VF;have U:=(aA.1 A).1;have HP:=iT A U;simp(disch:=omega)[iZ,mX,h1,h5,h6,h7,h8,h9,FU,N0,hi,hc,g0,g3,g4,g8,gp,F,E,PL,NN,hr,W,hD,Hp,hS,g7,O,P,nP,kM,jk,hC,W5,HP]at z;exact .inl ⟨_,Oo,S,O6,T3.pop A X,(KT.trans HO).trans (zI _ _),z.symm,λ_ h=>absurd (hb.2 h) ai⟩
   .have g7:=iT Tg af
    have lob:=(aA.1 NP).1;have gob:=iT NP lob;generalize z:mN Γ _ _ mX e0 L _=res;have T2:=T.S0 NP hoq (Y:=[.var [I cb,I t],.var (Fc f'),.var (Ac a')]) rfl (cb:Int);have KT:=FZ NP (.row (v+1) 1 ((rw_.map I).take q++[I cb])) (.var [.own ob (v+1) 0 (q+1)]) [.var [I cb,I t],.var (Fc f'),.var (Ac a')]
    obtain⟨b,H3,q3,Oo,S,O6,hC,T3,HO,hb,N⟩:=ih (m ||| 2 ^ i) f' (k+1) _ _ _ _ _ _ T2 (by rw[jV,M];exact PI) Tp hm2 (by rw[jV];omega) (by rw[jV];omega) (by rw[jV];omega)
    rw[jV]at hb;rw[jV,M]at T3;simp only[Fv,Fc,Sc,Ac,Un,EN,aJ,aK]at hC;cases b with
    |true =>
     simp(disch:=omega)[iZ,mX,h1,h5,h6,h7,h8,h9,FU,N0,hi,hc,g0,g3,g4,g8,gp,F,E,PL,NN,hr,W,hD,Hp,hS,g7,gob,O,P,nP,kM,jk,hC]at z;exact .inr ⟨H3,q3,Oo,S,O6,T3,KT.trans HO,z.symm,.step i _ NY (by show Li.vT G.cs (run (Fv g)).1 _;rw[Q,Q9];exact hb.1 rfl)⟩
    |false =>
     have N:=N rfl;subst N
     rcases T3.od with⟨h0,_⟩ | ⟨v3,r3,ho3,A,Z,X⟩
     .omega
     .have VF:7<H3.length:=by have:=T3.len;omega
      have W5:=iT Z VF;have U:=(aA.1 A).1;have HP:=iT A U;simp(disch:=omega)[iZ,mX,h1,h5,h6,h7,h8,h9,FU,N0,hi,hc,g0,g3,g4,g8,gp,F,E,PL,NN,hr,W,hD,Hp,hS,g7,gob,O,P,nP,kM,jk,hC,W5,HP]at z;exact .inl ⟨_,Oo,S,O6,T3.pop A X,(KT.trans HO).trans (zI _ _),z.symm,λ_ h=>absurd (hb.2 h) ai⟩
def l35{G:Ir}(U:G.Ok){Γ:jE}(N:Gt Γ){d:Nat}(ih:zQ G Γ d){m:Nat}(hm:m<2 ^ G.cs.length){g:FS}{k:Nat}(hg:mF k g)(hk:k+Li.left G.cs.length m.testBit<=G.K)(hd:Li.left G.cs.length m.testBit<=d){q:Nat}(v:q+Li.left G.cs.length m.testBit<=100)
  {H:AH} {es:List (Int×AV)} {ob:Nat} {bk:Int->Nat} {M:Nat} (PI:M+10*An (Li.left G.cs.length m.testBit)<=100000000000) (T:Tm G M H q es ob bk) {p:Nat} (W:p≠7) (hp:H[p]? = some (.var (Fc g))) (L:Nat) (e0:Env) (h1:e0 1=Un m) (h5:e0 5 = .ptr 4 0 0 0) (h6:e0 6 = .ptr 0 0 0 0) (h7:e0 7 = .ptr 7 0 0 0) (h8:e0 8 = .ptr 8 0 0 0) (h9:e0 9 = .ptr p 0 0 0) (X:e0 26 = .b9 false (G.cs.map Pr)) (F:e0 27=I (G.cs.length:Int)) :
  ∃y,(∃o r es' b l,Tm G (M+10*An (Li.left G.cs.length m.testBit)) o r es' b l/\Fr H o/\((y=(AX.exit 0,[],o)/\r=q/\∀(i:Nat) c,Li.SC G.cs (Fv g) m.testBit i c->¬Li.vT G.cs (c.run (Fv g)).1 (Li.put m.testBit i))\/(y=(AX.ret,[AV.bool true],o)/\Li.vT G.cs (Fv g) m.testBit)))/\
   iter (mN Γ [28] [(.exit 0,[]),(.ret,[11])] mX e0 L) ([I 0],H)=some y :=
 iQ (f:=mN Γ [28] [(.exit 0,[]),(.ret,[11])] mX e0 L) G.cs.length (λi (x:AH×List (Int×AV)×Nat×(Int->Nat))=>([I (i:Int)],x.1)) (λy=>∃o r es' b l,Tm G (M+10*An (Li.left G.cs.length m.testBit)) o r es' b l/\Fr H o/\((y=(AX.exit 0,[],o)/\r=q/\∀(i:Nat) c,Li.SC G.cs (Fv g) m.testBit i c->¬Li.vT G.cs (c.run (Fv g)).1 (Li.put m.testBit i))\/(y=(AX.ret,[AV.bool true],o)/\Li.vT G.cs (Fv g) m.testBit)))
  (λi x=>Tm G (M+i*An (Li.left G.cs.length m.testBit)) x.1 q x.2.1 x.2.2.1 x.2.2.2/\Fr H x.1/\∀(j:Nat) c,j<i->Li.SC G.cs (Fv g) m.testBit j c->¬Li.vT G.cs (c.run (Fv g)).1 (Li.put m.testBit j))
  (λi x Z ⟨T,E,S⟩=>by
   have hGn:=U.n;have P:(i+1)*An (Li.left G.cs.length m.testBit)<=10*An (Li.left G.cs.length m.testBit):=bp _ af
   rw[gG]at P
   rcases r35 U N ih hm hg hk hd v af T (E p _ W hp) L e0 h1 h5 h6 h7 h8 h9 X F i Z _ rfl with⟨o,es',b,l,Y,z,O,hn⟩ | ⟨o,r,es',b,l,Y,z,O,hy⟩
   .refine .inl ⟨(o,es',b,l),⟨by rw[gG,<-cD];exact Y,E.trans z,λj c hj A=>?_⟩,O⟩
    by_cases Q:j=i
    .subst Q;have:=A.at_;rw[aG Z]at this;cases this;exact hn A
    .exact S j c af A
   .exact .inr ⟨_,⟨o,r,es',b,l,Y.mono af,E.trans z,.inr ⟨rfl,hy⟩⟩,O⟩)
  (λx ⟨T,E,S⟩=>⟨_,⟨x.1,q,x.2.1,x.2.2.1,x.2.2.2,T.mono (Nat.add_le_add_left (bp _ U.n) _),E,.inl ⟨rfl,rfl,λj c A=>S j c (aA.1 A.at_).1 A⟩⟩,by simp(disch:=omega)[iZ,mX,F]⟩) (aR _) (H,es,ob,bk) ⟨by rw[fZ,cM];exact T,λ_ _ _ h=>h,λj c hj=>af⟩
def Ch{G:Ir}(r:G.Ok)(m:Nat):(m &&& G.nd=G.nd)↔Li.Whole G.cs m.testBit:=by
 have b:=r.nd.bit
 constructor
 .intro h i c n l;have q:=(aA.1 n).1;have h1:G.nd.testBit i=true:=by
   rw[b];unfold Gj;rw[n];simp[q,l]
  rw[<-h,gP]at h1;simp only[aD]at h1;exact h1.1
 .intro h;apply iC;intro j;rw[gP];cases o:G.nd.testBit j with
  |false=>simp
  |true =>
   have h2:=o;rw[b]at h2;simp only[aD,decide_eq_true_eq]at h2;obtain⟨hl,l⟩:=h2;unfold Gj at l;rw[aG hl]at l;rw[h j _ (aG hl) l];rfl
def QH{G:Ir}{c:Nat}{H:AH}{q:Nat}{es:List (Int×AV)}{ob:Nat}{z:Int->Nat}(T:Tm G c H q es ob z)(m:Int):∃oP:List FS,(∀x∈oP,mF G.K x/\Y0 G m (Fv x))/\oP.length<=c/\Rd H 10 (ko es m (.b9 true [])) Fc oP:=by
 unfold ko;cases i:es.find? λp=>decide (p.1=m)with
 |none=>exact⟨[],ai,ai,xk H (cs:=Fc) (λ_=>rfl) [] true⟩
 |some p =>
  have o:=bH i;have b:=cK i;simp only[decide_eq_true_eq]at b;obtain⟨w,oP,h,y⟩:=T.ls p o;refine⟨oP,λx n=>?_,y,?_⟩
  .rw[<-b];exact h.d x n
  .have:=US (cs:=Fc) (λ_=>rfl) (l:=oP) h.r
   rw[<-h.v]at this;exact this
def LZ{G:Ir}(hG:G.Ok):∀d,zQ G (mG (en.cz 162) 35 OR d) d
 |0=>λm g k q c H es ob bk T hc hg hm hk hq hd=>af
 |d+1=>λm g k q c H es ob bk T hc hg hm hk hq hd=>by
  have hAn:An (Li.left G.cs.length m.testBit+1)=1+10*An (Li.left G.cs.length m.testBit):=rfl;have ih:=LZ hG d;have hΓ:=WX d;generalize l:eT (mG (en.cz 162) 35 OR (d+1)) 35 _ H=res;rw[ow,b6]at l;obtain⟨Γ,ajQ⟩:∃Γ,Γ=mG (en.cz 162) 35 OR d:=⟨_,rfl⟩;rw[<-ajQ]at ih hΓ l;have hn:G.cs.length<=60:=by have:=hG.n;omega
  have hpl:=xl hn;have hml:m<18446744073709551616:=af
  have aj4:=hG.nd.u hn;have hand:=JM hml aj4;have hl:=T.len;have hGk:=hG.k;have T1:=T.app (Y:=[.var (Fc g)]) rfl;have g2:=iT T.h2 af
  have g1:=iT T.h1 af
  have g6:=iT T.h6 af
  have g5:=iT T.h5 af
  have l1:1<H.length:=af
  have l2:2<H.length:=af
  have l5:5<H.length:=af
  have l6:6<H.length:=af
  by_cases hw:m &&& G.nd=G.nd
  .simp(disch:=omega)[OR,g2,hand,hw,jk]at l;exact⟨true,_,_,_,_,_,l.symm,T1.mono af,vp _ _,by simpa using Li.vT.fin ((Ch hG m).1 hw),ai⟩
  simp(disch:=omega)[OR,g2,g5,g6,hand,jk]at l;have X:H.length≠7:=af
  have W:mF G.K g:=hg.mono af
  obtain⟨oP,hst,hsl,hRd⟩:=QH T1 (m:Int);have hp1:(H++[AB.var (Fc g)])[H.length]? = some (.var (Fc g)):=by rw[aS af];simp
  obtain⟨Z,hZ,F⟩:=s36 (n:=162) ah W af T1.st hp1 (λx M=>(hst x M).1) af hRd
  have F:=(hΓ.c36 _ _).trans F;simp only[Fc,Sc,aJ,aK]at F;cases Q:oP.any (SO g)with
  |true =>
   rw[Q]at F;simp(disch:=omega)[F]at l;obtain⟨x,M,hxs⟩:=cr.1 Q;have he:=Uj W (hst x M).1 af hxs
   have P:=(hst x M).2 m rfl;rw[<-he]at P;exact⟨false,_,_,_,_,_,l.symm,(T.app (Y:=.var (Fc g)::Z) (by rw[bT,hZ];rfl)).mono af,vp _ _,an P,λ_=>rfl⟩
  |false =>
   rw[Q]at F;have T2:=T.app (Y:=.var (Fc g)::Z) (by rw[bT,hZ];rfl)
   have hp2:(H++AB.var (Fc g)::Z)[H.length]? = some (.var (Fc g)):=by rw[aS af];simp
   simp(disch:=omega)[F,g1,jk]at l;have key:=λL e0=>l35 hG hΓ ih hm hg af af (q:=q) af af T2 X hp2 L e0
   simp only[Fc,Sc,aJ,aK]at key;generalize M:iter _ _=oo at l;obtain⟨_,⟨E,q3,z,ob3,S,o,HO,hc⟩,rfl⟩:∃y,_/\oo=some y:=by rw[<-M];exact key _ _ aq aq aq aq aq aq aq aq
   rcases hc with⟨rfl,rfl,hno⟩ | ⟨rfl,hyes⟩
   .have hl3:=o.len;have hp3:=HO _ _ X hp2;have lp3:=(aA.1 hp3).1;have gp3:=iT hp3 lp3;have k6:=iT o.h6 af
    have k5:=iT o.h5 af
    have m5:5<E.length:=af
    have m6:6<E.length:=af
    simp only[Fc,Sc,aJ,aK]at gp3
    have hnl:¬Li.vT G.cs (Fv g) m.testBit:=λh=>by
     obtain⟨i,c,h1,h2⟩:=h.cases λh=>hw ((Ch hG m).2 h)
     exact hno i c h1 h2
    have P:Y0 G (m:Int) (Fv g):=λm' hmm=>by
     have:m'=m:=af
     rw[this];exact hnl
    have fin:∀ {H' U v' Vq},res=some (.bool false,H')->Tm G (c+10*An (Li.left G.cs.length m.testBit)+1) H' q3 (kQ z (m:Int) v') Vq U->Fr E H'->∃b H' q' es' Vq U,res=some (.bool b,H')/\Tm G (c+An (Li.left G.cs.length m.testBit+1)) H' q' es' Vq U/\Fr H H'/\(b=true↔Li.vT G.cs (Fv g) m.testBit)/\(b=false->q'=q3):=λh1 h2 h3=>⟨false,_,_,_,_,_,h1,h2.mono af,((vp _ _).trans HO).trans h3,an hnl,λ_=>rfl⟩
    cases hf:z.find? λp=>decide (p.1=(m:Int))with
    |none =>
     have hlk:ko z (m:Int) (.b9 true []) = .b9 true []:=by unfold ko;rw[hf];rfl
     simp(disch:=omega)[gp3,k6,k5,hlk,jk]at l
     have hs5:oE (E.set 5 (AB.mp .u64 (kQ z (m:Int) (.own E.length 0 0 1)))++[AB.row 0 10 [Fv g]]):=by
      rw[<-ec _ _ m5];refine pQ (tZ o.st rfl) 5 ?_;simp only[ve,aL,bP];intro p N
      rcases zz o.ks N with rfl | ⟨h1,-⟩
      .right;simp[uI]
      .obtain⟨w,oP,hL,-⟩:=o.ls p h1;have:=o.bkl h1;right;rw[hL.v];simp[uI];omega
     have O:∀(j:Nat) A,j≠5->E[j]? = some A->(E.set 5 (AB.mp .u64 (kQ z (m:Int) (.own E.length 0 0 1)))++[AB.row 0 10 [Fv g]])[j]? = some A:=λj A h5 h=>by
      rw[aI (by simpa using(aA.1 h).1),aH (λe=>h5 e.symm)]
      exact h
     obtain⟨ob4,T4,ajZ⟩:∃ob4,Tm G (c+10*An (Li.left G.cs.length m.testBit)) E q3 z ob4 S/\ob4≠E.length:=by
      rcases o.od with⟨e1,e2⟩ | ⟨v,r,_,h,_⟩
      .exact⟨E.length+1,o.ord o.len o.st (λ_ _ _ _ h=>h) af (λp N=>by have:=o.bkl N;omega) (.inl ⟨e1,e2⟩),af⟩
      .exact⟨ob3,o,by have:=(aA.1 h).1;omega⟩
     obtain⟨U,T5⟩:=T4.los (key:=(m:Int)) (v':=.own E.length 0 0 1) ak hs5 (b':=E.length) (λj A h5 _ h=>O j A h5 h) af (λe=>ajZ e.symm) (λp N _=>by have:=o.bkl N;omega) (by rw[aI (an m5),aP m5]) (w:=0) (oP:=[g]) ⟨rfl,by rw[aS ai];simp,af,λx M=>by rw[cm.1 M];exact⟨W,P⟩⟩ ai
     exact fin l.symm T5 λj cs h7 h=>O j _ (λe=>by rw[e,o.h5]at h;cases h) h
    |some p =>
     have N:=bH hf;have hpm:=cK hf;simp only[decide_eq_true_eq]at hpm;obtain⟨w,oP,hL,hsn⟩:=o.ls p N;have hlk:ko z (m:Int) (.b9 true []) = .own (S p.1) w 0 oP.length:=by unfold ko;rw[hf];exact hL.v
     have hr:=hL.r;have lb:=(aA.1 hr).1;have gb:=iT hr lb;have hb9:=hL.b;have nb5:¬S p.1=5:=af
     have nb6:¬S p.1=6:=af
     have htk:(oP.map Fv).take oP.length=oP.map Fv:=aN ai
     generalize hbb:S p.1=bb at *
     simp(disch:=omega)[gp3,k6,k5,hlk,gb,htk]at l
     have hs5:oE ((E.set bb (.row (w+1) 10 (oP.map Fv++[Fv g]))).set 5 (AB.mp .u64 (kQ z (m:Int) (.own bb (w+1) 0 (oP.length+1))))):=by
      refine pQ (pQ o.st bb rfl) 5 ?_;simp only[ve,aL,bP,dF];intro p N
      rcases zz o.ks N with rfl | ⟨h1,-⟩
      .right;simp[uI,lb]
      .obtain⟨w,oP,hL,-⟩:=o.ls p h1;have:=o.bkl h1;right;rw[hL.v];simp[uI];omega
     have O:∀(j:Nat) A,j≠5->j≠bb->E[j]? = some A->((E.set bb (.row (w+1) 10 (oP.map Fv++[Fv g]))).set 5 (AB.mp .u64 (kQ z (m:Int) (.own bb (w+1) 0 (oP.length+1)))))[j]? = some A:=λj A h5 hb h=>by
      rw[aH (λe=>h5 e.symm),aH (λe=>hb e.symm)]
      exact h
     obtain⟨U,T5⟩:=o.los (key:=(m:Int)) (v':=.own bb (w+1) 0 (oP.length+1)) ak hs5 (b':=bb) O hb9 (by rw[<-hbb];exact o.ob p N) (λp' hp' hne e=>hne (by rw[<-hpm];exact o.inj p' hp' p N (by rw[e,hbb]))) (by rw[aP (an m5)]) (w:=w+1) (oP:=oP++[g]) ⟨ai,by rw[aH af,aP lb];simp,hb9,λx M=>by
      rcases bh.1 M with M | M
      .have:=hL.d x M;rw[hpm]at this;exact this
      .rw[cm.1 M];exact⟨W,P⟩⟩ ak
     exact fin l.symm T5 λj cs h7 h=>O j _ (λe=>by rw[e,o.h5]at h;cases h) (λe=>by rw[e,hr]at h;cases h) h
   .simp(disch:=omega)at l;exact⟨true,_,_,_,_,_,l.symm,o.mono af,(vp _ _).trans HO,an hyes,ai⟩
structure Hok(l:List ze):Prop where
 rk:Li.rk (λ_=>false) l
 n:(Li.calls Dv l).cs.length<=10
 ln:l.length<=1000
 c:∀x∈l,x.c<16
 o:∀x∈l,x.vO=true->uy x.op
 a:∀x∈l,x.vO=false->zM x.PT
def QJ(n:Nat)(s:aB):Li.left n s<=n:=by
 unfold Li.left;exact bF (bt _ _) ai
def af5:∀ {e:Nat},e<=11->An e<=11111111111:=by
 have h:∀e,An e<=An (e+1):=λe=>by
  induction e with
  |zero=>simp[An]
  |succ e b=>simp only[An]at b⊢;omega
 have h2:∀d e,An e<=An (e+d):=λd=>by
  induction d with
  |zero=>intro e;exact aU _
  |succ d b=>intro e;exact bF (b e) (h _)
 intro e i;have:=h2 (11-e) e;rw[show e+(11-e)=11 by omega]at this
 exact this
def s17{n:Nat}(T:173<n){l:List ze}(hl:Hok l)(f:Bool){g:FS}{k:Nat}(hg:mF k g)(hk:k<=190):∃b v,(en.cz n).p 17 [Fv g,.b9 f (l.map Po)]=some (.jg [v,.bool b])/\(b=true↔Li.vT (Li.calls Dv l).cs (Fv g) λ_=>false):=by
 generalize h:(en.cz n).p 17 _=res;rw[pp 17 rfl T rfl,b8,b6]at h;have hs:=s34 Dv (n:=173) ah l hl.ln hl.rk hl.c f
 have K:=hl.n;have H:=hl.ln;simp(disch:=omega)[c17,ca 34,hs]at h;generalize E:iter _ _=oo at h;obtain⟨_,⟨nd,G,rfl⟩,rfl⟩:∃y,_/\oo=some y:=by rw[<-E];exact adh (Li.calls Dv l).cs af (by simp[gd,AV.jW]) _ aq aq aq aq
 simp(disch:=omega)at h;generalize E:iter _ _=oo at h;obtain⟨_,⟨bf,M,L,rfl⟩,rfl⟩:∃y,_/\oo=some y:=by rw[<-E];exact adf (Li.calls Dv l).cs af (by simp[gd,AV.jW]) (by simp[gd,AV.jW]) _ aq aq aq aq
 simp(disch:=omega)at h;have S:(0:Nat).testBit=λ_=>false:=by funext j;simp
 have Y:Ir.Ok ⟨f,l,nd,bf,k+10,(Li.calls Dv l).cs⟩:=⟨rfl,K,H,G,M,L,hl.o,hl.a,by simp only;omega⟩
 have U:=QJ (Li.calls Dv l).cs.length (0:Nat).testBit
 have X:Tm ⟨f,l,nd,bf,k+10,(Li.calls Dv l).cs⟩ 0 [.var [.b9 f (l.map Po)],.var [.b9 false ((Li.calls Dv l).cs.map Pr)],.var [Un nd],.row 0 1 (bf.map Un),.var [.own 3 0 0 (Li.calls Dv l).cs.length],.mp .u64 [],.var [.mb 5],.var [.b9 true []],.var [.fn (.func 35) [] EN]] 0 [] 9 (λ_=>0) :=
  ⟨ai,rfl,rfl,rfl,rfl,rfl,rfl,rfl,rfl,by simp[oE,ve,uI,AV.jW],ai,ai,ai,.inl ⟨rfl,rfl⟩,ai,ai⟩
 obtain⟨b,H',q',es',P,Z,z,O,-,A,-⟩:=LZ Y 101 0 g k 0 0 _ _ _ _ X (by have:=af5 (e:=Li.left (Li.calls Dv l).cs.length (0:Nat).testBit+1) af;simp only;omega) hg (Nat.two_pow_pos _) (by simp only;omega) (by simp only;omega) (by simp only;omega)
 rw[ow,<-p35 (n:=173) ah]at z
 simp only[Fv,Fc,Sc,Un,EN,aJ,aK,eR]at z;have W:=O.len;rw[S]at A;have i:(AV.fn (.func 35) [] [.ptr 2 0 0 0,.ptr 6 0 0 0,.ptr 1 0 0 0,.ptr 4 0 0 0,.ptr 0 0 0 0,.ptr 7 0 0 0,.ptr 8 0 0 0]).sw=true:=rfl;have l7:7<H'.length:=af
 cases b with
 |false =>
  simp(disch:=omega)[oN,i,z]at h;exact⟨false,_,h.symm,A⟩
 |true =>
  rcases O.od with⟨_,q⟩ | ⟨v,r,h9,x,q,F⟩
  .have N:=iT q l7;simp(disch:=omega)[oN,i,z,N]at h;exact⟨true,_,h.symm,A⟩
  .have N:=iT q l7;have Q:=(aA.1 x).1;have go_:=iT x Q;simp(disch:=omega)[oN,i,z,N,go_,F]at h;exact⟨true,_,h.symm,A⟩
def s11{n:Nat}(o:253<n){l:List ze}(hl:Hok l)(f:Bool){g:FS}{k:Nat}(hg:mF k g)(hk:k<=190):∃b,(en.cz n).p 11 [Fv g,.b9 f (l.map Po)]=some (.bool b)/\(b=true↔Li.vT (Li.calls Dv l).cs (Fv g) λ_=>false):=by
 obtain⟨b,v,h,q⟩:=s17 (n:=253) ah hl f hg hk
 generalize i:(en.cz n).p 11 _=res;rw[pp 11 rfl o rfl,b8,b6]at i;simp only[Fv,Fc,Sc,aJ,aK]at h;simp(disch:=omega)[sE,ca 17,h]at i;exact⟨b,i.symm,q⟩
end Go.Proofs.YtghgbehknhmnaaaGreatDoor
namespace Go.Tr
structure vS where
 c:UInt8
 op:lX
end Go.Tr
namespace Go.Proofs.YtghgbehknhmnaaaGreatDoor
open Go.Am Go.Tr Go.Am.Nm Go.Lib
abbrev Uc(x:vS):List AV:=.int .u8 (x.c.toNat:Int)::Oc x.op
attribute [simp] Uc
@[simp]def Uv(x:vS):AV:=.agg (Uc x)
@[simp]def akH(l:List vS):jw 9 (l.map Uv)=true:=by simp[jw]
@[simp]def akM(l:List lX):jw 8 (l.map Ov)=true:=by simp[jw]
section
variable{n:Nat}
def s20(i:175<n)(o:lX):∃b,(en.cz n).p 20 [Ov o]=some (.bool b)/\(b=false->uy o):=by
 generalize h:(en.cz n).p 20 _=res;rw[pp 20 rfl i rfl,b8,b6]at h
 by_cases q:5000<o.data.length
 .simp(disch:=omega)[c20]at h;exact⟨true,h.symm,ai⟩
 by_cases l:1000<o.path.length
 .simp(disch:=omega)[c20]at h;exact⟨true,h.symm,ai⟩
 by_cases c3:1000<o.to.length
 .simp(disch:=omega)[c20]at h;exact⟨true,h.symm,ai⟩
 .simp(disch:=omega)[c20]at h;exact⟨false,h.symm,λ_=>⟨af,af,af⟩⟩
def l19(l:List lX)(hl:l.length<=1000000)(f:Bool)(e0:Env)(h0:e0 0 = .b9 f (l.map Ov)):
  ∃y,((y=(AX.exit 0,[],[])/\∀o∈l,uy o)\/∃H,y=(AX.ret,[AV.bool true],H))/\iter (round (en.cz 176) [3] [(.exit 0,[]),(.ret,[2])] Dc e0 0 []) ([I 0],[])=some y :=
 iQ (f := round (en.cz 176) [3] [(.exit 0, []), (.ret, [2])] Dc e0 0 []) l.length (λi (_ : Unit) => ([I (i : Int)], [])) (λy => (y = (AX.exit 0, [], []) /\ ∀ o ∈ l, uy o) \/ ∃ H, y = (AX.ret, [AV.bool true], H)) (λi _ => ∀ j (h : j < l.length), j < i -> uy l[j])
  (λi _ G z=>by
   obtain⟨x,r⟩:∃x,x=l[i]:=⟨_,rfl⟩;obtain⟨b,v,F⟩:=s20 (n:=176) ah x
   simp only[Ov,Oc]at v;cases b with
   |true=>exact .inr ⟨_,.inr ⟨_,rfl⟩,by simp(disch:=omega)[round_eq,Dc,h0,<-r,ca 20,v];rfl⟩
   |false=>exact .inl ⟨(),λj q E=>by
     by_cases h:j=i
     .subst h;rw[<-r];exact F rfl
     .exact z j q af,by simp(disch:=omega)[round_eq,Dc,h0,<-r,ca 20,v]⟩)
  (λ_ z=>⟨_,.inl ⟨rfl,λo A=>by
   obtain⟨j,q,rfl⟩:=bn.1 A;exact z j q q⟩,by simp(disch:=omega)[round_eq,Dc,h0]⟩) (aR _) () (λ_ _ h=>absurd h (Nat.not_lt_zero _))
def s19(r:176<n)(l:List lX)(hl:l.length<=9223372036854775807)(f:Bool):∃b,(en.cz n).p 19 [.b9 f (l.map Ov)]=some (.bool b)/\(b=false->l.length<=50/\∀o∈l,uy o):=by
 generalize h:(en.cz n).p 19 _=res;rw[pp 19 rfl r rfl,b8,b6]at h
 by_cases v:50<l.length
 .simp(disch:=omega)[c19]at h;exact⟨true,h.symm,ai⟩
 .simp(disch:=omega)[c19]at h;generalize i:iter _ _=oo at h;obtain⟨_,⟨rfl,q⟩ | ⟨H,rfl⟩,rfl⟩:∃y,_/\oo=some y:=by rw[<-i];exact l19 l af f _ aq
  .simp(disch:=omega)at h;exact⟨false,h.symm,λ_=>⟨af,q⟩⟩
  .simp(disch:=omega)at h;exact⟨true,h.symm,ai⟩
def l7(l:List vS)(hl:l.length<=1000000)(f:Bool)(e0:Env)(h1:e0 1 = .b9 f (l.map Uv)):
  ∃y,((y=(AX.exit 0,[],[])/\∀o∈l,uy o.op)\/∃H,y=(AX.ret,[AV.bool true],H))/\iter (round (en.cz 177) [5] [(.exit 0,[]),(.ret,[4])] Lg e0 0 []) ([I 0],[])=some y :=
 iQ (f := round (en.cz 177) [5] [(.exit 0, []), (.ret, [4])] Lg e0 0 []) l.length (λi (_ : Unit) => ([I (i : Int)], [])) (λy => (y = (AX.exit 0, [], []) /\ ∀ o ∈ l, uy o.op) \/ ∃ H, y = (AX.ret, [AV.bool true], H)) (λi _ => ∀ j (h : j < l.length), j < i -> uy l[j].op)
  (λi _ G z=>by
   obtain⟨x,r⟩:∃x,x=l[i]:=⟨_,rfl⟩;obtain⟨b,v,F⟩:=s20 (n:=177) ah x.op
   simp only[Ov,Oc]at v;cases b with
   |true=>exact .inr ⟨_,.inr ⟨_,rfl⟩,by simp(disch:=omega)[round_eq,Lg,h1,<-r,ca 20,v];rfl⟩
   |false=>exact .inl ⟨(),λj q E=>by
     by_cases h:j=i
     .subst h;rw[<-r];exact F rfl
     .exact z j q af,by simp(disch:=omega)[round_eq,Lg,h1,<-r,ca 20,v]⟩)
  (λ_ z=>⟨_,.inl ⟨rfl,λo A=>by
   obtain⟨j,q,rfl⟩:=bn.1 A;exact z j q q⟩,by simp(disch:=omega)[round_eq,Lg,h1]⟩) (aR _) () (λ_ _ h=>absurd h (Nat.not_lt_zero _))
def s7(z:177<n)(l:List lX)(m:List vS)(hl:l.length<=9223372036854775807)(A:m.length<=9223372036854775807)(f g:Bool):∃b,(en.cz n).p 7 [.b9 f (l.map Ov),.b9 g (m.map Uv)]=some (.bool b)/\(b=false->l.length<=50/\(∀o∈l,uy o)/\m.length<=24/\∀x∈m,uy x.op):=by
 obtain⟨b,i,q⟩:=s19 (n:=177) ah l hl f
 generalize h:(en.cz n).p 7 _=res;rw[p7 z,b8,b6]at h;cases b with
 |true =>
  simp(disch:=omega)[c7,ca 19,i]at h;exact⟨true,h.symm,ai⟩
 |false =>
 by_cases E:24<m.length
 .simp(disch:=omega)[c7,ca 19,i]at h;exact⟨true,h.symm,ai⟩
 .simp(disch:=omega)[c7,ca 19,i]at h;generalize r:iter _ _=oo at h;obtain⟨_,⟨rfl,v⟩ | ⟨H,rfl⟩,rfl⟩:∃y,_/\oo=some y:=by rw[<-r];exact l7 m af g _ aq
  .simp(disch:=omega)at h;exact⟨false,h.symm,λ_=>⟨(q rfl).1,(q rfl).2,af,v⟩⟩
  .simp(disch:=omega)at h;exact⟨true,h.symm,ai⟩
end
def PA(st:ax)(os:List lX)(jR:List nH)(c:Nat):Option (lX×Option nH):=match st[c]? with
 |some 1=>(os[c]?).map λo=>(o,none)
 |some 2=>(os[c]?).bind λo=>(jR[c]?).map λa=>(o,some a)
 |_=>none
def Evo(x:ze):Prop:=x.c<3/\(x.vO=true->x.op.client=(x.c:Int)/\uy x.op)/\(x.vO=false->zM x.PT)
structure Rs(f0:AV)(k i:Nat)(g:FS)(h:List ze)(cl:Nat)(st:ax)(os:List lX)(jR:List nH):Prop where
 ok:mF (k+i) g
 s3:st.length=3
 o3:os.length=3
 a3:jR.length=3
 sb:∀s∈st,s<3
 rn:∃p,Li.Rn Dv f0 h (Fv g) p/\∀c,c<3->p c=PA st os jR c
 hl:h.length<=i
 cl:(Li.calls Dv h).cs.length=cl
 ev:∀x∈h,Evo x
 oo:∀(c s:Nat)(o:lX),st[c]? = some s->os[c]? = some o->s≠0->uy o/\o.client=(c:Int)
 aa:∀(c:Nat)(a:nH),st[c]? = some 2->jR[c]? = some a->zM a
def wO(h:List ze)(x:ze):(Li.calls Dv (h++[x])).cs.length=(Li.calls Dv h).cs.length+if x.vO=true then 1 else 0:=by
 rw[Li.lg,Li.oZ];split<;>simp
section
variable{f0:AV}{k i:Nat}{g:FS}{h:List ze}{cl:Nat}{st:ax}{os:List lX}{jR:List nH}{c:Nat}
def Rs.more(R:Rs f0 k i g h cl st os jR):Rs f0 k (i+1) g h cl st os jR:=⟨R.ok.mono af,R.s3,R.o3,R.a3,R.sb,R.rn,by have:=R.hl;omega,R.cl,R.ev,R.oo,R.aa⟩
def Hl{b:ax}{l:List lX}{n:List nH}{d:Nat}(h1:b[d]? = st[d]?)(h2:l[d]? = os[d]?)(h3:n[d]? = jR[d]?):PA b l n d=PA st os jR d:=by
 unfold PA;rw[h1,h2,h3]
def Rs.vO(R:Rs f0 k i g h cl st os jR)(y:c<3)(hs:st[c]? = some 0){o:lX}(z:uy o)(q:o.client=(c:Int))(a:nH):Rs f0 k (i+1) g (h++[⟨true,c,o,a⟩]) (cl+1) (st.set c 1) (os.set c o) jR:=by
 have s3:=R.s3;have o3:=R.o3;obtain⟨p,A,n⟩:=R.rn;have E:p c=none:=by rw[n c y];unfold PA;rw[hs];rfl
 refine⟨R.ok.mono af,an s3,an o3,R.a3,λs v=>?_,⟨_,A.vO c o a y E,λd F=>?_⟩,by have:=R.hl;simp;omega,by rw[wO,R.cl];rfl,λx l=>?_,λd s o' h1 h2 r=>?_,λd a' h1 h2=>?_⟩
 .rcases dx v with v | rfl
  .exact R.sb s v
  .decide
 .by_cases b : d = c
  .subst b;rw[Li.ng];unfold PA;rw[aP af,aP af]
   rfl
  .rw[Li.mo _ b,n d F];exact(Hl (aH (λe=>b e.symm)) (aH (λe=>b e.symm)) rfl).symm
 .rcases bh.1 l with l | l
  .exact R.ev x l
  .rw[cm.1 l];exact⟨y,λ_=>⟨q,z⟩,λh=>by cases h⟩
 .by_cases b : d = c
  .subst b;rw[aP af]at h2
   cases h2;exact⟨z,q⟩
  .rw[aH (λe=>b e.symm)]at h1 h2
   exact R.oo d s o' h1 h2 r
 .by_cases b : d = c
  .subst b;rw[aP af]at h1
   cases h1
  .rw[aH (λe=>b e.symm)]at h1
   exact R.aa d a' h1 h2
def Rs.done(R:Rs f0 k i g h cl st os jR)(E:c<3)(hs:st[c]? = some 1){o:lX}(v:os[c]? = some o){r:FS}(G:(Dv o (Fv g)).1=Fv r)(hg:mF (k+i+1) r)(F:zM (Dv o (Fv g)).2):Rs f0 k (i+1) r h cl (st.set c 2) os (jR.set c (Dv o (Fv g)).2):=by
 have s3:=R.s3;have o3:=R.o3;have a3:=R.a3;obtain⟨p,y,l⟩:=R.rn;have z:p c=some (o,none):=by rw[l c E];unfold PA;rw[hs,v];rfl
 have x:=y.done c o z;rw[G]at x;refine⟨hg,an s3,o3,an a3,λs q=>?_,⟨_,x,λd A=>?_⟩,by have:=R.hl;omega,R.cl,R.ev,λd s o' h1 h2 n=>?_,λd a' h1 h2=>?_⟩
 .rcases dx q with q | rfl
  .exact R.sb s q
  .decide
 .by_cases b : d = c
  .subst b;rw[Li.ng];unfold PA;rw[aP af,aP af,v]
   rfl
  .rw[Li.mo _ b,l d A];exact(Hl (aH (λe=>b e.symm)) rfl (aH (λe=>b e.symm))).symm
 .by_cases b : d = c
  .subst b;exact R.oo d 1 o' hs h2 ah
  .rw[aH (λe=>b e.symm)]at h1
   exact R.oo d s o' h1 h2 n
 .by_cases b : d = c
  .subst b;rw[aP af]at h2
   cases h2;exact F
  .rw[aH (λe=>b e.symm)]at h1 h2
   exact R.aa d a' h1 h2
def Rs.fin(R:Rs f0 k i g h cl st os jR)(v:c<3)(hs:st[c]? = some 2){a:nH}(y:jR[c]? = some a)(o':lX):Rs f0 k (i+1) g (h++[⟨false,c,o',a⟩]) cl (st.set c 0) os jR:=by
 have s3:=R.s3;have o3:=R.o3;obtain⟨p,z,n⟩:=R.rn;obtain⟨o,A⟩:∃o,os[c]? = some o:=⟨_,aG af⟩
 have E:p c=some (o,some a):=by rw[n c v];unfold PA;rw[hs,A,y];rfl
 refine⟨R.ok.mono af,an s3,o3,R.a3,λs r=>?_,⟨_,z.fin c o o' a v E,λd F=>?_⟩,by have:=R.hl;simp;omega,by rw[wO,R.cl];rfl,λx l=>?_,λd s o' h1 h2 q=>?_,λd a' h1 h2=>?_⟩
 .rcases dx r with r | rfl
  .exact R.sb s r
  .decide
 .by_cases b : d = c
  .subst b;rw[Li.ng];unfold PA;rw[aP af]
   rfl
  .rw[Li.mo _ b,n d F];exact(Hl (aH (λe=>b e.symm)) rfl rfl).symm
 .rcases bh.1 l with l | l
  .exact R.ev x l
  .rw[cm.1 l];exact⟨v,λh=>by simp at h,λ_=>R.aa c a hs y⟩
 .by_cases b : d = c
  .subst b;rw[aP af]at h1
   cases h1;exact absurd rfl q
  .rw[aH (λe=>b e.symm)]at h1
   exact R.oo d s o' h1 h2 q
 .by_cases b : d = c
  .subst b;rw[aP af]at h1
   cases h1
  .rw[aH (λe=>b e.symm)]at h1
   exact R.aa d a' h1 h2
end
@[simp]def akQ(l:List nH):jw 7 (l.map Av)=true:=by simp[jw]
@[simp]theorem abd(h b a3 a4 a5 a6 a7 a8:AV):Am.shape 8 true [h,b,a3,a4,a5,a6,a7,a8]=some (.agg [h,b,a3,a4,a5,a6,a7,a8]):=rfl
def VC(c:UInt8):((c.toNat:Int)).tmod 3=((c.toNat%3:Nat):Int):=by
 rw[Int.tmod_eq_emod_of_nonneg af]
 omega
abbrev Ph(X:AH)(g:FS)(h:List ze)(st:ax)(os:List lX)(b:List nH):AH:=X++[.var (Fc g),.var nY,.row 0 1 (st.map λ(s:Nat)=>I (s:Int)),.row 0 8 (os.map Ov),.row 0 7 (b.map Av),.row 0 17 (h.map Po)]
abbrev Rst:=FS×List ze×Nat×ax×List lX×List nH
def l14{X:AH}(hX:X.all gd=true){T:AV}{k:Nat}(hk:k<=120){m:List vS}(hm:m.length<=24)(ho:∀x∈m,uy x.op)(f:Bool)(e0:Env)(h1:e0 1 = .b9 f (m.map Uv))(h2:e0 2=I 5)(h3:e0 3 = .ptr X.length 0 0 0)(S:e0 9 = .own (X.length+2) 0 0 3)(P:e0 10 = .own (X.length+3) 0 0 3)(O:e0 11 = .own (X.length+4) 0 0 3)
  {g0:FS} {z:ax} {A:List lX} {F:List nH} (R0:Rs T k 0 g0 [] 0 z A F) :
  ∃y,(∃g h cl st os b,Rs T k m.length g h cl st os b/\cl<=5/\y=(AX.exit 0,[AV.own (X.length+5) 0 0 h.length],Ph X g h st os b))/\
   iter (round (en.cz 255) [8,12,13] [(.exit 0,[8])] mZ e0 (X.length+6) [X.length+5]) ([.own (X.length+5) 0 0 0,I 0,I 0],Ph X g0 [] z A F)=some y :=
 iQ (f:=round (en.cz 255) [8,12,13] [(.exit 0,[8])] mZ e0 (X.length+6) [X.length+5]) m.length (λi (x:Rst)=>([.own (X.length+5) 0 0 x.2.1.length,I (x.2.2.1:Int),I (i:Int)],Ph X x.1 x.2.1 x.2.2.2.1 x.2.2.2.2.1 x.2.2.2.2.2))
  (λy=>∃g h cl st os b,Rs T k m.length g h cl st os b/\cl<=5/\y=(AX.exit 0,[AV.own (X.length+5) 0 0 h.length],Ph X g h st os b))
  (λi x=>Rs T k i x.1 x.2.1 x.2.2.1 x.2.2.2.1 x.2.2.2.2.1 x.2.2.2.2.2/\x.2.2.1<=5)
  (λi x hi ⟨R,q⟩=>by
   obtain⟨g,h,cl,st,os,b⟩:=x;simp only at R q;obtain⟨x,G⟩:∃x,x=m[i]:=⟨_,rfl⟩;have E:=ho x (by rw[G];exact aO hi)
   have l:=VC x.c;have Q:x.c.toNat%3<3:=gC _ ah
   have hlt:=x.c.toNat_lt;obtain⟨c,W⟩:∃c,c=x.c.toNat%3:=⟨_,rfl⟩;rw[<-W]at l Q;have s3:=R.s3;have o3:=R.o3;have a3:=R.a3;have hhl:=R.hl;have cs:c<st.length:=af
   have co:c<os.length:=af
   have caa:c<b.length:=af
   obtain⟨s,hs⟩:∃s,s=st[c]:=⟨_,rfl⟩;have hs3:=R.sb s (by rw[hs];exact aO cs)
   have v:st[c]? = some s:=by rw[hs];exact aG cs
   have N:=λh0 Y=>(kf hX).tail (L:=X.length+6) (R:=[X.length+5]) af ai h0 Y
   have r:=jr X;left;obtain rfl | rfl | rfl:s=0\/s=1\/s=2:=af
   .by_cases c5:cl=5
    .exact⟨(g,h,cl,st,os,b),⟨R.more,q⟩,by simp(disch:=omega)[round_eq,mZ,Ph,h1,h2,S,<-G,l,<-hs,c5,jb,nY,N,r]⟩
    .exact⟨(g,h++[⟨true,c,{x.op with client:=c},Az⟩],cl+1,st.set c 1,os.set c {x.op with client:=c},b),⟨R.vO Q v (o:={x.op with client:=(c:Int)}) ⟨E.p,E.t,E.d⟩ rfl Az,by simp only;omega⟩,by simp(disch:=omega)[round_eq,mZ,Ph,h1,h2,S,P,<-G,l,<-hs,jb,nY,N,r]⟩
   .obtain⟨o,H⟩:∃o,o=os[c]:=⟨_,rfl⟩;have K:os[c]? = some o:=by rw[H];exact aG co
    obtain⟨U,-⟩:=R.oo c 1 o v K ah
    obtain⟨g',Q9,Tp,hD3,hD4⟩:=JS R.ok af U
    have hD:=hD4 (n:=255) ah
    have R':=R.done Q v K Q9 Tp hD3;generalize(Dv o (Fv g)).2=a' at *
    simp only[Fv,Fc,Sc,Ov,Oc,Av,Ac,aJ,aK]at hD;exact⟨(g',h,cl,st.set c 2,os,b.set c a'),⟨R',q⟩,by simp(disch:=omega)[round_eq,mZ,Ph,h1,h3,S,P,O,<-G,l,<-hs,<-H,hD,jb,nY,N,r]⟩
   .obtain⟨a,M⟩:∃a,a=b[c]:=⟨_,rfl⟩;have Z:b[c]? = some a:=by rw[M];exact aG caa
    exact⟨(g,h++[⟨false,c,⟨0,0,[],[],0,0,0,[]⟩,a⟩],cl,st.set c 0,os,b),⟨R.fin Q v Z _,q⟩,by simp(disch:=omega)[round_eq,mZ,Ph,h1,S,O,<-G,l,<-hs,<-M,jb,nY,N,r]⟩)
  (λx ⟨R,q⟩=>⟨_,⟨_,_,_,_,_,_,R,q,rfl⟩,by
   have N:=λh0 Y=>(kf hX).tail (L:=X.length+6) (R:=[X.length+5]) af ai h0 Y
   have r:=jr X;simp(disch:=omega)[round_eq,mZ,Ph,h1,nY]⟩) (aR _) (g0,[],0,z,A,F) ⟨R0,aR _⟩
abbrev Oz:lX:=⟨0,0,[],[],0,0,0,[]⟩
def UO{k:Nat}{g:FS}(hg:mF k g):Rs (Fv g) k 0 g [] 0 [0,0,0] [Oz,Oz,Oz] [Az,Az,Az] :=
 ⟨hg,rfl,rfl,rfl,ai,⟨_,.nil,λc h=>by
  obtain rfl | rfl | rfl:c=0\/c=1\/c=2:=af
  .rfl
  .rfl
  .rfl⟩,aR _,rfl,ai,λc s o h1 h2 b=>by
  rcases c with _ | _ | _ | c<;>simp at h1<;>omega,λc a h1 h2=>by
  rcases c with _ | _ | _ | c<;>simp at h1⟩
def s14{n:Nat}(F:255<n){X:AH}(z:X.all gd=true){g:FS}{k:Nat}(hg:mF k g)(hk:k<=120){m:List vS}(G:m.length<=24)(E:∀x∈m,uy x.op)(f:Bool):
  ∃l h cl st os i,Rs (Fv g) k m.length l h cl st os i/\cl<=5/\eT (en.cz n) 14 [Fv g,.b9 f (m.map Uv),I 5] X=some (.jg [.own (X.length+5) 0 0 h.length,Fv l],X++[.var (Fc l),.var (Fc l),.row 0 1 (st.map λ(s:Nat)=>I (s:Int)),.row 0 8 (os.map Ov),.row 0 7 (i.map Av),.row 0 17 (h.map Po)]):=by
 generalize b:eT (en.cz n) 14 _ X=res;rw[ph 14 rfl F rfl,b6]at b;have H:=λh0 Y=>(kf z).tail (L:=X.length+6) (R:=[X.length+5]) af ai h0 Y
 have o:=jr X;simp(disch:=omega)[c14,H,o]at b;have key:=λe0 h1 h2 h3 K v r=>l14 z hk G E f e0 h1 h2 h3 K v r (UO hg)
 simp only[Ph,bM,aM,Ov,Oc,Av,Ac,nY,Fc,Sc,aJ,aK,eR]at key;generalize A:iter _ _=oo at b;obtain⟨_,⟨l,h,cl,st,os,i,R,q,rfl⟩,rfl⟩:∃y,_/\oo=some y:=by rw[<-A];exact key _ aq aq aq aq aq aq
 refine⟨l,h,cl,st,os,i,R,q,?_⟩;rw[<-b];simp(disch:=omega)
end Go.Proofs.YtghgbehknhmnaaaGreatDoor
