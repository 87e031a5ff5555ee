/- Part of the proof that TopTwoPartsCard holds. -/
import Derived.Test.YtghgbehknhmnaaaGreatDoorFs30c
set_option linter.all false
namespace Go.Proofs.YtghgbehknhmnaaaGreatDoor
open Go.Am Go.Tr Go.Am.Nm Go.Lib
def af8(B0 B1 B2 B3:AB)(k:Nat)(o:lX)(a:nH)(Y:AH)(r:AV⊕Pn)(H:AH):Prop:=(r = .inl (.jg [])/\∃f b es Z,mF (k+1) f/\H=B0::B1::B2::B3 :: .var (Wq f o a (.own (b+5) 0 0 f.jG.length) (.b9 false (a.data.map B)))::(Y++Z)/\(Y++Z)[b]? = some (.me 0 3 es)/\f.jG.length<=es.length/\es.take f.jG.length=f.jG.map Qv)\/
 (Pk r/\∃Y,H=B0::B1::B2::B3::Y)
def Kk{n:Nat}(hn:124<n){k:Nat}{f:FS}{o:lX}{a:nH}(O:mF k f)(hk:k<=200){B0 B1 B2 B3:AB}(hB0:gd B0=true)(hB1:gd B1=true)(hB2:gd B2=true)(hB3:gd B3=true){Y:AH}(hY:Y.all gd=true){t:Tr.Tree}(w:lM t){l:List Qu}(hs:mE l)(hl:l.length<=16):
  ∃r H,(en.cz n).x 119 [.ptr 4 0 0 0,Tv t,.b9 false (l.map Qv)] (pJ B0 B1 B2 B3 f o a Y)=some (r,H)/\af8 B0 B1 B2 B3 k o a Y r H:=by
 obtain⟨X,i⟩:∃X,X=pJ B0 B1 B2 B3 f o a Y:=⟨_,rfl⟩;have M:X.all gd=true:=by
  rw[i];simp only[pJ,bV,hB0,hB1,hB2,hB3,hY];simp[gd,AV.jW]
 have h3:X[4]? = some (.var (Wc f o a)):=by rw[i];rfl
 have hXl:X.length=Y.length+5:=by rw[i];rfl
 have h3l:4<X.length:=af
 have h3g:=(aD.1 h3).2;have hO:=ahU (n:=124) ah t (nc w).len
 have hol:(qW t).length<=1000:=by
  unfold qW;have h1:=w.wf.len;have h2:=bz mS t.nodes;simp;omega
 generalize qW t=os at *
 have K:=acv (n:=124) ah
 rw[<-i];generalize h:(en.cz n).x 119 _ _=res;rw[ai2 hn,jC]at h;simp only[Tv]at hO;have hT:=λL (hL:X.length<=L) h0 Y=>(kf M).tail (L:=L) (R:=[]) hL ai h0 Y
 have T:=jr X;have hT1:=hT (X.length+1) af
 simp(disch:=omega)[YI,ca 175,hO,hT1,T]at h;generalize S:iter _ _=P at h;obtain⟨_,⟨z,w',rfl⟩,rfl⟩:∃y,_/\P=some y:=by rw[<-S];exact V9 M h3 O w os hol _ aq aq aq aq
 have hX1:(X++[AB.var (Tb z)]).all gd=true:=by rw[cq,M];rfl
 obtain⟨es,Z,hZ,v,q,hD⟩:=ahS (n:=124) ah w' (l:=l) af hX1 X.length ai
 have G:mE (uJ z l):=hs.filter _;have W:(uJ z l).length<=16:=bJ (bz _ _) hl;generalize uJ z l=Q at *
 obtain⟨b,E⟩:=ahR (n:=124) ah w' G af
 have hok:=DC (n:=124) ah 91
 have hno:=DD (n:=124) ah (e:=91) ah
 simp only[aU,aS,bt,cM,aK,aL]at hD;simp only[Tv]at E v;obtain⟨s',hP,U⟩:=UM (n:=124) ah O.s af w'
 simp only[Sv,Sc,Tv]at hP;cases b with
 |false =>
  simp(disch:=omega)[K,jd,hD,ca 183,E,v,q,hno]at h;exact⟨_,_,h.symm,.inr ⟨⟨91,rfl⟩,_,by rw[i];rfl⟩⟩
 |true =>
  have hP2:(X++(AB.var (Tb z) :: .me 0 3 es::Z)).all gd=true:=by
   rw[cq,M]
   simpa[gd,AV.jW]using hZ
  have A:(X++(AB.var (Tb z) :: .me 0 3 es::Z)).length=X.length+(Z.length+1+1):=ai
  have N:=(kf hP2).same;rw[A]at N;have F:(X++(AB.var (Tb z) :: .me 0 3 es::Z)).take (X.length+(Z.length+1+1))=X++(AB.var (Tb z) :: .me 0 3 es::Z):=aO (by rw[A];exact aV _)
  have hel:Q.length<=es.length:=q;simp(disch:=omega)[K,jd,hD,ca 183,E,v,q,hok,N,F]at h;generalize S:iter _ _=P at h;obtain⟨_,hy,rfl⟩:∃y,_/\P=some y:=by rw[<-S];exact V8 M hZ w' (l:=Q) af q v _ aq aq aq
  rcases hy with rfl | ⟨e,Z',rfl⟩
  .simp(disch:=omega)[h3g,hP]at h;subst i;simp(disch:=omega)at h;exact⟨_,_,h.symm,.inl ⟨rfl,⟨s',f.holds,Q⟩,Y.length+1,es,_,⟨U,O.hs,O.hl,G,W⟩,rfl,ai,q,v⟩⟩
  .simp(disch:=omega)at h;exact⟨_,_,h.symm,.inr ⟨⟨e,rfl⟩,_,by rw[i];rfl⟩⟩
def rO{B0 B1 B2 B3:AB}{k:Nat}{f:FS}{o:lX}{a:nH}{b:Nat}{es:List AV}{Y:AH}(h:mF (k+1) f)(i:zM a)(h1:Y[b]? = some (.me 0 3 es))(h2:f.jG.length<=es.length)(h3:es.take f.jG.length=f.jG.map Qv):
  Out B0 B1 B2 B3 k o (.inl (.jg [])) (B0::B1::B2::B3 :: .var (Wq f o a (.own (b+5) 0 0 f.jG.length) (.b9 false (a.data.map B)))::Y):=.inl ⟨rfl,f,a,h,i,_,_,Y,rfl,.inr (.inl ⟨rfl,b,es,rfl,h1,h2,h3⟩)⟩
def s61:qJ 61 125:=λ{n} N {k f o} l hk M B0 B1 B2 B3 L K p2 p3=>by
 obtain⟨r,q,z⟩:=Mx (n:=125) ah l (p:=o.path) (by have:=M.p;omega) [] (B0:=B0) (B1:=B1) (B2:=B2) (B3:=B3) (o:=o) (a:=Az)
 simp only[pJ,Wc,Fc,Sc,Oc,Ac,aK,aL,aN]at q;generalize h:(en.cz n).x 61 _ _=res;rw[p61 N,jC]at h
 rcases z with⟨d,nm,rfl⟩ | ⟨e,rfl⟩
 .have y:=aif (n:=125) ah f.s.now l.s.w d nm o.n
  have F:=WF.add jM l.s.w d nm o.n;generalize add j4 gr f.s.now d nm o.n=r at *
  obtain⟨t,i,e⟩:=r;simp only[Tv]at y F
  by_cases G:e=0
  .subst G;have v:=vh (n:=125) ah
   obtain⟨r,H,E,z⟩:=Kk (n:=125) ah l hk L K p2 p3 (o:=o) (a:=Az) (Y:=[.var (Tb t)]) rfl F l.qs l.ql
   simp only[pJ,Wc,Fc,Sc,Oc,Ac,Tv,aK,aL,aN]at E
   rcases z with⟨rfl,O,b,es,Y,A,rfl,h1,h2,h3⟩ | ⟨⟨e,rfl⟩,Y,rfl⟩
   .simp(disch:=omega)[W9,q,y,v,E]at h;exact⟨_,_,h.symm,rO (a:=⟨0,i,o.n,0,0,[],[]⟩) A (j7 ..) h1 h2 h3⟩
   .simp(disch:=omega)[W9,q,y,v,E]at h;exact⟨_,_,h.symm,jm ..⟩
  .have v:=rK (n:=125) ah G
   simp(disch:=omega)[W9,q,y,v]at h;exact⟨_,_,h.symm,jm ..⟩
 .simp(disch:=omega)[W9,q]at h;exact⟨_,_,h.symm,jm ..⟩
def s62:qJ 62 127:=λ{n} T {k f o} i hk S B0 B1 B2 B3 P O p2 p3=>by
 obtain⟨r,N,G,l,v⟩:=Hg (n:=127) ah i o.path [] (B0:=B0) (B1:=B1) (B2:=B2) (B3:=B3) (o:=o) (a:=Az)
 simp only[pJ,Wc,Fc,Sc,Oc,Ac,aK,aL,aN]at l;generalize h:(en.cz n).x 62 _ _=res;rw[p62 T,jC]at h
 rcases v with rfl | ⟨e,rfl⟩
 .have E:∀q,find f.s.now.nodes (iS f.s.now (mO f.s.now o.path).1).ino=some q->-4398046511104<=q.links/\q.links<=4398046511104:=λq Q=>by
   have:=i.s.w.bg.lk q (fk Q).1;omega
  generalize iS f.s.now (mO f.s.now o.path).1=q at *
  simp only[Nd]at l;obtain⟨r,y,v⟩:=Mx (n:=127) ah i (p:=o.to) (by have:=S.t;omega) (N++[.var (Nc q)]) (B0:=B0) (B1:=B1) (B2:=B2) (B3:=B3) (o:=o) (a:=Az)
  simp only[pJ,Wc,Fc,Sc,Oc,Ac,aK,aL,aN]at y
  rcases v with⟨d,nm,rfl⟩ | ⟨e,rfl⟩
  .have A:=aie (n:=127) ah f.s.now i.s.w q.ino d nm E
   have L:=WF.ln jM i.s.w q.ino d nm;generalize ln j4 gr f.s.now q.ino d nm=r at *
   obtain⟨t,e⟩:=r;simp only[Tv]at A L
   by_cases M:e=0
   .subst M;have z:=vh (n:=127) ah
    obtain⟨r,H,K,v⟩:=Kk (n:=127) ah i hk P O p2 p3 (o:=o) (a:=Az) (Y:=N++[.var (Nc q),.var (Tb t)]) (by rw[cq,G];rfl) L i.qs i.ql
    simp only[pJ,Wc,Fc,Sc,Oc,Ac,Tv,aK,aL,aN]at K
    rcases v with⟨rfl,U,b,es,Y,F,rfl,h1,h2,h3⟩ | ⟨⟨e,rfl⟩,Y,rfl⟩
    .simp(disch:=omega)[X6,l,y,A,z,K]at h;exact⟨_,_,h.symm,rO (a:=⟨0,q.ino,0,0,0,[],[]⟩) F (j7 ..) (an h1) h2 h3⟩
    .simp(disch:=omega)[X6,l,y,A,z,K]at h;exact⟨_,_,h.symm,jm ..⟩
   .have z:=rK (n:=127) ah M
    simp(disch:=omega)[X6,l,y,A,z]at h;exact⟨_,_,h.symm,jm ..⟩
  .simp(disch:=omega)[X6,l,y]at h;exact⟨_,_,h.symm,jm ..⟩
 .simp(disch:=omega)[X6,l]at h;exact⟨_,_,h.symm,jm ..⟩
def s63:qJ 63 132:=λ{n} N {k f o} l hk M B0 B1 B2 B3 L K p2 p3=>by
 obtain⟨r,q,z⟩:=Mx (n:=132) ah l (p:=o.path) (by have:=M.p;omega) [] (B0:=B0) (B1:=B1) (B2:=B2) (B3:=B3) (o:=o) (a:=Az)
 simp only[pJ,Wc,Fc,Sc,Oc,Ac,aK,aL,aN]at q;generalize h:(en.cz n).x 63 _ _=res;rw[p63 N,jC]at h
 rcases z with⟨d,nm,rfl⟩ | ⟨e,rfl⟩
 .have y:=aid (n:=132) ah f.s.now l.s.w d nm
  have F:=WF.un jM l.s.w d nm;generalize un j4 f.s.now d nm=r at *
  obtain⟨t,i,e⟩:=r;simp only[Tv]at y F
  by_cases G:e=0
  .subst G;have v:=vh (n:=132) ah
   obtain⟨r,H,E,z⟩:=Kk (n:=132) ah l hk L K p2 p3 (o:=o) (a:=Az) (Y:=[.var (Tb t)]) rfl F l.qs l.ql
   simp only[pJ,Wc,Fc,Sc,Oc,Ac,Tv,aK,aL,aN]at E
   rcases z with⟨rfl,O,b,es,Y,A,rfl,h1,h2,h3⟩ | ⟨⟨e,rfl⟩,Y,rfl⟩
   .simp(disch:=omega)[W0,q,ca 121,y,v,E]at h;exact⟨_,_,h.symm,rO (a:=⟨0,i,0,0,0,[],[]⟩) A (j7 ..) h1 h2 h3⟩
   .simp(disch:=omega)[W0,q,ca 121,y,v,E]at h;exact⟨_,_,h.symm,jm ..⟩
  .have v:=rK (n:=132) ah G
   simp(disch:=omega)[W0,q,ca 121,y,v]at h;exact⟨_,_,h.symm,jm ..⟩
 .simp(disch:=omega)[W0,q]at h;exact⟨_,_,h.symm,jm ..⟩
def vj{B0 B1 B2 B3:AB}{k:Nat}{f:FS}{o:lX}{a:nH}(b:mF (k+1) f)(h:zM a)(Y:AH):Out B0 B1 B2 B3 k o (.inl (.jg [])) (B0::B1::B2::B3 :: .var (Wq f o a (.b9 false (f.jG.map Qv)) (.b9 false (a.data.map B)))::Y):=.inl ⟨rfl,f,a,b,h,_,_,Y,rfl,.inl ⟨rfl,rfl⟩⟩
def HQ{t:Tr.Tree}(w:lM t)(i:Int):(iS t i).b7.length<=64/\(iS t i).data.length<=4096:=by
 unfold iS;cases h:find t.nodes i with
 |none=>simp[jo]
 |some q=>exact jQ w (fk h).1
def s67:qJ 67 75:=λ{n} G {k f o} i hk M B0 B1 B2 B3 L K p2 p3=>by
 obtain⟨r,Y,_,v,F⟩:=Hg (n:=75) ah i o.path [] (B0:=B0) (B1:=B1) (B2:=B2) (B3:=B3) (o:=o) (a:=Az)
 simp only[pJ,Wc,Fc,Sc,Oc,Ac,aK,aL,aN]at v;generalize b:(en.cz n).x 67 _ _=res;rw[p67 G,jC]at b
 rcases F with rfl | ⟨e,rfl⟩
 .generalize iS f.s.now (mO f.s.now o.path).1=q at *
  simp only[Nd]at v;have z:=aia (n:=75) ah f.s.now i.s.w.wf.jL (nc i.s.w).len f.holds i.hs (by have:=i.hl;omega) false o.client o.handle q.ino
  have E:=yN f.s.now f.holds o.client o.handle q.ino;generalize qm f.s.now f.holds o.client o.handle q.ino=r at *
  obtain⟨l,e⟩:=r;simp only[Tv,dx]at z E
  by_cases A:e=0
  .subst A;have y:=vh (n:=75) ah
   rcases E with⟨_,h⟩ | ⟨_,_,_,_,_,h5,h6,H⟩
   .exact absurd rfl h
   .cases H;simp(disch:=omega)[c67,v,z,y]at b;refine⟨_,_,b.symm,vj (f:=⟨f.s,uF f.holds ⟨o.client,o.handle,q.ino⟩,f.jG⟩) (a:=⟨0,q.ino,0,0,0,[],[]⟩) ⟨i.s.mono af,FL i.hs h5,by simp only[FM];omega,i.qs,i.ql⟩ (j7 ..) _⟩
  .have y:=rK (n:=75) ah A
   simp(disch:=omega)[c67,v,z,y]at b;exact⟨_,_,b.symm,jm ..⟩
 .simp(disch:=omega)[c67,v]at b;exact⟨_,_,b.symm,jm ..⟩
def s68:qJ 68 114:=λ{n} F {k f o} h hk K B0 B1 B2 B3 H G p2 p3=>by
 generalize b:(en.cz n).x 68 _ _=res;rw[p68 F,jC]at b;have y:=abS (n:=114) ah f.s.now h.s.w.wf.jL (nc h.s.w).len f.holds (by have:=h.hl;omega) false o.client o.handle
 have z:=WF.close h.s.w f.holds o.client o.handle;have hl:=nG h.hs f.s.now o.client o.handle;generalize js f.s.now f.holds o.client o.handle=r at *
 obtain⟨t,l,e⟩:=r;simp only[Tv,dx]at y z hl;have hs:qh l:=by rw[hl];exact h.hs.filter _
 have v:l.length<=64:=by rw[hl];exact bJ (bz _ _) h.hl
 clear hl
 by_cases A:e=0
 .subst A;have i:=vh (n:=114) ah
  obtain⟨s',E,q⟩:=UM (n:=114) ah h.s af z
  simp only[Sv,Sc,Tv]at E;simp(disch:=omega)[c68,y,i,E]at b;exact⟨_,_,b.symm,vj (f:=⟨s',l,f.jG⟩) (a:=Az) ⟨q,hs,v,h.qs,h.ql⟩ (j7 ..) _⟩
 .have i:=rK (n:=114) ah A
  simp(disch:=omega)[c68,y,i]at b;exact⟨_,_,b.symm,jm ..⟩
def ad7(c:Int)(ks:ay):∀s:Tr.Tree×List Ho×Bool,s.2.2=false->(ks.foldl (gf c) s).2.2=false:=by
 induction ks with
 |nil=>exact λs h=>h
 |cons x ks b =>
  intro s h;rw[bG];exact b _ (by simp[gf,h])
def CN(c:Int)(ks:ay):∀(t:Tr.Tree)(l:List Ho),qh l->qh (p9 c ks t l).2/\(p9 c ks t l).2.length<=l.length:=by
 induction ks with
 |nil=>exact λt l h=>⟨h,aV _⟩
 |cons x ks b =>
  intro t l h;have hl:=nG h t c x;have h1:qh (js t l c x).2.1:=by rw[hl];exact h.filter _
  have h2:=r8 t l c x;obtain⟨h3,h4⟩:=b (js t l c x).1 (js t l c x).2.1 h1;exact⟨h3,bJ h4 h2⟩
def s76:qJ 76 116:=λ{n} F {k f o} i hk K B0 B1 B2 B3 H G p2 p3=>by
 generalize h:(en.cz n).x 76 _ _=res;rw[p76 F,jC]at h;have E:=ahk (n:=116) ah f.s.now i.s.w.wf.jL (nc i.s.w) f.holds (by have:=i.hl;omega) false o.client
 have v:=WF.gone o.client (As f.holds o.client) f.holds i.s.w;obtain⟨hs,q⟩:=CN o.client (As f.holds o.client) f.s.now f.holds i.hs;have hg:=Jl o.client (As f.holds o.client) (f.s.now,f.holds,false);have z:=ad7 o.client (As f.holds o.client) (f.s.now,f.holds,false) rfl;simp only at hg;rw[<-hg]at v hs q;generalize(As f.holds o.client).foldl (gf o.client) (f.s.now,f.holds,false)=r at *
 obtain⟨t,l,b⟩:=r;simp only[Tv]at E v hs q z;subst z;obtain⟨s',A,y⟩:=UM (n:=116) ah i.s af v
 simp only[Sv,Sc,Tv]at A;simp(disch:=omega)[c76,E,A]at h;exact⟨_,_,h.symm,vj (f:=⟨s',l,f.jG⟩) (a:=Az) ⟨y,hs,bJ q i.hl,i.qs,i.ql⟩ (j7 ..) _⟩
def s75:qJ 75 83:=λ{n} v {k f o} h hk A B0 B1 B2 B3 z y p2 p3=>by
 generalize b:(en.cz n).x 75 _ _=res;rw[p75 v,jC]at b;obtain⟨s',e,q,l⟩:=ah4 (n:=83) ah h.s o.n af
 simp only[Sv,Sc]at q
 by_cases r:e=0
 .subst r;have i:=vh (n:=83) ah
  simp(disch:=omega)[c75,q,i]at b;exact⟨_,_,b.symm,vj (f:=⟨s',f.holds,f.jG⟩) (a:=Az) ⟨l.mono af,h.hs,h.hl,h.qs,h.ql⟩ (j7 ..) _⟩
 .have i:=rK (n:=83) ah r
  simp(disch:=omega)[c75,q,i]at b;exact⟨_,_,b.symm,jm ..⟩
def s73:qJ 73 78:=λ{n} E {k f o} h hk H B0 B1 B2 B3 G F p2 p3=>by
 obtain⟨r,Y,_,i,A⟩:=Hg (n:=78) ah h o.path [] (B0:=B0) (B1:=B1) (B2:=B2) (B3:=B3) (o:=o) (a:=Az)
 simp only[pJ,Wc,Fc,Sc,Oc,Ac,aK,aL,aN]at i;generalize b:(en.cz n).x 73 _ _=res;rw[p73 E,jC]at b
 rcases A with rfl | ⟨e,rfl⟩
 .generalize iS f.s.now (mO f.s.now o.path).1=q at *
  simp only[Nd]at i;obtain⟨s',a,e,y,v⟩:=ah8 (n:=78) ah h.s q.ino
  simp only[Sv,Sc]at y
  by_cases z:e=0
  .subst z;have l:=vh (n:=78) ah
   simp(disch:=omega)[c73,i,y,l]at b;exact⟨_,_,b.symm,vj (f:=⟨s',f.holds,f.jG⟩) (a:=⟨0,0,0,a,0,[],[]⟩) ⟨v.mono af,h.hs,h.hl,h.qs,h.ql⟩ (j7 ..) _⟩
  .have l:=rK (n:=78) ah z
   simp(disch:=omega)[c73,i,y,l]at b;exact⟨_,_,b.symm,jm ..⟩
 .simp(disch:=omega)[c73,i]at b;exact⟨_,_,b.symm,jm ..⟩
def IK{t:Tr.Tree}{l:List Qu}(hs:mE l)(hl:l.length<=16)(i a b:Int):mE (rI t l i a b).1/\(rI t l i a b).1.length<=16:=by
 rcases zY t (l:=l) i a b with⟨_,h,_⟩ | ⟨_,_,h⟩ | ⟨_,_,_,_,h1,h⟩
 .rw[h];exact⟨hs,hl⟩
 .rw[h];exact⟨Fe hs i,bJ (zy l i) hl⟩
 .rw[h];refine⟨Fj hs _,?_⟩;have h2:=IW hs ⟨i,a,b⟩;have h3:=zy l i;simp only at h2⊢
  rcases h1 with h1 | h1
  .have:=IQ h1;omega
  .omega
def s72:qJ 72 141:=λ{n} N {k f o} i hk P B0 B1 B2 B3 M L p2 p3=>by
 obtain⟨r,O,F,v,A⟩:=Hg (n:=141) ah i o.path [] (B0:=B0) (B1:=B1) (B2:=B2) (B3:=B3) (o:=o) (a:=Az)
 simp only[pJ,Wc,Fc,Sc,Oc,Ac,aK,aL,aN]at v;generalize h:(en.cz n).x 72 _ _=res;rw[p72 N,jC]at h
 rcases A with rfl | ⟨e,rfl⟩
 .generalize iS f.s.now (mO f.s.now o.path).1=q at *
  simp only[Nd]at v;have z:=ah9 (n:=141) ah f.s.now i.s.w f.jG i.qs (by have:=i.ql;omega) q.ino o.n o.m
  obtain⟨h1,h2⟩:=IK (t:=f.s.now) i.qs i.ql q.ino o.n o.m;generalize rI f.s.now f.jG q.ino o.n o.m=r at *
  obtain⟨l,e⟩:=r;simp only[Tv]at z h1 h2
  by_cases K:e=0
  .subst K;have y:=vh (n:=141) ah
   obtain⟨r,H,G,A⟩:=Kk (n:=141) ah i hk M L p2 p3 (o:=o) (a:=Az) (Y:=O++[.var (Nc q)]) (by rw[cq,F];rfl) i.s.w h1 h2
   simp only[pJ,Wc,Fc,Sc,Oc,Ac,Tv,aK,aL,aN]at G
   rcases A with⟨rfl,Q,b,es,Z,E,rfl,h1,h2,h3⟩ | ⟨⟨e,rfl⟩,Y,rfl⟩
   .simp(disch:=omega)[Wn,v,z,y,G]at h;exact⟨_,_,h.symm,rO (a:=⟨0,q.ino,0,0,0,[],[]⟩) E (j7 ..) (an h1) h2 h3⟩
   .simp(disch:=omega)[Wn,v,z,y,G]at h;exact⟨_,_,h.symm,jm ..⟩
  .have y:=rK (n:=141) ah K
   simp(disch:=omega)[Wn,v,z,y]at h;exact⟨_,_,h.symm,jm ..⟩
 .simp(disch:=omega)[Wn,v]at h;exact⟨_,_,h.symm,jm ..⟩
variable{B0 B1 B2 B3:AB}
def UL{n:Nat}(H:86<n){k:Nat}{f:FS}{o:lX}{a:nH}(A:mF k f)(Y:AH):∃r v,v.all gd=true/\(en.cz n).x 130 [.ptr 4 0 0 0] (pJ B0 B1 B2 B3 f o a Y)=some (r,pJ B0 B1 B2 B3 f o a (Y++v))/\
  ((∃q,r = .inl (Nd q)/\q.b7.length<=64/\q.data.length<=4096/\0<=o.n)\/Pk r):=by
 have l:=ahK (n:=86) ah f.holds (by have:=A.hl;omega) false o.client o.handle
 generalize FO f.holds o.client o.handle=w at *
 obtain⟨i,e⟩:=w;simp only at l;generalize b:(en.cz n).x 130 _ _=res;rw[ai1 H,jC]at b
 by_cases F:e=0
 .subst F;have h:=vh (n:=86) ah
  by_cases c:0<=o.n
  .have y:=DC (n:=86) ah 1
   obtain⟨v,K,G⟩:=abF (n:=86) ah A i (Y++[.var [I 0,I 0,I 0,.b9 false [],.b9 false [],I 0]]) (B0:=B0) (B1:=B1) (B2:=B2) (B3:=B3) (o:=o) (a:=a)
   have E:=HQ A.s.w i;generalize iS f.s.now i=q at *
   simp only[pJ,Wc,Fc,Sc,Oc,Ac,Nd,aK,aL,cM]at G;simp(disch:=omega)[OX,l,h,c,y,G]at b;exact⟨_,.var (Nc q)::v,by rw[bV,K];rfl,b.symm,.inl ⟨q,rfl,E.1,E.2,c⟩⟩
  .have z:=DD (n:=86) ah (e:=1) ah
   simp(disch:=omega)[OX,l,h,c,z]at b;exact⟨_,[.var [I 0,I 0,I 0,.b9 false [],.b9 false [],I 0]],rfl,b.symm,.inr ⟨1,rfl⟩⟩
 .have h:=rK (n:=86) ah F
  simp(disch:=omega)[OX,l,h]at b;exact⟨_,[.var [I 0,I 0,I 0,.b9 false [],.b9 false [],I 0]],rfl,b.symm,.inr ⟨e,rfl⟩⟩
def s69:qJ 69 88:=λ{n} F {k f o} z hk U B0 B1 B2 B3 S Q p2 p3=>by
 obtain⟨r,Y,_,h,E⟩:=UL (n:=88) ah z [] (B0:=B0) (B1:=B1) (B2:=B2) (B3:=B3) (o:=o) (a:=Az)
 simp only[pJ,Wc,Fc,Sc,Oc,Ac,aK,aL,aN]at h;generalize b:(en.cz n).x 69 _ _=res;rw[p69 F,jC]at b
 rcases E with⟨q,rfl,_,T,W⟩ | ⟨e,rfl⟩
 .have l:=DC (n:=88) ah 1
  have i:=DD (n:=88) ah (e:=1) ah
  have v:=aiu (n:=88) ah
  simp only[Nd]at h
  by_cases y:0<=o.m
  .by_cases A : o.m <= 4096
   .have e1:∃j:Nat,min o.n (q.data.length:Int)=j/\j<=q.data.length:=⟨(min o.n (q.data.length:Int)).toNat,af,af⟩
    obtain⟨j,L,K⟩:=e1;have M:∃m:Nat,min o.m ((q.data.length-j:Nat):Int)=m/\m<=q.data.length-j:=⟨(min o.m ((q.data.length-j:Nat):Int)).toNat,af,af⟩
    obtain⟨m,H,G⟩:=M;have P:(q.data.map B).drop j=(q.data.drop j).map B:=by rw[List.map_drop]
    have O:((q.data.drop j).map B).take m=((q.data.drop j).take m).map B:=by rw[List.map_take]
    have N:(((q.data.drop j).take m).map B).take m=((q.data.drop j).take m).map B:=aO ak
    simp(disch:=omega)[-List.map_drop,-List.map_take,Ws,h,l,y,A,L,H,v,jd,P,O,N]at b;exact⟨_,_,b.symm,vj (f:=f) (a:=⟨0,q.ino,0,0,0,[],(q.data.drop j).take m⟩) z.up ⟨ai,ak⟩ _⟩
   .simp(disch:=omega)[Ws,h,i,y,A]at b;exact⟨_,_,b.symm,jm ..⟩
  .simp(disch:=omega)[Ws,h,i,y]at b;exact⟨_,_,b.symm,jm ..⟩
 .simp(disch:=omega)[Ws,h]at b;exact⟨_,_,b.symm,jm ..⟩
def UK{n:Nat}(hn:135<n){k:Nat}{f:FS}{o:lX}{a:nH}(K:mF k f)(hk:k<=200)(X:gd B0=true)(W:gd B1=true)(p2:gd B2=true)(p3:gd B3=true){Y:AH}(Q:Y.all gd=true)(i:Int)(d:au)(hd:d.length<=100000)(S:AV)
  (hv:S = .b9 false (d.map B)\/∃b v,S = .own (b+5) v 0 d.length/\Y[b]? = some (.row v 1 (d.map B))) :
  ∃r H,(en.cz n).x 132 [.ptr 4 0 0 0,I i,S] (pJ B0 B1 B2 B3 f o a Y)=some (r,H)/\Out B0 B1 B2 B3 k o r H:=by
 generalize h:(en.cz n).x 132 _ _=res;rw[ai0 hn,jC]at h;have G:=ahJ (n:=135) ah f.s.now K.s.w.wf.jL (nc K.s.w).len i d af
 have T:=WF.put K.s.w i d;generalize put f.s.now i d=r at *
 obtain⟨t,e⟩:=r;simp only[Tv]at G T
 have q:∀(M:AH),M.all gd=true->(e=0->∃r H,(en.cz 135).x 119 [.ptr 4 0 0 0,Tv t,.b9 false (f.jG.map Qv)] (pJ B0 B1 B2 B3 f o a (M++[.var (Tb t)]))=some (r,H)/\af8 B0 B1 B2 B3 k o a (M++[.var (Tb t)]) r H):=λM E _ =>
  Kk (n:=135) ah K hk X W p2 p3 (by rw[cq,E];rfl) T K.qs K.ql
 have l:=vh (n:=135) ah
 have L:=λz=>rK (n:=135) ah (e:=e) z
 rcases hv with rfl | ⟨b,v,rfl,U⟩
 .by_cases z : e = 0
  .subst z;obtain⟨r,H,F,P⟩:=q Y Q rfl;simp only[pJ,Wc,Fc,Sc,Oc,Ac,Tv,aK,aL]at F
   rcases P with⟨rfl,f',b,es,Z,y,rfl,h1,h2,h3⟩ | ⟨⟨e,rfl⟩,Y,rfl⟩
   .simp(disch:=omega)[GH,ca 215,G,l,F]at h;exact⟨_,_,h.symm,rO (a:=⟨0,i,0,0,(d.length:Int),[],[]⟩) y (j7 ..) (an h1) h2 h3⟩
   .simp(disch:=omega)[GH,ca 215,G,l,F]at h;exact⟨_,_,h.symm,jm ..⟩
  .have N:=L z;simp(disch:=omega)[GH,ca 215,G,N]at h;exact⟨_,_,h.symm,jm ..⟩
 .have PK:=(aD.1 U).1;have A:=(aD.1 U).2
  have E:(Y.set b (.me v 1 (d.map B))).all gd=true:=by
   rw[aM]at Q⊢;intro x O
   rcases cZ O with O | rfl
   .exact Q x O
   .rfl
  by_cases z:e=0
  .subst z;obtain⟨r,H,F,P⟩:=q _ E rfl;simp only[pJ,Wc,Fc,Sc,Oc,Ac,Tv,aK,aL]at F
   rcases P with⟨rfl,f',b,es,Z,y,rfl,h1,h2,h3⟩ | ⟨⟨e,rfl⟩,Y,rfl⟩
   .simp(disch:=omega)[GH,A,ca 215,G,l,F,kM,pR]at h;exact⟨_,_,h.symm,rO (a:=⟨0,i,0,0,(d.length:Int),[],[]⟩) y (j7 ..) (an h1) h2 h3⟩
   .simp(disch:=omega)[GH,A,ca 215,G,l,F,kM,pR]at h;exact⟨_,_,h.symm,jm ..⟩
  .have N:=L z;simp(disch:=omega)[GH,A,ca 215,G,N,kM,pR]at h;exact⟨_,_,h.symm,jm ..⟩
def s71:qJ 71 137:=λ{n} F {k f o} y hk S B0 B1 B2 B3 E A p2 p3=>by
 obtain⟨r,Y,L,h,i⟩:=UL (n:=137) ah y [] (B0:=B0) (B1:=B1) (B2:=B2) (B3:=B3) (o:=o) (a:=Az)
 simp only[pJ,Wc,Fc,Sc,Oc,Ac,aK,aL,aN]at h;generalize b:(en.cz n).x 71 _ _=res;rw[p71 F,jC]at b
 rcases i with⟨q,rfl,_,Q,T⟩ | ⟨e,rfl⟩
 .obtain⟨j,K,G⟩:∃j:Nat,min o.n (q.data.length:Int)=j/\j<=q.data.length:=⟨(min o.n (q.data.length:Int)).toNat,af,af⟩
  obtain⟨r,H,z,i⟩:=UK (n:=137) ah y hk E A p2 p3 (o:=o) (a:=Az) (Y:=Y++[.var (Nc q)]) (by rw[cq,L];rfl) q.ino (q.data.take j) ak _ (.inl rfl)
  have O:(q.data.map B).take j=(q.data.take j).map B:=by rw[List.map_take]
  simp only[pJ,Wc,Fc,Sc,Oc,Ac,aK,aL,aN]at z;simp only[Nd]at h;simp(disch:=omega)[-List.map_take,c71,h,K,O,z]at b
  rcases i with⟨rfl,N,P,l,v,M⟩ | ⟨⟨e,rfl⟩,Y,rfl⟩
  .simp(disch:=omega)at b;exact⟨_,_,b.symm,.inl ⟨rfl,N,P,l,v,M⟩⟩
  .simp(disch:=omega)at b;exact⟨_,_,b.symm,jm ..⟩
 .simp(disch:=omega)[c71,h]at b;exact⟨_,_,b.symm,jm ..⟩
def s70:qJ 70 136:=λ{n} hn {k f o} M hk ho B0 B1 B2 B3 X W p2 p3=>by
 obtain⟨r,Y,hY,l,A⟩:=UL (n:=136) ah M [] (B0:=B0) (B1:=B1) (B2:=B2) (B3:=B3) (o:=o) (a:=Az)
 simp only[pJ,Wc,Fc,Sc,Oc,Ac,aK,aL,aN]at l;generalize b:(en.cz n).x 70 _ _=res;rw[p70 hn,jC]at b;have L:=ho.d
 rcases A with⟨q,rfl,_,hq,c0⟩ | ⟨e,rfl⟩
 .simp only[Nd]at l;have h:=DC (n:=136) ah 1
  have F:=DD (n:=136) ah (e:=1) ah
  have i:=DC (n:=136) ah 2
  have E:=DD (n:=136) ah (e:=2) ah
  have G:=acy (n:=136) ah
  by_cases K:o.n<=4096
  .obtain⟨kd,cl,U,to,on,Z,oh,od⟩:=o;obtain⟨N,rfl⟩:∃N:Nat,on=(N:Int):=⟨on.toNat,by simp only at c0;omega⟩
   simp only at l c0 K L
   by_cases c2:(N:Int)+(od.length:Int)<=4096
   .by_cases c3 : od.length = 0
    .obtain⟨r,H,z,A⟩:=UK (n:=136) ah M hk X W p2 p3 (o:=⟨kd,cl,U,to,N,Z,oh,od⟩) (a:=Az) (Y:=Y++[.var (Nc q),.row 0 1 (q.data.map B)]) (by rw[cq,hY];rfl) q.ino q.data af (.own (Y.length+1+5) 0 0 q.data.length) (.inr ⟨Y.length+1,0,rfl,ai⟩)
     simp only[pJ,Wc,Fc,Sc,Oc,Ac,aK,aL,aN]at z;simp(disch:=omega)[X5,l,K,c3,h,i,G,jd,z]at b
     rcases A with⟨rfl,S,T,v,y,Q⟩ | ⟨⟨e,rfl⟩,Y,rfl⟩
     .simp(disch:=omega)at b;exact⟨_,_,b.symm,.inl ⟨rfl,S,T,v,y,Q⟩⟩
     .simp(disch:=omega)at b;exact⟨_,_,b.symm,jm ..⟩
    .obtain⟨m,hm⟩:∃m:Nat,max ((N:Int)+(od.length:Int)-(q.data.length:Int)) 0=(m:Int):=⟨(max ((N:Int)+(od.length:Int)-(q.data.length:Int)) 0).toNat,af⟩
     obtain⟨d,hd⟩:∃d:au,d=over (q.data++List.replicate m 0) N od:=⟨_,rfl⟩;have P:d.length=q.data.length+m:=by
      rw[hd];unfold over;simp;omega
     have O:d.map B=over (q.data.map B++List.replicate m (.int .u8 0)) N (od.map B):=by
      rw[hd,<-M0,List.map_append,List.map_replicate];rfl
     obtain⟨r,H,z,A⟩:=UK (n:=136) ah M hk X W p2 p3 (o:=⟨kd,cl,U,to,N,Z,oh,od⟩) (a:=Az) (Y:=Y++[.var (Nc q),.row 1 1 (d.map B)]) (by rw[cq,hY];rfl) q.ino d af (.own (Y.length+1+5) 1 0 d.length) (.inr ⟨Y.length+1,1,rfl,ai⟩)
     rw[O,P]at z;simp only[pJ,Wc,Fc,Sc,Oc,Ac,aK,aL,aN]at z;simp(disch:=omega)[X5,l,K,c2,h,i,G,jd,hm,z]at b
     rcases A with⟨rfl,S,T,v,y,Q⟩ | ⟨⟨e,rfl⟩,Y,rfl⟩
     .simp(disch:=omega)at b;exact⟨_,_,b.symm,.inl ⟨rfl,S,T,v,y,Q⟩⟩
     .simp(disch:=omega)at b;exact⟨_,_,b.symm,jm ..⟩
   .simp(disch:=omega)[X5,l,K,c2,h,E]at b;exact⟨_,_,b.symm,jm ..⟩
  .simp(disch:=omega)[X5,l,K,F]at b;exact⟨_,_,b.symm,jm ..⟩
 .simp(disch:=omega)[X5,l]at b;exact⟨_,_,b.symm,jm ..⟩
def Gw.keep{X Y:AH}{k:Nat}{u:Tr.Tree}(G:Gw X Y k u){j:Nat}(b:j<X.length)(h1:j≠k){A:AB}(h:X[j]? = some A):Y[j]? = some A:=(G.old j b h1).trans h
set_option maxHeartbeats 8000000 in
def aic{n:Nat}(hn:145<n)(t:Tr.Tree)(w:lM t)(dir:Int)(s:au)(to:Int)(nm:au):
  (en.cz n).p 123 [Tv t,I dir,.str s,I to,.str nm]=some (.jg [Tv (mv j4 gr t dir s to nm).1,I (mv j4 gr t dir s to nm).2.1,I (mv j4 gr t dir s to nm).2.2]):=by
 have hl:=(nc w).len;have hs:=w.wf.jL;have v:=Qk (n:=145) ah t w dir s
 generalize b:(en.cz n).p 123 _=res;rw[pp 123 rfl hn rfl,b8,b6]at b;unfold mv
 by_cases c0:(Tr.look j4 t dir s).2=0
 case neg =>
  rw[if_pos c0];generalize Tr.look j4 t dir s=r at *
  obtain⟨i,e⟩:=r;simp only[Tv]at v c0⊢;simp(disch:=omega)[vI,ca 122,v,c0]at b;exact b.symm
 rw[if_neg (show ¬((Tr.look j4 t dir s).2≠0)from λh=>h c0)]
 obtain⟨p,e,p1,p2,po3,p4,po5⟩:=zD (x:=(Tr.look j4 t dir s).1) (by rw[<-c0])
 rw[c0,<-po5]at v;rw[<-po5];clear c0 po5;obtain⟨he,PG⟩:=kV p4;obtain⟨⟨x,hx⟩,hx1,hxf⟩:=mV w p1 he;have hxp:=(w.wf.pos _ _ hx).1;have hxi:=jI hx;have B0:Bx [.var [.b9 false [],.int .i64 0,.int .i64 0],.var (Tb t)] 1 t:=⟨rfl,rfl⟩;obtain⟨K,hD,G1⟩:=Qg (n:=145) ah t hs hl to B0
 have a0:=iT ((G1.old 0 ai ai).trans rfl) (by have:=G1.le;simp at this;omega)
 have l1:=G1.le;simp only[aS,bt,bW,Nat.reduceAdd]at l1;simp only[Tv]at v;simp only[Nd,Tb]at hD
 by_cases c1:jF t to=0
 case neg =>
  rw[if_pos c1];generalize jF t to=de at *
  simp(disch:=omega)[vI,ca 122,v,hD,c1,a0,lV,jk]at b;exact b.symm
 rw[if_neg (show ¬(jF t to≠0)from λh=>h c1)]
 obtain⟨q,q1,q2,q3⟩:=wK c1;have hN:=UG (n:=145) ah nm
 rw[c1,q3]at hD;cases c2:j4 nm with
 |false =>
  rw[if_pos rfl];rw[c2]at hN;simp(disch:=omega)[vI,ca 122,v,hD,ca 189,hN,a0,lV,jk]at b;exact b.symm
 |true =>
  rw[if_neg (show ¬(true=false) by decide)]
  rw[c2]at hN;have WG:=(w.wf.dir _ _ q1 q2).2;have hel:=WG.len;have hE:=Ms (n:=145) ah q WG.jL af nm
  have U:=DB (n:=145) ah t hs hl e.ino (G1.bx.app (Y:=[.var (Nc q)]) rfl)
  rw[iX hx,hx]at U;obtain⟨F,NT,ak5,_⟩:=w.dep _ _ q1 q2;have Tl:=r6 w NT;have hde:=k8 NT af
  have hC:=abA (n:=145) ah (to::mP t F to) (by simp[pP];omega) e.ino
  have PK:below t to e.ino=(to::mP t F to).contains e.ino:=Iz NT e.ino af
  have Qi:((to::mP t F to).map I).length=F+1:=by simp[pP]
  have Qh:((to::mP t F to).map I).take (F+1)=(to::mP t F to).map I:=aO af
  have akc:=ur jM WG.jL nm;have hxb:e.ino=to->(to::mP t F to).contains e.ino=true:=λh=>by rw[h];simp
  simp only[iX hx,q3,hde];simp only[Nd]at hE U
  rcases akc with⟨hc,hci,WJ⟩ | ⟨WJ,hci⟩
  ·
   generalize lP gr q.b7 nm=c at *
   obtain⟨H,Z⟩:∃H,H=q.b7[c]:=⟨_,rfl⟩;rw[<-Z]at WJ;have Tj:jB q nm=some H:=WJ;obtain⟨⟨y,hy⟩,hy1,hyt⟩:=mV w q1 (kV Tj).1;have hyi:=jI hy;have hyp:=(w.wf.pos _ _ hy).1;have hyz:lI t to nm=H.ino:=by unfold lI;rw[q3,Tj];rfl
   have E:=DB (n:=145) ah t hs hl H.ino (G1.bx.app (Y:=[.var (Nc q),.var (Nc x),.var (Nc x),.var [I 0,I 0,I 0,.b9 false [],.b9 false [],I 0]]) rfl)
   rw[iX hy,hy]at E;have W:=UF (n:=145) ah t w NT (G1.bx.app (Y:=[.var (Nc q),.var (Nc x),.var (Nc x),.var (Nc y),.var (Nc y)]) rfl)
   have N:=ahQ (n:=145) ah x y
   have vo:Tr.kT t x H.ino=Cz x y:=by unfold Tr.kT;rw[hy];rfl
   rw[Tj]at hE;rw[hyz,vo,PK];simp only[eG,cM,aK,aL,aU,aS,bt,Nd]at hE W U E N;generalize hm:(to::mP t F to).map I=m at *
   generalize(to::mP t F to).contains e.ino=bb at *
   have PJ:=w.wf.Ld;have b1:=G1.bx.get;have b1l:=G1.bx.lt
   by_cases hsame:H.ino=e.ino
   .rw[if_pos hsame];have l:y.ino=e.ino:=by omega
    simp(disch:=omega)[vI,ca 122,v,hD,ca 189,hN,U,ca 190,hE,<-Z,E,l,a0,lV,jk]at b;exact b.symm
   rw[if_neg hsame];have l:¬y.ino=e.ino:=af
   by_cases X:x.kind=2/\bb=true
   .obtain⟨c3,rfl⟩:=X;rw[if_pos ⟨c3,rfl⟩];simp only[Nc,c3]at W U E N;simp(disch:=omega)[vI,ca 122,v,hD,ca 189,hN,U,ca 190,hE,<-Z,E,l,W,Qi,Qh,ca 192,hC,a0,lV,jk]at b;exact b.symm
   rw[if_neg X]
   by_cases o:Cz x y=0
   case neg =>
    rw[if_pos o];generalize Cz x y=oe at *
    by_cases c3:x.kind=2
    .have hbf:bb=false:=by
      cases bb with
      |false=>rfl
      |true=>exact absurd ⟨c3,rfl⟩ X
     subst hbf;simp only[Nc,c3]at W U E N;simp(disch:=omega)[vI,ca 122,v,hD,ca 189,hN,U,ca 190,hE,<-Z,E,l,W,Qi,Qh,ca 192,hC,ca 193,N,o,a0,lV,jk]at b;exact b.symm
    .simp only[Nc]at W U E;simp(disch:=omega)[vI,ca 122,v,hD,ca 189,hN,U,ca 190,hE,<-Z,E,l,W,c3,ca 193,N,o,a0,lV,jk]at b;exact b.symm
   rw[if_neg (λh=>h o)]
   rw[o]at N;have hye:y.b7=[]:=by
    unfold Cz at o;split at o
    .cases o
    .split at o
     .cases o
     .split at o
      .cases o
      .rename_i h;exact dw.1 af
   have hy0:¬H.ino=0:=af
   obtain⟨qq,M,hst⟩:=AG jM w p1 p2 p4 q1 q2 hx (nm:=nm) (λe3 h=>by
    rw[Tj]at h;cases h;exact⟨hsame,λz hz=>by rw[hy]at hz;cases hz;exact hye⟩)
   obtain⟨e3,z,h1,hqe,hz,D2,r,D3,hrn⟩:=hst.resolve_left (λh=>by rw[Tj]at h;cases h.1)
   rw[Tj]at h1;cases h1;rw[hy]at hz;cases hz;have G:=(w.wf.dir _ _ p1 p2).2;have adV:=G.len;have lY1:2<=K.length:=l1;have akT:=w.bg.lk y (fk hy).1;have hc5:∀(P:Prop),(¬(H.ino=0/\to≠dir/\64<=q.b7.length)):=λ_ h=>hy0 h.1
   have a0':K[0]? = some (.var [.b9 false [],.int .i64 0,.int .i64 0]):=(aH af).trans (congrArg some a0)
   by_cases c3:x.kind=2
   .have hbf:bb=false:=by
     cases bb with
     |false=>rfl
     |true=>exact absurd ⟨c3,rfl⟩ X
    subst hbf;have ajR:e.ino≠to:=λh=>by have:=hxb h;cases this
    simp only[Nc,c3]at W U E N
    by_cases c5:12<=F
    .rw[if_pos (.inr (.inl c5))];have c5':¬(F:Int)+1<=12:=by omega
     simp(disch:=omega)[vI,ca 122,v,hD,ca 189,hN,U,ca 190,hE,<-Z,E,l,W,Qi,Qh,ca 192,hC,ca 193,N,a0,lV,jk]at b;exact b.symm
    have c5':(F:Int)+1<=12:=af
    simp(disch:=omega)[vI,ca 122,v,hD,ca 189,hN,U,ca 190,hE,<-Z,E,l,W,Qi,Qh,ca 192,hC,ca 193,N]at b;have LH:jF t e.ino=0:=nS.2 ⟨x,hx,c3⟩;have B3:Bx (K++[.var (Nc q),.var (Nc x),.var (Nc x),.var (Nc y),.var (Nc y),.me 0 1 m]) 1 t:=G1.bx.app rfl;obtain⟨Y2,O,G2⟩:=abz (n:=145) ah t w LH ((F:Int)+1) af B3
    rw[CW]at O;simp only[Nc,c3]at O;have e0:Y2[0]? = some (.var [.b9 false [],.int .i64 0,.int .i64 0]):=G2.keep ai ah (by rw[aJ af];exact a0')
    have ex:Y2[K.length+2]? = some (.var (Nc x)):=G2.keep ai af (by rw[aQ af];simp)
    have ey:Y2[K.length+3]? = some (.var (Nc y)):=G2.keep ai af (by rw[aQ af];simp)
    obtain⟨f0,g0⟩:=aD.1 e0;have b1:=G2.bx.get;have b1l:=G2.bx.lt
    by_cases c6:12<high t e.ino ((F:Int)+1)
    .rw[if_pos (.inr (.inr (.inl ⟨c3,c6⟩)))];simp(disch:=omega)[O,c6,g0]at b;exact b.symm
    by_cases c7:1099511627776<=t.ek
    .rw[if_pos (.inr (.inr (.inr c7)))];simp(disch:=omega)[O,c6,c7,g0,b1]at b;exact b.symm
    rw[if_neg (by
     rintro(h1 | h1 | ⟨_,h1⟩ | h1)
     .exact hc5 True h1
     .exact c5 h1
     .exact c6 h1
     .exact c7 h1)]
    obtain⟨Ya,Q,L⟩:=Hf (n:=145) ah t hs hl p1 G.jL af p4 G2.bx
    obtain⟨Yb,NZ,Gb⟩:=Hf (n:=145) ah (left t dir s) M.jL (by have:=M.len;omega) M.at_ M.es (by have:=M.el;omega) hqe L.bx
    have gyB:=Gb.keep (bu (aD.1 ey).1 L.le) af (L.keep (aD.1 ey).1 af ey)
    have gxB:=Gb.keep (bu (aD.1 ex).1 L.le) af (L.keep (aD.1 ex).1 af ex)
    have gzB:=Gb.keep (bu (aD.1 e0).1 L.le) ah (L.keep (aD.1 e0).1 ah e0)
    obtain⟨WW,N1⟩:=aD.1 gyB;obtain⟨Yd,h35,Gd⟩:=UA (n:=145) ah (left (left t dir s) to nm) D2.jL (by have:=D2.len;omega) D2.at_ af Gb.bx
    have gy:=Gd.keep WW af gyB
    have gx:=Gd.keep (aD.1 gxB).1 af gxB
    have gz:=Gd.keep (aD.1 gzB).1 ah gzB
    obtain⟨gxl,gxg⟩:=aD.1 gx;obtain⟨gyl,gyg⟩:=aD.1 gy;obtain⟨gzl,gzg⟩:=aD.1 gz;have NU:(unnamed (left (left t dir s) to nm) H.ino).ek=t.ek:=by unfold unnamed;split<;>rfl
    have Bs:=Gd.bx.Uw (j:=K.length+2) af (A:=.var (Nc {x with up:=to})) rfl
    obtain⟨Ye,FU,Ge⟩:=EZ (m:=145) ah (unnamed (left (left t dir s) to nm) H.ino) D3.jL (by have:=D3.len;omega) {x with up:=to} Bs
    have D4s:lC (iP (unnamed (left (left t dir s) to nm) H.ino) {x with up:=to}).nodes:=nO D3.jL
    have D4l:=tY D3.jL {x with up:=to}
    have D4f:find (iP (unnamed (left (left t dir s) to nm) H.ino) {x with up:=to}).nodes to=some r:=by rw[kr D3.jL,if_neg (by simp only;omega)];exact D3.at_
    obtain⟨Yc,S,Gc⟩:=Kh (n:=145) ah (iP (unnamed (left (left t dir s) to nm) H.ino) {x with up:=to}) D4s (by have:=D3.len;omega) D4f D3.es (by have:=D3.el;omega) hrn (by show 0<=(unnamed (left (left t dir s) to nm) H.ino).ek;rw[NU];omega) (by show (unnamed (left (left t dir s) to nm) H.ino).ek<=4398046511104;rw[NU];omega) e.ino Ge.bx
    have ky:=Gc.keep (j:=K.length+3) (by have:=Ge.le;rw[dG]at this;omega) af (Ge.keep (j:=K.length+3) (an gyl) af (by rw[aI af];exact gy))
    have kz:=Gc.keep (j:=0) (by have:=Ge.le;rw[dG]at this;omega) ah (Ge.keep (j:=0) (an gzl) ah (by rw[aI af];exact gz))
    obtain⟨kyl,kyg⟩:=aD.1 ky;obtain⟨kzl,kzg⟩:=aD.1 kz;have gt:=Gc.bx.get;have gtl:=Gc.bx.lt
    have KS:sU gr t dir s to nm e.ino H.ino=iY gr (iP (unnamed (left (left t dir s) to nm) H.ino) {x with up:=to}) to nm e.ino:=by
     unfold sU;simp only[iX hx,c3,hy0,if_true,ne_eq,not_false_eq_true]
    rw[KS];generalize iY gr (iP (unnamed (left (left t dir s) to nm) H.ino) {x with up:=to}) to nm e.ino=t3 at *
    simp only[Nc,Nd,c3]at Q NZ h35 N1 gxg FU S;simp(disch:=omega)[O,c6,c7,b1,Q,NZ,N1,h35,gxg,FU,S,gt,kyg,kzg]at b;rw[hyi]at b;exact b.symm
   .simp only[Nc]at W U E
    by_cases c5:12<=F
    .rw[if_pos (.inr (.inl c5))];have c5':¬(F:Int)+1<=12:=by omega
     simp(disch:=omega)[vI,ca 122,v,hD,ca 189,hN,U,ca 190,hE,<-Z,E,l,W,c3,ca 193,N,a0,lV,jk]at b;exact b.symm
    have c5':(F:Int)+1<=12:=af
    simp(disch:=omega)[vI,ca 122,v,hD,ca 189,hN,U,ca 190,hE,<-Z,E,l,W,c3,ca 193,N,a0,b1,lV,jk]at b;have B3:Bx (K++([.var (Nc q),.var (Nc x),.var (Nc x),.var (Nc y),.var (Nc y),.row 0 1 m]:AH)) 1 t:=G1.bx.app rfl;have e0:(K++([.var (Nc q),.var (Nc x),.var (Nc x),.var (Nc y),.var (Nc y),.row 0 1 m]:AH))[0]? = some (.var [.b9 false [],.int .i64 0,.int .i64 0]):=by rw[aJ af];exact a0'
    have ex:(K++([.var (Nc q),.var (Nc x),.var (Nc x),.var (Nc y),.var (Nc y),.row 0 1 m]:AH))[K.length+2]? = some (.var (Nc x)):=by rw[aQ af];simp
    have ey:(K++([.var (Nc q),.var (Nc x),.var (Nc x),.var (Nc y),.var (Nc y),.row 0 1 m]:AH))[K.length+3]? = some (.var (Nc y)):=by rw[aQ af];simp
    by_cases c7:1099511627776<=t.ek
    .rw[if_pos (.inr (.inr (.inr c7)))];simp(disch:=omega)[c7]at b;exact b.symm
    rw[if_neg (by
     rintro(h1 | h1 | ⟨h1,_⟩ | h1)
     .exact hc5 True h1
     .exact c5 h1
     .exact c3 h1
     .exact c7 h1)]
    obtain⟨Ya,Q,L⟩:=Hf (n:=145) ah t hs hl p1 G.jL af p4 B3
    obtain⟨Yb,NZ,Gb⟩:=Hf (n:=145) ah (left t dir s) M.jL (by have:=M.len;omega) M.at_ M.es (by have:=M.el;omega) hqe L.bx
    have gyB:=Gb.keep (bu (aD.1 ey).1 L.le) af (L.keep (aD.1 ey).1 af ey)
    have gxB:=Gb.keep (bu (aD.1 ex).1 L.le) af (L.keep (aD.1 ex).1 af ex)
    have gzB:=Gb.keep (bu (aD.1 e0).1 L.le) ah (L.keep (aD.1 e0).1 ah e0)
    obtain⟨WW,N1⟩:=aD.1 gyB;obtain⟨Yd,h35,Gd⟩:=UA (n:=145) ah (left (left t dir s) to nm) D2.jL (by have:=D2.len;omega) D2.at_ af Gb.bx
    have gy:=Gd.keep WW af gyB
    have gx:=Gd.keep (aD.1 gxB).1 af gxB
    have gz:=Gd.keep (aD.1 gzB).1 ah gzB
    obtain⟨gxl,gxg⟩:=aD.1 gx;obtain⟨gyl,gyg⟩:=aD.1 gy;obtain⟨gzl,gzg⟩:=aD.1 gz;have NU:(unnamed (left (left t dir s) to nm) H.ino).ek=t.ek:=by unfold unnamed;split<;>rfl
    obtain⟨Yc,S,Gc⟩:=Kh (n:=145) ah (unnamed (left (left t dir s) to nm) H.ino) D3.jL (by have:=D3.len;omega) D3.at_ D3.es (by have:=D3.el;omega) hrn (by rw[NU];omega) (by rw[NU];omega) e.ino Gd.bx
    have ky:=Gc.keep (j:=K.length+3) gyl af gy
    have kz:=Gc.keep (j:=0) gzl ah gz
    obtain⟨kyl,kyg⟩:=aD.1 ky;obtain⟨kzl,kzg⟩:=aD.1 kz;have gt:=Gc.bx.get;have gtl:=Gc.bx.lt
    have KS:sU gr t dir s to nm e.ino H.ino=iY gr (unnamed (left (left t dir s) to nm) H.ino) to nm e.ino:=by
     unfold sU;simp only[iX hx,c3,hy0,if_false,if_true,ne_eq,not_false_eq_true]
    rw[KS];generalize iY gr (unnamed (left (left t dir s) to nm) H.ino) to nm e.ino=t3 at *
    simp only[Nc,Nd]at Q NZ h35 N1 gxg S;simp(disch:=omega)[c7,Q,NZ,N1,h35,gxg,c3,S,gt,kyg,kzg]at b;rw[hyi]at b;exact b.symm
  .have hyz:lI t to nm=0:=by unfold lI jB;rw[q3,WJ];rfl
   have W:=UF (n:=145) ah t w NT (G1.bx.app (Y:=[.var (Nc q),.var (Nc x),.var (Nc x),.var [I 0,I 0,I 0,.b9 false [],.b9 false [],I 0]]) rfl)
   unfold jB at hE;rw[WJ]at hE;rw[hyz,if_neg (show ¬(0:Int)=e.ino by omega)]
   have vo:Tr.kT t x 0=0:=by
    have:find t.nodes 0=none:=by
     cases h:find t.nodes 0 with
     |none=>rfl
     |some z=>have:=(w.wf.pos _ _ h).1;omega
    unfold Tr.kT;rw[this]
   rw[vo];simp only[gv,cM,aK,aL,aU,aS,bt]at hE W U;generalize hm:(to::mP t F to).map I=m at *
   rw[PK];generalize(to::mP t F to).contains e.ino=bb at *
   have hx0:¬(0:Int)=e.ino:=af
   generalize lP gr q.b7 nm=cu at *
   by_cases c3:x.kind=2
   .simp only[Nc,c3]at W U;cases bb with
    |true =>
     rw[if_pos ⟨c3,rfl⟩];simp(disch:=omega)[vI,ca 122,v,hD,ca 189,hN,U,ca 190,hE,hx0,W,Qi,Qh,ca 192,hC,a0,lV,jk]at b;exact b.symm
    |false =>
     rw[if_neg (λh=>by cases h.2),if_neg (λh=>h rfl)]
     simp(disch:=omega)[vI,ca 122,v,hD,ca 189,hN,U,ca 190,hE,hx0,W,Qi,Qh,ca 192,hC,a0,lV,jk]at b
     by_cases Ie:(¬to=dir->q.b7.length<64)/\F+1<=12
     case neg =>
      have T:¬((¬to=dir->(q.b7.length:Int)<64)/\(F:Int)+1<=12):=λh=>Ie ⟨λh'=>by have:=h.1 h';omega,by have:=h.2;omega⟩
      rw[if_neg T]at b
      rw[if_pos (by
       by_cases h1:12<=F
       .exact .inr (.inl h1)
       .refine .inl ⟨rfl,?_⟩
        by_cases h2:to=dir
        .exact absurd ⟨λh=>absurd h2 h,af⟩ Ie
        .exact⟨h2,by
          by_cases h3:q.b7.length<64
          .exact absurd ⟨λ_=>h3,af⟩ Ie
          .omega⟩)]
      exact b.symm
     have T:((¬to=dir->(q.b7.length:Int)<64)/\(F:Int)+1<=12):=⟨λh'=>by have:=Ie.1 h';omega,by have:=Ie.2;omega⟩
     rw[if_pos T]at b;have LH:jF t e.ino=0:=nS.2 ⟨x,hx,c3⟩;have B3:Bx (K++[.var (Nc q),.var (Nc x),.var (Nc x),.var [I 0,I 0,I 0,.b9 false [],.b9 false [],I 0],.me 0 1 m]) 1 t:=G1.bx.app rfl;obtain⟨Y2,O,G2⟩:=abz (n:=145) ah t w LH ((F:Int)+1) af B3
     rw[CW]at O;simp only[Nc,c3]at O;have lY1:2<=K.length:=l1;have e0:Y2[0]? = some (.var [.b9 false [],.int .i64 0,.int .i64 0]):=G2.keep ai ah (by rw[aJ af];exact(aH af).trans (congrArg some a0))
     have ex:Y2[K.length+2]? = some (.var (Nc x)):=G2.keep ai af (by rw[aQ af];simp)
     have ey:Y2[K.length+3]? = some (.var [I 0,I 0,I 0,.b9 false [],.b9 false [],I 0]):=G2.keep ai af (by rw[aQ af];simp)
     have f0:=(aD.1 e0);obtain⟨f0,g0⟩:=f0
     by_cases c6:12<high t e.ino ((F:Int)+1)
     .rw[if_pos (.inr (.inr (.inl ⟨c3,c6⟩)))];simp(disch:=omega)[O,c6,g0]at b;exact b.symm
     .have b1:=G2.bx.get;have b1l:=G2.bx.lt
      by_cases c7:1099511627776<=t.ek
      .rw[if_pos (.inr (.inr (.inr c7)))];simp(disch:=omega)[O,c6,c7,g0,b1]at b;exact b.symm
      .rw[if_neg (by
        rintro(⟨_,h1,h2⟩ | h1 | ⟨_,h1⟩ | h1)
        .have:=Ie.1 h1;omega
        .omega
        .exact c6 h1
        .exact c7 h1)]
       have hno:jB q nm=none:=WJ;obtain⟨qq,M,hst⟩:=AG jM w p1 p2 p4 q1 q2 hx (nm:=nm) (λH h=>by rw[hno]at h;cases h)
       have hqn:=(hst.resolve_right (by
        rintro⟨H,_,h,_⟩
        rw[hno]at h;cases h)).2
       have G:=(w.wf.dir _ _ p1 p2).2;have adV:=G.len;have ajR:e.ino≠to:=λh=>by have:=hxb h;cases this
       have PJ:=w.wf.Ld;obtain⟨Ya,Q,L⟩:=Hf (n:=145) ah t hs hl p1 G.jL af p4 G2.bx
       have fx:=L.keep (aD.1 ex).1 af ex
       have fy:=L.keep (aD.1 ey).1 af ey
       have fz:=L.keep f0 ah e0
       obtain⟨fxl,fxg⟩:=aD.1 fx;obtain⟨fyl,fyg⟩:=aD.1 fy;obtain⟨fzl,fzg⟩:=aD.1 fz;have Bs:=L.bx.Uw (j:=K.length+2) af (A:=.var (Nc {x with up:=to})) rfl
       obtain⟨Yb,FU,Gb⟩:=EZ (m:=145) ah (left t dir s) M.jL (by have:=M.len;omega) {x with up:=to} Bs
       have D2s:lC (iP (left t dir s) {x with up:=to}).nodes:=nO M.jL
       have D2l:=tY M.jL {x with up:=to}
       have D2f:find (iP (left t dir s) {x with up:=to}).nodes to=some qq:=by rw[kr M.jL,if_neg (by simp only;omega)];exact M.at_
       obtain⟨Yc,S,Gc⟩:=Kh (n:=145) ah (iP (left t dir s) {x with up:=to}) D2s (by have:=M.len;omega) D2f M.es (by have:=M.el;omega) hqn (by show 0<=t.ek;omega) (by show t.ek<=4398046511104;omega) e.ino Gb.bx
       have gy:=Gc.keep (j:=K.length+3) (by have:=Gb.le;rw[dG]at this;omega) af (Gb.keep (j:=K.length+3) (an fyl) af (by rw[aI af];exact fy))
       have gz:=Gc.keep (j:=0) (by have:=Gb.le;rw[dG]at this;omega) ah (Gb.keep (j:=0) (an fzl) ah (by rw[aI af];exact fz))
       obtain⟨gyl,gyg⟩:=aD.1 gy;obtain⟨gzl,gzg⟩:=aD.1 gz;have gt:=Gc.bx.get;have gtl:=Gc.bx.lt
       have KS:sU gr t dir s to nm e.ino 0=iY gr (iP (left t dir s) {x with up:=to}) to nm e.ino:=by
        unfold sU;simp only[iX hx,c3,if_true,ne_eq,not_true_eq_false,if_false]
       rw[KS];generalize iY gr (iP (left t dir s) {x with up:=to}) to nm e.ino=t3 at *
       simp only[Nc,Nd,c3]at Q FU S fxg;simp(disch:=omega)[O,c6,c7,b1,Q,fxg,FU,S,gt,gyg,gzg]at b;exact b.symm
   .rw[if_neg (λh=>c3 h.1),if_neg (λh=>h rfl)]
    simp only[Nc]at W U;simp(disch:=omega)[vI,ca 122,v,hD,ca 189,hN,U,ca 190,hE,hx0,W,c3,a0,lV,jk]at b
    by_cases Ie:(¬to=dir->q.b7.length<64)/\F+1<=12
    case neg =>
     have T:¬((¬to=dir->(q.b7.length:Int)<64)/\(F:Int)+1<=12):=λh=>Ie ⟨λh'=>by have:=h.1 h';omega,by have:=h.2;omega⟩
     rw[if_neg T]at b
     rw[if_pos (by
      by_cases h1:12<=F
      .exact .inr (.inl h1)
      .refine .inl ⟨rfl,?_⟩
       by_cases h2:to=dir
       .exact absurd ⟨λh=>absurd h2 h,af⟩ Ie
       .exact⟨h2,by
         by_cases h3:q.b7.length<64
         .exact absurd ⟨λ_=>h3,af⟩ Ie
         .omega⟩)]
     exact b.symm
    have T:((¬to=dir->(q.b7.length:Int)<64)/\(F:Int)+1<=12):=⟨λh'=>by have:=Ie.1 h';omega,by have:=Ie.2;omega⟩
    rw[if_pos T]at b;have B3:Bx (K++[.var (Nc q),.var (Nc x),.var (Nc x),.var [I 0,I 0,I 0,.b9 false [],.b9 false [],I 0],.row 0 1 m]) 1 t:=G1.bx.app rfl;have b1:=G1.bx.get;have b1l:=G1.bx.lt
    by_cases c7:1099511627776<=t.ek
    .rw[if_pos (.inr (.inr (.inr c7)))];simp(disch:=omega)[c7,a0,b1,lV,jk]at b;exact b.symm
    .rw[if_neg (by
      rintro(⟨_,h1,h2⟩ | h1 | ⟨h1,_⟩ | h1)
      .have:=Ie.1 h1;omega
      .omega
      .exact c3 h1
      .exact c7 h1)]
     have hno:jB q nm=none:=WJ;obtain⟨qq,M,hst⟩:=AG jM w p1 p2 p4 q1 q2 hx (nm:=nm) (λH h=>by rw[hno]at h;cases h)
     have hqn:=(hst.resolve_right (by
      rintro⟨H,_,h,_⟩
      rw[hno]at h;cases h)).2
     have G:=(w.wf.dir _ _ p1 p2).2;have adV:=G.len;have PJ:=w.wf.Ld;have lY1:2<=K.length:=l1;obtain⟨Ya,Q,L⟩:=Hf (n:=145) ah t hs hl p1 G.jL af p4 B3
     have fy:Ya[K.length+3]? = some (.var [I 0,I 0,I 0,.b9 false [],.b9 false [],I 0]):=L.keep ai af (by rw[aQ af];simp)
     have fz:Ya[0]? = some (.var [.b9 false [],.int .i64 0,.int .i64 0]):=L.keep ai ah (by rw[aJ af];exact(aH af).trans (congrArg some a0))
     have fxl:K.length+2<Ya.length:=by have:=L.le;simp at this;omega
     have fx:Ya[K.length+2]? = some (.var (Nc x)):=L.keep ai af (by rw[aQ af];simp)
     obtain⟨fxl,fxg⟩:=aD.1 fx;obtain⟨Yc,S,Gc⟩:=Kh (n:=145) ah (left t dir s) M.jL (by have:=M.len;omega) M.at_ M.es (by have:=M.el;omega) hqn (by show 0<=t.ek;omega) (by show t.ek<=4398046511104;omega) e.ino L.bx
     have gy:=Gc.keep (j:=K.length+3) (aD.1 fy).1 af fy
     have gz:=Gc.keep (j:=0) (aD.1 fz).1 ah fz
     obtain⟨gyl,gyg⟩:=aD.1 gy;obtain⟨gzl,gzg⟩:=aD.1 gz;have gt:=Gc.bx.get;have gtl:=Gc.bx.lt
     have KS:sU gr t dir s to nm e.ino 0=iY gr (left t dir s) to nm e.ino:=by
      unfold sU;simp only[iX hx,c3,if_false,ne_eq,not_true_eq_false]
     rw[KS];generalize iY gr (left t dir s) to nm e.ino=t3 at *
     simp only[Nc]at Q S fxg;simp(disch:=omega)[c7,b1,Q,fxg,c3,S,gt,gyg,gzg]at b;exact b.symm
def s64:qJ 64 146:=λ{n} W {k f o} q hk S B0 B1 B2 B3 U T p2 p3=>by
 obtain⟨r,A,M⟩:=Mx (n:=146) ah q (p:=o.path) (by have:=S.p;omega) [] (B0:=B0) (B1:=B1) (B2:=B2) (B3:=B3) (o:=o) (a:=Az)
 obtain⟨X,l,L⟩:=Mx (n:=146) ah q (p:=o.to) (by have:=S.t;omega) [] (B0:=B0) (B1:=B1) (B2:=B2) (B3:=B3) (o:=o) (a:=Az)
 simp only[pJ,Wc,Fc,Sc,Oc,Ac,aK,aL,aN]at A l;generalize h:(en.cz n).x 64 _ _=res;rw[p64 W,jC]at h
 rcases M with⟨d,nm,rfl⟩ | ⟨e,rfl⟩
 case inr =>
  simp(disch:=omega)[TJ,A]at h;exact⟨_,_,h.symm,jm ..⟩
 rcases L with⟨P,v,rfl⟩ | ⟨e,rfl⟩
 case inr =>
  simp(disch:=omega)[TJ,A,l]at h;exact⟨_,_,h.symm,jm ..⟩
 have E:=Qk (n:=146) ah f.s.now q.s.w d nm
 have z:=vh (n:=146) ah
 simp only[Tv]at E;generalize Tr.look j4 f.s.now d nm=lk at *
 obtain⟨i,e⟩:=lk;simp only at E
 by_cases F:e=0
 case neg =>
  have K:=rK (n:=146) ah F
  simp(disch:=omega)[TJ,A,l,ca 122,E,K]at h;exact⟨_,_,h.symm,jm ..⟩
 subst F;have G:=aic (n:=146) ah f.s.now q.s.w d nm P v
 have Q:=WF.mv jM q.s.w d nm P v;generalize mv j4 gr f.s.now d nm P v=m at *
 obtain⟨t,y,e⟩:=m;simp only[Tv]at G Q
 by_cases F:e=0
 case neg =>
  have K:=rK (n:=146) ah F
  simp(disch:=omega)[TJ,A,l,ca 122,E,z,ca 123,G,K]at h;exact⟨_,_,h.symm,jm ..⟩
 subst F;obtain⟨r,H,O,M⟩:=Kk (n:=146) ah q hk U T p2 p3 (o:=o) (a:=Az) (Y:=[.var (Tb t)]) rfl Q q.qs q.ql
 simp only[pJ,Wc,Fc,Sc,Oc,Ac,Tv,aK,aL,aN]at O
 rcases M with⟨rfl,f',b,es,Z,N,rfl,h1,h2,h3⟩ | ⟨⟨e,rfl⟩,Y,rfl⟩
 .simp(disch:=omega)[TJ,A,l,ca 122,E,z,ca 123,G,O]at h;exact⟨_,_,h.symm,rO (a:=⟨0,i,0,0,0,[],[]⟩) N (j7 ..) h1 h2 h3⟩
 .simp(disch:=omega)[TJ,A,l,ca 122,E,z,ca 123,G,O]at h;exact⟨_,_,h.symm,jm ..⟩
def abU{n:Nat}(E:89<n)(l:List Tr.Ent)(hl:l.length<=1000):∃b:List au,b.length=l.length/\(en.cz n).p 125 [.b9 false (l.map En)]=some (.b9 false (b.map AV.str)):=by
 have h:∀e0:Env,e0 6 = .b9 false (l.map En)->e0 7=I (l.length:Int)->∃y,(∃b:List au,b.length=l.length/\y=(AX.exit 0,[AV.own 0 0 0 b.length],[AB.row 0 1 (b.map AV.str)]))/\
   iter (round (en.cz 89) [3,8] [(.exit 0,[3])] BG e0 1 [0]) ([.own 0 0 0 0,I 0],[.row 0 1 []])=some y:=λe0 h6 z =>
  iQ (f:=round (en.cz 89) [3,8] [(.exit 0,[3])] BG e0 1 [0]) l.length (λi (b:List au)=>([.own 0 0 0 b.length,I (i:Int)],[.row 0 1 (b.map AV.str)])) (λy=>∃b:List au,b.length=l.length/\y=(AX.exit 0,[AV.own 0 0 0 b.length],[AB.row 0 1 (b.map AV.str)])) (λi b=>b.length=i)
   (λi b F r=>by
    obtain⟨x,v⟩:∃x,x=l[i]:=⟨_,rfl⟩;have A:jw 1 (b.map AV.str)=true:=by simp[jw]
    exact .inl ⟨b++[x.name],by simp[r],by simp(disch:=omega)[round_eq,BG,h6,z,<-v]⟩)
   (λb r=>⟨_,⟨b,r,rfl⟩,by simp(disch:=omega)[round_eq,BG,z]⟩) (aT _) [] rfl
 generalize q:(en.cz n).p 125 _=res;rw[pp 125 rfl E rfl,b8,b6]at q;simp(disch:=omega)[afX]at q;generalize v:iter _ _=o at q;obtain⟨_,⟨b,r,rfl⟩,rfl⟩:∃y,_/\o=some y:=by rw[<-v];exact h _ aq aq
 refine⟨b,r,?_⟩;rw[<-q];simp(disch:=omega)
def aby{n:Nat}(b:10<n)(e:Tr.Ent)(i:Int)(X:AH)(k:Nat)(hk:X[k]? = some (.var [I i])):eT (en.cz n) 197 [En e,.ptr k 0 0 0] X=some (.bool (decide (e.ek<i)),X):=by
 rw[ph 197 rfl b rfl,b6];simp(disch:=omega)[afu,hk]
def u5(l:List Tr.Ent)(i:Int):List Tr.Ent:=l.filter λe=>decide (i<=e.ek)
def ahP{n:Nat}(y:95<n){l:List Tr.Ent}(hl:l.length<=1000)(i:Int){X:AH}(r:oE X)(k:Nat)(hk:X[k]? = some (.var [I i])):
  ∃es Z,Z.all gd=true/\es.take (u5 l i).length=(u5 l i).map En/\(u5 l i).length<=es.length/\eT (en.cz n) 195 [.own X.length 0 0 l.length,.fn (.func 197) [] [.ptr k 0 0 0]] (X++[.row 0 3 (l.map En)])=some (.own X.length 0 0 (u5 l i).length,X ++ .row 0 3 es::Z):=by
 have b:=(aD.1 hk).1
 obtain⟨es,v,Z,o,h1,h2,h⟩:=aeL (Γ:=en.cz 95) (z:=3) (zero:=[.str [],I 0,I 0]) (k:=137) (cs:=λe:Tr.Ent=>[.str e.name,I e.ino,I e.ek]) (λ_=>rfl) (λ_=>rfl) rfl rfl (l:=l) af r 197 [] [.ptr k 0 0 0] (λe=>decide (e.ek<i)) (by
  obtain⟨Z,o,h⟩:=GB (Γ:=en.cz 93) (cs:=λe:Tr.Ent=>[.str e.name,I e.ino,I e.ek]) (λ_=>rfl) (l:=l) af (vV r 3 _) (MK X (cs:=λe:Tr.Ent=>[.str e.name,I e.ino,I e.ek]) (λ_=>rfl) l) 197 [] [.ptr k 0 0 0] (λe=>decide (e.ek<i)) λx _=>⟨[],rfl,by rw[cC];exact aby ah x i _ k (by rw[aJ b];exact hk)⟩
  exact⟨Z,o,(acw ah _ _).trans h⟩) λx _ Y=>⟨[],rfl,by rw[cC];exact aby ah x i _ k (by rw[aJ b];exact hk)⟩
 have e:(l.filter λx=>!(λe:Tr.Ent=>decide (e.ek<i)) x)=u5 l i:=by
  unfold u5
  congr 1
  funext q
  simp only[<-decide_not,Int.not_lt]
 rw[e]at h1
 have A:v=(u5 l i).length:=by
  have:=congrArg List.length h1;rw[bF,cv]at this;omega
 subst A;exact⟨es,Z,o,h1,h2,(ph 195 rfl y rfl _ _).trans h⟩
def Kf{l:List Tr.Ent}(v:l.Pairwise λa b=>a.ek≠b.ek)(hl:l.length<=1000){r:List AV}(o:r.take l.length=l.map En)(n:l.length<=r.length):
  ∃i:List Tr.Ent,i.length=l.length/\∀(H:AH) b,H[b]? = some (.row 0 3 r)->qN 2 3 [199] [.own b 0 0 l.length,.fn (.func 199) [] []] H=some (.jg [],H.set b (.row 0 3 (i.map En++r.drop l.length))):=by
 obtain⟨i,h1,_⟩:=oL En (λ_=>True) (qj 2 (l.map En)) λx q=>by
  obtain⟨e,_,rfl⟩:=cQ.1 ((lH 2 _).mem_iff.1 q);exact⟨e,rfl,trivial⟩
 refine⟨i,?_,λH b y=>?_⟩
 .have:=congrArg List.length h1;rw[(lH 2 _).length_eq,cv,cv]at this;exact this.symm
 .unfold qN;simp only[y];rw[if_pos ?_,o,h1];refine⟨trivial,trivial,n,trivial,af,ah,?_,?_⟩
  .rw[o,iL];exact aM.2 λx _=>rfl
  .rw[o,e9];unfold List.Nodup;rw[fG];exact v.imp λh=>h
set_option maxHeartbeats 1000000 in
def aib{n:Nat}(hn:97<n)(t:Tr.Tree)(w:lM t)(d i m:Int):∃(l:List Tr.Ent) (nx e:Int),l.length<=64/\(en.cz n).p 124 [Tv t,I d,I i,I m]=some (.jg [.b9 false (l.map En),I nx,I e]):=by
 generalize h:(en.cz n).p 124 _=res;rw[pp 124 rfl hn rfl,b8,b6]at h;have hl:=(nc w).len
 by_cases c1:0<=i
 case neg =>
  simp(disch:=omega)[Ij]at h;exact⟨[],0,1,ai,h.symm⟩
 by_cases c2:1<=m
 case neg =>
  simp(disch:=omega)[Ij]at h;exact⟨[],0,1,ai,h.symm⟩
 by_cases c3:m<=64
 case neg =>
  simp(disch:=omega)[Ij]at h;exact⟨[],0,1,ai,h.symm⟩
 obtain⟨M,rfl⟩:∃M:Nat,m=(M:Int):=⟨m.toNat,af⟩
 have B0:Bx [.var [I i],.var (Tb t)] 1 t:=⟨rfl,rfl⟩;obtain⟨Y,A,G⟩:=Qg (n:=97) ah t w.wf.jL hl d B0
 have l1:=G.le;simp only[aS,bt,bW,Nat.reduceAdd]at l1;have e0:Y[0]? = some (.var [I i]):=G.keep ai ah rfl
 by_cases c4:jF t d=0
 case neg =>
  generalize jF t d=e at *
  simp only[Nd,Tb]at A;simp(disch:=omega)[Ij,A,c4]at h;exact⟨[],0,e,ai,h.symm⟩
 obtain⟨q,q1,W,U⟩:=wK c4;have F:=(w.wf.dir _ _ q1 W).2;have Q:=F.len;rw[c4,U]at A;have H:=U1 (n:=97) ah
 obtain⟨es,Z,hZ,h1,h2,v⟩:=ahP (n:=97) ah (l:=q.b7) af i (X:=Y++[.var (Nc q)]) (tZ G.bx.pl rfl) 0 (by rw[aJ af];exact e0)
 have hfl:(u5 q.b7 i).length<=64:=bJ (bz _ _) Q;have P:(u5 q.b7 i).Pairwise λa b=>a.ek≠b.ek:=F.SJ.filter _
 generalize u5 q.b7 i=l at *
 obtain⟨o,z,K⟩:=Kf P af h1 h2
 have K:=K (Y++(.var (Nc q) :: .row 0 3 es::Z)) (Y.length+1) (by rw[aQ af];simp)
 have r:=aiY (n:=97) ah
 have hll:(o.map En).take l.length=o.map En:=aO (by simp[z])
 have O:∀x:List AV,(o.map En++x).take l.length=o.map En:=λx=>by
  have:l.length=(o.map En).length:=by simp[z]
  rw[this,List.take_left]
 simp only[Nd,Nc,Tb,aU,aS,bt,cM,aK,aL]at A v K
 by_cases c5:l.length<=M
 .simp(disch:=omega)[Ij,A,H,jd,v,r,K,O,z]at h;refine⟨o,0,0,af,?_⟩
  rw[<-h]
 .have T:M-1<o.length:=by omega
  have N:((M:Int)-1)=((M-1:Nat):Int):=af
  obtain⟨x,hx⟩:∃x,x=o[M-1]:=⟨_,rfl⟩
  have E:∀y:List AV,(o.map En++y)[M-1]? = some (En x):=λy=>by
   rw[aJ (an T),bP,aH T,<-hx];rfl
  have L:∀y:List AV,(o.map En++y).take M=(o.take M).map En:=λy=>by
   rw[fV ak,List.map_take]
  have S:M-1<l.length:=af
  simp only[En]at E;simp(disch:=omega)[-List.map_take,Ij,A,H,jd,v,r,K,z,N,S,jb,E,L]at h;exact⟨o.take M,_,0,ak,h.symm⟩
def s65:qJ 65 98:=λ{n} G {k f o} v hk M B0 B1 B2 B3 L K p2 p3=>by
 obtain⟨r,Y,_,h,E⟩:=Hg (n:=98) ah v o.path [] (B0:=B0) (B1:=B1) (B2:=B2) (B3:=B3) (o:=o) (a:=Az)
 simp only[pJ,Wc,Fc,Sc,Oc,Ac,aK,aL,aN]at h;generalize b:(en.cz n).x 65 _ _=res;rw[p65 G,jC]at b
 rcases E with rfl | ⟨e,rfl⟩
 .generalize iS f.s.now (mO f.s.now o.path).1=q at *
  obtain⟨l,nx,e,hl,y⟩:=aib (n:=98) ah f.s.now v.s.w q.ino o.n o.m
  obtain⟨A,F,H⟩:=abU (n:=98) ah l af
  simp only[Tv,Nd]at y h
  by_cases z:e=0
  .subst z;have i:=vh (n:=98) ah
   simp(disch:=omega)[c65,h,y,i,ca 125,H]at b;exact⟨_,_,b.symm,vj (f:=f) (a:=⟨0,0,0,nx,0,A,[]⟩) v.up ⟨by simp only;omega,ai⟩ _⟩
  .have i:=rK (n:=98) ah z
   simp(disch:=omega)[c65,h,y,i]at b;exact⟨_,_,b.symm,jm ..⟩
 .simp(disch:=omega)[c65,h]at b;exact⟨_,_,b.symm,jm ..⟩
end Go.Proofs.YtghgbehknhmnaaaGreatDoor
