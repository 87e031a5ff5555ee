/- Part of the proof that TopScriptsCard holds. -/
import Derived.Test.YtahlmpbhfljalaaGreatDoorFs32f
set_option linter.all false
namespace Go.Proofs.YtahlmpbhfljalaaGreatDoor
open Go.Am Go.Tr Go.Am.Nm Go.Lib
variable{B0 B1 B2:AB}
def UE{n:Nat}(L:122<n){k:Nat}{f:FS}{o:rB}{a:uZ}(h:uY k f){B3:AB}(Y:AH):∃r z,z.all gX=true/\(gV.fk n).x 128 [.ptr 4 0 0 0] (oB B0 B1 B2 B3 f o a Y)=some (r,oB B0 B1 B2 B3 f o a (Y++z))/\
  ((∃q,r = .inl (Nd q)/\q.ek.length<=64/\q.data.length<=4096/\DT q/\0<=o.n)\/Pk r):=by
 have y:=ahn (n:=122) af f.holds (by have:=h.hl;omega) false o.client o.handle
 have l:=Xm f.holds o.client o.handle;generalize Ks f.holds o.client o.handle=w at *
 let⟨i,e⟩:=w;dsimp only at l;simp only at y;generalize b:(gV.fk n).x 128 _ _=res;rw[aiw L,iR]at b
 by_cases G:e=0
 .subst G;have v:=uB (n:=122) af
  by_cases c:0<=o.n
  .have E:=CK (n:=122) af 1
   let⟨z,M,H⟩:=aby (n:=122) af h i (Y++[.var [I 0,I 0,I 0,.en false [],.en false [],I 0]]) (B0:=B0) (B1:=B1) (B2:=B2) (B3:=B3) (o:=o) (a:=a)
   have A:=HB h.s.w i;let⟨Q,P,O,N⟩:=mb h.s.w i;have K:=Re.j6 h.s.w i;generalize iq f.s.now i=q at *
   simp only[oB,Wc,Fc,Sc,Oc,Ac,Nd,aM,aN,bV]at H;simp(disch:=omega)[Ow,y,v,c,E,H]at b;exact⟨_,.var (Nc q)::z,by rw[cm,M];rfl,b.symm,.inl ⟨q,rfl,A.1,A.2.1,A.2.2,c⟩⟩
  .have F:=CL (n:=122) af (e:=1) af
   simp(disch:=omega)[Ow,y,v,c,F]at b;exact⟨_,[.var [I 0,I 0,I 0,.en false [],.en false [],I 0]],rfl,b.symm,.inr ⟨1,rfl,aa⟩⟩
 .have v:=qO (n:=122) af G
  simp(disch:=omega)[Ow,y,v]at b;exact⟨_,[.var [I 0,I 0,I 0,.en false [],.en false [],I 0]],rfl,b.symm,.inr ⟨e,rfl,aa⟩⟩
def s71:pV 71 124:=λ{n} K {k f o} A hk H B0 B1 B2 B3 X W p2 E=>by
 have G:=H.r;let⟨r,Y,_,h,F⟩:=UE (n:=124) af A [] (B0:=B0) (B1:=B1) (B2:=B2) (B3:=B3) (o:=o) (a:=Az)
 simp only[oB,Wc,Fc,Sc,Oc,Ac,aM,aN,aX]at h;generalize b:(gV.fk n).x 71 _ _=res;rw[p71 K,iR]at b
 rcases F with⟨q,rfl,_,Z,l,c0⟩ | ⟨e,rfl,P⟩
 .have v:=CK (n:=124) af 1
  have i:=CL (n:=124) af (e:=1) af
  have y:=ah1 (n:=124) af
  simp only[Nd]at h
  by_cases z:0<=o.m
  .by_cases c2 : o.m <= 4096
   .have e1:∃j:Nat,min o.n (q.data.length:Int)=j/\j<=q.data.length:=⟨(min o.n (q.data.length:Int)).toNat,aa,aa⟩
    let⟨j,O,N⟩:=e1;have Q:∃m:Nat,min o.m ((q.data.length-j:Nat):Int)=m/\m<=q.data.length-j:=⟨(min o.m ((q.data.length-j:Nat):Int)).toNat,aa,aa⟩
    let⟨m,M,L⟩:=Q;have U:(q.data.map B).drop j=(q.data.drop j).map B:=by rw[List.map_drop]
    have T:((q.data.drop j).map B).take m=((q.data.drop j).take m).map B:=by rw[List.map_take]
    have S:(((q.data.drop j).take m).map B).take m=((q.data.drop j).take m).map B:=bf aj
    simp(disch:=omega)[-List.map_drop,-List.map_take,c71,h,v,z,c2,O,M,y,iL,U,T,S]at b;exact⟨_,_,b.symm,uF (f:=f) (a:=⟨0,q.ino,0,0,0,[],(q.data.drop j).take m⟩) A.up ⟨ah,aj,ah,by have:=l.1;dsimp only;omega⟩ _⟩
   .simp(disch:=omega)[c71,h,i,z,c2]at b;exact⟨_,_,b.symm,iK aa _⟩
  .simp(disch:=omega)[c71,h,i,z]at b;exact⟨_,_,b.symm,iK aa _⟩
 .simp(disch:=omega)[c71,h]at b;exact⟨_,_,b.symm,iK aa _⟩
def UD{n:Nat}(hn:145<n){k:Nat}{f:FS}{o:rB}{a:uZ}(K:uY k f)(hk:k<=200){B3:AB}(p0:gX B0=true)(p1:gX B1=true)(p2:gX B2=true)(O:gX B3=true){Y:AH}(S:Y.all gX=true)(i:Int)(hir:Er i)(d:aq)(hd:d.length<=100000)(U:AV)
  (hv:U = .en false (d.map B)\/∃b v,U = .own (b+5) v 0 d.length/\Y[b]? = some (.row v 1 (d.map B))) :
  ∃r H,(gV.fk n).x 130 [.ptr 4 0 0 0,I i,U] (oB B0 B1 B2 B3 f o a Y)=some (r,H)/\Out B0 B1 B2 B3 k o r H:=by
 generalize h:(gV.fk n).x 130 _ _=res;rw[aiv hn,iR]at h;have G:=ahm (n:=145) af f.s.now K.s.w.wf.jh (vV K.s.w).len i d aa
 have W:=WF.put K.s.w i d;have M:=Xl f.s.now i d;generalize put f.s.now i d=r at *
 let⟨t,e⟩:=r;dsimp only at M;simp only[Tv]at G W
 have q:∀(N:AH),N.all gX=true->(e=0->∃r H,(gV.fk 145).x 117 [.ptr 4 0 0 0,Tv t,.en false (f.jy.map Qv)] (oB B0 B1 B2 B3 f o a (N++[.var (Tb t)]))=some (r,H)/\afK B0 B1 B2 B3 k o a (N++[.var (Tb t)]) r H):=λN E _ =>
  JT (n:=145) af K hk p0 p1 p2 O (by rw[cg,E];rfl) W K.qs K.ql
 have l:=uB (n:=145) af
 have L:=λz=>qO (n:=145) af (e:=e) z
 rcases hv with rfl | ⟨b,v,rfl,X⟩
 .by_cases z : e = 0
  .subst z;let⟨r,H,F,Q⟩:=q Y S rfl;simp only[oB,Wc,Fc,Sc,Oc,Ac,Tv,aM,aN]at F
   rcases Q with⟨rfl,f',b,es,Z,y,rfl,h1,h2,h3⟩ | ⟨⟨e,rfl,T⟩,Y,rfl⟩
   .simp(disch:=omega)[c130,ca 233,G,l,F]at h;exact⟨_,_,h.symm,qS (a:=⟨0,i,0,0,(d.length:Int),[],[]⟩) y (uh aa) (ak h1) h2 h3⟩
   .simp(disch:=omega)[c130,ca 233,G,l,F]at h;exact⟨_,_,h.symm,iK aa _⟩
  .have P:=L z;simp(disch:=omega)[c130,ca 233,G,P]at h;exact⟨_,_,h.symm,iK aa _⟩
 .have S5:=(az.1 X).1;have A:=(az.1 X).2
  have E:(Y.set b (.lu v 1 (d.map B))).all gX=true:=by
   rw[aJ]at S⊢;intro x hx
   rcases fN hx with hx | rfl
   .exact S x hx
   .rfl
  by_cases z:e=0
  .subst z;let⟨r,H,F,Q⟩:=q _ E rfl;simp only[oB,Wc,Fc,Sc,Oc,Ac,Tv,aM,aN]at F
   rcases Q with⟨rfl,f',b,es,Z,y,rfl,h1,h2,h3⟩ | ⟨⟨e,rfl,T⟩,Y,rfl⟩
   .simp(disch:=omega)[c130,A,ca 233,G,l,F,mB,oF]at h;exact⟨_,_,h.symm,qS (a:=⟨0,i,0,0,(d.length:Int),[],[]⟩) y (uh aa) (ak h1) h2 h3⟩
   .simp(disch:=omega)[c130,A,ca 233,G,l,F,mB,oF]at h;exact⟨_,_,h.symm,iK aa _⟩
  .have P:=L z;simp(disch:=omega)[c130,A,ca 233,G,P,mB,oF]at h;exact⟨_,_,h.symm,iK aa _⟩
def s73:pV 73 147:=λ{n} N {k f o} E hk M B0 B1 B2 B3 K G p2 i=>by
 have L:=M.r;let⟨r,Y,Q,h,l⟩:=UE (n:=147) af E [] (B0:=B0) (B1:=B1) (B2:=B2) (B3:=B3) (o:=o) (a:=Az)
 simp only[oB,Wc,Fc,Sc,Oc,Ac,aM,aN,aX]at h;generalize b:(gV.fk n).x 73 _ _=res;rw[p73 N,iR]at b
 rcases l with⟨q,rfl,_,X,v,c0⟩ | ⟨e,rfl,A⟩
 .obtain⟨j,P,O⟩:∃j:Nat,min o.n (q.data.length:Int)=j/\j<=q.data.length:=⟨(min o.n (q.data.length:Int)).toNat,aa,aa⟩
  let⟨r,H,F,l⟩:=UD (n:=147) af E hk K G p2 i (o:=o) (a:=Az) (Y:=Y++[.var (Nc q)]) (by rw[cg,Q];rfl) q.ino v.1 (q.data.take j) aj _ (.inl rfl)
  have U:(q.data.map B).take j=(q.data.take j).map B:=by rw[List.map_take]
  simp only[oB,Wc,Fc,Sc,Oc,Ac,aM,aN,aX]at F;simp only[Nd]at h;simp(disch:=omega)[-List.map_take,c73,h,P,U,F]at b
  rcases l with⟨rfl,T,W,y,z,S⟩ | ⟨⟨e,rfl,A⟩,Y,rfl⟩
  .simp(disch:=omega)at b;exact⟨_,_,b.symm,.inl ⟨rfl,T,W,y,z,S⟩⟩
  .simp(disch:=omega)at b;exact⟨_,_,b.symm,iK aa _⟩
 .simp(disch:=omega)[c73,h]at b;exact⟨_,_,b.symm,iK aa _⟩
set_option maxHeartbeats 4000000 in
def s72:pV 72 146:=λ{n} hn {k f o} S hk ho B0 B1 B2 B3 p0 p1 p2 E=>by
 have hor:=ho.r;obtain⟨r,Y,hY,v,F⟩:=UE (n:=146) af S [] (B0:=B0) (B1:=B1) (B2:=B2) (B3:=B3) (o:=o) (a:=Az)
 simp only[oB,Wc,Fc,Sc,Oc,Ac,aM,aN,aX]at v;generalize b:(gV.fk n).x 72 _ _=res;rw[p72 hn,iR]at b;have Q:=ho.d
 rcases F with⟨q,rfl,_,hq,G,c0⟩ | ⟨e,rfl,O⟩
 .simp only[Nd]at v;have h:=CK (n:=146) af 1
  have L:=CL (n:=146) af (e:=1) af
  have l:=CK (n:=146) af 2
  have K:=CL (n:=146) af (e:=2) af
  have M:=acp (n:=146) af
  by_cases P:o.n<=4096
  .obtain⟨kd,cl,pa,to,on,om,oh,i⟩:=o;obtain⟨N,rfl⟩:∃N:Nat,on=(N:Int):=⟨on.toNat,by simp only at c0;omega⟩
   simp only at v c0 P Q
   by_cases c2:(N:Int)+(i.length:Int)<=4096
   .by_cases Z : i.length = 0
    .obtain⟨r,H,A,F⟩:=UD (n:=146) af S hk p0 p1 p2 E (o:=⟨kd,cl,pa,to,N,om,oh,i⟩) (a:=Az) (Y:=Y++[.var (Nc q),.row 0 1 (q.data.map B)]) (by rw[cg,hY];rfl) q.ino G.1 q.data aa (.own (Y.length+1+5) 0 0 q.data.length) (.inr ⟨Y.length+1,0,rfl,ah⟩)
     simp only[oB,Wc,Fc,Sc,Oc,Ac,aM,aN,aX]at A;simp(disch:=omega)[c72,v,P,Z,h,l,M,iL,A]at b
     rcases F with⟨rfl,X,a',y,z,W⟩ | ⟨⟨e,rfl,O⟩,Y,rfl⟩
     .simp(disch:=omega)at b;exact⟨_,_,b.symm,.inl ⟨rfl,X,a',y,z,W⟩⟩
     .simp(disch:=omega)at b;exact⟨_,_,b.symm,iK aa _⟩
    .obtain⟨m,hm⟩:∃m:Nat,max ((N:Int)+(i.length:Int)-(q.data.length:Int)) 0=(m:Int):=⟨(max ((N:Int)+(i.length:Int)-(q.data.length:Int)) 0).toNat,aa⟩
     obtain⟨d,hd⟩:∃d:aq,d=over (q.data++List.replicate m 0) N i:=⟨_,rfl⟩;have U:d.length=q.data.length+m:=by
      rw[hd];unfold over;simp;omega
     have T:d.map B=over (q.data.map B++List.replicate m (.int .u8 0)) N (i.map B):=by
      rw[hd,<-MI,dS,List.map_replicate];rfl
     obtain⟨r,H,A,F⟩:=UD (n:=146) af S hk p0 p1 p2 E (o:=⟨kd,cl,pa,to,N,om,oh,i⟩) (a:=Az) (Y:=Y++[.var (Nc q),.row 1 1 (d.map B)]) (by rw[cg,hY];rfl) q.ino G.1 d aa (.own (Y.length+1+5) 1 0 d.length) (.inr ⟨Y.length+1,1,rfl,ah⟩)
     rw[T,U]at A;simp only[oB,Wc,Fc,Sc,Oc,Ac,aM,aN,aX]at A;simp(disch:=omega)[c72,v,P,c2,h,l,M,iL,hm,A]at b
     rcases F with⟨rfl,X,a',y,z,W⟩ | ⟨⟨e,rfl,O⟩,Y,rfl⟩
     .simp(disch:=omega)at b;exact⟨_,_,b.symm,.inl ⟨rfl,X,a',y,z,W⟩⟩
     .simp(disch:=omega)at b;exact⟨_,_,b.symm,iK aa _⟩
   .simp(disch:=omega)[c72,v,P,c2,h,K]at b;exact⟨_,_,b.symm,iK aa _⟩
  .simp(disch:=omega)[c72,v,P,L]at b;exact⟨_,_,b.symm,iK aa _⟩
 .simp(disch:=omega)[c72,v]at b;exact⟨_,_,b.symm,iK aa _⟩
def s66:pV 66 156:=λ{n} hn {k f o} v hk S B0 B1 B2 B3 p0 p1 p2 N=>by
 have hor:=S.r;let⟨r,A,Q⟩:=Me (n:=156) af v (p:=o.path) (by have:=S.p;omega) [] (B0:=B0) (B1:=B1) (B2:=B2) (B3:=B3) (o:=o) (a:=Az)
 let⟨r2,l,P⟩:=Me (n:=156) af v (p:=o.to) (by have:=S.t;omega) [] (B0:=B0) (B1:=B1) (B2:=B2) (B3:=B3) (o:=o) (a:=Az)
 simp only[oB,Wc,Fc,Sc,Oc,Ac,aM,aN,aX]at A l;generalize h:(gV.fk n).x 66 _ _=res;rw[p66 hn,iR]at h
 rcases Q with⟨d,nm,rfl⟩ | ⟨e,rfl,K⟩
 case inr =>
  simp(disch:=omega)[Tu,A]at h;exact⟨_,_,h.symm,iK aa _⟩
 rcases P with⟨M,q,rfl⟩ | ⟨e,rfl,K⟩
 case inr =>
  simp(disch:=omega)[Tu,A,l]at h;exact⟨_,_,h.symm,iK aa _⟩
 have E:=PS (n:=156) af f.s.now v.s.w d nm
 have z:=uB (n:=156) af
 simp only[Tv]at E;have W:=And.intro (FM v.s.w d nm) (yu f.s.now d nm);generalize Tr.look mT f.s.now d nm=lk at *
 let⟨i,e⟩:=lk;dsimp only at W;simp only at E
 by_cases F:e=0
 case neg =>
  have O:=qO (n:=156) af F
  simp(disch:=omega)[Tu,A,l,ca 120,E,O]at h;exact⟨_,_,h.symm,iK aa _⟩
 subst F;have L:=ahI (n:=156) af f.s.now v.s.w d nm M q
 have X:=WF.mv jI v.s.w d nm M q;have G:=aeI f.s.now d nm M q;generalize mv mT ij f.s.now d nm M q=m at *
 let⟨t,y,e⟩:=m;dsimp only at G;simp only[Tv]at L X
 by_cases F:e=0
 case neg =>
  have O:=qO (n:=156) af F
  simp(disch:=omega)[Tu,A,l,ca 120,E,z,ca 121,L,O]at h;exact⟨_,_,h.symm,iK aa _⟩
 subst F;let⟨r,H,U,Q⟩:=JT (n:=156) af v hk p0 p1 p2 N (o:=o) (a:=Az) (Y:=[.var (Tb t)]) rfl X v.qs v.ql
 simp only[oB,Wc,Fc,Sc,Oc,Ac,Tv,aM,aN,aX]at U
 rcases Q with⟨rfl,f',b,es,Z,T,rfl,h1,h2,h3⟩ | ⟨⟨e,rfl,K⟩,Y,rfl⟩
 .simp(disch:=omega)[Tu,A,l,ca 120,E,z,ca 121,L,U]at h;exact⟨_,_,h.symm,qS (a:=⟨0,i,0,0,0,[],[]⟩) T (uh aa) h1 h2 h3⟩
 .simp(disch:=omega)[Tu,A,l,ca 120,E,z,ca 121,L,U]at h;exact⟨_,_,h.symm,iK aa _⟩
def abC{n:Nat}(F:157<n)(l:List Tr.Ent)(hl:l.length<=1000):∃b:List aq,(b.length=l.length/\∀s∈b,∃e∈l,s=e.name)/\(gV.fk n).p 123 [.en false (l.map En)]=some (.en false (b.map AV.str)):=by
 have h:∀e0:Env,e0 6 = .en false (l.map En)->e0 7=I (l.length:Int)->∃y,(∃b:List aq,(b.length=l.length/\∀s∈b,∃e∈l,s=e.name)/\y=(AX.exit 0,[AV.own 0 0 0 b.length],[AB.row 0 1 (b.map AV.str)]))/\
   iter (round (gV.fk 157) [3,8] [(.exit 0,[3])] Ai e0 1 [0]) ([.own 0 0 0 0,I 0],[.row 0 1 []])=some y:=λe0 H A =>
  ji (f:=round (gV.fk 157) [3,8] [(.exit 0,[3])] Ai e0 1 [0]) l.length (λi (b:List aq)=>([.own 0 0 0 b.length,I (i:Int)],[.row 0 1 (b.map AV.str)])) (λy=>∃b:List aq,(b.length=l.length/\∀s∈b,∃e∈l,s=e.name)/\y=(AX.exit 0,[AV.own 0 0 0 b.length],[AB.row 0 1 (b.map AV.str)])) (λi b=>b.length=i/\∀s∈b,∃e∈l,s=e.name)
   (λi b G v=>by
    let⟨r,z⟩:=v;obtain⟨x,hx⟩:∃x,x=l[i]:=⟨_,rfl⟩;have E:iU 1 (b.map AV.str)=true:=by simp[iU]
    exact .inl ⟨b++[x.name],⟨by simp[r],λs hs=>by
     rcases aZ.1 hs with hs | hs
     .exact z s hs
     .exact⟨x,hx▸aU G,bS.1 hs⟩⟩,by simp(disch:=omega)[round_eq,Ai,H,A,<-hx]⟩)
   (λb r=>⟨_,⟨b,r,rfl⟩,by simp(disch:=omega)[round_eq,Ai,A]⟩) (bp _) [] ⟨rfl,ah⟩
 generalize q:(gV.fk n).p 123 _=res;rw[pp 123 rfl F rfl,gd,b6]at q;simp(disch:=omega)[afC]at q;generalize hx:iter _ _=o at q;obtain⟨_,⟨b,r,rfl⟩,rfl⟩:∃y,_/\o=some y:=by rw[<-hx];exact h _ an an
 refine⟨b,r,?_⟩;rw[<-q];simp(disch:=omega)
def abq{n:Nat}(b:25<n)(e:Tr.Ent)(i:Int)(X:AH)(k:Nat)(hk:X[k]? = some (.var [I i])):rF (gV.fk n) 214 [En e,.ptr k 0 0 0] X=some (.bool (decide (e.gr<i)),X):=by
 rw[ph 214 rfl b rfl,b6];simp(disch:=omega)[afs,hk]
def sU(l:List Tr.Ent)(i:Int):List Tr.Ent:=l.filter λe=>decide (i<=e.gr)
def ahs{n:Nat}(y:170<n){l:List Tr.Ent}(hl:l.length<=1000)(i:Int){X:AH}(r:tT X)(k:Nat)(hk:X[k]? = some (.var [I i])):
  ∃es Z,Z.all gX=true/\es.take (sU l i).length=(sU l i).map En/\(sU l i).length<=es.length/\rF (gV.fk n) 212 [.own X.length 0 0 l.length,.fn (.func 214) [] [.ptr k 0 0 0]] (X++[.row 0 3 (l.map En)])=some (.own X.length 0 0 (sU l i).length,X ++ .row 0 3 es::Z):=by
 have b:=(az.1 hk).1
 let⟨es,v,Z,o,h1,h2,h⟩:=aeT (Γ:=gV.fk 170) (z:=3) (zero:=[.str [],I 0,I 0]) (k:=135) (cs:=λe:Tr.Ent=>[.str e.name,I e.ino,I e.gr]) (λ_=>rfl) (λ_=>rfl) rfl rfl (l:=l) aa r 214 [] [.ptr k 0 0 0] (λe=>decide (e.gr<i)) (by
  let⟨Z,o,h⟩:=ixG (Γ:=gV.fk 168) (cs:=λe:Tr.Ent=>[.str e.name,I e.ino,I e.gr]) (λ_=>rfl) (l:=l) aa (CD r 3 _) (Mu X (cs:=λe:Tr.Ent=>[.str e.name,I e.ino,I e.gr]) (λ_=>rfl) l) 214 [] [.ptr k 0 0 0] (λe=>decide (e.gr<i)) λx _=>⟨[],rfl,by rw[b9];exact abq af x i _ k (by rw[aI b];exact hk)⟩
  exact⟨Z,o,(aco af _ _).trans h⟩) λx _ Y=>⟨[],rfl,by rw[b9];exact abq af x i _ k (by rw[aI b];exact hk)⟩
 have e:(l.filter λx=>!(λe:Tr.Ent=>decide (e.gr<i)) x)=sU l i:=by
  unfold sU
  congr 1
  funext q
  simp only[<-decide_not,Int.not_lt]
 rw[e]at h1
 have A:v=(sU l i).length:=by
  have:=congrArg List.length h1;rw[bI,cw]at this;omega
 subst A;exact⟨es,Z,o,h1,h2,(ph 212 rfl y rfl _ _).trans h⟩
def JQ{l:List Tr.Ent}(y:l.Pairwise λa b=>a.gr≠b.gr)(hl:l.length<=1000){r:List AV}(o:r.take l.length=l.map En)(n:l.length<=r.length):
  ∃i:List Tr.Ent,i.length=l.length/\(∀x∈i,x∈l)/\∀(H:AH) b,H[b]? = some (.row 0 3 r)->qb 2 3 [216] [.own b 0 0 l.length,.fn (.func 216) [] []] H=some (.iV [],H.set b (.row 0 3 (i.map En++r.drop l.length))):=by
 let⟨i,h1,q⟩:=nV En (λe=>e∈l) (pE 2 (l.map En)) λx hx=>by
  obtain⟨e,v,rfl⟩:=b7.1 ((kO 2 _).mem_iff.1 hx);exact⟨e,rfl,v⟩
 refine⟨i,?_,q,λH b z=>?_⟩
 .have:=congrArg List.length h1;rw[(kO 2 _).length_eq,cw,cw]at this;exact this.symm
 .unfold qb;simp only[z];rw[if_pos ?_,o,h1];refine⟨trivial,trivial,n,trivial,aa,af,?_,?_⟩
  .rw[o,gj];exact aJ.2 λx _=>rfl
  .rw[o,eL];unfold List.Nodup;rw[fS];exact y.imp λh=>h
set_option maxHeartbeats 1000000 in
def ahH{n:Nat}(hn:172<n)(t:Tr.Tree)(w:nB t)(d i m:Int):∃(l:List Tr.Ent) (nx e:Int),l.length<=64/\(gV.fk n).p 122 [Tv t,I d,I i,I m]=some (.iV [.en false (l.map En),I nx,I e])/\(∀x∈l,x.name.length<=1000)/\Er nx/\Er e:=by
 generalize h:(gV.fk n).p 122 _=res;rw[pp 122 rfl hn rfl,gd,b6]at h;have hl:=(vV w).len
 by_cases c1:0<=i
 case neg =>
  simp(disch:=omega)[HY]at h;exact⟨[],0,1,ah,h.symm,ah,aa⟩
 by_cases c2:1<=m
 case neg =>
  simp(disch:=omega)[HY]at h;exact⟨[],0,1,ah,h.symm,ah,aa⟩
 by_cases co3:m<=64
 case neg =>
  simp(disch:=omega)[HY]at h;exact⟨[],0,1,ah,h.symm,ah,aa⟩
 obtain⟨M,rfl⟩:∃M:Nat,m=(M:Int):=⟨m.toNat,aa⟩
 have B0:Bx [.var [I i],.var (Tb t)] 1 t:=⟨rfl,rfl⟩;let⟨Y,E,G⟩:=PR (n:=172) af t w.wf.jh hl d B0
 have l1:=G.le;simp only[aK,aR,b8,Nat.reduceAdd]at l1;have e0:Y[0]? = some (.var [I i]):=G.keep ah af rfl
 by_cases A:jK t d=0
 case neg =>
  have hed:=zX t d;generalize jK t d=e at *
  simp only[Nd,Tb]at E;simp(disch:=omega)[HY,E,A]at h;exact⟨[],0,e,ah,h.symm,ah,aa⟩
 let⟨q,q1,q2,P⟩:=vI A;have L:=(w.wf.dir _ _ q1 q2).2;have W:=L.len;rw[A,P]at E;have N:=U0 (n:=172) af
 let⟨es,Z,hZ,h1,h2,v⟩:=ahs (n:=172) af (l:=q.ek) aa i (X:=Y++[.var (Nc q)]) (ID G.bx.pl rfl) 0 (by rw[aI aa];exact e0)
 have hfl:(sU q.ek i).length<=64:=bQ (bG _ _) W;have U:(sU q.ek i).Pairwise λa b=>a.gr≠b.gr:=L.dis.filter _
 have F:∀x∈sU q.ek i,x.name.length<=1000:=λx hx=>(CV w (gZ q1).1).2.2.2 x (bU.1 hx).1
 generalize sU q.ek i=l at *
 let⟨o,z,H,O⟩:=JQ U aa h1 h2
 have O:=O (Y++(.var (Nc q) :: .row 0 3 es::Z)) (Y.length+1) (by rw[aQ aa];simp)
 have r:=ait (n:=172) af
 have hll:(o.map En).take l.length=o.map En:=bf (by simp[z])
 have T:∀x:List AV,(o.map En++x).take l.length=o.map En:=λx=>by
  have:l.length=(o.map En).length:=by simp[z]
  rw[this,List.take_left]
 simp only[Nd,Nc,Tb,aG,aK,aR,bV,aM,aN]at E v O
 by_cases co5:l.length<=M
 .simp(disch:=omega)[HY,E,N,iL,v,r,O,T,z]at h;exact⟨o,0,0,aa,h.symm,λx hx=>F x (H x hx),aa⟩
 .have hM:M-1<o.length:=by omega
  have S:((M:Int)-1)=((M-1:Nat):Int):=aa
  obtain⟨x,hx⟩:∃x,x=o[M-1]:=⟨_,rfl⟩
  have K:∀y:List AV,(o.map En++y)[M-1]? = some (En x):=λy=>by
   rw[aI (ak hM),bM,aF hM,<-hx];rfl
  have Q:∀y:List AV,(o.map En++y).take M=(o.take M).map En:=λy=>by
   rw[fA aj,List.map_take]
  have hM1:M-1<l.length:=aa
  simp only[En]at K;simp(disch:=omega)[-List.map_take,HY,E,N,iL,v,r,O,z,S,hM1,iZ,K,Q]at h;exact⟨o.take M,_,0,aj,h.symm,λx hx=>F x (H x (dK hx)),Pm _,aa⟩
def s67:pV 67 173:=λ{n} Q {k f o} h hk N B0 B1 B2 B3 p0 p1 p2 H=>by
 have M:=N.r;let⟨r,Y,_,i,L⟩:=GV (n:=173) af h o.path [] (B0:=B0) (B1:=B1) (B2:=B2) (B3:=B3) (o:=o) (a:=Az)
 simp only[oB,Wc,Fc,Sc,Oc,Ac,aM,aN,aX]at i;generalize b:(gV.fk n).x 67 _ _=res;rw[p67 Q,iR]at b
 rcases L with rfl | ⟨e,rfl,Z⟩
 .let⟨W,U,T,S⟩:=mb h.s.w (jQ f.s.now o.path).1;have O:=Re.j6 h.s.w (jQ f.s.now o.path).1;generalize iq f.s.now (jQ f.s.now o.path).1=q at *
  let⟨l,nx,e,hl,A,z,G,F⟩:=ahH (n:=173) af f.s.now h.s.w q.ino o.n o.m
  let⟨K,⟨P,y⟩,X⟩:=abC (n:=173) af l aa
  simp only[Tv,Nd]at A i
  by_cases E:e=0
  .subst E;have v:=uB (n:=173) af
   simp(disch:=omega)[c67,i,A,v,ca 123,X]at b;exact⟨_,_,b.symm,uF (f:=f) (a:=⟨0,0,0,nx,0,K,[]⟩) h.up ⟨by simp only;omega,ah,λs hs=>by obtain⟨x,hx,rfl⟩:=y s hs;exact z x hx,by dsimp only;omega⟩ _⟩
  .have v:=qO (n:=173) af E
   simp(disch:=omega)[c67,i,A,v]at b;exact⟨_,_,b.symm,iK aa _⟩
 .simp(disch:=omega)[c67,i]at b;exact⟨_,_,b.symm,iK aa _⟩
def Mn(es:List (Int×AV)):Prop:=∀p∈es,∃q:Tr.Node,p=(q.ino,Nd q)/\q.ek.length<=64/\q.data.length<=4096/\DT q
variable{es all:List (Int×AV)}
def Mn.look(h:Mn es)(n:Int):∃q:Tr.Node,jO es n (Nd jb)=Nd q/\q.ek.length<=64/\q.data.length<=4096/\DT q/\(qZ es n=true->q.ino=n/\(n,Nd q)∈es):=by
 unfold jO qZ;cases l:es.find? λp=>decide (p.1=n)with
 |none=>exact⟨jb,rfl,by simp[jb],by simp[jb],⟨af,af,af,by simp[jb]⟩,ah⟩
 |some p =>
  have i:=bN l;obtain⟨q,rfl,h1,h2,h3⟩:=h p i;have b:=cW l;simp only[decide_eq_true_eq]at b;exact⟨q,rfl,h1,h2,h3,λ_=>⟨b,by rw[<-b];exact i⟩⟩
def Mn.put{q:Tr.Node}(i:q.ek.length<=64/\q.data.length<=4096/\DT q):∀ {es:List (Int×AV)},Mn es->Mn (lF es q.ino (Nd q))/\(lF es q.ino (Nd q)).length<=es.length+1
 | [],_=>⟨λp l=>by
  rw[bS.1 l];exact⟨q,rfl,i⟩,aT _⟩
 |p::es,h=>by
  unfold lF;split
  .refine⟨λr b=>?_,ah⟩
   rcases aY.1 b with rfl | b
   .exact⟨q,rfl,i⟩
   .exact h r (by simp[b])
  .let⟨h1,h2⟩:=Mn.put i (λr b=>h r (by simp[b]):Mn es)
   refine⟨λr b=>?_,by simp only[aK];omega⟩
   rcases aY.1 b with rfl | b
   .exact h r ah
   .exact h1 r b
def Mn.jE(h:Mn es):(es.all λp=>p.2.jE)=true:=by
 rw[aJ];intro p b;obtain⟨q,rfl,_⟩:=h p b;rfl
def My{l:ax}{x:Int}(h:x∉l):lF (l.map λy=>(y,AV.agg [])) x (.agg [])=(l++[x]).map λy=>(y,AV.agg []):=by
 induction l with
 |nil=>rfl
 |cons a l b =>
  simp only[aY,not_or]at h;simp only[bF,lF];rw[if_neg (λe=>h.1 e.symm),b h.2]
  rfl
def NB(l:ax)(x:Int):qZ (l.map λy=>(y,AV.agg [])) x=l.contains x:=by
 induction l with
 |nil=>rfl
 |cons a l b =>
  unfold qZ at b⊢;simp only[bF,fD,ew]
  by_cases h:a=x
  .simp[h]
  .have h':¬x=a:=λe=>h e.symm
   simp only[h,decide_false];rw[b];simp[h']
def Kf(l:ax)(x:Int):jO (l.map λy=>(y,AV.agg [])) x (.agg []) = .agg []:=by
 unfold jO;rw[List.find?_map];cases List.find? _ l<;>rfl
def Li(all:List (Int×AV))(met:ax):Nat:=(all.filter λp=>!met.contains p.1).length
def GF(all:List (Int×AV)){m m':ax}(h:∀x∈m,x∈m'):Li all m'<=Li all m:=by
 induction all with
 |nil=>simp[Li]
 |cons p all b =>
  unfold Li at b⊢;simp only[bX]
  by_cases h1:p.1∈m
  .have h2:=h _ h1;simp[h1,h2]at b⊢;exact b
  .by_cases h2:p.1∈m'
   .simp[h1,h2]at b⊢;omega
   .simp[h1,h2]at b⊢;exact b
def Lz{met:ax}{i:Int}(n:i∉met){v:AV}(h:(i,v)∈all):Li all (met++[i])<Li all met:=by
 induction all with
 |nil=>cases h
 |cons p all l =>
  have b:=GF all (m:=met) (m':=met++[i]) (λx hx=>by simp[hx])
  unfold Li at l b⊢;simp only[bX]
  rcases aY.1 h with rfl | h
  .simp[n];simp at b;omega
  .have:=l h
   by_cases h1:p.1∈met
   .simp[h1]at this⊢;exact this
   .by_cases h2:p.1=i
    .simp[h2,n]at this b⊢;omega
    .simp[h1,h2]at this⊢;omega
structure Vi(all:List (Int×AV))(met:ax)(out:List Tr.Node)(H:AH):Prop where
 len:6<=H.length
 h0:H[0]? = some (.mp .i64 all)
 h1:H[1]? = some (.var [.kZ 0])
 h2:H[2]? = some (.mp .i64 (met.map λi=>(i,.agg [])))
 h3:H[3]? = some (.var [.kZ 2])
 h5:H[5]? = some (.var [.fn (.func 320) [] [.ptr 3 0 0 0,.ptr 1 0 0 0,.ptr 4 0 0 0,.ptr 5 0 0 0]])
 h4:(out=[]/\H[4]? = some (.var [.en true []]))\/∃k v,6<=k/\H[k]? = some (.row v 6 (out.map Nd))/\H[4]? = some (.var [.own k v 0 out.length])
 nd:(out.map Tr.Node.ino).Nodup
 sub:∀q∈out,q.ino∈met
 sm:∀q∈out,q.ek.length<=64/\q.data.length<=4096/\DT q
 ln:out.length+Li all met<=all.length
def Vi.app{met:ax}{out:List Tr.Node}{H:AH}(h:Vi all met out H)(Y:AH):Vi all met out (H++Y):=by
 have hl:=h.len
 have g:∀ {j:Nat} {A:AB},H[j]? = some A->(H++Y)[j]? = some A:=λ{j A} b=>by
  rw[aI (az.1 b).1];exact b
 exact⟨aj,g h.h0,g h.h1,g h.h2,g h.h3,g h.h5,h.h4.imp (λh=>⟨h.1,g h.2⟩) λ⟨k,v,h1,h2,h3⟩=>⟨k,v,h1,g h2,g h3⟩,h.nd,h.sub,h.sm,h.ln⟩
def Vi.meet{all:List (Int×AV)}{met:ax}{out:List Tr.Node}{H:AH}(h:Vi all met out H)(i:Int):Vi all (met++[i]) out (H.set 2 (AB.mp .i64 (met.map (λi=>(i,AV.agg []))++[(i,AV.agg [])]))):=by
 have hl:=h.len;have g:∀ {j:Nat} {A:AB} (B:AB),j≠2->H[j]? = some A->(H.set 2 B)[j]? = some A:=λ{j A} B l n=>by rw[aL (λe=>l e.symm)];exact n
 refine⟨ak hl,g _ af h.h0,g _ af h.h1,by rw[bh aa];simp,g _ af h.h3,g _ af h.h5,h.h4.imp (λh=>⟨h.1,g _ af h.2⟩) λ⟨k,v,h1,h2,h3⟩=>⟨k,v,h1,g _ aa h2,g _ af h3⟩,h.nd,λq b=>by simp[h.sub q b],h.sm,?_⟩
 have:=h.ln;have:=GF all (m:=met) (m':=met++[i]) (λx hx=>by simp[hx])
 omega
def Vi.next{all:List (Int×AV)}{met:ax}{out:List Tr.Node}{H:AH}(h:Vi all met out H){i:Int}(x:i∉met){q:Tr.Node}(o:q.ino=i)(z:(i,Nd q)∈all)(hs:q.ek.length<=64/\q.data.length<=4096/\DT q){n:AH}(hl:6<=n.length)
  (h0:n[0]? = some (.mp .i64 all)) (h1:n[1]? = some (.var [.kZ 0])) (h2:n[2]? = some (.mp .i64 (met.map (λi=>(i,AV.agg []))++[(i,AV.agg [])]))) (h3:n[3]? = some (.var [.kZ 2]))
  (h5:n[5]? = some (.var [.fn (.func 320) [] [.ptr 3 0 0 0,.ptr 1 0 0 0,.ptr 4 0 0 0,.ptr 5 0 0 0]])) (k v:Nat) (hk:6<=k) (l:n[k]? = some (.row v 6 ((out++[q]).map Nd))) (h4:n[4]? = some (.var [.own k v 0 (out.length+1)])):Vi all (met++[i]) (out++[q]) n:=by
 have A:=Lz x z;have E:=h.ln;refine⟨hl,h0,h1,by rw[h2];simp,h3,h5,.inr ⟨k,v,hk,l,by rw[h4];simp⟩,?_,λr l=>?_,λr l=>?_,aj⟩
 .rw[dS,fT];refine⟨h.nd,ah,λa F b y=>?_⟩
  obtain⟨r,l,rfl⟩:=b7.1 F;simp only[bF,aX,bS]at y;intro e;apply x;rw[<-o,<-y,<-e];exact h.sub r l
 .rcases aZ.1 l with l | l
  .simp[h.sub r l]
  .rw[bS.1 l,o];simp
 .rcases aZ.1 l with l | l
  .exact h.sm r l
  .rw[bS.1 l];exact hs
abbrev Iq(i:Int):List AV:=[I i,.ptr 3 0 0 0,.ptr 1 0 0 0,.ptr 4 0 0 0,.ptr 5 0 0 0]
def aiV{Γ:ja}{all:List (Int×AV)}{d:Nat}(O:∀(met:ax)(out:List Tr.Node)(H:AH)(j:Int),Vi all met out H->Li all met<d->∃b l n r,rF Γ 320 (Iq j) H=some (.bool b,r)/\Vi all l n r/\∀x∈met,x∈l)
  (q:Tr.Node) (T:q.ek.length<=64) (met:ax) (out:List Tr.Node) (H:AH) (V:Vi all met out H) (Q:Li all met<d) (L:Nat) (e0:Env) (h4:e0 4 = .ptr 5 0 0 0) (z:e0 37 = .en false (q.ek.map En)) (v:e0 38=I (q.ek.length:Int)) :
  ∃y,(∃b l n r,Vi all l n r/\(∀x∈met,x∈l)/\y=(AX.exit 0,[AV.bool b],r))/\iter (jY Γ [11,39] [(.exit 0,[11])] wQ e0 L) ([.bool true,I 0],H)=some y :=
 ji (f:=jY Γ [11,39] [(.exit 0,[11])] wQ e0 L) q.ek.length (λi (x:Bool×ax×List Tr.Node×AH)=>([.bool x.1,I (i:Int)],x.2.2.2)) (λy=>∃b l n r,Vi all l n r/\(∀x∈met,x∈l)/\y=(AX.exit 0,[AV.bool b],r))
  (λ_ x=>Vi all x.2.1 x.2.2.1 x.2.2.2/\∀y∈met,y∈x.2.1)
  (λi x U A=>by
   let⟨b,m,o,H⟩:=x;let⟨V,F⟩:=A;simp only at V F;obtain⟨e,G⟩:∃e,e=q.ek[i]:=⟨_,rfl⟩;let⟨N,m',o',r,K,S,E⟩:=O m o (H++[.var [.str e.name,I e.ino,I e.gr]]) e.ino (V.app _) (fM (GF all F) Q);have hl:=V.len;have M:=jC V.h5 aa
   refine .inl ⟨(N&&b,m',o',r),⟨S,λy P=>E y (F y P)⟩,?_⟩
   cases N
   .simp(disch:=omega)[ia,wQ,h4,z,v,<-G,M,K,agp]
   .simp(disch:=omega)[ia,wQ,h4,z,v,<-G,M,K,agp])
  (λx A=>⟨_,⟨x.1,x.2.1,x.2.2.1,x.2.2.2,A.1,A.2,rfl⟩,by simp(disch:=omega)[ia,wQ,v]⟩) (bp _) (true,met,out,H) ⟨V,λ_ h=>h⟩
def visit{Γ:ja}{all:List (Int×AV)}(G:Mn all)(hal:all.length<=1000000):∀(d:Nat)(met:ax)(out:List Tr.Node)(H:AH)(i:Int),Vi all met out H->Li all met<d->
  ∃b n r S,rF (kT Γ 320 AW d) 320 (Iq i) H=some (.bool b,S)/\Vi all n r S/\∀x∈met,x∈n
 |0,_,_,_,_,_,h=>aa
 |d+1,met,out,H,i,V,hu=>by
  generalize l:rF (kT Γ 320 AW (d+1)) 320 (Iq i) H=res;rw[oz,b6]at l;obtain⟨Γ',T⟩:∃Γ',Γ'=kT Γ 320 AW d:=⟨_,rfl⟩;rw[<-T]at l;have hl:=V.len;have g0:=jC V.h0 aa
  have g1:=jC V.h1 aa
  have g2:=jC V.h2 aa
  have g3:=jC V.h3 aa
  have g5:=jC V.h5 aa
  have P:=NB met i;have E:=Kf met i;let⟨q,hQ,M,X,U,hqh⟩:=G.look i;simp only[Nd,jb,aX]at hQ
  by_cases Q:i∈met
  .have O:met.contains i=true:=by simpa using Q
   rw[O]at P;simp(disch:=omega)[AW,g2,g3,P,E]at l;exact⟨true,met,out,_,l.symm,V.app _,λ_ h=>h⟩
  have O:met.contains i=false:=by simpa using Q
  rw[O]at P;have z:=My Q;cases hh:qZ all i with
  |false =>
   simp(disch:=omega)[AW,g0,g1,g2,g3,P,E,z,hQ,hh,wD,mB,oF,agp]at l;exact⟨false,met++[i],out,_,l.symm,(V.meet i).app _,λx h=>by simp[h]⟩
  |true =>
   let⟨W,K⟩:=hqh hh;have hln:=V.ln;have hlt:=Lz Q K;have hl0:0<H.length:=aa
   have hl1:1<H.length:=aa
   have F:2<H.length:=aa
   have hl3:3<H.length:=aa
   have hl4:4<H.length:=aa
   have hl5:5<H.length:=aa
   have key:=λ(H1:AH)(Z:Vi all (met++[i]) (out++[q]) H1)(L:Nat)(e0:Env)(h4:e0 4 = .ptr 5 0 0 0)(h37:e0 37 = .en false (q.ek.map En))(h38:e0 38=I (q.ek.length:Int)) =>
    aiV (Γ:=Γ') (d:=d) (λm o H j V h=>by rw[T];exact visit G hal d m o H j V h) q M (met++[i]) (out++[q]) H1 Z aa L e0 h4 h37 h38
   rcases V.h4 with⟨rfl,h4⟩ | ⟨k,v,hk6,Y,h4⟩
   .have g4:=jC h4 aa
    simp(disch:=omega)[AW,g0,g1,g2,g3,g4,P,E,z,hQ,hh,wD,mB,oF,agp]at l
    have Z:Vi all (met++[i]) ([]++[q]) ((H.set 2 (AB.mp .i64 (met.map (λi=>(i,AV.agg []))++[(i,AV.agg [])]))++[AB.var [],AB.var (Nc q),AB.row 0 6 [Nd q]]).set 4 (AB.var [.own (H.length+2) 0 0 1])):=by
     have g:∀ {j:Nat} {A:AB},j≠2->j≠4->H[j]? = some A->((H.set 2 (AB.mp .i64 (met.map (λi=>(i,AV.agg []))++[(i,AV.agg [])]))++[AB.var [],AB.var (Nc q),AB.row 0 6 [Nd q]]).set 4 (AB.var [.own (H.length+2) 0 0 1]))[j]? = some A:=λ{j A} h2 h4 E=>by
      rw[aL (λe=>h4 e.symm),aI (by simpa using(az.1 E).1),aL (λe=>h2 e.symm)];exact E
     refine V.next Q W K ⟨M,X,U⟩ aj (g af af V.h0) (g af af V.h1) ?_ (g af af V.h3) (g af af V.h5) (H.length+2) 0 aa ?_ ?_
     .rw[aL af,aI (ak F),bh F]
     .rw[aL aa,aQ ah];simp
     .rw[bh aj];simp
    generalize hx:iter _ _=o at l;obtain⟨_,⟨b,n,r,S,V',N,rfl⟩,rfl⟩:∃y,_/\o=some y:=by rw[<-hx];exact key _ Z _ _ an an an
    simp(disch:=omega)at l;exact⟨b,n,r,S,l.symm,V',λx h=>N x (by simp[h])⟩
   .have g4:=jC h4 aa
    have hkl:=(az.1 Y).1;have gk:=jC Y hkl;simp(disch:=omega)[AW,g0,g1,g2,g3,g4,gk,P,E,z,hQ,hh,wD,mB,oF,agp]at l
    have Z:Vi all (met++[i]) (out++[q]) (((H.set 2 (AB.mp .i64 (met.map (λi=>(i,AV.agg []))++[(i,AV.agg [])]))++[AB.var [],AB.var (Nc q)]).set k (AB.row (v+1) 6 (out.map Nd++[Nd q]))).set 4 (AB.var [.own k (v+1) 0 (out.length+1)])):=by
     have g:∀ {j:Nat} {A:AB},j≠2->j≠4->j<6->H[j]? = some A->(((H.set 2 (AB.mp .i64 (met.map (λi=>(i,AV.agg []))++[(i,AV.agg [])]))++[AB.var [],AB.var (Nc q)]).set k (AB.row (v+1) 6 (out.map Nd++[Nd q]))).set 4 (AB.var [.own k (v+1) 0 (out.length+1)]))[j]? = some A:=λ{j A} h2 h4 h6 E=>by
      rw[aL (λe=>h4 e.symm),aL aa,aI (by simpa using(az.1 E).1),aL (λe=>h2 e.symm)];exact E
     refine V.next Q W K ⟨M,X,U⟩ aj (g af af af V.h0) (g af af af V.h1) ?_ (g af af af V.h3) (g af af af V.h5) k (v+1) hk6 ?_ ?_
     .rw[aL af,aL aa,aI (ak F),bh F]
     .rw[aL aa,bh aj];simp
     .rw[bh aj]
    generalize hx:iter _ _=o at l;obtain⟨_,⟨b,n,r,S,V',N,rfl⟩,rfl⟩:∃y,_/\o=some y:=by rw[<-hx];exact key _ Z _ _ an an an
    simp(disch:=omega)at l;exact⟨b,n,r,S,l.symm,V',λx h=>N x (by simp[h])⟩
def Mn.norm{es:List (Int×AV)}(h:Mn es)(L:Nat)(R:au)(H:AH):es.map (λp=>(p.1,jX L R H p.2))=es:=by
 conv=>rhs;rw[<-fu es]
 refine dZ λp b=>?_
 obtain⟨q,rfl,_⟩:=h p b;simp
def VI{s:lM}{k:Nat}(h:A9 k s)(hk:k<=400)(x:uX)(e0:Env)(h3:e0 3 = .iw [I x.id,I x.ino,I x.at_])(G:e0 6 = .ptr 1 0 0 0)(n:e0 17 = .en false (s.lU.map Pv))(b:e0 18=I (s.lU.length:Int)):
  ∃y,(∃all,Mn all/\all.length<=s.lU.length/\y=(AX.exit 0,[],[AB.mp .i64 all,.var [.kZ 0]]))/\iter (round (gV.fk 166) [19] [(.exit 0,[])] uR e0 2 []) ([I 0],[.mp .i64 [],.var [.kZ 0]])=some y :=
 ji (f:=round (gV.fk 166) [19] [(.exit 0,[])] uR e0 2 []) s.lU.length (λi (all:List (Int×AV))=>([I (i:Int)],[AB.mp .i64 all,.var [.kZ 0]])) (λy=>∃all,Mn all/\all.length<=s.lU.length/\y=(AX.exit 0,[],[AB.mp .i64 all,.var [.kZ 0]])) (λi all=>Mn all/\all.length<=i)
  (λi all F l=>by
   have E:=h.pl;have q:=h.pe _ (aU F);obtain⟨p,o⟩:∃p,p=s.lU[i]:=⟨_,rfl⟩;rw[<-o]at q;let⟨z,A⟩:=Mn.put q l.1;have H:=l.1.jE;have v:=l.1.norm 2 [];have r:=z.norm 2 [];simp only[Nd]at z A r;left
   by_cases c:p.from_<=x.at_
   .by_cases d:x.at_<p.till
    .exact⟨_,⟨z,bQ A aa⟩,by simp(disch:=omega)[round_eq,uR,h3,G,n,b,<-o,c,d,r]⟩
    .exact⟨all,⟨l.1,aa⟩,by simp(disch:=omega)[round_eq,uR,h3,n,b,<-o,c,d,v]⟩
   .exact⟨all,⟨l.1,aa⟩,by simp(disch:=omega)[round_eq,uR,h3,n,b,<-o,c,v]⟩)
  (λall l=>⟨_,⟨all,l.1,l.2,rfl⟩,by simp(disch:=omega)[round_eq,uR,b]⟩) (bp _) [] ⟨(λp o=>by cases o),aT _⟩
def VH{s:lM}{k:Nat}(h:A9 k s)(hk:k<=400)(x:uX)(n:Nat)(a0:List (Int×AV))(h0:Mn a0)(P:a0.length<=n)(e0:Env)(h2:e0 2 = .iw (Sc s))(h3:e0 3 = .iw [I x.id,I x.ino,I x.at_])(O:e0 6 = .ptr 1 0 0 0)(v:e0 44 = .en false (s.now.nodes.map Nd))(l:e0 45=I (s.now.nodes.length:Int)):
  ∃y,(∃all,Mn all/\all.length<=n+s.now.nodes.length/\y=(AX.exit 2,[],[AB.mp .i64 all,.var [.kZ 0]]))/\iter (round (gV.fk 166) [46] [(.exit 2,[])] wW e0 2 []) ([I 0],[.mp .i64 a0,.var [.kZ 0]])=some y :=
 ji (f:=round (gV.fk 166) [46] [(.exit 2,[])] wW e0 2 []) s.now.nodes.length (λi (all:List (Int×AV))=>([I (i:Int)],[AB.mp .i64 all,.var [.kZ 0]])) (λy=>∃all,Mn all/\all.length<=n+s.now.nodes.length/\y=(AX.exit 2,[],[AB.mp .i64 all,.var [.kZ 0]])) (λi all=>Mn all/\all.length<=n+i)
  (λi all N b=>by
   have o:=mA h.w (aU N);have K:=h.sn;have L:=h.w.wf.len;have M:i<s.since.length:=aa
   obtain⟨q,A⟩:∃q,q=s.now.nodes[i]:=⟨_,rfl⟩;obtain⟨z,G⟩:∃z,z=s.since[i]:=⟨_,rfl⟩;rw[<-A]at o;let⟨F,H⟩:=Mn.put o b.1;have Q:=b.1.jE;have E:=b.1.norm 2 [];have r:=F.norm 2 [];simp only[Nd]at F H r;left
   by_cases c:z<=x.at_
   .exact⟨_,⟨F,bQ H aa⟩,by simp(disch:=omega)[round_eq,wW,h2,h3,O,v,l,<-A,<-G,c,r]⟩
   .exact⟨all,⟨b.1,aa⟩,by simp(disch:=omega)[round_eq,wW,h2,h3,v,l,<-A,<-G,c,E]⟩)
  (λall b=>⟨_,⟨all,b.1,b.2,rfl⟩,by simp(disch:=omega)[round_eq,wW,l]⟩) (bp _) a0 ⟨h0,aa⟩
def GP{l:List Tr.Node}(y:(l.map Tr.Node.ino).Nodup)(hl:l.length<=1000000):
  ∃h:List Tr.Node,(∀q∈h,q∈l)/\h.length=l.length/\∀(H:AH) b v,H[b]? = some (.row v 6 (l.map Nd))->qb 0 6 [322] [.own b v 0 l.length,.fn (.func 322) [] []] H=some (.iV [],H.set b (.row v 6 (h.map Nd))):=by
 have o:=kO 0 (l.map Nd)
 let⟨h,h1,h2⟩:=nV Nd (λq=>q∈l) (pE 0 (l.map Nd)) λx hx=>by
  obtain⟨e,r,rfl⟩:=b7.1 (o.mem_iff.1 hx);exact⟨e,rfl,r⟩
 refine⟨h,h2,?_,λH b v z=>?_⟩
 .have:=o.length_eq;rw[h1,cw,cw]at this;exact this
 have i:(l.map Nd).take l.length=l.map Nd:=bf ah
 have n:(l.map Nd).drop l.length=[]:=dO ah
 unfold qb;simp only[z];rw[if_pos ?_,i,n,h1,b9];refine⟨trivial,trivial,ah,trivial,aa,af,?_,?_⟩
 .rw[i,gj];exact aJ.2 λx _=>rfl
 .rw[i,eL];exact y
def ahl{n:Nat}(S:166<n){s:lM}{k:Nat}(h:A9 k s)(hk:k<=400)(x:uX):∃f l b,(gV.fk n).p 238 [Sv s,Xv x]=some (.iV [.en f (l.map Nd),.bool b])/\Nsm 100000 l:=by
 generalize i:(gV.fk n).p 238 _=res;rw[pp 238 rfl S rfl,gd,b6]at i;have P:=h.pl;have Q:=h.w.wf.len;simp(disch:=omega)[afn]at i;generalize hx:iter _ _=o at i;obtain⟨_,⟨a1,A,N,rfl⟩,rfl⟩:∃y,_/\o=some y:=by rw[<-hx];exact VI h hk x _ an an an an
 simp(disch:=omega)[A.norm 2 []]at i;generalize hx:iter _ _=o at i;obtain⟨_,⟨all,Z,hL,rfl⟩,rfl⟩:∃y,_/\o=some y:=by rw[<-hx];exact VH h hk x _ a1 A N _ an an an an an
 have H:Li all []<=all.length:=bG _ _
 have V0:Vi all [] [] [.mp .i64 all,.var [.kZ 0],.mp .i64 [],.var [.kZ 2],.var [.en true []],.var [.fn (.func 320) [] [.ptr 3 0 0 0,.ptr 1 0 0 0,.ptr 4 0 0 0,.ptr 5 0 0 0]]] :=
  ⟨ah,rfl,rfl,rfl,rfl,rfl,.inl ⟨rfl,rfl⟩,ah,ah,ah,by have:=H;simp only[aR];omega⟩
 obtain⟨b,met,out,E,F,V,-⟩:=visit (Γ:=gV.fk 50) Z aa 1000001 [] [] _ x.ino V0 aa
 rw[oz,<-aib (n:=166) af]at F
 simp only[Iq]at F;have T:=V.ln;have ho:out.length<=100000:=aa
 rcases V.h4 with⟨rfl,h4⟩ | ⟨k,v,X,z,h4⟩
 .have g4:=jC h4 (by have:=V.len;omega)
  have L:4<E.length:=by have:=V.len;omega
  have r:=aci (n:=166) af [.en true [],.fn (.func 322) [] []] E
  simp(disch:=omega)[qb]at r;simp(disch:=omega)[sZ,F,g4,r]at i;exact⟨true,[],b,i.symm,⟨ah,ah⟩⟩
 .have g4:=jC h4 (by have:=V.len;omega)
  have L:4<E.length:=by have:=V.len;omega
  let⟨G,M,U,r⟩:=GP V.nd aa
  have r:=(aci (n:=166) af _ E).trans (r E _ _ z)
  have W:=(az.1 z).1;have Y:¬k=4:=aa
  have K:(G.map Nd).take out.length=G.map Nd:=bf aj
  simp(disch:=omega)[sZ,F,g4,r,K]at i;exact⟨false,G,b,i.symm,⟨aa,λq O=>V.sm q (M q O)⟩⟩
def VL{s:lM}{k:Nat}(h:A9 k s)(hk:k<=400)(i:Int)(e0:Env)(h1:e0 1=I i)(h2:e0 2 = .iw (Sc s))(q:e0 12 = .en false (s.taken.map Xv))(o:e0 13=I (s.taken.length:Int)):
  ∃y,(y=(AX.exit 0,[],[])\/∃(a:Int) (f:Bool) (l:List Tr.Node) (H:AH),Nsm 100000 l/\y=(AX.ret,[I a,.en f (l.map Nd),I 0],H))/\iter (round (gV.fk 167) [14] [(.exit 0,[]),(.ret,[4,5,6])] xb e0 0 []) ([I 0],[])=some y :=
 ji (f:=round (gV.fk 167) [14] [(.exit 0,[]),(.ret,[4,5,6])] xb e0 0 []) s.taken.length (λi (_:Unit)=>([I (i:Int)],[])) (λy=>y=(AX.exit 0,[],[])\/∃(a:Int) (f:Bool) (l:List Tr.Node) (H:AH),Nsm 100000 l/\y=(AX.ret,[I a,.en f (l.map Nd),I 0],H)) (λ_ _=>True)
  (λj _ z _=>by
   have v:=h.tl;obtain⟨x,hx⟩:∃x,x=s.taken[j]:=⟨_,rfl⟩;let⟨f,l,b,r,hl⟩:=ahl (n:=167) af h hk x
   simp only[Sv,Sc,Xv]at r
   by_cases c:x.id=i
   .subst c;exact .inr ⟨_,.inr ⟨x.ino,f,l,_,hl,rfl⟩,by simp(disch:=omega)[round_eq,xb,h1,h2,q,o,<-hx,ca 238,r];rfl⟩
   .exact .inl ⟨(),trivial,by simp(disch:=omega)[round_eq,xb,h1,q,o,<-hx,c]⟩)
  (λ_ _=>⟨_,.inl rfl,by simp(disch:=omega)[round_eq,xb,o]⟩) (bp _) () trivial
def ahD{n:Nat}(q:167<n){s:lM}{k:Nat}(h:A9 k s)(hk:k<=400)(i:Int):∃a f l e,(gV.fk n).p 133 [Sv s,I i]=some (.iV [I a,.en f (l.map Nd),I e])/\Nsm 100000 l/\0<=e/\e<=200:=by
 generalize b:(gV.fk n).p 133 _=res;rw[pp 133 rfl q rfl,gd,b6]at b;simp(disch:=omega)[afB]at b;generalize hx:iter _ _=o at b;obtain⟨_,rfl | ⟨a,f,l,H,hl,rfl⟩,rfl⟩:∃y,_/\o=some y:=by rw[<-hx];exact VL h hk i _ an an an an
 .simp(disch:=omega)at b;exact⟨0,false,[],100,b.symm,⟨ah,ah⟩,aa⟩
 .simp(disch:=omega)at b;exact⟨a,f,l,0,b.symm,hl,aa⟩
def Mn.Ko{es:List (Int×AV)}(h:Mn es):(es.all λp=>p.2.Ko)=true:=aJ.2 λp b=>Wd (aJ.1 h.jE p b)
def ahB{n:Nat}(b:23<n)(x:Tr.Ent)(p:aq)(X:AH)(k:Nat)(hk:X[k]? = some (.var [.str p])):rF (gV.fk n) 136 [En x,.ptr k 0 0 0] X=some (.bool (decide (x.name=p)),X):=by
 rw[ph 136 rfl b rfl,b6];simp(disch:=omega)[afz,hk]
def ahC{n:Nat}(b:168<n){l:List Tr.Ent}(hl:l.length<=1000000)(p:aq){X:AH}(h:tT X)(k:Nat)(hk:X[k]? = some (.var [.str p])):
  ∃Z,Z.all gX=true/\rF (gV.fk n) 135 [.en false (l.map En),.fn (.func 136) [] [.ptr k 0 0 0]] X=some (I (DR l λe=>decide (e.name=p)),X++Z):=by
 rw[aco b];exact ixG (cs:=λe:Tr.Ent=>[.str e.name,I e.ino,I e.gr]) (λ_=>rfl) aa h (CN X (cs:=λe:Tr.Ent=>[.str e.name,I e.ino,I e.gr]) (λ_=>rfl) l false) 136 [] [.ptr k 0 0 0] _ λx _=>⟨[],rfl,by rw[b9];exact ahB af x p X k hk⟩
def ada{X:AH}(A:X.all gX=true){l:List Tr.Node}(hl:Nsm 100000 l)(f:Bool)(e0:Env)(K:e0 6 = .kZ X.length)(x:e0 42 = .en f (l.map Nd))(o:e0 43=I (l.length:Int)):
  ∃y,(∃all,Mn all/\y=(AX.exit 0,[],X++[AB.mp .i64 all]))/\iter (round (gV.fk 169) [44] [(.exit 0,[])] FV e0 (X.length+1) []) ([I 0],X++[.mp .i64 []])=some y :=
 ji (f:=round (gV.fk 169) [44] [(.exit 0,[])] FV e0 (X.length+1) []) l.length (λi (all:List (Int×AV))=>([I (i:Int)],X++[AB.mp .i64 all])) (λy=>∃all,Mn all/\y=(AX.exit 0,[],X++[AB.mp .i64 all])) (λ_ all=>Mn all)
  (λi all H n=>by
   have G:=hl.len;have h:=hl.sm _ (aU H);obtain⟨q,z⟩:∃q,q=l[i]:=⟨_,rfl⟩;rw[<-z]at h;let⟨v,M⟩:=Mn.put h n;have N:=n.jE;have r:=v.norm (X.length+1) [];have E:=λh0 Y=>(kS A).tail (L:=X.length+1) (R:=[]) aa ah h0 Y
   have b:=jq X;simp only[Nd]at v r;exact .inl ⟨_,v,by simp(disch:=omega)[round_eq,FV,K,x,o,<-z,r,E,b]⟩)
  (λall n=>⟨_,⟨all,n,rfl⟩,by
   have E:=λh0 Y=>(kS A).tail (L:=X.length+1) (R:=[]) aa ah h0 Y
   have b:=jq X;have r:=n.norm (X.length+1) [];simp(disch:=omega)[round_eq,FV,o]⟩) (bp _) [] (λp F=>by cases F)
def ac9{X:AH}(O:X.all gX=true){all:List (Int×AV)}(z:Mn all){q:Tr.Node}(A:q.ek.length<=64/\q.data.length<=4096/\DT q){ps:List aq}(hps:ps.length<=100000)(f:Bool)(e0:Env)(h6:e0 6 = .kZ X.length)(P:e0 9 = .ptr (X.length+1) 0 0 0)(h:e0 56 = .en f (ps.map AV.str))(b:e0 57=I (ps.length:Int)):
  ∃y,((∃q:Tr.Node,(q.ek.length<=64/\q.data.length<=4096/\DT q)/\y=(AX.exit 2,[],X++[AB.mp .i64 all,.var (Nc q)]))\/∃e S,Er e/\y=(AX.mD (41,.i64,e),[],X++S))/\iter (round (gV.fk 169) [58] [(.exit 2,[])] Ae e0 (X.length+2) []) ([I 0],X++[.mp .i64 all,.var (Nc q)])=some y :=
 ji (f:=round (gV.fk 169) [58] [(.exit 2,[])] Ae e0 (X.length+2) []) ps.length (λi (q:Tr.Node)=>([I (i:Int)],X++[AB.mp .i64 all,.var (Nc q)])) (λy=>(∃q:Tr.Node,(q.ek.length<=64/\q.data.length<=4096/\DT q)/\y=(AX.exit 2,[],X++[AB.mp .i64 all,.var (Nc q)]))\/∃e S,Er e/\y=(AX.mD (41,.i64,e),[],X++S)) (λ_ q=>q.ek.length<=64/\q.data.length<=4096/\DT q)
  (λi q hi A=>by
   obtain⟨p,K⟩:∃p,p=ps[i]:=⟨_,rfl⟩;have hE:=z.jE;have U:=z.norm (X.length+2) [];have T:=λh0 Y=>(kS O).tail (L:=X.length+2) (R:=[]) aa ah h0 Y
   have o:=jq X;have v:=CK (n:=169) af 73
   have N:=CL (n:=169) af (e:=73) af
   have E:=CK (n:=169) af 70
   have M:=CL (n:=169) af (e:=70) af
   by_cases Q:q.kind=2
   case neg=>exact .inr ⟨_,.inr ⟨73,_,aa,rfl⟩,by simp(disch:=omega)[round_eq,Ae,P,h,b,<-K,Q,N];rfl⟩
   let⟨Z,hZ,W⟩:=ahC (n:=169) af (l:=q.ek) aa p (X:=X++[.mp .i64 all,.var (Nc q),.var [.str p]]) (kS (by rw[cg,O];simp only[cm,gT,gX,z.Ko];simp[AV.jD])) (X.length+2) (by rw[aQ aa];simp)
   let⟨i1,i2,i3⟩:=C9 q.ek λe=>decide (e.name=p)
   generalize DR q.ek (λe=>decide (e.name=p))=j at *
   by_cases c2:0<=j
   case neg=>exact .inr ⟨_,.inr ⟨70,_,aa,rfl⟩,by simp(disch:=omega)[round_eq,Ae,P,h,b,<-K,Q,c2,v,M,W];rfl⟩
   obtain⟨k,rfl⟩:∃k:Nat,j=(k:Int):=⟨j.toNat,aa⟩
   have hkl:k<q.ek.length:=aa
   obtain⟨e,he⟩:∃e,e=q.ek[k]:=⟨_,rfl⟩;obtain⟨r,x,H,G,F,-⟩:=z.look e.ino;simp only[Nd,jb,aX]at x;exact .inl ⟨r,⟨H,G,F⟩,by simp(disch:=omega)[round_eq,Ae,h6,P,h,b,<-K,Q,c2,v,E,W,<-he,x,U,T,o]⟩)
  (λq A=>⟨_,.inl ⟨q,A,rfl⟩,by
   have T:=λh0 Y=>(kS O).tail (L:=X.length+2) (R:=[]) aa ah h0 Y
   have o:=jq X;have U:=z.norm (X.length+2) [];simp(disch:=omega)[round_eq,Ae,b]⟩) (bp _) q A
def yh{B:AB}(h:gX B=true)(L:Nat)(h0:AH)(i:Nat):mc L [] h0 i B=B:=by
 have:=iY L h0 [B] i (by simp[h])
 simpa[iQ]using this
set_option maxHeartbeats 1000000 in
def s76:pV 76 169:=λ{n} hn {k f o} Z hk Y B0 B1 B2 B3 X W p2 i=>by
 have hor:=Y.r;generalize b:(gV.fk n).x 76 _ _=res;rw[p76 hn,iR]at b;let⟨a,fl,l,e,K,hl,akI⟩:=ahD (n:=169) af Z.s aa o.n
 have hll:=hl.len;have h:=UC (n:=169) af o.path
 have hX:(oB B0 B1 B2 B3 f o Az []).all gX=true:=by
  simp only[oB,cm,X,W,p2,i];simp[gX,AV.jD]
 simp only[Sv,Sc]at K
 by_cases he:e=0
 case neg =>
  have M:=qO (n:=169) af he
  simp(disch:=omega)[c76,K,M]at b;exact⟨_,_,b.symm,iK aa _⟩
 subst he;have v:=uB (n:=169) af
 unfold spV at h;cases Q:Nm.split o.path with
 |none =>
  have M:=qO (n:=169) af (e:=60) af
  simp only[Q]at h;simp(disch:=omega)[c76,K,v,ca 134,h,M]at b;exact⟨_,_,b.symm,iK aa _⟩
 |some ps =>
  simp only[Q]at h;have hpl:=Ec Q;have hop:=Y.p;have H:=yh X;have G:=yh W;have F:=yh p2;have E:=yh i;simp(disch:=omega)[c76,K,v,ca 134,h,H,G,F,E]at b;have U:=λe0=>ada hX hl fl e0
  simp only[oB,Wc,Fc,Sc,Oc,Ac,aM,aN,aK,aR,b8,Nat.reduceAdd,aX]at U;generalize hx:iter _ _=L at b;obtain⟨_,⟨all,T,rfl⟩,rfl⟩:∃y,_/\L=some y:=by rw[<-hx];exact U _ an an an
  obtain⟨q,A,P,O,N,-⟩:=T.look a;simp only[Nd,jb,aX]at A;simp(disch:=omega)[A,H,G,F,E,T.norm 7 []]at b;have L2:=λe0=>ac9 hX T (q:=q) ⟨P,O,N⟩ (ps:=ps) aa (decide (o.path=[47])) e0
  simp only[oB,Wc,Fc,Sc,Oc,Ac,aM,aN,aK,aR,b8,Nat.reduceAdd,aX]at L2;clear hx U h;generalize hx:iter _ _=L at b;obtain⟨_,⟨r,⟨hr1,z⟩,rfl⟩ | ⟨e,Z',hEr,rfl⟩,rfl⟩:∃y,_/\L=some y:=by rw[<-hx];exact L2 _ an an an an
  .have hT:=abB (n:=169) af r
   let⟨ns,⟨Wl,S⟩,hN⟩:=abC (n:=169) af r.ek aa
   simp only[Nd]at hT;simp(disch:=omega)[hT,hN]at b;exact⟨_,_,b.symm,CP (f:=f) (a:=⟨0,r.ino,r.kind,r.links,max (r.data.length:Int) (r.ek.length:Int),ns,r.data⟩) Z.up ⟨by simp only;omega,by simp only;omega,λs hs=>by obtain⟨x,hx,rfl⟩:=S s hs;exact z.2.2.2.2 x hx,by let⟨_,c1,c2,c3,_⟩:=z;dsimp only;omega⟩ _⟩
  .simp(disch:=omega)at b;exact⟨_,_,b.symm,iK aa _⟩
theorem PT(Γ:ja)(D:DF)(args:List AV):Es Γ D args=@j3 _ _ (D.st args) ⟨eval Γ D.body (λ_=>true) AV (λx s=>match x with
  | .exit _=>none
  | .mD p=>D.fin p s
  |_=>(oa s D.res).bind λv=>(lP s.h v).bind λq=>some q.1)⟩:=rfl
def xk:List (Int×AV):=[(1,.fn (.func 62) [] []),(2,.fn (.func 63) [] []),(3,.fn (.func 64) [] []),(4,.fn (.func 65) [] []),(5,.fn (.func 66) [] []),(6,.fn (.func 67) [] []),(7,.fn (.func 68) [] []),(8,.fn (.func 69) [] []),(9,.fn (.func 70) [] []),(10,.fn (.func 71) [] []),(11,.fn (.func 72) [] []),(12,.fn (.func 73) [] []),(13,.fn (.func 74) [] []),(14,.fn (.func 75) [] []),(15,.fn (.func 76) [] []),(16,.fn (.func 77) [] []),(17,.fn (.func 78) [] [])]
def q33(a b c:AB):(gV.fk 175).h 33 [] [a,b,c]=some (.kZ 3,[a,b,c,.mp .i64 xk]):=by
 have:(gV.fk 175).h 33 [] [a,b,c]=jU (gV.fk 174) c33 [] [a,b,c]:=iu.nu rfl rfl af [] _
 rw[this,b6];simp(disch:=omega)[c33,lF,xk]
def Ls{n:Int}(h:n<1\/17<n):qZ xk n=false:=by
 unfold qZ;rw[cv.2]
 .rfl
 .intro p b;simp only[xk,aY,dz,or_false]at b
  rcases b with rfl | rfl | rfl | rfl | rfl | rfl | rfl | rfl | rfl | rfl | rfl | rfl | rfl | rfl | rfl | rfl | rfl<;>simp<;>omega
def pV.mono{K m m':Nat}(h:pV K m)(i:m<=m'):pV K m':=λb=>h aa
def Lr{n:Int}(h1:1<=n)(h2:n<=17):∃K,jO xk n .kU = .fn (.func K) [] []/\qZ xk n=true/\pV K 174:=by
 have b:n=1\/n=2\/n=3\/n=4\/n=5\/n=6\/n=7\/n=8\/n=9\/n=10\/n=11\/n=12\/n=13\/n=14\/n=15\/n=16\/n=17:=aa
 rcases b with rfl | rfl | rfl | rfl | rfl | rfl | rfl | rfl | rfl | rfl | rfl | rfl | rfl | rfl | rfl | rfl | rfl
 .exact⟨62,rfl,rfl,s62.mono af⟩
 .exact⟨63,rfl,rfl,s63.mono af⟩
 .exact⟨64,rfl,rfl,s64.mono af⟩
 .exact⟨65,rfl,rfl,s65.mono af⟩
 .exact⟨66,rfl,rfl,s66.mono af⟩
 .exact⟨67,rfl,rfl,s67.mono af⟩
 .exact⟨68,rfl,rfl,s68.mono af⟩
 .exact⟨69,rfl,rfl,s69.mono af⟩
 .exact⟨70,rfl,rfl,s70.mono af⟩
 .exact⟨71,rfl,rfl,s71.mono af⟩
 .exact⟨72,rfl,rfl,s72.mono af⟩
 .exact⟨73,rfl,rfl,s73.mono af⟩
 .exact⟨74,rfl,rfl,s74.mono af⟩
 .exact⟨75,rfl,rfl,s75.mono af⟩
 .exact⟨76,rfl,rfl,s76.mono af⟩
 .exact⟨77,rfl,rfl,s77.mono af⟩
 .exact⟨78,rfl,rfl,s78.mono af⟩
def s10{n:Nat}(S:175<n){k:Nat}{f:FS}{o:rB}(M:uY k f)(hk:k<=200)(Q:Ook o):∃i l,(gV.fk n).p 10 [Fv f,Ov o]=some (.iV [Fv i,Av l])/\uY (k+1) i/\TG l:=by
 generalize h:(gV.fk n).p 10 _=res;rw[p10 S,PT]at h;have q:=CL (n:=175) af (e:=1) af
 have L:=CK (n:=175) af 1
 have E:∃i l,some (AV.iV [Fv f,Av ⟨1,0,0,0,0,[],[]⟩])=some (.iV [Fv i,Av l])/\uY (k+1) i/\TG l:=⟨_,_,rfl,M.up,uh aa⟩
 by_cases O:1<=o.kind/\o.kind<=17
 case neg =>
  have P:=Ls (n:=o.kind) aa
  simp(disch:=omega)[d12,JO,P3,q33,P,q,zR,GB,Gz]at h;rw[<-h];exact E
 let⟨K,A,z,W⟩:=Lr O.1 O.2
 by_cases c2:0<=o.client
 case neg =>
  simp(disch:=omega)[d12,JO,P3,q33,A,z,c2,q,zR,GB,Gz]at h;rw[<-h];exact E
 by_cases G:o.client<16
 case neg =>
  simp(disch:=omega)[d12,JO,P3,q33,A,z,c2,G,q,zR,GB,Gz]at h;rw[<-h];exact E
 let⟨r,H,N,U⟩:=W (n:=175) af M hk Q (.var (Fc f)) (.var GB) (.var Gz) (.mp .i64 xk) (by simp[gX,AV.jD]) (by simp[gX,AV.jD,GB]) (by simp[gX,AV.jD,Gz]) (by simp[gX,xk,AV.Ko])
 simp only[oB,Wc,Fc,Sc,Oc,Ac,aM,aN,aX,GB,Gz]at N;simp(disch:=omega)[d12,JO,P3,q33,A,z,c2,G,L,zR,GB,Gz,N]at h
 rcases U with⟨rfl,i,l,x,y,Z,dc,Y,rfl,F⟩ | ⟨⟨e,rfl,X⟩,Y,rfl⟩
 .rcases F with⟨rfl,rfl⟩ | ⟨rfl,b,es,rfl,h1,h2,h3⟩ | ⟨rfl,b,v,rfl,h1⟩
  .simp(disch:=omega)[GB,Gz,xu]at h;exact⟨i,l,h.symm,x,y⟩
  .have T:=(az.1 h1).1;have hg:=(az.1 h1).2;simp(disch:=omega)[GB,Gz,xu,hg,h2,h3]at h;exact⟨i,l,h.symm,x,y⟩
  .have T:=(az.1 h1).1;have hg:=(az.1 h1).2;simp(disch:=omega)[GB,Gz,xu,hg]at h;exact⟨i,l,h.symm,x,y⟩
 .simp(disch:=omega)[GB,Gz]at h;exact⟨f,⟨e,0,0,0,0,[],[]⟩,h.symm,M.up,uh aa⟩
end Go.Proofs.YtahlmpbhfljalaaGreatDoor
