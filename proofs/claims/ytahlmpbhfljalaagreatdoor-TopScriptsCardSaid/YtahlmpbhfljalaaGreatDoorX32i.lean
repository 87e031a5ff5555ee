/- Part of the proof that TopScriptsCard holds. -/
import Derived.Test.YtahlmpbhfljalaaGreatDoorV32g
set_option linter.all false
namespace Go.Proofs.YtahlmpbhfljalaaGreatDoor
attribute [local simp] Go.Am.mN Go.Am.sI Go.Am.sJ Go.Am.sK Go.Am.sL Go.Am.sg Go.Am.si Go.Am.sj Go.Am.su Go.Am.sM Go.Am.sN Go.Am.oR Go.Am.oQ Go.Am.oT Go.Am.oS Go.Am.ko Go.Am.jx
open Go.Am Go.Am.Nm Go.Lib
def spV(p:aq):AV:=match Nm.split p with
 |some l=>.iV [.en (decide (p=[47])) (l.map AV.str),.int .i64 0]
 |none=>.iV [.en true [],.int .i64 60]
def UC{n:Nat}(b:68<n)(p:aq):(gV.fk n).p 134 [.str p]=some (spV p):=by
 rw[aiu b];show some (qL iN p)=_;unfold qL spV;rw[L5];cases Nm.split p<;>rfl
def Fits(l:List aq):Prop:=(joinTail [47] l).length<=1000000
def Fits.two{l:List aq}(h:Fits l):l.length<=1000000/\(join l [47]).length<=1000000:=by
 unfold Fits at h;have h1:=joinTail_length [47] l;have h2:([47]:aq).length=1:=rfl;rw[h2,dh]at h1;refine⟨aa,?_⟩
 cases l with
 |nil=>simp[join_nil]
 |cons x r =>
  grind[pR,join_cons,List.length_cons]
def ahe{n:Nat}(i:74<n)(l:List aq)(f:Bool)(h:Fits l):(gV.fk n).p 287 [.en f (l.map AV.str)]=some (.str (jn l)):=by
 rw[pp 287 rfl i rfl,gd,b6];let⟨h1,h2⟩:=h.two
 have b:∀g,(gV.fk 74).p 38 [.en g (l.map AV.str),.str [47]]=some (.str (join l [47])):=λg=>by
  grind[p38,BH]
 cases l with
 |nil=>simp(disch:=omega)[Yf,jn]
 |cons x r =>
  simp only[bF]at b;simp(disch:=omega)[Yf,ca 38,b,jn]
@[simp]def szS(l:List aq):iU 1 (l.map AV.str)=true:=by simp[iU]
@[simp]def ac8(m:List aq)(x:aq):(m.map AV.str++[AV.str x])[m.length]? = some (.str x):=ah
@[simp]def Z5(m:List aq)(x:aq):(m.map AV.str++[AV.str x]).take m.length=m.map AV.str:=by
 grind
theorem Ff{l:List aq}(h:l≠[]):joinTail [47] l=jn l:=by
 unfold jn;rw[if_neg h];cases l with
 |nil=>exact absurd rfl h
 |cons x r=>rw[join_cons,pR]
def NQ:Fits []:=by simp[Fits,joinTail]
def QX{p:aq}{l:List aq}(h:Nm.split p=some l)(b:p.length<=1000000):Fits l:=by
 let⟨h1,_⟩:=yM h
 by_cases h0:l=[]
 .rw[h0];exact NQ
 grind[Fits,Ff]
def Fits.take{l:List aq}(h:Fits l)(k:Nat):Fits (l.take k):=bQ (joinTail_take_le [47] l k) h
def M6(p:aq):Option (aq×aq):=match Nm.split p with
 |some l=>if l=[]then none else some (l.getLast?.getD [],jn l.dropLast)
 |none=>none
def M5(p:aq):AV:=match M6 p with
 |some x=>.iV [.str x.1,.str x.2,.int .i64 0]
 |none=>.iV [.str [],.str [],.int .i64 60]
def ahy{n:Nat}(q:75<n)(p:aq)(o:p.length<=1000000):(gV.fk n).p 188 [.str p]=some (M5 p):=by
 rw[pp 188 rfl q rfl,gd,b6];have b:=UC (n:=75) af p
 unfold M5 M6;unfold spV at b;cases hs:Nm.split p with
 |none =>
  rw[hs]at b;simp(disch:=omega)[RE,ca 134,b]
 |some l =>
  rw[hs]at b;have i:=QX hs o
  rcases List.eq_nil_or_concat l with h0 | ⟨m,x,h0⟩
  .subst h0;simp(disch:=omega)[RE,ca 134,b]
  .have r:Fits m:=by
    have:=i.take m.length
    grind
   have hl:=i.two.1;rw[h0]at hl b⊢;simp only[gw,aG,aK,aR]at hl;have h:=λf=>ahe (n:=75) af m f r
   simp only[gw,dS,bF,aX]at b⊢;have e1:m++[x]≠[]:=ah
   rw[if_neg e1];simp(disch:=omega)[RE,ca 134,b,h]
def Ec{p:aq}{l:List aq}(h:Nm.split p=some l):l.length<=12:=(yM h).2.1
open Go.Am Go.Tr Go.Am.Nm Go.Lib
variable{n:Nat}
def PS(K:67<n)(t:Tr.Tree)(w:nB t)(i:Int)(s:aq):
  (gV.fk n).p 120 [Tv t,I i,.str s]=some (.iV [I (Tr.look mT t i s).1,I (Tr.look mT t i s).2]):=by
 rw[pp 120 rfl K rfl,gd,b6];have hl:=(vV w).len;have B:Bx [.var (Tb t)] 0 t:=⟨rfl,rfl⟩;let⟨Y,b,G⟩:=PR (n:=67) af t w.wf.jh hl i B
 have o:=UB (n:=67) af s
 have A:=G.le;simp only[Tb,aK,aR]at b A;unfold Tr.look
 by_cases c0:jK t i=0
 .let⟨q,H,hk,v⟩:=Js c0;rw[c0,v]at b;rw[v,if_neg (show ¬(jK t i≠0)from λh=>h c0)]
  have r:=(w.wf.dir _ _ H hk).2;have x:q.ek.length<=1000:=by have:=r.len;omega
  have l:=Md (n:=67) af q r.jh x s
  have z:=tP jI r.jh s;unfold jd at l⊢;simp only[Nd]at b l;generalize kX ij q.ek s=c at *
  cases F:mT s with
  |false =>
   rw[F]at o;rw[if_pos rfl];simp(disch:=omega)[Ox,b,ca 206,o]
  |true =>
   rw[F]at o;rw[if_neg (show ¬(true=false) by decide)]
   rcases z with⟨M,L,y⟩ | ⟨y,_⟩
   .obtain⟨e,E⟩:∃e,e=q.ek[c]:=⟨_,rfl⟩;rw[y,<-E]at l⊢;simp(disch:=omega)[Ox,b,ca 206,o,ca 207,l,<-E]
   .rw[y]at l⊢;simp(disch:=omega)[Ox,b,ca 206,o,ca 207,l]
 .rw[if_pos c0];simp only[Nd]at b;generalize jK t i=e at *
  simp(disch:=omega)[Ox,b,c0]
def GU(Q:139<n)(t:Tr.Tree)(w:kI t.nodes)(hl:t.nodes.length<=1000){i:Int}{q:Tr.Node}(E:find t.nodes i=some q)(hs:rA ij q.ek)(A:q.ek.length<=1000){s:aq}{e:Tr.Ent}(K:jd q s=some e)
  {X:AH} {k:Nat} (B:Bx X k t) :
  ∃Y,rF (gV.fk n) 203 [.ptr k 0 0 0,I i,.str s] X=some (.iV [],Y)/\Gw X Y k (left t i s):=by
 rw[ph 203 rfl Q rfl,b6];have y:=CJ (n:=139) af t w hl i B
 rw[iy E,E]at y;have b:=Md (n:=139) af q hs A s
 have N:=U0 (n:=139) af
 have M:=aif (n:=139) af
 have S:=B.lt;unfold left;rw[iy E];have r:=tP jI hs s;have v:=λh H=>KL jI hs (s:=s) h H
 unfold mI at v;rw[K]at b;unfold jd at K;rw[K]at r;generalize kX ij q.ek s=c at *
 rcases r with⟨U,H,O⟩ | ⟨O,_⟩
 .rw[v U H];obtain⟨l,o⟩:∃l:Tr.Node,l={q with fe:=false,ek:=q.ek.take c++q.ek.drop (c+1)}:=⟨_,rfl⟩
  rw[<-o];have L:Bx (X++[.var (Nc q),.var (Nc l),.lu 1 3 (l.ek.map En)]) k t:=B.app rfl;let⟨Y,x,G⟩:=Em (n:=l) (m:=139) af t w hl L
  refine⟨Y,?_,G.bx,bQ ah G.le,λj T F=>?_⟩
  .subst o;have P:=jq X;simp only[Nd,Nc,dS,List.map_take,List.map_drop]at y b x;simp only[eu]at y b;have z:List.take (c+(q.ek.length-(c+1))) (List.take c (List.map En q.ek)++List.drop (c+1) (List.map En q.ek))=List.take c (List.map En q.ek)++List.drop (c+1) (List.map En q.ek):=bf aj
   simp(disch:=omega)[c203,z,y,ca 207,b,N,M,iL,jW,x]
  .rw[G.old j aj F,aI (ak T)]
 .cases O
def ag1(x:115<n)(t:Tr.Tree)(w:kI t.nodes)(hl:t.nodes.length<=1000){i:Int}{q:Tr.Node}(h:find t.nodes i=some q){X:AH}{k:Nat}(B:Bx X k t):
  ∃Y,rF (gV.fk n) 293 [.ptr k 0 0 0,I i] X=some (.iV [],Y)/\Gw X Y k (kN t i):=by
 rw[acj x,b6];have r:=JR (n:=115) af t w hl i X B.pl k B.at_
 have y:=B.lt;have hk:=B.get;have o:=UZ (n:=115) af
 have l:=ach (n:=115) af
 unfold kN;rw[h]at r
 rcases oD w i with⟨E,z,_⟩ | ⟨A,_⟩
 .rw[xL w E z];generalize jf t.nodes i=c at *
  refine⟨X.set k (.var (Tb ⟨false,t.nodes.take c++t.nodes.drop (c+1),t.next,t.gr⟩))++[.lu 1 6 ((t.nodes.take c++t.nodes.drop (c+1)).map Nd)],?_,Gw.of B _ _ rfl⟩;have v:=jq X;have b:List.take (c+(t.nodes.length-(c+1))) (List.take c (List.map Nd t.nodes)++List.drop (c+1) (List.map Nd t.nodes))=List.take c (List.map Nd t.nodes)++List.drop (c+1) (List.map Nd t.nodes):=bf aj
  simp(disch:=omega)[Ry,r,b,hk,o,l,iL,jW,lq,mB,yL,oF,agp];simp[Tb]
 .rw[A]at h;cases h
def Uv(y:140<n)(t:Tr.Tree)(w:kI t.nodes)(hl:t.nodes.length<=1000){i:Int}{q:Tr.Node}(v:find t.nodes i=some q)(A : -4398046511104<=q.links/\q.links<=4398046511104){X:AH}{k:Nat}(B:Bx X k t):
  ∃Y,rF (gV.fk n) 204 [.ptr k 0 0 0,Nd q] X=some (.iV [],Y)/\Gw X Y k (unnamed t i):=by
 rw[ph 204 rfl y rfl,b6];have r:=iI v;have z:=B.lt;have x:Bx (X++[.var (Nc q)]) k t:=B.app rfl;unfold unnamed;rw[iy v]
 by_cases o:q.kind=2
 .rw[if_pos o];let⟨Y,h,G⟩:=ag1 (n:=140) af t w hl v x
  refine⟨Y,?_,(Gw.same B rfl).trans G⟩;subst r;simp only[Nc,o]at h;simp(disch:=omega)[Yo,o,h]
 .rw[if_neg o];have b:Bx (X++[.var (Nc {q with links:=q.links-1})]) k t:=B.app rfl
  let⟨Y,l,G⟩:=Em (n:={q with links:=q.links-1}) (m:=140) af t w hl b
  refine⟨Y,?_,(Gw.same B rfl).trans G⟩;simp only[Nc,Nd]at l;simp(disch:=omega)[Yo,o,l]
def ahJ(hn:141<n)(t:Tr.Tree)(w:nB t)(i:Int)(s:aq):
  (gV.fk n).p 119 [Tv t,I i,.str s]=some (.iV [Tv (Tr.un mT t i s).1,I (Tr.un mT t i s).2.1,I (Tr.un mT t i s).2.2]):=by
 rw[pp 119 rfl hn rfl,gd,b6];have hl:=(vV w).len;have b:=PS (n:=141) af t w i s
 unfold Tr.un
 by_cases c0:(Tr.look mT t i s).2=0
 .rw[if_neg (show ¬((Tr.look mT t i s).2≠0)from λh=>h c0)]
  rw[c0]at b;obtain⟨p,e,r,p2,X,o,q⟩:=yo (x:=(Tr.look mT t i s).1) (by rw[<-c0])
  rw[<-q]at b⊢;obtain⟨he,_⟩:=j4 o;obtain⟨⟨z,K⟩,Z,M⟩:=kW w r he;have B:Bx [.var [.en false [],.int .i64 0,.int .i64 0],.var (Tb t)] 1 t:=⟨rfl,rfl⟩;have l:=CJ (n:=141) af t w.wf.jh hl e.ino B
  rw[iy K,K]at l;rw[iy K]
  by_cases L:0<z.ek.length
  .rw[if_pos L];simp only[Tv,Nd,Nc,Tb,eu]at b l;simp(disch:=omega)[c119,ca 120,b,l,L]
  .rw[if_neg L];have y:=(w.wf.dir _ _ r p2).2;have N:p.ek.length<=1000:=by have:=y.len;omega
   have B1:Bx [.var [.en false [],.int .i64 0,.int .i64 0],.var (Tb t),.var (Nc z),.var (Nc z)] 1 t:=⟨rfl,rfl⟩;obtain⟨Y,H,G⟩:=GU (n:=141) af t w.wf.jh hl r y.jh N o B1
   have U:=w.wf.left jI r p2 o;have v:find (left t i s).nodes e.ino=some z:=by rw[oC w.wf.jh r,if_neg M];exact K
   have P:(left t i s).nodes.length<=1000:=by have:=U.len;omega
   have O : -4398046511104<=z.links/\z.links<=4398046511104:=(Pw w i s).2 z (by rw[<-q];exact v)
   obtain⟨Y2,F,T⟩:=Uv (n:=141) af (left t i s) U.jh P v O G.bx
   have hA0:=jC (G.old 0 ah ah)
   have E:=jC (G.old 3 ah ah)
   have A:=G.le;have S:=jC ((T.old 0 (by simp at A;omega) ah).trans (G.old 0 ah ah))
   have W:=T.le;have Q:=T.bx.get;simp only[aK,aR]at A;generalize unnamed (left t i s) e.ino=u at *
   simp only[Tv,Nd,Nc,Tb,eu]at b l H F E;simp(disch:=omega)[c119,ca 120,b,l,L,H,E,F,S,Q]
 .rw[if_pos c0];generalize(Tr.look mT t i s).2=e at *
  simp only[Tv]at b;simp(disch:=omega)[c119,ca 120,b,c0]
def s22{n:Nat}(b:3<n):(gV.fk n).p 22 []=some (Tv CW):=by
 rw[pp 22 rfl b rfl,gd,b6];simp(disch:=omega)[c22,CW]
def ahm{n:Nat}(z:144<n)(t:Tr.Tree)(hs:kI t.nodes)(hl:t.nodes.length<=1000)(i:Int)(d:aq)(A:d.length<=140737488355328):
  (gV.fk n).p 233 [Tv t,I i,.en false (d.map B)]=some (.iV [Tv (put t i d).1,I (put t i d).2]):=by
 rw[pp 233 rfl z rfl,gd,b6];have B0:Bx [.var [.en false [],.int .i64 0,.int .i64 0],.var (Tb t)] 1 t:=⟨rfl,rfl⟩;have h:=CJ (n:=144) af t hs hl i B0
 have o:=acp (n:=144) af
 unfold put;cases l:find t.nodes i with
 |none =>
  have e:iq t i=jb:=by unfold iq;rw[l];rfl
  rw[e,l]at h;simp only[Tb,Nc,Nd,jb,aX]at h;simp(disch:=omega)[c233,h]
 |some q =>
  rw[iy l,l]at h;simp only[Tb,Nc,Nd]at h
  by_cases x:q.kind=2
  .simp(disch:=omega)[c233,h,x]
  .by_cases c2 : 4096 < d.length
   .simp(disch:=omega)[c233,h,x,c2]
   .have B1:Bx [.var [.en false [],.int .i64 0,.int .i64 0],.var (Tb t),.var (Nc q),.var (Nc {q with fd:=false,data:=d}),.lu 0 1 (d.map B)] 1 t:=⟨rfl,rfl⟩
    let⟨Y,y,G⟩:=Em (m:=144) af t hs hl {q with fd:=false,data:=d} B1
    have b:=G.old 0 ah ah
    have v:=G.bx.get;have r:=G.le;simp only[Tb,Nc,Nd,aS,aK,aR]at y b r;have b:=jC b;simp(disch:=omega)[c233,h,x,c2,o,iL,y,b,v]
def Bx.Ut{X:AH}{k:Nat}{t:Tr.Tree}(h:Bx X k t){j:Nat}(b:j≠k){A:AB}(i:gX A=true):Bx (X.set j A) k t :=
 ⟨IC h.pl j i,by rw[aL b];exact h.at_⟩
def ahK{n:Nat}(hn:136<n)(t:Tr.Tree)(w:nB t)(i to:Int)(s:aq)(hlk:∀q,find t.nodes i=some q->-4398046511104<=q.links/\q.links<=4398046511104):
  (gV.fk n).p 118 [Tv t,I i,I to,.str s]=some (.iV [Tv (Tr.ln mT ij t i to s).1,I (Tr.ln mT ij t i to s).2]):=by
 rw[pp 118 rfl hn rfl,gd,b6];have hl:=(vV w).len;have hs:=w.wf.jh;have B0:Bx [.var [.en false [],.int .i64 0,.int .i64 0],.var (Tb t)] 1 t:=⟨rfl,rfl⟩;have l:=CJ (n:=136) af t hs hl i B0
 unfold ln;cases z:find t.nodes i with
 |none =>
  have e:iq t i=jb:=by unfold iq;rw[z];rfl
  rw[e,z]at l;simp only[Tb,Nc,Nd,jb,aX]at l;simp(disch:=omega)[KZ,l]
 |some q =>
  have hq1:=hlk q z;have W:=(gZ z).2;rw[iy z,z]at l;simp only
  by_cases c1:q.kind=1/\q.links=0
  .let⟨k1,k2⟩:=c1;rw[if_pos (show q.kind=1/\q.links=0 from⟨k1,k2⟩)]
   simp only[Tb,Nc,Nd]at l;simp(disch:=omega)[KZ,l,k1,k2]
  rw[if_neg c1]
  by_cases c2:q.kind=2
  .rw[if_pos c2];simp only[Tb,Nc,Nd]at l;simp(disch:=omega)[KZ,l,c2]
  rw[if_neg c2];have B1:Bx [.var [.en false [],.int .i64 0,.int .i64 0],.var (Tb t),.var (Nc q),.var (Nc q)] 1 t:=⟨rfl,rfl⟩;let⟨Y,o,G⟩:=abk (n:=136) af t w to s B1
  have E:=G.old 0 ah ah
  have H:=G.old 3 ah ah
  have hY1:=G.bx.get;have r:=G.le;simp only[aS,bY]at E H;have hb1:(decide (q.kind=1)&&decide (q.links=0))=false:=by simpa using c1
  by_cases F:enter mT t to s=0
  .rw[if_neg (show ¬(enter mT t to s≠0)from λh=>h F)]
   rw[F]at o;let⟨p,P,p2,po3,T,po5,po6,po7⟩:=oV F;obtain⟨b,y⟩:∃b:Tr.Node,b={q with links:=q.links+1}:=⟨_,rfl⟩
   have hni:b.ino=i:=by rw[y];exact W
   rw[<-y];have B2:=G.bx.Ut (j:=3) af (A:=.var (Nc b)) rfl
   let⟨Y2,O,S⟩:=Em (m:=136) af t hs hl b B2
   have U:kI (iD t b).nodes:=mZ hs
   have hl2:(iD t b).nodes.length<=1000:=by
    have h1:=tq hs b;have h2:=w.wf.len;omega
   have hne:to≠i:=λe=>by
    rw[e,z]at P;cases P;exact c2 p2
   have X:find (iD t b).nodes to=some p:=by
    rw[jM hs,hni,if_neg hne];exact P
   have QI:=(w.wf.dir _ _ P p2).2;have Z:jd p s=none:=cv.2 λe hem=>by simpa using T e hem
   have ajF:=w.wf.KS;have S2:(iD t b).gr=t.gr:=rfl;let⟨Y3,N,Q⟩:=JS (n:=136) af (iD t b) U hl2 X QI.jh aa Z aa aa i S.bx
   have v:=(S.trans Q).old 0 (by simp;simp at r;omega) ah
   rw[aL af,E]at v
   have hC1:=Q.bx.get;have M:0<Y3.length:=by
    have:=S.le;have:=Q.le;simp at *
    omega
   have akJ:1<Y3.length:=by
    have:=S.le;have:=Q.le;simp at *
    omega
   have v:=jC v M;have x:=jC H (by simp at r;omega)
   have akF:3<Y.length:=by simp at r;omega
   generalize iT ij (iD t b) to s i=t3 at *
   subst y;simp only[Tb,Nc,Nd]at l o O N x;simp(disch:=omega)[KZ,l,c2,o,x,O,N,v,hC1]
  .rw[if_pos F];have K:0<Y.length:=by simp at r;omega
   have L:=jC E K;generalize enter mT t to s=e at *
   simp only[Tb,Nc,Nd]at l o;simp(disch:=omega)[KZ,l,c2,o,F,L]
def BA(x n:Tr.Node):Int:=if x.kind=2/\n.kind≠2 then 73 else if x.kind≠2/\n.kind=2 then 72 else if 0<n.ek.length then 74 else 0
def aht{n:Nat}(i:143<n)(x y:Tr.Node):(gV.fk n).p 210 [Nd x,Nd y]=some (I (BA x y)):=by
 rw[pp 210 rfl i rfl,gd,b6];unfold BA
 by_cases h:x.kind=2
 .by_cases c2 : y.kind = 2
  .by_cases b:0<y.ek.length
   .simp(disch:=omega)[c210,h,c2,b]
   .simp(disch:=omega)[c210,h,c2,b]
  .simp(disch:=omega)[c210,h,c2]
 .by_cases c2 : y.kind = 2
  .simp(disch:=omega)[c210,h,c2]
  .by_cases b:0<y.ek.length
   .simp(disch:=omega)[c210,h,c2,b]
   .simp(disch:=omega)[c210,h,c2,b]
def Pp(t:Tr.Tree)(i:Int)(s:aq):Int⊕Int:=if (Tr.look mT t i s).2=0 then .inl (Tr.look mT t i s).1 else .inr (Tr.look mT t i s).2
def jQ(t:Tr.Tree)(p:aq):Int×Int:=match Nm.split p with
 |none=>(0,60)
 |some l=>match qw (Pp t) l 1 with
  | .inl i=>(i,0)
  | .inr e=>(0,e)
def BV{α A C E:Type}(g:A->α->A⊕C)(h:C->E):∀(l:List α)(s:A),qw (λi x=>Sum.elim Sum.inl (λe=>Sum.inr (h e)) (g i x)) l s=Sum.elim Sum.inl (λe=>Sum.inr (h e)) (qw g l s)
 | [],s=>rfl
 |a::l,s=>by
  simp only[qw];cases g s a with
  |inl j=>exact BV g h l j
  |inr e=>rfl
def ai6{n:Nat}(z:67<n)(t:Tr.Tree)(w:nB t)(l:List aq)(hl:l.length<=1000)(f:Bool)(e0:Env)(h2:e0 2 = .iw (Tb t))(q:e0 19 = .en f (l.map AV.str))(o:e0 20=I (l.length:Int)):
  iter (round (gV.fk n) [8,21] [(.exit 0,[8]),(.ret,[4,5])] w8 e0 0 []) ([I 1,I 0],[])=some (match qw (Pp t) l 1 with
   | .inl i=>(.exit 0,[I i],[])
   | .inr e=>(.ret,[I 0,I e],[])):=by
 have:=KB (f:=round (gV.fk n) [8,21] [(.exit 0,[8]),(.ret,[4,5])] w8 e0 0 []) (λk (i:Int)=>([I i,I (k:Int)],[])) l (λi s=>Sum.elim Sum.inl (λe=>Sum.inr ((.ret,[I 0,I e],[]):AX×List AV×AH)) (Pp t i s)) (λi=>(.exit 0,[I i],[])) (λ_ _=>True)
  (λk hk i _=>by
   obtain⟨y,v⟩:∃y,y=l[k]:=⟨_,rfl⟩;rw[<-v];have h:=PS z t w i y;unfold Pp;simp only[Tv]at h;generalize Tr.look mT t i y=r at *
   let⟨a,b⟩:=r
   by_cases x:b=0
   .subst x;simp only[if_pos,Sum.elim_inl];refine⟨trivial,?_⟩;simp(disch:=omega)[round_eq,w8,h2,q,o,<-v,ca 120,h]
   .simp only[if_neg x,Sum.elim_inr];simp(disch:=omega)[round_eq,w8,h2,q,o,<-v,ca 120,h,x])
  (λi _=>by simp(disch:=omega)[round_eq,w8,o]) 1 trivial
 refine this.trans ?_;rw[BV (Pp t) (λe=>((.ret,[I 0,I e],[]):AX×List AV×AH))]
 cases qw (Pp t) l 1<;>rfl
def abz{n:Nat}(b:69<n)(t:Tr.Tree)(w:nB t)(p:aq):(gV.fk n).p 186 [Tv t,.str p]=some (.iV [I (jQ t p).1,I (jQ t p).2]):=by
 rw[pp 186 rfl b rfl,gd,b6];have h:=UC (n:=69) af p
 unfold spV at h;unfold jQ;cases hs:Nm.split p with
 |none =>
  rw[hs]at h;simp only at h;simp(disch:=omega)[Ys,ca 134,h]
 |some l =>
  rw[hs]at h;simp only at h;have hl:=Ec hs;have o:=ai6 (n:=69) af t w l aa (decide (p=[47]))
  simp(disch:=omega)[Ys,ca 134,h];rw[o _ an an an]
  cases qw (Pp t) l 1 with
  |inl i=>simp(disch:=omega)
  |inr e=>simp(disch:=omega)
def ahg{n:Nat}(i:34<n)(a b:aq)(f g:Bool):(gV.fk n).p 274 [.en f (a.map B),.en g (b.map B)]=some (.bool (decide (a=b))):=by
 rw[pp 274 rfl i rfl,gd,b6];have h1:=jo a;have h2:=jo b
 by_cases h:a=b
 .simp(disch:=omega)[Yi,mw,h2,h]
 .simp(disch:=omega)[Yi,mw,h1,h2,h]
def ai2{Γ:ja}(a b:List Tr.Ent)(hl:a.length=b.length)(v:a.length<=1000)(f g:Bool)(e0:Env)(h0:e0 0 = .en f (a.map En))(h1:e0 1 = .en g (b.map En))(h:e0 12=I (a.length:Int)):
  iter (round Γ [13] [(.exit 0,[]),(.ret,[4])] s9 e0 0 []) ([.int .i64 0],[])=some (if (a.zip b).all (λx=>decide (x.1=x.2))=true then(.exit 0,[],[])else(.ret,[.bool false],[])) :=
 Dm (f:=round Γ [13] [(.exit 0,[]),(.ret,[4])] s9 e0 0 []) (λi=>([.int .i64 i],[])) a b hl (λx y=>decide (x=y)) _ _
  (λi r q=>by
   obtain⟨x,hx⟩:∃x,x=a[i]:=⟨_,rfl⟩;obtain⟨y,l⟩:∃y,y=b[i]:=⟨_,rfl⟩;rw[<-hx,<-l];obtain⟨x1,x2,x3⟩:=x;let⟨y1,y2,y3⟩:=y
   by_cases o:x1=y1
   .by_cases c2 : x2 = y2
    .by_cases n:x3=y3
     .simp(disch:=omega)[round_eq,s9,h0,h1,h,<-hx,<-l,iO,o,c2,n]
     .simp(disch:=omega)[round_eq,s9,h0,h1,h,<-hx,<-l,iO,o,c2,n]
    .simp(disch:=omega)[round_eq,s9,h0,h1,h,<-hx,<-l,iO,o,c2]
   .simp(disch:=omega)[round_eq,s9,h0,h1,h,<-hx,<-l,iO,o])
  (by simp(disch:=omega)[round_eq,s9,h])
def abj{n:Nat}(o:35<n)(a b:List Tr.Ent)(f g:Bool)(r:a.length<=1000)(q:b.length<=1000):
  (gV.fk n).p 275 [.en f (a.map En),.en g (b.map En)]=some (.bool (decide (a=b))):=by
 rw[pp 275 rfl o rfl,gd,b6]
 by_cases hl:a.length=b.length
 .have l:=Cu hl;simp(disch:=omega)[Yh,hl];rw[ai2 a b hl aa f g _ an an (by simp(disch:=omega)[hl])]
  by_cases i:a=b
  .rw[if_pos (l.2 i)];simp(disch:=omega)[i]
  .rw[if_neg (λh=>i (l.1 h))]
   simp(disch:=omega)[i]
 .have i:a≠b:=λh=>hl (by rw[h])
  simp(disch:=omega)[Yh,i]
def ahh{n:Nat}(F:36<n)(x y:Tr.Node)(hx:x.ek.length<=1000)(E:y.ek.length<=1000):
  (gV.fk n).p 273 [Nd x,Nd y]=some (.bool (decide (je x=je y))):=by
 rw[pp 273 rfl F rfl,gd,b6];have z:=abj (n:=36) af x.ek y.ek false false hx E
 have r:=ahg (n:=36) af x.data y.data false false
 have l:∀x y:Tr.Node,je x=je y↔x.ino=y.ino/\x.kind=y.kind/\x.links=y.links/\x.up=y.up/\x.data=y.data/\x.ek=y.ek:=λx y=>by
  unfold je;rw[Tr.Node.mk.injEq]
  constructor
  .rintro⟨h1,h2,h3,_,h4,_,h5,v⟩;exact⟨h1,h2,h3,v,h4,h5⟩
  .rintro⟨h1,h2,h3,v,h4,h5⟩;exact⟨h1,h2,h3,rfl,h4,rfl,h5,v⟩
 have o:decide (je x=je y)=decide (x.ino=y.ino/\x.kind=y.kind/\x.links=y.links/\x.up=y.up/\x.data=y.data/\x.ek=y.ek):=decide_eq_decide.2 (l x y);rw[o];clear o l;obtain⟨x1,x2,x3,x4,x5,x6,x7,x8⟩:=x;let⟨y1,y2,y3,y4,y5,y6,y7,A⟩:=y;simp only at z r
 by_cases i:x1=y1
 .by_cases c2 : x2 = y2
  .by_cases b : x3 = y3
   .by_cases h : x8 = A
    .by_cases q:x5=y5
     .subst q;simp(disch:=omega)[HW,i,c2,b,h,ca 274,r,ca 275,z]
     .simp(disch:=omega)[HW,i,c2,b,h,ca 274,r,q]
    .simp(disch:=omega)[HW,i,c2,b,h]
   .simp(disch:=omega)[HW,i,c2,b]
  .simp(disch:=omega)[HW,i,c2]
 .simp(disch:=omega)[HW,i]
def ai1{n:Nat}(H:36<n)(a b:List Tr.Node)(hl:a.length=b.length)(K:a.length<=1000)(A:∀q∈a,q.ek.length<=1000)(v:∀q∈b,q.ek.length<=1000)(f g:Bool)(e0:Env)(l:e0 15 = .en f (a.map Nd))(h1:e0 1 = .en g (b.map Nd))(h2:e0 2 = .fn (.func 273) [] [])(h:e0 16=I (a.length:Int)):
  iter (round (gV.fk n) [17] [(.exit 0,[]),(.ret,[6])] wV e0 0 []) ([.int .i64 0],[])=some (((a.zip b).find? λz=>!decide (je z.1=je z.2)).elim (.exit 0,[],[]) λz=>(.ret,[.bool false],[.var (Nc z.1),.var (Nc z.2)])) :=
 Dl (f:=round (gV.fk n) [17] [(.exit 0,[]),(.ret,[6])] wV e0 0 []) (λi=>([.int .i64 (i:Int)],[])) (a.zip b) (λz=>!decide (je z.1=je z.2)) (λ_ z=>(.ret,[.bool false],[.var (Nc z.1),.var (Nc z.2)])) (.exit 0,[],[])
  (λi F=>by
   have G:i<a.length:=by rw[List.length_zip]at F;omega
   have r:i<b.length:=aa
   rw[List.getElem_zip];obtain⟨x,hx⟩:∃x,x=a[i]:=⟨_,rfl⟩;obtain⟨y,o⟩:∃y,y=b[i]:=⟨_,rfl⟩;rw[<-hx,<-o];have E:=ahh (n:=n) aa x y (by rw[hx];exact A _ (aU G)) (by rw[o];exact v _ (aU r))
   simp only[Nd]at E
   by_cases c:je x=je y
   .simp(disch:=omega)[round_eq,wV,l,h1,h2,h,<-hx,<-o,ca 273,E,c]
   .simp(disch:=omega)[round_eq,wV,l,h1,h2,h,<-hx,<-o,ca 273,E,c])
  (by
   have e:(a.zip b).length=a.length:=by rw[List.length_zip];omega
   rw[e];simp(disch:=omega)[round_eq,wV,h])
def ahf{n:Nat}(x:100<n)(a b:List Tr.Node)(E:a.length<=1000)(A:b.length<=1000)(r:∀q∈a,q.ek.length<=1000)(o:∀q∈b,q.ek.length<=1000)(f g:Bool):
  ∃Y,rF (gV.fk n) 276 [.en f (a.map Nd),.en g (b.map Nd),.fn (.func 273) [] []] []=some (.bool (decide (a.map je=b.map je)),Y):=by
 rw[ph 276 rfl x rfl,b6]
 by_cases hl:a.length=b.length
 .have v:=vT hl;simp(disch:=omega)[Yg,hl];rw[ai1 (n:=100) af a b hl aa r o f g _ an an an (by simp(disch:=omega)[hl])]
  cases l:(a.zip b).find? λz=>!decide (je z.1=je z.2)with
  |none =>
   have i:a.map je=b.map je:=v.1 (aJ.2 λz y=>by simpa using cv.1 l z y)
   simp(disch:=omega)[i]
  |some z =>
   have i:a.map je≠b.map je:=λh=>by
    have h1:=aJ.1 (v.2 h) z (bN l);have h2:=cW l;simp only[h1]at h2;cases h2
   simp(disch:=omega)[i]
 .have i:a.map je≠b.map je:=λh=>hl (by have:=congrArg List.length h;simpa using this)
  simp(disch:=omega)[Yg,i]
def ahz{n:Nat}(q:101<n)(a b:Tr.Tree)(o:Bt a)(l:Bt b):(gV.fk n).p 170 [Tv a,Tv b]=some (.bool (yV a b)):=by
 rw[pp 170 rfl q rfl,gd,b6];let⟨Y,h⟩:=ahf (n:=101) af a.nodes b.nodes o.len l.len o.ek l.ek false false
 unfold yV
 by_cases i:a.next=b.next
 .by_cases c2:a.gr=b.gr
  .simp(disch:=omega)[RF,i,c2,h]
  .simp(disch:=omega)[RF,i,c2]
 .simp(disch:=omega)[RF,i]
variable{X:AH}
def UA{n:Nat}(r:61<n)(t:Tr.Tree)(w:nB t){i:Int}{d:Nat}(q:rK t i d){k:Nat}(B:Bx X k t):
  rF (gV.fk n) 208 [.ptr k 0 0 0,I i] X=some (.own X.length 0 0 (d+1),X++[.row 0 1 ((i::lY t d i).map I)]):=by
 rw[acm r,b6];have x:=ri w q;have h:=λe0 h0=>adg (n:=61) af t w B e0 h0 q [i] aj
 have y:([i]++lY t d i).length=d+1:=by simp[oE]
 rw[y]at h;have l:=λY h0=>B.pl.tail (L:=X.length+1) (R:=[X.length]) aa ah h0 Y
 have b:=jq X;have v:=B.lt;have o:¬k=X.length:=aa
 simp(disch:=omega)[c208,l,b];have h':=λe0 h0=>h e0 h0
 simp only[aK,aR,bF,aX]at h';rw[h' _ (by simp(disch:=omega)[o])]
 simp(disch:=omega)
def Ir{t:Tr.Tree}{i:Int}{d:Nat}(b:rK t i d)(o:Int):∀ {k:Nat},d<k->ya t k i o=(i::lY t d i).contains o:=by
 induction b with
 |root =>
  intro k hk;obtain⟨k,rfl⟩:∃j,k=j+1:=⟨k-1,aa⟩
  simp only[ya,lY]
  by_cases h:(1:Int)=o
  .simp[h]
  .have h':¬o=1:=λe=>h e.symm
   simp[h,h']
 | @up i q d v r h1 b l =>
  intro k hk;obtain⟨k,rfl⟩:∃j,k=j+1:=⟨k-1,aa⟩
  have n:Is t i=q.up:=Cz v;simp only[ya,lY,n];rw[l aa]
  by_cases h:i=o
  .simp[h]
  .have h':¬o=i:=λe=>h e.symm
   simp[h,h',h1]
def aiY{Γ:ja}(l:ax)(hl:l.length<=1000)(o:Int)(e0:Env)(h0:e0 0 = .en false (l.map I))(h1:e0 1=I o)(n:e0 7=I (l.length:Int)):
  iter (round Γ [8] [(.exit 0,[]),(.ret,[4])] wS e0 0 []) ([I 0],[])=some ((l.find? λx=>decide (x=o)).elim (.exit 0,[],[]) λ_=>(.ret,[I (l.findIdx λx=>decide (x=o):Nat)],[])) :=
 Dl (f:=round Γ [8] [(.exit 0,[]),(.ret,[4])] wS e0 0 []) (λi=>([I (i:Int)],[])) l (λx=>decide (x=o)) (λk _=>(.ret,[I (k:Int)],[])) (.exit 0,[],[])
  (λk hk=>by
   obtain⟨y,b⟩:∃y,y=l[k]:=⟨_,rfl⟩;rw[<-b]
   by_cases h:y=o
   .simp(disch:=omega)[round_eq,wS,h0,h1,n,<-b,h]
   .have h':¬o=y:=λe=>h e.symm
    simp(disch:=omega)[round_eq,wS,h0,h1,n,<-b,h,h'])
  (by simp(disch:=omega)[round_eq,wS,n])
def abt{n:Nat}(r:63<n)(l:ax)(hl:l.length<=1000)(o:Int):(gV.fk n).p 209 [.en false (l.map I),I o]=some (.bool (l.contains o)):=by
 have i:(gV.fk 63).p 301 [.en false (l.map I),I o]=some (I (DR l λx=>decide (x=o))):=by
  rw[aie af,gd,b6]
  have h:=aiY (Γ:=gV.fk 62) l hl o;unfold DR;simp(disch:=omega)[X8];rw[h _ an an an]
  cases l.find? λx=>decide (x=o)with
  |none=>simp(disch:=omega)
  |some y=>simp(disch:=omega)
 let⟨_,_,q⟩:=C9 l λx=>decide (x=o)
 have v:(l.any λx=>decide (x=o))=l.contains o:=by
  rw[ez];simp
 rw[v]at q;generalize(DR l λx=>decide (x=o))=j at *
 generalize l.contains o=b at *
 rw[pp 209 rfl r rfl,gd,b6]
 by_cases c:0<=j
 .have:=q.1 c;simp(disch:=omega)[Yn,ca 301,i,c,this]
 .have:b=false:=by
   cases b with
   |false=>rfl
   |true=>exact absurd (q.2 rfl) c
  simp(disch:=omega)[Yn,ca 301,i,c,this]
def xJ(t:Tr.Tree)(ino at_ own:Int)(q:Tr.Node):Bool:=decide (q.kind=2)&&(below t q.ino ino&&(decide (12<at_+depth t q.ino-own)||(decide (at_+depth t q.ino-own=12)&&decide (0<q.ek.length))))
def aha{n:Nat}(S:64<n)(t:Tr.Tree)(w:nB t){q:Tr.Node}(Q:q∈t.nodes)(ino at_ own:Int)(Y:0<=at_/\at_<=1000)(U:0<=own/\own<=1000){k:Nat}(B:Bx X k t)(a b c d:Nat)(h1:X[a]? = some (.var [.ptr k 0 0 0]))(h2:X[b]? = some (.var [I at_]))(h3:X[c]? = some (.var [I own]))(h4:X[d]? = some (.var [I ino])):
  ∃Z,Z.all gX=true/\rF (gV.fk n) 303 [Nd q,.ptr a 0 0 0,.ptr b 0 0 0,.ptr c 0 0 0,.ptr d 0 0 0] X=some (.bool (xJ t ino at_ own q),X++Z):=by
 generalize o:rF (gV.fk n) 303 _ _=res;rw[ph 303 rfl S rfl,b6]at o;unfold xJ;have N:=(az.1 h1).1;have M:=(az.1 h2).1;have L:=(az.1 h3).1;have H:=(az.1 h4).1;have h1:=jC h1 N;have h2:=jC h2 M;have h3:=jC h3 L;have h4:=jC h4 H
 by_cases y:q.kind=2
 .let⟨i,h,O,_⟩:=w.dep _ _ (jt w.wf.jh Q) y;have G:=ri w h;have P:=w.wf.len;have z:=UA (n:=64) af t w h B
  have E:=abt (n:=64) af (q.ino::lY t i q.ino) (by simp[oE];omega) ino
  have T:below t q.ino ino=(q.ino::lY t i q.ino).contains ino:=Ir h ino aa
  have K:=j9 h aa
  have A:((q.ino::lY t i q.ino).map I).length=i+1:=by simp[oE]
  rw[T,K];generalize W:(q.ino::lY t i q.ino).map I=m at *
  generalize(q.ino::lY t i q.ino).contains ino=bb at *
  have l:m.take (i+1)=m:=bf aa
  refine⟨[.lu 0 1 m],rfl,?_⟩;rw[<-o];cases bb with
  |false=>simp(disch:=omega)[HV,y,h1,h2,h3,h4,z,A,l,ca 209,E,agp]
  |true =>
   by_cases c2:12<at_+(i:Int)-own
   .have x:12<at_+((i:Int)+1)-1-own:=by omega
    simp(disch:=omega)[HV,y,h1,h2,h3,h4,z,A,l,ca 209,E,c2,x,agp]
   .have x:¬12<at_+((i:Int)+1)-1-own:=by omega
    by_cases v:at_+(i:Int)-own=12
    .have r:at_+((i:Int)+1)-1-own=12:=by omega
     by_cases F:0<q.ek.length
     .simp(disch:=omega)[HV,y,h1,h2,h3,h4,z,A,l,ca 209,E,v,r,F,agp]
     .simp(disch:=omega)[HV,y,h1,h2,h3,h4,z,A,l,ca 209,E,v,r,F,agp]
    .have r:¬at_+((i:Int)+1)-1-own=12:=by omega
     simp(disch:=omega)[HV,y,h1,h2,h3,h4,z,A,l,ca 209,E,c2,x,v,r,agp]
 .refine⟨[],rfl,?_⟩;rw[<-o,b9];simp(disch:=omega)[HV,y]
def LS{Y:AH}(b:tT X)(h:Y.all (Ax (X.length+Y.length))=true):tT (X++Y):=by
 unfold tT at b⊢;rw[aG,cg,aC];exact⟨CG aa b,h⟩
def abr{n:Nat}(M:154<n)(t:Tr.Tree)(w:nB t){ino:Int}(H:jK t ino=0)(at_:Int)(P:0<=at_/\at_<=1000){k:Nat}(B:Bx X k t):
  ∃Y,rF (gV.fk n) 211 [.ptr k 0 0 0,I ino,I at_] X=some (.bool (t.nodes.any (xJ t ino at_ (depth t ino))),Y)/\Gw X Y k t:=by
 have o:=B.lt;have K:=w.wf.len;have hk:=B.get o;have B1:Bx (X++[.var [.ptr k 0 0 0],.var [I ino],.var [I at_]]) k t:=⟨LS B.pl (by simp[Ax,yd,AV.jD];omega),by rw[aI o];exact B.at_⟩
 let⟨E,S,i⟩:=abd (n:=154) af t w H B1
 let⟨T,x,y⟩:=nh.1 H;let⟨v,h,_⟩:=w.dep _ _ x y;have O:=ri w h;have A:=j9 h aa
 have B2:Bx (X++([.var [.ptr k 0 0 0],.var [I ino],.var [I at_]]++(E++[.var [I (depth t ino)]]))) k t:=by
  have:=(B1.app S).app (Y:=[.var [I (depth t ino)]]) rfl
  simpa using this
 simp only[aM,aN]at B2;rw[A]at B2 i⊢
 let⟨Z,Q,F⟩:=ixG (Γ:=gV.fk 152) (z:=6) (cs:=Nc) (λ_=>rfl) (l:=t.nodes) aa B2.pl (CN _ (cs:=Nc) (λ_=>rfl) t.nodes false) 303 [] [.ptr X.length 0 0 0,.ptr (X.length+2) 0 0 0,.ptr (X.length+(E.length+1+1+1)) 0 0 0,.ptr (X.length+1) 0 0 0] (xJ t ino at_ v) λq L=>aha af t w L ino at_ v P aa B2 _ _ _ _ ah (by rw[aQ aa];simp) (by rw[aQ aa];simp) (by rw[aQ aa];simp)
 have F:=(ah7 (n:=153) af _ _).trans F
 have r:=(aid (n:=154) af _ _).trans (cfG F)
 have r:rF (gV.fk 154) 302 [.en false (t.nodes.map Nd),.fn (.func 303) [] [.ptr X.length 0 0 0,.ptr (X.length+2) 0 0 0,.ptr (X.length+(E.length+1+1+1)) 0 0 0,.ptr (X.length+1) 0 0 0]] _=_:=r
 have G:Gw X (X++AB.var [.ptr k 0 0 0] :: .var [I ino] :: .var [I at_]::(E ++ .var [I v]::Z)) k t:=by
  refine⟨?_,ah,λj N _=>by rw[aI N]⟩
  have:=B2.app Q
  simpa using this
 refine⟨_,?_,G⟩;generalize t.nodes.any (xJ t ino at_ v)=b at *
 simp only[bV,aM,aN]at r i;rw[ph 211 rfl M rfl,b6];simp(disch:=omega)[aft,i,r,hk,agp]
def B8{t:Tr.Tree}(ino at_:Int):t.nodes.any (xJ t ino at_ (depth t ino))=decide (12<high t ino at_):=by
 rw[ez,ct,decide_eq_true_eq];unfold high;rw[FD (λn:Tr.Node=>n.kind=2/\below t n.ino ino=true) (λn=>at_+depth t n.ino-depth t ino+if 0<n.ek.length then 1 else 0) 12 t.nodes 0]
 constructor
 .rintro⟨q,b,h⟩
  right;simp only[xJ,aC,bP,decide_eq_true_eq]at h;refine⟨q,b,⟨h.1,h.2.1⟩,?_⟩
  rcases h.2.2 with h | ⟨h,h'⟩
  .split<;>omega
  .rw[if_pos h'];omega
 .rintro(h | ⟨q,b,⟨h1,h2⟩,h3⟩)
  .omega
  .refine⟨q,b,?_⟩;simp only[xJ,aC,bP,decide_eq_true_eq];refine⟨h1,h2,?_⟩;split at h3
   .by_cases h:12<at_+(depth t q.ino:Int)-depth t ino
    .exact .inl h
    .exact .inr ⟨aa,by assumption⟩
   .exact .inl aa
def Gw.keep{X Y:AH}{k:Nat}{u:Tr.Tree}(G:Gw X Y k u){j:Nat}(b:j<X.length)(h1:j≠k){A:AB}(h:X[j]? = some A):Y[j]? = some A:=(G.old j b h1).trans h
set_option maxHeartbeats 8000000 in
def ahI{n:Nat}(hn:155<n)(t:Tr.Tree)(w:nB t)(dir:Int)(s:aq)(to:Int)(nm:aq):
  (gV.fk n).p 121 [Tv t,I dir,.str s,I to,.str nm]=some (.iV [Tv (mv mT ij t dir s to nm).1,I (mv mT ij t dir s to nm).2.1,I (mv mT ij t dir s to nm).2.2]):=by
 have hl:=(vV w).len;have hs:=w.wf.jh;have F:=PS (n:=155) af t w dir s
 generalize b:(gV.fk n).p 121 _=res;rw[pp 121 rfl hn rfl,gd,b6]at b;unfold mv
 by_cases c0:(Tr.look mT t dir s).2=0
 case neg =>
  rw[if_pos c0];generalize Tr.look mT t dir s=r at *
  obtain⟨i,e⟩:=r;simp only[Tv]at F c0⊢;simp(disch:=omega)[uT,ca 120,F,c0]at b;exact b.symm
 rw[if_neg (show ¬((Tr.look mT t dir s).2≠0)from λh=>h c0)]
 obtain⟨p,e,p1,p2,po3,SD,po5⟩:=yo (x:=(Tr.look mT t dir s).1) (by rw[<-c0])
 rw[c0,<-po5]at F;rw[<-po5];clear c0 po5;obtain⟨he,QI⟩:=j4 SD;obtain⟨⟨x,hx⟩,hx1,hxf⟩:=kW w p1 he;have hxp:=(w.wf.pos _ _ hx).1;have hxi:=iI hx;have B0:Bx [.var [.en false [],.int .i64 0,.int .i64 0],.var (Tb t)] 1 t:=⟨rfl,rfl⟩;obtain⟨M,hD,G1⟩:=PR (n:=155) af t hs hl to B0
 have a0:=jC ((G1.old 0 ah ah).trans rfl) (by have:=G1.le;simp at this;omega)
 have l1:=G1.le;simp only[aK,aR,b8,Nat.reduceAdd]at l1;simp only[Tv]at F;simp only[Nd,Tb]at hD
 by_cases c1:jK t to=0
 case neg =>
  rw[if_pos c1];generalize jK t to=de at *
  simp(disch:=omega)[uT,ca 120,F,hD,c1,a0,lq,agp]at b;exact b.symm
 rw[if_neg (show ¬(jK t to≠0)from λh=>h c1)]
 obtain⟨q,q1,q2,qo3⟩:=vI c1;have hN:=UB (n:=155) af nm
 rw[c1,qo3]at hD;cases c2:mT nm with
 |false =>
  rw[if_pos rfl];rw[c2]at hN;simp(disch:=omega)[uT,ca 120,F,hD,ca 206,hN,a0,lq,agp]at b;exact b.symm
 |true =>
  rw[if_neg (show ¬(true=false) by decide)]
  rw[c2]at hN;have Wo:=(w.wf.dir _ _ q1 q2).2;have hel:=Wo.len;have hE:=Md (n:=155) af q Wo.jh aa nm
  have Z:=CJ (n:=155) af t hs hl e.ino (G1.bx.app (Y:=[.var (Nc q)]) rfl)
  rw[iy hx,hx]at Z;obtain⟨H,Nw,ajC,_⟩:=w.dep _ _ q1 q2;have hdl:=ri w Nw;have hde:=j9 Nw aa
  have hC:=abt (n:=155) af (to::lY t H to) (by simp[oE];omega) e.ino
  have S5:below t to e.ino=(to::lY t H to).contains e.ino:=Ir Nw e.ino aa
  have hUl:((to::lY t H to).map I).length=H+1:=by simp[oE]
  have hUt:((to::lY t H to).map I).take (H+1)=(to::lY t H to).map I:=bf aa
  have hcut:=tP jI Wo.jh nm;have hxb:e.ino=to->(to::lY t H to).contains e.ino=true:=λh=>by rw[h];simp
  simp only[iy hx,qo3,hde];simp only[Nd]at hE Z
  rcases hcut with⟨hc,hci,Wt⟩ | ⟨Wt,hci⟩
  ·
   generalize kX ij q.ek nm=c at *
   obtain⟨L,BO⟩:∃L,L=q.ek[c]:=⟨_,rfl⟩;rw[<-BO]at Wt;have S0:jd q nm=some L:=Wt;obtain⟨⟨y,hy⟩,hy1,hyt⟩:=kW w q1 (j4 S0).1;have hyi:=iI hy;have hyp:=(w.wf.pos _ _ hy).1;have hyz:zl t to nm=L.ino:=by unfold zl;rw[qo3,S0];rfl
   have G:=CJ (n:=155) af t hs hl L.ino (G1.bx.app (Y:=[.var (Nc q),.var (Nc x),.var (Nc x),.var [I 0,I 0,I 0,.en false [],.en false [],I 0]]) rfl)
   rw[iy hy,hy]at G;have hU:=UA (n:=155) af t w Nw (G1.bx.app (Y:=[.var (Nc q),.var (Nc x),.var (Nc x),.var (Nc y),.var (Nc y)]) rfl)
   have Q:=aht (n:=155) af x y
   have hcl:Tr.kM t x L.ino=BA x y:=by unfold Tr.kM;rw[hy];rfl
   rw[S0]at hE;rw[hyz,hcl,S5];simp only[eu,bV,aM,aN,aG,aK,aR,Nd]at hE hU Z G Q;generalize hm:(to::lY t H to).map I=m at *
   generalize(to::lY t H to).contains e.ino=bb at *
   have S2:=w.wf.KS;have b1:=G1.bx.get;have b1l:=G1.bx.lt
   by_cases hsame:L.ino=e.ino
   .rw[if_pos hsame];have o:y.ino=e.ino:=by omega
    simp(disch:=omega)[uT,ca 120,F,hD,ca 206,hN,Z,ca 207,hE,<-BO,G,o,a0,lq,agp]at b;exact b.symm
   rw[if_neg hsame];have o:¬y.ino=e.ino:=aa
   by_cases hloop:x.kind=2/\bb=true
   .obtain⟨l,rfl⟩:=hloop;rw[if_pos ⟨l,rfl⟩];simp only[Nc,l]at hU Z G Q;simp(disch:=omega)[uT,ca 120,F,hD,ca 206,hN,Z,ca 207,hE,<-BO,G,o,hU,hUl,hUt,ca 209,hC,a0,lq,agp]at b;exact b.symm
   rw[if_neg hloop]
   by_cases E:BA x y=0
   case neg =>
    rw[if_pos E];generalize BA x y=oe at *
    by_cases l:x.kind=2
    .have WB:bb=false:=by
      cases bb with
      |false=>rfl
      |true=>exact absurd ⟨l,rfl⟩ hloop
     subst WB;simp only[Nc,l]at hU Z G Q;simp(disch:=omega)[uT,ca 120,F,hD,ca 206,hN,Z,ca 207,hE,<-BO,G,o,hU,hUl,hUt,ca 209,hC,ca 210,Q,E,a0,lq,agp]at b;exact b.symm
    .simp only[Nc]at hU Z G;simp(disch:=omega)[uT,ca 120,F,hD,ca 206,hN,Z,ca 207,hE,<-BO,G,o,hU,l,ca 210,Q,E,a0,lq,agp]at b;exact b.symm
   rw[if_neg (λh=>h E)]
   rw[E]at Q;have hye:y.ek=[]:=by
    unfold BA at E;split at E
    .cases E
    .split at E
     .cases E
     .split at E
      .cases E
      .rename_i h;exact eo.1 aa
   have hy0:¬L.ino=0:=aa
   obtain⟨qq,O,hst⟩:=zx jI w p1 p2 SD q1 q2 hx (nm:=nm) (λeo3 h=>by
    rw[S0]at h;cases h;exact⟨hsame,λz hz=>by rw[hy]at hz;cases hz;exact hye⟩)
   obtain⟨eo3,z,h1,hqe,hz,D2,r,D3,hrn⟩:=hst.resolve_left (λh=>by rw[S0]at h;cases h.1)
   rw[S0]at h1;cases h1;rw[hy]at hz;cases hz;have K:=(w.wf.dir _ _ p1 p2).2;have adV:=K.len;have lY1:2<=M.length:=l1;have aku:=w.bg.lk y (gZ hy).1;have hc5:∀(P:Prop),(¬(L.ino=0/\to≠dir/\64<=q.ek.length)):=λ_ h=>hy0 h.1
   have a0':M[0]? = some (.var [.en false [],.int .i64 0,.int .i64 0]):=(aF aa).trans (congrArg some a0)
   by_cases l:x.kind=2
   .have WB:bb=false:=by
     cases bb with
     |false=>rfl
     |true=>exact absurd ⟨l,rfl⟩ hloop
    subst WB;have ajd:e.ino≠to:=λh=>by have:=hxb h;cases this
    simp only[Nc,l]at hU Z G Q
    by_cases co5:12<=H
    .rw[if_pos (.inr (.inl co5))];have c5':¬(H:Int)+1<=12:=by omega
     simp(disch:=omega)[uT,ca 120,F,hD,ca 206,hN,Z,ca 207,hE,<-BO,G,o,hU,hUl,hUt,ca 209,hC,ca 210,Q,a0,lq,agp]at b;exact b.symm
    have c5':(H:Int)+1<=12:=aa
    simp(disch:=omega)[uT,ca 120,F,hD,ca 206,hN,Z,ca 207,hE,<-BO,G,o,hU,hUl,hUt,ca 209,hC,ca 210,Q]at b;have Lm:jK t e.ino=0:=nh.2 ⟨x,hx,l⟩;have B3:Bx (M++[.var (Nc q),.var (Nc x),.var (Nc x),.var (Nc y),.var (Nc y),.lu 0 1 m]) 1 t:=G1.bx.app rfl;obtain⟨Y2,S,G2⟩:=abr (n:=155) af t w Lm ((H:Int)+1) aa B3
    rw[B8]at S;simp only[Nc,l]at S;have e0:Y2[0]? = some (.var [.en false [],.int .i64 0,.int .i64 0]):=G2.keep ah af (by rw[aI aa];exact a0')
    have ex:Y2[M.length+2]? = some (.var (Nc x)):=G2.keep ah aa (by rw[aQ aa];simp)
    have ey:Y2[M.length+3]? = some (.var (Nc y)):=G2.keep ah aa (by rw[aQ aa];simp)
    obtain⟨f0,g0⟩:=az.1 e0;have b1:=G2.bx.get;have b1l:=G2.bx.lt
    by_cases W:12<high t e.ino ((H:Int)+1)
    .rw[if_pos (.inr (.inr (.inl ⟨l,W⟩)))];simp(disch:=omega)[S,W,g0]at b;exact b.symm
    by_cases v:1099511627776<=t.gr
    .rw[if_pos (.inr (.inr (.inr v)))];simp(disch:=omega)[S,W,v,g0,b1]at b;exact b.symm
    rw[if_neg (by
     rintro(h1 | h1 | ⟨_,h1⟩ | h1)
     .exact hc5 True h1
     .exact co5 h1
     .exact W h1
     .exact v h1)]
    obtain⟨Ya,T,N⟩:=GU (n:=155) af t hs hl p1 K.jh aa SD G2.bx
    obtain⟨Yb,NC,Gb⟩:=GU (n:=155) af (left t dir s) O.jh (by have:=O.len;omega) O.at_ O.es (by have:=O.el;omega) hqe N.bx
    have gyB:=Gb.keep (br (az.1 ey).1 N.le) aa (N.keep (az.1 ey).1 aa ey)
    have gxB:=Gb.keep (br (az.1 ex).1 N.le) aa (N.keep (az.1 ex).1 aa ex)
    have gzB:=Gb.keep (br (az.1 e0).1 N.le) af (N.keep (az.1 e0).1 af e0)
    obtain⟨WH,ND⟩:=az.1 gyB;obtain⟨Yd,h35,Gd⟩:=Uv (n:=155) af (left (left t dir s) to nm) D2.jh (by have:=D2.len;omega) D2.at_ aa Gb.bx
    have gy:=Gd.keep WH aa gyB
    have gx:=Gd.keep (az.1 gxB).1 aa gxB
    have gz:=Gd.keep (az.1 gzB).1 af gzB
    obtain⟨gxl,gxg⟩:=az.1 gx;obtain⟨gyl,gyg⟩:=az.1 gy;obtain⟨gzl,gzg⟩:=az.1 gz;have Nx:(unnamed (left (left t dir s) to nm) L.ino).gr=t.gr:=by unfold unnamed;split<;>rfl
    have Bs:=Gd.bx.Ut (j:=M.length+2) aa (A:=.var (Nc {x with up:=to})) rfl
    obtain⟨Ye,h26,Ge⟩:=Em (m:=155) af (unnamed (left (left t dir s) to nm) L.ino) D3.jh (by have:=D3.len;omega) {x with up:=to} Bs
    have D4s:kI (iD (unnamed (left (left t dir s) to nm) L.ino) {x with up:=to}).nodes:=mZ D3.jh
    have D4l:=tq D3.jh {x with up:=to}
    have D4f:find (iD (unnamed (left (left t dir s) to nm) L.ino) {x with up:=to}).nodes to=some r:=by rw[jM D3.jh,if_neg (by simp only;omega)];exact D3.at_
    obtain⟨Yc,U,Gc⟩:=JS (n:=155) af (iD (unnamed (left (left t dir s) to nm) L.ino) {x with up:=to}) D4s (by have:=D3.len;omega) D4f D3.es (by have:=D3.el;omega) hrn (by show 0<=(unnamed (left (left t dir s) to nm) L.ino).gr;rw[Nx];omega) (by show (unnamed (left (left t dir s) to nm) L.ino).gr<=4398046511104;rw[Nx];omega) e.ino Ge.bx
    have ky:=Gc.keep (j:=M.length+3) (by have:=Ge.le;rw[dM]at this;omega) aa (Ge.keep (j:=M.length+3) (ak gyl) aa (by rw[aL aa];exact gy))
    have kz:=Gc.keep (j:=0) (by have:=Ge.le;rw[dM]at this;omega) af (Ge.keep (j:=0) (ak gzl) af (by rw[aL aa];exact gz))
    obtain⟨kyl,kyg⟩:=az.1 ky;obtain⟨kzl,kzg⟩:=az.1 kz;have gt:=Gc.bx.get;have gtl:=Gc.bx.lt
    have Kw:sy ij t dir s to nm e.ino L.ino=iT ij (iD (unnamed (left (left t dir s) to nm) L.ino) {x with up:=to}) to nm e.ino:=by
     unfold sy;simp only[iy hx,l,hy0,if_true,ne_eq,not_false_eq_true]
    rw[Kw];generalize iT ij (iD (unnamed (left (left t dir s) to nm) L.ino) {x with up:=to}) to nm e.ino=t3 at *
    simp only[Nc,Nd,l]at T NC h35 ND gxg h26 U;simp(disch:=omega)[S,W,v,b1,T,NC,ND,h35,gxg,h26,U,gt,kyg,kzg]at b;rw[hyi]at b;exact b.symm
   .simp only[Nc]at hU Z G
    by_cases co5:12<=H
    .rw[if_pos (.inr (.inl co5))];have c5':¬(H:Int)+1<=12:=by omega
     simp(disch:=omega)[uT,ca 120,F,hD,ca 206,hN,Z,ca 207,hE,<-BO,G,o,hU,l,ca 210,Q,a0,lq,agp]at b;exact b.symm
    have c5':(H:Int)+1<=12:=aa
    simp(disch:=omega)[uT,ca 120,F,hD,ca 206,hN,Z,ca 207,hE,<-BO,G,o,hU,l,ca 210,Q,a0,b1,lq,agp]at b;have B3:Bx (M++([.var (Nc q),.var (Nc x),.var (Nc x),.var (Nc y),.var (Nc y),.row 0 1 m]:AH)) 1 t:=G1.bx.app rfl;have e0:(M++([.var (Nc q),.var (Nc x),.var (Nc x),.var (Nc y),.var (Nc y),.row 0 1 m]:AH))[0]? = some (.var [.en false [],.int .i64 0,.int .i64 0]):=by rw[aI aa];exact a0'
    have ex:(M++([.var (Nc q),.var (Nc x),.var (Nc x),.var (Nc y),.var (Nc y),.row 0 1 m]:AH))[M.length+2]? = some (.var (Nc x)):=by rw[aQ aa];simp
    have ey:(M++([.var (Nc q),.var (Nc x),.var (Nc x),.var (Nc y),.var (Nc y),.row 0 1 m]:AH))[M.length+3]? = some (.var (Nc y)):=by rw[aQ aa];simp
    by_cases v:1099511627776<=t.gr
    .rw[if_pos (.inr (.inr (.inr v)))];simp(disch:=omega)[v]at b;exact b.symm
    rw[if_neg (by
     rintro(h1 | h1 | ⟨h1,_⟩ | h1)
     .exact hc5 True h1
     .exact co5 h1
     .exact l h1
     .exact v h1)]
    obtain⟨Ya,T,N⟩:=GU (n:=155) af t hs hl p1 K.jh aa SD B3
    obtain⟨Yb,NC,Gb⟩:=GU (n:=155) af (left t dir s) O.jh (by have:=O.len;omega) O.at_ O.es (by have:=O.el;omega) hqe N.bx
    have gyB:=Gb.keep (br (az.1 ey).1 N.le) aa (N.keep (az.1 ey).1 aa ey)
    have gxB:=Gb.keep (br (az.1 ex).1 N.le) aa (N.keep (az.1 ex).1 aa ex)
    have gzB:=Gb.keep (br (az.1 e0).1 N.le) af (N.keep (az.1 e0).1 af e0)
    obtain⟨WH,ND⟩:=az.1 gyB;obtain⟨Yd,h35,Gd⟩:=Uv (n:=155) af (left (left t dir s) to nm) D2.jh (by have:=D2.len;omega) D2.at_ aa Gb.bx
    have gy:=Gd.keep WH aa gyB
    have gx:=Gd.keep (az.1 gxB).1 aa gxB
    have gz:=Gd.keep (az.1 gzB).1 af gzB
    obtain⟨gxl,gxg⟩:=az.1 gx;obtain⟨gyl,gyg⟩:=az.1 gy;obtain⟨gzl,gzg⟩:=az.1 gz;have Nx:(unnamed (left (left t dir s) to nm) L.ino).gr=t.gr:=by unfold unnamed;split<;>rfl
    obtain⟨Yc,U,Gc⟩:=JS (n:=155) af (unnamed (left (left t dir s) to nm) L.ino) D3.jh (by have:=D3.len;omega) D3.at_ D3.es (by have:=D3.el;omega) hrn (by rw[Nx];omega) (by rw[Nx];omega) e.ino Gd.bx
    have ky:=Gc.keep (j:=M.length+3) gyl aa gy
    have kz:=Gc.keep (j:=0) gzl af gz
    obtain⟨kyl,kyg⟩:=az.1 ky;obtain⟨kzl,kzg⟩:=az.1 kz;have gt:=Gc.bx.get;have gtl:=Gc.bx.lt
    have Kw:sy ij t dir s to nm e.ino L.ino=iT ij (unnamed (left (left t dir s) to nm) L.ino) to nm e.ino:=by
     unfold sy;simp only[iy hx,l,hy0,if_false,if_true,ne_eq,not_false_eq_true]
    rw[Kw];generalize iT ij (unnamed (left (left t dir s) to nm) L.ino) to nm e.ino=t3 at *
    simp only[Nc,Nd]at T NC h35 ND gxg U;simp(disch:=omega)[v,T,NC,ND,h35,gxg,l,U,gt,kyg,kzg]at b;rw[hyi]at b;exact b.symm
  .have hyz:zl t to nm=0:=by unfold zl jd;rw[qo3,Wt];rfl
   have hU:=UA (n:=155) af t w Nw (G1.bx.app (Y:=[.var (Nc q),.var (Nc x),.var (Nc x),.var [I 0,I 0,I 0,.en false [],.en false [],I 0]]) rfl)
   unfold jd at hE;rw[Wt]at hE;rw[hyz,if_neg (show ¬(0:Int)=e.ino by omega)]
   have hcl:Tr.kM t x 0=0:=by
    have:find t.nodes 0=none:=by
     cases h:find t.nodes 0 with
     |none=>rfl
     |some z=>have:=(w.wf.pos _ _ h).1;omega
    unfold Tr.kM;rw[this]
   rw[hcl];simp only[fL,bV,aM,aN,aG,aK,aR]at hE hU Z;generalize hm:(to::lY t H to).map I=m at *
   rw[S5];generalize(to::lY t H to).contains e.ino=bb at *
   have hx0:¬(0:Int)=e.ino:=aa
   generalize kX ij q.ek nm=cu at *
   by_cases l:x.kind=2
   .simp only[Nc,l]at hU Z;cases bb with
    |true =>
     rw[if_pos ⟨l,rfl⟩];simp(disch:=omega)[uT,ca 120,F,hD,ca 206,hN,Z,ca 207,hE,hx0,hU,hUl,hUt,ca 209,hC,a0,lq,agp]at b;exact b.symm
    |false =>
     rw[if_neg (λh=>by cases h.2),if_neg (λh=>h rfl)]
     simp(disch:=omega)[uT,ca 120,F,hD,ca 206,hN,Z,ca 207,hE,hx0,hU,hUl,hUt,ca 209,hC,a0,lq,agp]at b
     by_cases c175:(¬to=dir->q.ek.length<64)/\H+1<=12
     case neg =>
      have X:¬((¬to=dir->(q.ek.length:Int)<64)/\(H:Int)+1<=12):=λh=>c175 ⟨λh'=>by have:=h.1 h';omega,by have:=h.2;omega⟩
      rw[if_neg X]at b
      rw[if_pos (by
       by_cases h1:12<=H
       .exact .inr (.inl h1)
       .refine .inl ⟨rfl,?_⟩
        by_cases h2:to=dir
        .exact absurd ⟨λh=>absurd h2 h,aa⟩ c175
        .exact⟨h2,by
          by_cases h3:q.ek.length<64
          .exact absurd ⟨λ_=>h3,aa⟩ c175
          .omega⟩)]
      exact b.symm
     have X:((¬to=dir->(q.ek.length:Int)<64)/\(H:Int)+1<=12):=⟨λh'=>by have:=c175.1 h';omega,by have:=c175.2;omega⟩
     rw[if_pos X]at b;have Lm:jK t e.ino=0:=nh.2 ⟨x,hx,l⟩;have B3:Bx (M++[.var (Nc q),.var (Nc x),.var (Nc x),.var [I 0,I 0,I 0,.en false [],.en false [],I 0],.lu 0 1 m]) 1 t:=G1.bx.app rfl;obtain⟨Y2,S,G2⟩:=abr (n:=155) af t w Lm ((H:Int)+1) aa B3
     rw[B8]at S;simp only[Nc,l]at S;have lY1:2<=M.length:=l1;have e0:Y2[0]? = some (.var [.en false [],.int .i64 0,.int .i64 0]):=G2.keep ah af (by rw[aI aa];exact(aF aa).trans (congrArg some a0))
     have ex:Y2[M.length+2]? = some (.var (Nc x)):=G2.keep ah aa (by rw[aQ aa];simp)
     have ey:Y2[M.length+3]? = some (.var [I 0,I 0,I 0,.en false [],.en false [],I 0]):=G2.keep ah aa (by rw[aQ aa];simp)
     have f0:=(az.1 e0);obtain⟨f0,g0⟩:=f0
     by_cases W:12<high t e.ino ((H:Int)+1)
     .rw[if_pos (.inr (.inr (.inl ⟨l,W⟩)))];simp(disch:=omega)[S,W,g0]at b;exact b.symm
     .have b1:=G2.bx.get;have b1l:=G2.bx.lt
      by_cases v:1099511627776<=t.gr
      .rw[if_pos (.inr (.inr (.inr v)))];simp(disch:=omega)[S,W,v,g0,b1]at b;exact b.symm
      .rw[if_neg (by
        rintro(⟨_,h1,h2⟩ | h1 | ⟨_,h1⟩ | h1)
        .have:=c175.1 h1;omega
        .omega
        .exact W h1
        .exact v h1)]
       have hno:jd q nm=none:=Wt;obtain⟨qq,O,hst⟩:=zx jI w p1 p2 SD q1 q2 hx (nm:=nm) (λL h=>by rw[hno]at h;cases h)
       have hqn:=(hst.resolve_right (by
        rintro⟨L,_,h,_⟩
        rw[hno]at h;cases h)).2
       have K:=(w.wf.dir _ _ p1 p2).2;have adV:=K.len;have ajd:e.ino≠to:=λh=>by have:=hxb h;cases this
       have S2:=w.wf.KS;obtain⟨Ya,T,N⟩:=GU (n:=155) af t hs hl p1 K.jh aa SD G2.bx
       have fx:=N.keep (az.1 ex).1 aa ex
       have fy:=N.keep (az.1 ey).1 aa ey
       have fz:=N.keep f0 af e0
       obtain⟨fxl,fxg⟩:=az.1 fx;obtain⟨fyl,fyg⟩:=az.1 fy;obtain⟨fzl,fzg⟩:=az.1 fz;have Bs:=N.bx.Ut (j:=M.length+2) aa (A:=.var (Nc {x with up:=to})) rfl
       obtain⟨Yb,h26,Gb⟩:=Em (m:=155) af (left t dir s) O.jh (by have:=O.len;omega) {x with up:=to} Bs
       have D2s:kI (iD (left t dir s) {x with up:=to}).nodes:=mZ O.jh
       have D2l:=tq O.jh {x with up:=to}
       have D2f:find (iD (left t dir s) {x with up:=to}).nodes to=some qq:=by rw[jM O.jh,if_neg (by simp only;omega)];exact O.at_
       obtain⟨Yc,U,Gc⟩:=JS (n:=155) af (iD (left t dir s) {x with up:=to}) D2s (by have:=O.len;omega) D2f O.es (by have:=O.el;omega) hqn (by show 0<=t.gr;omega) (by show t.gr<=4398046511104;omega) e.ino Gb.bx
       have gy:=Gc.keep (j:=M.length+3) (by have:=Gb.le;rw[dM]at this;omega) aa (Gb.keep (j:=M.length+3) (ak fyl) aa (by rw[aL aa];exact fy))
       have gz:=Gc.keep (j:=0) (by have:=Gb.le;rw[dM]at this;omega) af (Gb.keep (j:=0) (ak fzl) af (by rw[aL aa];exact fz))
       obtain⟨gyl,gyg⟩:=az.1 gy;obtain⟨gzl,gzg⟩:=az.1 gz;have gt:=Gc.bx.get;have gtl:=Gc.bx.lt
       have Kw:sy ij t dir s to nm e.ino 0=iT ij (iD (left t dir s) {x with up:=to}) to nm e.ino:=by
        unfold sy;simp only[iy hx,l,if_true,ne_eq,not_true_eq_false,if_false]
       rw[Kw];generalize iT ij (iD (left t dir s) {x with up:=to}) to nm e.ino=t3 at *
       simp only[Nc,Nd,l]at T h26 U fxg;simp(disch:=omega)[S,W,v,b1,T,fxg,h26,U,gt,gyg,gzg]at b;exact b.symm
   .rw[if_neg (λh=>l h.1),if_neg (λh=>h rfl)]
    simp only[Nc]at hU Z;simp(disch:=omega)[uT,ca 120,F,hD,ca 206,hN,Z,ca 207,hE,hx0,hU,l,a0,lq,agp]at b
    by_cases c175:(¬to=dir->q.ek.length<64)/\H+1<=12
    case neg =>
     have X:¬((¬to=dir->(q.ek.length:Int)<64)/\(H:Int)+1<=12):=λh=>c175 ⟨λh'=>by have:=h.1 h';omega,by have:=h.2;omega⟩
     rw[if_neg X]at b
     rw[if_pos (by
      by_cases h1:12<=H
      .exact .inr (.inl h1)
      .refine .inl ⟨rfl,?_⟩
       by_cases h2:to=dir
       .exact absurd ⟨λh=>absurd h2 h,aa⟩ c175
       .exact⟨h2,by
         by_cases h3:q.ek.length<64
         .exact absurd ⟨λ_=>h3,aa⟩ c175
         .omega⟩)]
     exact b.symm
    have X:((¬to=dir->(q.ek.length:Int)<64)/\(H:Int)+1<=12):=⟨λh'=>by have:=c175.1 h';omega,by have:=c175.2;omega⟩
    rw[if_pos X]at b;have B3:Bx (M++[.var (Nc q),.var (Nc x),.var (Nc x),.var [I 0,I 0,I 0,.en false [],.en false [],I 0],.row 0 1 m]) 1 t:=G1.bx.app rfl;have b1:=G1.bx.get;have b1l:=G1.bx.lt
    by_cases v:1099511627776<=t.gr
    .rw[if_pos (.inr (.inr (.inr v)))];simp(disch:=omega)[v,a0,b1,lq,agp]at b;exact b.symm
    .rw[if_neg (by
      rintro(⟨_,h1,h2⟩ | h1 | ⟨h1,_⟩ | h1)
      .have:=c175.1 h1;omega
      .omega
      .exact l h1
      .exact v h1)]
     have hno:jd q nm=none:=Wt;obtain⟨qq,O,hst⟩:=zx jI w p1 p2 SD q1 q2 hx (nm:=nm) (λL h=>by rw[hno]at h;cases h)
     have hqn:=(hst.resolve_right (by
      rintro⟨L,_,h,_⟩
      rw[hno]at h;cases h)).2
     have K:=(w.wf.dir _ _ p1 p2).2;have adV:=K.len;have S2:=w.wf.KS;have lY1:2<=M.length:=l1;obtain⟨Ya,T,N⟩:=GU (n:=155) af t hs hl p1 K.jh aa SD B3
     have fy:Ya[M.length+3]? = some (.var [I 0,I 0,I 0,.en false [],.en false [],I 0]):=N.keep ah aa (by rw[aQ aa];simp)
     have fz:Ya[0]? = some (.var [.en false [],.int .i64 0,.int .i64 0]):=N.keep ah af (by rw[aI aa];exact(aF aa).trans (congrArg some a0))
     have fxl:M.length+2<Ya.length:=by have:=N.le;simp at this;omega
     have fx:Ya[M.length+2]? = some (.var (Nc x)):=N.keep ah aa (by rw[aQ aa];simp)
     obtain⟨fxl,fxg⟩:=az.1 fx;obtain⟨Yc,U,Gc⟩:=JS (n:=155) af (left t dir s) O.jh (by have:=O.len;omega) O.at_ O.es (by have:=O.el;omega) hqn (by show 0<=t.gr;omega) (by show t.gr<=4398046511104;omega) e.ino N.bx
     have gy:=Gc.keep (j:=M.length+3) (az.1 fy).1 aa fy
     have gz:=Gc.keep (j:=0) (az.1 fz).1 af fz
     obtain⟨gyl,gyg⟩:=az.1 gy;obtain⟨gzl,gzg⟩:=az.1 gz;have gt:=Gc.bx.get;have gtl:=Gc.bx.lt
     have Kw:sy ij t dir s to nm e.ino 0=iT ij (left t dir s) to nm e.ino:=by
      unfold sy;simp only[iy hx,l,if_false,ne_eq,not_true_eq_false]
     rw[Kw];generalize iT ij (left t dir s) to nm e.ino=t3 at *
     simp only[Nc]at T U fxg;simp(disch:=omega)[v,b1,T,fxg,l,U,gt,gyg,gzg]at b;exact b.symm
end Go.Proofs.YtahlmpbhfljalaaGreatDoor
