/- Part of the proof that TopTwoPartsCard holds. -/
import Derived.Test.YtghgbehknhmnaaaGreatDoorU30a
set_option linter.all false
namespace Go.Proofs.YtghgbehknhmnaaaGreatDoor
open Go.Am Go.Tr
def oq:∀l:au,oC (l.map B)=some l
 | []=>rfl
 |b::l=>by simp[oC,oq l]
def Dl{α:Type}[DecidableEq α]:∀ {a b:List α},a.length=b.length->((a.zip b).all (λx=>decide (x.1=x.2))=true↔a=b)
 | [],[],_=>ai
 |x::a,y::b,h=>by
  have:=Dl (a:=a) (b:=b) (an h)
  simp only[dZ,bV,aF,this,decide_eq_true_eq,dM]
def ajG{Γ:jE}(a b:List Tr.Ent)(hl:a.length=b.length)(v:a.length<=1000)(f g:Bool)(e0:Env)(h0:e0 0 = .b9 f (a.map En))(h1:e0 1 = .b9 g (b.map En)):
  iter (round Γ [5] [(.exit 0,[]),(.ret,[4])] tN e0 0 []) ([.int .i64 0],[])=some (if (a.zip b).all (λx=>decide (x.1=x.2))=true then(.exit 0,[],[])else(.ret,[.bool false],[])) :=
 wI (f:=round Γ [5] [(.exit 0,[]),(.ret,[4])] tN e0 0 []) (λi=>([.int .i64 i],[])) a b hl (λx y=>decide (x=y)) _ _
  (λi r q=>by
   obtain⟨x,l⟩:∃x,x=a[i]:=⟨_,rfl⟩;obtain⟨y,h⟩:∃y,y=b[i]:=⟨_,rfl⟩;rw[<-l,<-h];obtain⟨x1,x2,x3⟩:=x;obtain⟨y1,y2,y3⟩:=y
   by_cases n:x1=y1
   .by_cases o : x2 = y2
    .by_cases c3:x3=y3
     .simp(disch:=omega)[round_eq,tN,h0,h1,<-l,<-h,iU,n,o,c3]
     .simp(disch:=omega)[round_eq,tN,h0,h1,<-l,<-h,iU,n,o,c3]
    .simp(disch:=omega)[round_eq,tN,h0,h1,<-l,<-h,iU,n,o]
   .simp(disch:=omega)[round_eq,tN,h0,h1,<-l,<-h,iU,n])
  (by simp(disch:=omega)[round_eq,tN,h0])
variable{n:Nat}
def ah2(o:199<n)(a b:List Tr.Ent)(f g:Bool)(r:a.length<=1000)(q:b.length<=1000):
  (en.cz n).p 142 [.b9 f (a.map En),.b9 g (b.map En)]=some (.bool (decide (a=b))):=by
 rw[pp 142 rfl o rfl,b8,b6]
 by_cases hl:a.length=b.length
 .have l:=Dl hl;simp(disch:=omega)[YE,hl];rw[ajG a b hl af f g _ aq aq]
  by_cases i:a=b
  .rw[if_pos (l.2 i)];simp(disch:=omega)[i]
  .rw[if_neg (λh=>i (l.1 h))]
   simp(disch:=omega)[i]
 .have i:a≠b:=λh=>hl (by rw[h])
  simp(disch:=omega)[YE,i]
def jy(q:Tr.Node):Tr.Node:={q with fd:=true,fe:=true}
def s79(E:200<n)(x y:Tr.Node)(A:x.b7.length<=1000)(z:y.b7.length<=1000):
  (en.cz n).p 79 [Nd x,Nd y]=some (.bool (decide (jy x=jy y))):=by
 rw[pp 79 rfl E rfl,b8,b6];have r:=ah2 (n:=200) ah x.b7 y.b7 false false A z
 have o:=oq x.data;have q:=oq y.data
 have h:∀x y:Tr.Node,jy x=jy y↔x.ino=y.ino/\x.kind=y.kind/\x.links=y.links/\x.up=y.up/\x.data=y.data/\x.b7=y.b7:=λx y=>by
  unfold jy;rw[Tr.Node.mk.injEq]
  constructor
  .rintro⟨h1,h2,h3,_,h4,_,h5,h6⟩;exact⟨h1,h2,h3,h6,h4,h5⟩
  .rintro⟨h1,h2,h3,h6,h4,h5⟩;exact⟨h1,h2,h3,rfl,h4,rfl,h5,h6⟩
 have i:decide (jy x=jy y)=decide (x.ino=y.ino/\x.kind=y.kind/\x.links=y.links/\x.up=y.up/\x.data=y.data/\x.b7=y.b7):=decide_eq_decide.2 (h x y);rw[i];clear i h;obtain⟨x1,x2,x3,x4,x5,x6,x7,x8⟩:=x;obtain⟨y1,y2,y3,y4,y5,y6,y7,v⟩:=y;simp only at r o q
 by_cases b:x1=y1
 .by_cases l : x2 = y2
  .by_cases c3 : x3 = y3
   .by_cases c4 : x8 = v
    .by_cases c5:x5=y5
     .subst c5;simp(disch:=omega)[X4,b,l,c3,c4,o,j9,ca 142,r]
     .simp(disch:=omega)[X4,b,l,c3,c4,o,q,j9,c5]
    .simp(disch:=omega)[X4,b,l,c3,c4]
   .simp(disch:=omega)[X4,b,l,c3]
  .simp(disch:=omega)[X4,b,l]
 .simp(disch:=omega)[X4,b]
def ajH(E:200<n)(a b:List Tr.Node)(hl:a.length=b.length)(F:a.length<=1000)(v:∀q∈a,q.b7.length<=1000)(r:∀q∈b,q.b7.length<=1000)(f g:Bool)(e0:Env)(h0:e0 0 = .b9 f (a.map Nd))(h1:e0 1 = .b9 g (b.map Nd)):
  iter (round (en.cz n) [5] [(.exit 0,[]),(.ret,[4])] yu e0 0 []) ([.int .i64 0],[])=some (if (a.zip b).all (λx=>decide (jy x.1=jy x.2))=true then(.exit 0,[],[])else(.ret,[.bool false],[])) :=
 wI (f:=round (en.cz n) [5] [(.exit 0,[]),(.ret,[4])] yu e0 0 []) (λi=>([.int .i64 i],[])) a b hl (λx y=>decide (jy x=jy y)) _ _
  (λi A o=>by
   obtain⟨x,l⟩:∃x,x=a[i]:=⟨_,rfl⟩;obtain⟨y,h⟩:∃y,y=b[i]:=⟨_,rfl⟩;rw[<-l,<-h];have z:=s79 (n:=n) af x y (by rw[l];exact v _ (aP A)) (by rw[h];exact r _ (aP o))
   simp only[Nd]at z
   by_cases c:jy x=jy y
   .simp(disch:=omega)[round_eq,yu,h0,h1,<-l,<-h,z,c]
   .simp(disch:=omega)[round_eq,yu,h0,h1,<-l,<-h,z,c])
  (by simp(disch:=omega)[round_eq,yu,h0])
def wW:∀ {a b:List Tr.Node},a.length=b.length->((a.zip b).all (λx=>decide (jy x.1=jy x.2))=true↔a.map jy=b.map jy)
 | [],[],_=>ai
 |x::a,y::b,h=>by
  have:=wW (a:=a) (b:=b) (an h)
  simp only[dZ,bV,aF,this,decide_eq_true_eq,bN,dM]
def ah3(v:201<n)(a b:List Tr.Node)(y:a.length<=1000)(x:b.length<=1000)(o:∀q∈a,q.b7.length<=1000)(l:∀q∈b,q.b7.length<=1000)(f g:Bool):
  (en.cz n).p 141 [.b9 f (a.map Nd),.b9 g (b.map Nd)]=some (.bool (decide (a.map jy=b.map jy))):=by
 rw[pp 141 rfl v rfl,b8,b6]
 by_cases hl:a.length=b.length
 .have r:=wW hl;simp(disch:=omega)[YF,hl];rw[ajH ah a b hl af o l f g _ aq aq]
  by_cases i:a.map jy=b.map jy
  .rw[if_pos (r.2 i)];simp(disch:=omega)[i]
  .rw[if_neg (λh=>i (r.1 h))]
   simp(disch:=omega)[i]
 .have i:a.map jy≠b.map jy:=λh=>hl (by have:=congrArg List.length h;simpa using this)
  simp(disch:=omega)[YF,i]
def qO(a b:Tr.Tree):Bool:=decide (a.next=b.next)&&(decide (a.ek=b.ek)&&decide (a.nodes.map jy=b.nodes.map jy))
def s78(q:202<n)(a b:Tr.Tree)(l:Bt a)(i:Bt b):(en.cz n).p 78 [Tv a,Tv b]=some (.bool (qO a b)):=by
 rw[pp 78 rfl q rfl,b8,b6];have r:=ah3 (n:=202) ah a.nodes b.nodes l.len i.len l.b7 i.b7 false false
 unfold qO
 by_cases h:a.next=b.next
 .by_cases o:a.ek=b.ek
  .simp(disch:=omega)[c78,h,o,ca 141,r]
  .simp(disch:=omega)[c78,h,o]
 .simp(disch:=omega)[c78,h]
variable{n:Nat}
@[simp]def Hv(x:Ho):AV:=.agg [.int .i64 x.c,.int .i64 x.h,.int .i64 x.ino]
@[simp]def P8(l:List Ho):jw 3 (l.map Hv)=true:=by simp[jw]
def abp(b:12<n)(x:Ho):(en.cz n).p 254 [Hv x]=some (.agg [I x.c,I x.h]):=by
 rw[pp 254 rfl b rfl,b8,b6];simp(disch:=omega)[ae6]
def ahO(r:69<n)(c h:Int):(en.cz n).p 200 [.agg [I c,I h]]=some (.bool (Kx c h)):=by
 rw[pp 200 rfl r rfl,b8,b6];unfold Kx
 by_cases o:0<=c
 .by_cases q : c < 16
  .by_cases i : 0 <= h
   .by_cases l : h < 100
    .have b:h<=99:=by omega
     simp(disch:=omega)[Lm,o,q,i,l,b]
    .have b:¬h<=99:=by omega
     simp(disch:=omega)[Lm,o,q,i,l,b]
   .simp(disch:=omega)[Lm,o,q,i]
  .simp(disch:=omega)[Lm,o,q]
 .simp(disch:=omega)[Lm,o]
def ajj{Γ:jE}(a b:Int)(f:Bool)(e0:Env)(h3:e0 3 = .int .i64 0)(h6:e0 6 = .b9 f [I a,I b])(h:e0 7 = .int .i64 2):
  iter (round Γ [8] [(.exit 0,[]),(.ret,[2])] tG e0 0 []) ([.int .i64 0],[])=some (if a=0 then(if b=0 then(.exit 0,[],[])else(.ret,[I b],[]))else(.ret,[I a],[])):=by
 rw[iter_eq]
 by_cases l:a=0
 .by_cases i:b=0
  .subst l;subst i;simp(disch:=omega)[round_eq,tG,h3,h6,h];rw[iter_eq];simp(disch:=omega)[round_eq,tG,h3,h6,h];rw[iter_eq];simp(disch:=omega)[round_eq,tG,h]
  .subst l;simp(disch:=omega)[round_eq,tG,h3,h6,h,i];rw[iter_eq];simp(disch:=omega)[round_eq,tG,h3,h6,h,i]
 .simp(disch:=omega)[round_eq,tG,h3,h6,h,l]
def aht(o:13<n)(a b:Int)(f:Bool):(en.cz n).p 255 [.b9 f [I a,I b]]=some (I (if a≠0 then a else b)):=by
 rw[pp 255 rfl o rfl,b8,b6];have h:=ajj (Γ:=en.cz 13) a b f;simp(disch:=omega)[ae5];rw[h _ aq aq aq]
 by_cases i:a=0
 .by_cases l:b=0
  .simp(disch:=omega)[i,l]
  .simp(disch:=omega)[i,l]
 .simp(disch:=omega)[i]
def Ei(c h:Int)(x:Ho):Int:=if oa x.c c≠0 then oa x.c c else oa x.h h
def RK(c h:Int)(x:Ho):Ei c h x<0↔jx c h x=true:=by
 unfold Ei jx;rw[decide_eq_true_eq]
 by_cases h1:x.c=c
 .rw[if_neg (by simpa using(nj x.c c).2 h1),qt]
  omega
 .rw[if_pos (λh=>h1 ((nj x.c c).1 h)),qt]
  omega
def JH(c h:Int)(x:Ho):Ei c h x=0↔nZ c h x=true:=by
 unfold Ei nZ;rw[decide_eq_true_eq]
 by_cases h1:x.c=c
 .rw[if_neg (by simpa using(nj x.c c).2 h1),nj]
  omega
 .rw[if_pos (λh=>h1 ((nj x.c c).1 h)),nj]
  omega
def UE(i:14<n)(c h:Int)(x:Ho)(a b:Int):(en.cz n).p 202 [.agg [I c,I h],Hv x,.agg [I a,I b]]=some (I (Ei c h x)):=by
 rw[pp 202 rfl i rfl,b8,b6];have h1:=Zq (n:=14) ah x.c c
 have h2:=Zq (n:=14) ah x.h h
 have h3:=λf=>aht (n:=14) ah (oa x.c c) (oa x.h h) f
 have h4:=abp (n:=14) ah x
 unfold Ei;generalize oa x.c c=u at *
 generalize oa x.h h=v at *
 simp only[Hv]at h4;simp(disch:=omega)[afs,ca 254,h4,h1,h2,h3]
def ahM(l:15<n)(c h:Int)(x:Ho):(en.cz n).p 207 [.agg [I c,I h],Hv x]=some (.bool (nZ c h x)):=by
 rw[pp 207 rfl l rfl,b8,b6];have h4:=abp (n:=15) ah x
 simp only[Hv]at h4;unfold nZ;obtain⟨x1,x2,x3⟩:=x;simp only at h4
 by_cases i:x1=c
 .subst i
  by_cases b:x2=h
  .subst b;simp(disch:=omega)[RY,h4,iU]
  .simp(disch:=omega)[RY,h4,iU,b]
 .simp(disch:=omega)[RY,h4,iU,i]
def ajs(E:14<n)(l:List Ho)(hs:qh l)(hl:l.length<=1000)(f:Bool)(c h:Int)(e0:Env)(h0:e0 0 = .b9 f (l.map Hv))(h4:e0 4 = .iV [I c,I h])(h2:e0 2 = .fn (.func 202) [.agg [I c,I h]] [])(X:AH)(A:X.all gd=true):
  iter (round (en.cz n) [9,10] [(.exit 0,[9])] ya e0 X.length []) ([.int .i64 0,.int .i64 l.length],X)=some (.exit 0,[.int .i64 (kg (jx c h) l:Nat)],X) :=
 wH (f:=round (en.cz n) [9,10] [(.exit 0,[9])] ya e0 X.length []) (λi j=>([.int .i64 (i:Int),.int .i64 (j:Int)],X)) l.length (kg (jx c h) l) (lK _ _) (λc=>(.exit 0,[.int .i64 (c:Int)],X))
  (λa j G H=>by
   have y:=Jk (i:=a) (j:=j);obtain⟨m,v⟩:∃m,m=(a+j) / 2:=⟨_,rfl⟩;rw[<-v]at y⊢;have F:m<l.length:=af
   have b:=tv hs c h F;obtain⟨x,r⟩:∃x,x=l[m]:=⟨_,rfl⟩;rw[<-r]at b;have z:=UE (n:=n) E c h x c h;have q:=RK c h x;simp only[Hv]at z;generalize Ei c h x=ci at *
   by_cases h:m<kg (jx c h) l
   .have o:ci<0:=q.2 (b.1 h);simp(disch:=omega)[round_eq,ya,h0,h4,h2,wrap_u64,y,<-r,ca 202,z,h,o,jv _ _ X _ A]
   .have o:¬ci<0:=λh'=>h (b.2 (q.1 h'))
    simp(disch:=omega)[round_eq,ya,h0,h4,h2,wrap_u64,y,<-r,ca 202,z,h,o,jv _ _ X _ A])
  (λa K=>by simp(disch:=omega)[round_eq,ya]) _ 0 l.length rfl (aT _) (lK _ _) (aV _)
def ahN(v:70<n)(l:List Ho)(hs:qh l)(hl:l.length<=1000)(f:Bool)(c h:Int)(X:AH)(r:X.all gd=true):
  eT (en.cz n) 201 [.b9 f (l.map Hv),.agg [I c,I h],.fn (.func 202) [.agg [I c,I h]] []] X=some (.jg [I (kg (jx c h) l:Nat),.bool (l.any (nZ c h))],X):=by
 rw[ph 201 rfl v rfl,b6];have h1:=λe0 h0 h1 h2=>ajs (n:=70) ah l hs hl f c h e0 h0 h1 h2 X r
 have o:=K8 hs c h;simp(disch:=omega)[aft,jv _ _ X _ r];rw[h1 _ aq aq aq]
 generalize kg (jx c h) l=k at *
 rcases o with⟨hk,q,o⟩ | ⟨o,q⟩
 .rw[o];obtain⟨x,i⟩:∃x,x=l[k]:=⟨_,rfl⟩;have hg:=UE (n:=70) ah c h x c h
  have b:=(JH c h x).2 (by rw[i];exact q)
  rw[b]at hg;simp only[Hv]at hg;simp(disch:=omega)[<-i,ca 202,hg]
 .rw[o]
  by_cases hk:k<l.length
  .obtain⟨x,i⟩:∃x,x=l[k]:=⟨_,rfl⟩;have hg:=UE (n:=70) ah c h x c h
   have b:¬Ei c h x=0:=λh'=>by
    have h1:=(JH c h x).1 h';have h2:=q hk;rw[i]at h1;rw[h1]at h2;cases h2
   generalize Ei c h x=ci at *
   simp only[Hv]at hg;simp(disch:=omega)[<-i,ca 202,hg,b]
  .simp(disch:=omega)
def DU(l:List Ho)(q:Ho->Bool):Int:=(l.find? q).elim (-1) λ_=>((l.findIdx q:Nat):Int)
def ajr{Γ:jE}(l:List Ho)(hl:l.length<=1000)(f:Bool)(g:FuncId)(first cap:List AV)(q:Ho->Bool)(X:AH)(r:X.all gd=true)(hg:∀x∈l,eT Γ g (first++Hv x::cap) X=some (.bool (q x),X))(e0:Env)(h0:e0 0 = .b9 f (l.map Hv))(n:e0 7 = .int .i64 l.length)(h1:e0 1 = .fn (.func g) first cap):
  iter (round Γ [8] [(.exit 0,[]),(.ret,[4])] xZ e0 X.length []) ([.int .i64 0],X)=some ((l.find? q).elim (.exit 0,[],X) λ_=>(.ret,[.int .i64 (l.findIdx q:Nat)],X)) :=
 pE (f:=round Γ [8] [(.exit 0,[]),(.ret,[4])] xZ e0 X.length []) (λi=>([.int .i64 (i:Int)],X)) l q (λk _=>(.ret,[.int .i64 (k:Int)],X)) (.exit 0,[],X)
  (λk hk=>by
   have h:=hg _ (aP hk);obtain⟨y,b⟩:∃y,y=l[k]:=⟨_,rfl⟩;rw[<-b]at h⊢;simp only[Hv]at h;cases o:q y with
   |true =>
    rw[o]at h;simp(disch:=omega)[round_eq,xZ,h0,n,h1,<-b,h]
   |false =>
    rw[o]at h;simp(disch:=omega)[round_eq,xZ,h0,n,h1,<-b,h,jv _ _ X _ r])
  (by simp(disch:=omega)[round_eq,xZ,n])
variable{n:Nat}
def abx(i:84<n)(l:List Ho)(hl:l.length<=1000)(f:Bool)(g:FuncId)(first cap:List AV)(q:Ho->Bool)(X:AH)(b:X.all gd=true)(hg:∀x∈l,eT (en.cz 84) g (first++Hv x::cap) X=some (.bool (q x),X)):
  eT (en.cz n) 206 [.b9 f (l.map Hv),.fn (.func g) first cap] X=some (I (DU l q),X):=by
 rw[ph 206 rfl i rfl,b6];have h:=ajr (Γ:=en.cz 84) l hl f g first cap q X b hg;unfold DU;simp(disch:=omega)[afr,jv _ _ X _ b];rw[h _ aq aq aq]
 cases l.find? q with
 |none=>simp(disch:=omega)
 |some y=>simp(disch:=omega)
def abE(v:106<n)(l:List Ho)(hl:l.length<=1000)(f:Bool)(g:FuncId)(first cap:List AV)(q:Ho->Bool)(X:AH)(z:X.all gd=true)(hg:∀x∈l,eT (en.cz 84) g (first++Hv x::cap) X=some (.bool (q x),X)):
  eT (en.cz n) 176 [.b9 f (l.map Hv),.fn (.func g) first cap] X=some (.bool (l.any q),X):=by
 rw[ph 176 rfl v rfl,b6];have h:=abx (n:=106) ah l hl f g first cap q X z hg
 unfold DU at h;cases b:l.find? q with
 |none =>
  rw[b]at h;have i:l.any q=false:=by
   rw[<-eD,ct]
   rintro⟨x,o,r⟩
   exact(cD.1 b x o) r
  simp(disch:=omega)[Yy,h,i]
 |some y =>
  rw[b]at h;have i:l.any q=true:=ct.2 ⟨y,bI b,cL b⟩;simp(disch:=omega)[Yy,h,i]
def ahs(b:20<n)(x:Ho)(i:Int)(X:AH)(k:Nat)(hk:X[k]? = some (.var [I i])):eT (en.cz n) 258 [Hv x,.ptr k 0 0 0] X=some (.bool (decide (x.ino=i)),X):=by
 rw[ph 258 rfl b rfl,b6];simp(disch:=omega)[ae4,hk]
def ahL(b:112<n)(l:List Ho)(hl:l.length<=1000)(f:Bool)(i:Int):(en.cz n).p 209 [.b9 f (l.map Hv),I i]=some (.bool (rU l i)):=by
 rw[pp 209 rfl b rfl,b8,b6];have h:=abE (n:=112) ah l hl f 258 [] [.ptr 0 0 0 0] (λx=>decide (x.ino=i)) [.var [I i]] rfl (λx _=>ahs (n:=84) ah x i _ 0 rfl)
 unfold rU;simp(disch:=omega)[afq,h]
def UD(i:71<n)(q:Tr.Node):(en.cz n).p 203 [Nd q]=some (.bool (mS q)):=by
 rw[pp 203 rfl i rfl,b8,b6];unfold mS
 by_cases b:q.kind=1
 .by_cases h:q.links=0
  .simp(disch:=omega)[RZ,b,h]
  .simp(disch:=omega)[RZ,b,h]
 .simp(disch:=omega)[RZ,b]
def abm(b:84<n)(l:List Ho)(hl:l.length<=1000)(f:Bool)(c h:Int)(X:AH)(i:X.all gd=true):
  eT (en.cz n) 206 [.b9 f (l.map Hv),.fn (.func 207) [.agg [I c,I h]] []] X=some (I (DU l (nZ c h)),X) :=
 abx b l hl f 207 [.agg [I c,I h]] [] (nZ c h) X i (λx _=>by
  have h4:=ahM (n:=84) ah c h x
  simp only[Hv]at h4;simp(disch:=omega)[ca 207,h4])
def wB{l:List Ho}{q:Ho->Bool}{y:Ho}(b:l.find? q=some y):∃k:Nat,DU l q=k/\l.findIdx q=k/\k<l.length/\l[k]? = some y:=by
 have h:l.findIdx q<l.length:=cT ⟨y,bI b,cL b⟩;refine⟨l.findIdx q,by unfold DU;rw[b];rfl,rfl,h,?_⟩
 rw[lu];exact b
def ahK(r:85<n)(l:List Ho)(hl:l.length<=1000)(f:Bool)(c h:Int):(en.cz n).p 214 [.b9 f (l.map Hv),I c,I h]=some (.jg [I (FO l c h).1,I (FO l c h).2]):=by
 rw[pp 214 rfl r rfl,b8,b6];have b:=abm (n:=85) ah l hl f c h [] rfl
 unfold FO;cases q:l.find? (nZ c h)with
 |none =>
  have e:DU l (nZ c h) = -1:=by unfold DU;rw[q];rfl
  rw[e]at b;simp(disch:=omega)[Yq,b]
 |some y =>
  let⟨k,e,_,hk,o⟩:=wB q;have i:y=l[k]:=by rw[aH hk]at o;exact(bB o).symm
  rw[e]at b;simp(disch:=omega)[Yq,b,<-i]
def aia(L:74<n)(t:Tr.Tree)(K:lC t.nodes)(A:t.nodes.length<=1000)(l:List Ho)(hs:qh l)(hl:l.length<=1000)(f:Bool)(c h i:Int):
  (en.cz n).p 127 [Tv t,.b9 f (l.map Hv),I c,I h,I i]=some (.jg [.b9 (f && !decide ((qm t l c h i).2=0)) ((qm t l c h i).1.map Hv),I (qm t l c h i).2]):=by
 rw[pp 127 rfl L rfl,b8,b6];have v:=ahO (n:=74) ah c h
 have r:=BW (n:=74) ah t K A i
 have E:=acs (n:=74) ah
 have F:=aiX (n:=74) ah
 have M:=lK (jx c h) l;unfold qm;cases hk:Kx c h with
 |false =>
  rw[hk]at v;simp(disch:=omega)[GI,ca 200,v]
 |true =>
  rw[hk]at v;unfold lq at r;have y:=λX N=>ahN (n:=74) ah l hs hl f c h X N
  generalize l.any (nZ c h)=u at *
  cases G:find t.nodes i with
  |none =>
   have b:=y [.var [I c,I h],.var [.int .i64 0,.int .i64 0,.int .i64 0,.b9 false [],.b9 false [],.int .i64 0]] rfl;rw[G]at r;simp only[bS,Tv,Nd,jo,aN]at r;generalize kg (jx c h) l=k at *
   simp(disch:=omega)[GI,ca 200,v,ca 182,r,b]
  |some q =>
   have b:=y [.var [I c,I h],.var [.int .i64 q.ino,.int .i64 q.kind,.int .i64 q.links,.b9 false (q.data.map B),.b9 false (q.b7.map En),.int .i64 q.up]] rfl;have x:=UD (n:=74) ah q
   rw[G]at r;simp only[bC,Tv,Nd]at r x
   show _=some (AV.jg [.b9 (f && !decide ((if mS q=true then(l,(70:Int))else if q.kind=2 then(l,72)else if u=true then(l,71)else if 64<=l.length then(l,76)else(uF l ⟨c,h,i⟩,0)).2=0)) ((if mS q=true then(l,(70:Int))else if q.kind=2 then(l,72)else if u=true then(l,71)else if 64<=l.length then(l,76)else(uF l ⟨c,h,i⟩,0)).1.map Hv),I (if mS q=true then(l,(70:Int))else if q.kind=2 then(l,72)else if u=true then(l,71)else if 64<=l.length then(l,76)else(uF l ⟨c,h,i⟩,0)).2])
   generalize mS q=o at *
   cases o with
   |true =>
    generalize kg (jx c h) l=k at *
    simp(disch:=omega)[GI,ca 200,v,ca 182,r,b,ca 203,x]
   |false =>
    by_cases z:q.kind=2
    .rw[z]at r b x;generalize kg (jx c h) l=k at *
     simp(disch:=omega)[GI,ca 200,v,ca 182,r,b,ca 203,x,z]
    .cases u with
     |true =>
      generalize kg (jx c h) l=k at *
      simp(disch:=omega)[GI,ca 200,v,ca 182,r,b,ca 203,x,z]
     |false =>
      by_cases H:64<=l.length
      .generalize kg (jx c h) l=k at *
       simp(disch:=omega)[GI,ca 200,v,ca 182,r,b,ca 203,x,z,H]
      .unfold uF;simp only;generalize kg (jx c h) l=k at *
       simp(disch:=omega)[GI,ca 200,v,ca 182,r,b,ca 203,x,z,H,E,F,jd,kO];rw[aO ak]
def Fg(l:List Ho)(c h:Int)(k:Nat)(hk:l.findIdx (nZ c h)=k):(pq l c h).map Hv=(l.map Hv).take k++(l.map Hv).drop (k+1):=by
 unfold pq;rw[hk];simp
def EL(l:List Ho){k:Nat}(hk:k<l.length):((l.map Hv).take k++(l.map Hv).drop (k+1)).take (k+(l.length-(k+1)))=(l.map Hv).take k++(l.map Hv).drop (k+1):=by
 grind
def abS{n:Nat}(Q:113<n)(t:Tr.Tree)(N:lC t.nodes)(H:t.nodes.length<=1000)(l:List Ho)(hl:l.length<=1000)(f:Bool)(c h:Int):
  (en.cz n).p 128 [Tv t,.b9 f (l.map Hv),I c,I h]=some (.jg [Tv (js t l c h).1,.b9 (f && !decide ((js t l c h).2.2=0)) ((js t l c h).2.1.map Hv),I (js t l c h).2.2]):=by
 rw[pp 128 rfl Q rfl,b8,b6];have F:=abm (n:=113) ah l hl f c h [.var [.b9 false (t.nodes.map Nd),.int .i64 t.next,.int .i64 t.ek],.var [.b9 false [],.int .i64 0,.int .i64 0]] rfl
 have E:=acs (n:=113) ah
 have A:=aiW (n:=113) ah
 unfold js;cases P:l.find? (nZ c h)with
 |none =>
  have e:DU l (nZ c h) = -1:=by unfold DU;rw[P];rfl
  rw[e]at F;simp(disch:=omega)[Lp,F]
 |some y =>
  let⟨k,e,T,hk,M⟩:=wB P;have v:y=l[k]:=by rw[aH hk]at M;exact(bB M).symm
  have z:=Fg l c h k T;have x:=EL l hk
  have K:(pq l c h).length<=1000:=by
   have:=congrArg List.length z;simp at this;omega
  rw[e]at F;have i:=BW (n:=113) ah t N H y.ino
  have G:=ahL (n:=113) ah (pq l c h) K false y.ino
  have L:=abD (n:=113) ah t N H y.ino
  rw[z]at G;show _=some (AV.jg [Tv (if Jh t y.ino=true/\rU (pq l c h) y.ino=false then(free t y.ino).1 else t),.b9 (f && !decide ((0:Int)=0)) ((pq l c h).map Hv),I 0])
  rw[z];generalize rU (pq l c h) y.ino=S at *
  clear z K;have b:Jh t y.ino=(find t.nodes y.ino).elim false mS:=rfl;generalize Jh t y.ino=o at *
  unfold lq at i;cases O:find t.nodes y.ino with
  |none =>
   rw[O]at i b;have b:o=false:=b;subst b;simp only[bS,Tv,Nd,jo,aN]at i;simp(disch:=omega)[Lp,F,<-v,E,A,jd,kP,x,ca 182,i]
  |some q =>
   have r:=UD (n:=113) ah q
   rw[O]at i b;have b:o=mS q:=b;rw[<-b]at r;clear b;simp only[bC,Tv,Nd]at i r L⊢;cases o with
   |false=>simp(disch:=omega)[Lp,F,<-v,E,A,jd,kP,x,ca 182,i,ca 203,r]
   |true =>
    cases S with
    |true=>simp(disch:=omega)[Lp,F,<-v,E,A,jd,kP,x,ca 182,i,ca 203,r,ca 209,G]
    |false=>simp(disch:=omega)[Lp,F,<-v,E,A,jd,kP,x,ca 182,i,ca 203,r,ca 209,G,ca 178,L]
def ajy{Γ:jE}(l:List Ho)(hl:l.length<=1000)(f:Bool)(c h:Int)(e0:Env)(h0:e0 0 = .b9 f (l.map Hv))(h1:e0 1=I c)(h2:e0 2=I h):
  iter (round Γ [7] [(.exit 0,[]),(.ret,[6])] vF e0 0 []) ([.int .i64 0],[])=some ((l.find? (nZ c h)).elim (.exit 0,[],[]) λ_=>(.ret,[.int .i64 (l.findIdx (nZ c h):Nat)],[])) :=
 pE (f:=round Γ [7] [(.exit 0,[]),(.ret,[6])] vF e0 0 []) (λi=>([.int .i64 (i:Int)],[])) l (nZ c h) (λk _=>(.ret,[.int .i64 (k:Int)],[])) (.exit 0,[],[])
  (λk hk=>by
   obtain⟨y,b⟩:∃y,y=l[k]:=⟨_,rfl⟩;rw[<-b];unfold nZ
   by_cases n:y.c=c
   .by_cases o:y.h=h
    .simp(disch:=omega)[round_eq,vF,h0,h1,h2,<-b,n,o]
    .simp(disch:=omega)[round_eq,vF,h0,h1,h2,<-b,n,o]
   .simp(disch:=omega)[round_eq,vF,h0,h1,<-b,n])
  (by simp(disch:=omega)[round_eq,vF,h0])
def UH{n:Nat}(b:230<n)(l:List Ho)(hl:l.length<=1000)(f:Bool)(c h:Int):(en.cz n).p 161 [.b9 f (l.map Hv),I c,I h]=some (I (DU l (nZ c h))):=by
 rw[pp 161 rfl b rfl,b8,b6];have h1:=ajy (Γ:=en.cz 230) l hl f c h;unfold DU;simp(disch:=omega)[afH];rw[h1 _ aq aq aq]
 cases l.find? (nZ c h)with
 |none=>simp(disch:=omega)
 |some y=>simp(disch:=omega)
def HY(l:List Ho)(i:Int):Nat:=(l.filter λx=>decide (x.ino=i)).length
def OK(l:List Ho)(i:Int):((HY l i:Nat):Int)=0↔rU l i=false:=by
 unfold HY rU;rw[<-eD,ct]
 constructor
 .rintro h ⟨x,b,n⟩
  have h0:(l.filter λx=>decide (x.ino=i)).length=0:=af
  have:=bZ (p:=λx:Ho=>decide (x.ino=i)) |>.2 ⟨b,n⟩
  rw[dw]at h0;rw[h0]at this;cases this
 .intro h
  have:(l.filter λx=>decide (x.ino=i))=[]:=by
   rw[gO];exact λx b n=>h ⟨x,b,n⟩
  rw[this];rfl
def ajv{Γ:jE}(l:List Ho)(hl:l.length<=1000)(f:Bool)(i:Int)(e0:Env)(h0:e0 0 = .b9 f (l.map Hv))(h1:e0 1=I i):
  iter (round Γ [5,6] [(.exit 0,[5])] yh e0 0 []) ([.int .i64 0,.int .i64 0],[])=some (.exit 0,[.int .i64 (HY l i:Nat)],[]):=by
 have:=kN (f:=round Γ [5,6] [(.exit 0,[5])] yh e0 0 []) (λk (m:Nat)=>([.int .i64 (m:Int),.int .i64 (k:Int)],[])) l (λm x=>if x.ino=i then m+1 else m) (λm=>(.exit 0,[.int .i64 (m:Int)],[])) (λk m=>m<=k)
  (λk hk m o=>by
   obtain⟨y,h⟩:∃y,y=l[k]:=⟨_,rfl⟩;rw[<-h]
   by_cases b:y.ino=i
   .refine⟨by simp[b];omega,?_⟩
    simp(disch:=omega)[round_eq,yh,h0,h1,<-h,b]
   .refine⟨by simp[b];omega,?_⟩
    simp(disch:=omega)[round_eq,yh,h0,h1,<-h,b])
  (λm o=>by simp(disch:=omega)[round_eq,yh,h0]) 0 (aV _)
 have key:∀(l:List Ho)(m:Nat),l.foldl (λm x=>if x.ino=i then m+1 else m) m=m+HY l i:=by
  intro l
  induction l with
  |nil=>intro m;rfl
  |cons x l n =>
   intro m;rw[bG,n];unfold HY;rw[bO]
   by_cases b:x.ino=i
   .simp[b];omega
   .simp[b]
 rw[key,bW]at this
 simpa using this
def ahY{n:Nat}(b:235<n)(l:List Ho)(hl:l.length<=1000)(f:Bool)(i:Int):(en.cz n).p 165 [.b9 f (l.map Hv),I i]=some (I (HY l i:Nat)):=by
 rw[pp 165 rfl b rfl,b8,b6];have h:=ajv (Γ:=en.cz 235) l hl f i;simp(disch:=omega)[afF];rw[h _ aq aq]
 simp(disch:=omega)
def abL{n:Nat}(r:229<n)(t:Tr.Tree)(v:Bt t)(i:Int):(en.cz n).p 160 [Tv t,I i]=some (.bool (Jh t i)):=by
 rw[pp 160 rfl r rfl,b8,b6];have b:=pT (n:=229) ah t v i
 unfold Jh mS;unfold lq at b;cases l:find t.nodes i with
 |none =>
  rw[l]at b;simp only[bS,Tv,Nd]at b;simp(disch:=omega)[OW,ca 100,b]
 |some q =>
  rw[l]at b;simp only[bC,Tv,Nd]at b
  by_cases h:q.kind=1
  .by_cases o:q.links=0
   .simp(disch:=omega)[OW,ca 100,b,h,o]
   .simp(disch:=omega)[OW,ca 100,b,h,o]
  .simp(disch:=omega)[OW,ca 100,b,h]
def ajK{Γ:jE}(l:List Ho)(hl:l.length<=1000)(f:Bool)(c h:Int)(z:Tr.Node)(e0:Env)(h1:e0 1 = .b9 f (l.map Hv))(h2:e0 2=I c)(h3:e0 3=I h)(X:AH)(q:X.all gd=true)(L:Nat)(v:X.length=L):
  iter (round Γ [14] [(.exit 0,[14])] tO e0 L []) ([.int .i64 0],X)=some (.exit 0,[.int .i64 (kg (jx c h) l:Nat)],X):=by
 subst v
 exact Ob (f:=round Γ [14] [(.exit 0,[14])] tO e0 X.length []) (λi=>([.int .i64 (i:Int)],X)) l (λx=>!jx c h x) (λk=>(.exit 0,[.int .i64 (k:Int)],X))
  (λk hk=>by
   obtain⟨y,b⟩:∃y,y=l[k]:=⟨_,rfl⟩;rw[<-b];unfold jx
   by_cases r:y.c<c
   .simp(disch:=omega)[round_eq,tO,h1,h2,<-b,r,jv _ _ X _ q]
   .by_cases o : y.c = c
    .by_cases n:y.h<h
     .simp(disch:=omega)[round_eq,tO,h1,h2,h3,<-b,o,n,jv _ _ X _ q]
     .simp(disch:=omega)[round_eq,tO,h1,h2,h3,<-b,o,n]
    .simp(disch:=omega)[round_eq,tO,h1,h2,<-b,r,o])
  (by simp(disch:=omega)[round_eq,tO,h1])
def QM(l:List Ho)(q:Ho->Bool):0<=DU l q↔l.any q=true:=by
 unfold DU;cases b:l.find? q with
 |none =>
  have h:l.any q=false:=by
   rw[<-eD,ct]
   rintro⟨x,i,n⟩
   exact(cD.1 b x i) n
  rw[h];simp
 |some y =>
  have h:l.any q=true:=ct.2 ⟨y,bI b,cL b⟩;rw[h];simp
def aim{n:Nat}(S:231<n)(t:Tr.Tree)(P:Bt t)(l:List Ho)(hl:l.length<=1000)(f:Bool)(c h i:Int):
  (en.cz n).p 103 [Tv t,.b9 f (l.map Hv),I c,I h,I i]=some (.jg [.b9 (f && !decide ((qm t l c h i).2=0)) ((qm t l c h i).1.map Hv),I (qm t l c h i).2]):=by
 rw[pp 103 rfl S rfl,b8,b6];have v:=pT (n:=231) ah t P i
 have b:=abL (n:=231) ah t P i
 have F:=UH (n:=231) ah l hl f c h
 have A:=QM l (nZ c h);have L:=lK (jx c h) l;unfold qm;unfold Jh at b;unfold lq at v;have r:Kx c h=decide (0<=c/\c<16/\0<=h/\h<=99):=rfl;cases O:find t.nodes i with
 |none =>
  rw[O]at v b;simp only[bS,Tv,Nd]at v b;cases hk:Kx c h with
  |false =>
   rw[hk]at r
   by_cases x:c<0
   .simp(disch:=omega)[vL,ca 100,v,x]
   .by_cases y : 16 <= c
    .simp(disch:=omega)[vL,ca 100,v,x,y]
    .by_cases E : h < 0
     .simp(disch:=omega)[vL,ca 100,v,x,y,E]
     .have G:99<h:=by
       rcases Int.lt_or_le 99 h with h' | h'
       .exact h'
       .have:=of_decide_eq_false r.symm;exact absurd ⟨af,af,af,h'⟩ this
      simp(disch:=omega)[vL,ca 100,v,x,y,E,G]
  |true =>
   rw[hk]at r;let⟨x,y,E,G⟩:=of_decide_eq_true r.symm;simp(disch:=omega)[vL,ca 100,v]
 |some q =>
  rw[O]at v b;simp only[bC,Tv,Nd]at v b;have M:=λe0 h1 h2 h3=>ajK (Γ:=en.cz 231) l hl f c h q e0 h1 h2 h3 [.var [.int .i64 q.ino,.int .i64 q.kind,.int .i64 q.links,.b9 false (q.data.map B),.b9 false (q.b7.map En),.int .i64 q.up]] rfl 1 rfl
  show _=some (AV.jg [.b9 (f && !decide ((if Kx c h=false then(l,(1:Int))else if mS q=true then(l,70)else if q.kind=2 then(l,72)else if l.any (nZ c h)=true then(l,71)else if 64<=l.length then(l,76)else(uF l ⟨c,h,i⟩,0)).2=0)) ((if Kx c h=false then(l,(1:Int))else if mS q=true then(l,70)else if q.kind=2 then(l,72)else if l.any (nZ c h)=true then(l,71)else if 64<=l.length then(l,76)else(uF l ⟨c,h,i⟩,0)).1.map Hv),I (if Kx c h=false then(l,(1:Int))else if mS q=true then(l,70)else if q.kind=2 then(l,72)else if l.any (nZ c h)=true then(l,71)else if 64<=l.length then(l,76)else(uF l ⟨c,h,i⟩,0)).2])
  have K:uF l ⟨c,h,i⟩=l.take (kg (jx c h) l)++⟨c,h,i⟩::l.drop (kg (jx c h) l):=rfl;rw[K];generalize l.any (nZ c h)=u at *
  generalize DU l (nZ c h)=N at *
  generalize mS q=o at *
  generalize kg (jx c h) l=k at *
  cases hk:Kx c h with
  |false =>
   rw[hk]at r
   by_cases x:c<0
   .simp(disch:=omega)[vL,ca 100,v,x]
   .by_cases y : 16 <= c
    .simp(disch:=omega)[vL,ca 100,v,x,y]
    .by_cases E : h < 0
     .simp(disch:=omega)[vL,ca 100,v,x,y,E]
     .have G:99<h:=by
       rcases Int.lt_or_le 99 h with h' | h'
       .exact h'
       .have:=of_decide_eq_false r.symm;exact absurd ⟨af,af,af,h'⟩ this
      simp(disch:=omega)[vL,ca 100,v,x,y,E,G]
  |true =>
   rw[hk]at r;let⟨x,y,E,G⟩:=of_decide_eq_true r.symm;clear r hk;cases o with
   |true=>simp(disch:=omega)[vL,ca 100,v,ca 160,b]
   |false =>
    by_cases H:q.kind=2
    .simp(disch:=omega)[vL,ca 100,v,ca 160,b,H]
    .cases u with
     |true =>
      have z:0<=N:=A.2 rfl;simp(disch:=omega)[vL,ca 100,v,ca 160,b,H,ca 161,F,z]
     |false =>
      have z:¬0<=N:=λh=>by cases A.1 h
      by_cases Q:64<=l.length
      .simp(disch:=omega)[vL,ca 100,v,ca 160,b,H,ca 161,F,z,Q]
      .simp(disch:=omega)[vL,ca 100,v,ca 160,b,H,ca 161,F,z,Q];rw[M _ aq aq aq]
       simp(disch:=omega)[L];have e1:(List.take k (l.map Hv)).length=k:=by rw[bF,cv];omega
       have T:(List.drop k (l.map Hv)).length=l.length-k:=by rw[bU,cv]
       refine⟨by rw[<-List.map_take];exact P8 _,by rw[<-List.map_drop];exact P8 _,?_⟩
       rw[iD,iK];rw[aO (l:=List.take k (l.map Hv)++[_]) (by rw[aU,e1];simp)]
       rw[aO (by rw[aU,aU,e1,T];simp)]
       rw[cM];rfl
def abX{n:Nat}(Q:236<n)(t:Tr.Tree)(O:Bt t)(l:List Ho)(hl:l.length<=1000)(f:Bool)(c h:Int):
  (en.cz n).p 106 [Tv t,.b9 f (l.map Hv),I c,I h]=some (.jg [Tv (js t l c h).1,.b9 (f && !decide ((js t l c h).2.2=0)) ((js t l c h).2.1.map Hv),I (js t l c h).2.2]):=by
 rw[pp 106 rfl Q rfl,b8,b6];have b:=UH (n:=236) ah l hl f c h
 unfold js;cases N:l.find? (nZ c h)with
 |none =>
  have e:DU l (nZ c h) = -1:=by unfold DU;rw[N];rfl
  rw[e]at b;simp(disch:=omega)[O2,ca 161,b]
 |some y =>
  let⟨k,e,S,hk,M⟩:=wB N;have r:y=l[k]:=by rw[aH hk]at M;exact(bB M).symm
  have i:=Fg l c h k S
  have F:(pq l c h).length<=1000:=by
   have:=congrArg List.length i;simp at this;omega
  rw[e]at b;have q:=abL (n:=236) ah t O y.ino
  have x:=ahY (n:=236) ah (pq l c h) F false y.ino
  have H:=abH (n:=236) ah t O y.ino
  have G:=OK (pq l c h) y.ino;rw[i]at x;show _=some (AV.jg [Tv (if Jh t y.ino=true/\rU (pq l c h) y.ino=false then(free t y.ino).1 else t),.b9 (f && !decide ((0:Int)=0)) ((pq l c h).map Hv),I 0])
  rw[i];generalize rU (pq l c h) y.ino=L at *
  generalize((HY (pq l c h) y.ino:Nat):Int)=P at *
  generalize Jh t y.ino=o at *
  clear i F;have e1:(List.take k (l.map Hv)).length=k:=by rw[bF,cv];omega
  have T:(List.drop (k+1) (l.map Hv)).length=l.length-(k+1):=by rw[bU,cv]
  have E:jw 3 (List.take k (l.map Hv))=true:=by rw[<-List.map_take];exact P8 _
  have A:jw 3 (List.drop (k+1) (l.map Hv))=true:=by rw[<-List.map_drop];exact P8 _
  have z:List.take k (List.take k (l.map Hv))=List.take k (l.map Hv):=by rw[iD,iK]
  have v:=EL l hk;simp only[Tv]at q H⊢;cases o with
  |false=>simp(disch:=omega)[O2,ca 161,b,<-r,E,A,z,v,ca 160,q]
  |true =>
   cases L with
   |true =>
    have K:¬P=0:=λh=>by cases G.1 h
    simp(disch:=omega)[O2,ca 161,b,<-r,E,A,z,v,ca 160,q,ca 165,x,K]
   |false =>
    have K:P=0:=G.2 rfl;simp(disch:=omega)[O2,ca 161,b,<-r,E,A,z,v,ca 160,q,ca 165,x,K,ca 166,H]
def aij{n:Nat}(r:237<n)(l:List Ho)(hl:l.length<=1000)(f:Bool)(c h:Int):(en.cz n).p 107 [.b9 f (l.map Hv),I c,I h]=some (.jg [I (FO l c h).1,I (FO l c h).2]):=by
 rw[pp 107 rfl r rfl,b8,b6];have b:=UH (n:=237) ah l hl f c h
 unfold FO;cases q:l.find? (nZ c h)with
 |none =>
  have e:DU l (nZ c h) = -1:=by unfold DU;rw[q];rfl
  rw[e]at b;simp(disch:=omega)[YK,ca 161,b]
 |some y =>
  let⟨k,e,_,hk,o⟩:=wB q;have i:y=l[k]:=by rw[aH hk]at o;exact(bB o).symm
  rw[e]at b;simp(disch:=omega)[YK,ca 161,b,<-i]
def og(a:ay)(q:Tr.Node):ay:=if mS q=true then a++[q.ino]else a
def Qy(l:List Tr.Node):∀a:ay,l.foldl og a=a++(l.filter mS).map Tr.Node.ino:=by
 induction l with
 |nil=>intro a;simp
 |cons q l b =>
  intro a;rw[bG,b,bO];unfold og;cases mS q<;>simp
def ajt{n:Nat}(r:71<n)(t:Tr.Tree)(hl:t.nodes.length<=1000)(e0:Env)(l:e0 7 = .b9 false (t.nodes.map Nd))(h8:e0 8 = .int .i64 t.nodes.length):
  iter (round (en.cz n) [3,9] [(.exit 0,[3])] yc e0 1 [0]) ([.own 0 0 0 0,.int .i64 0],[.row 0 1 []])=some (.exit 0,[.own 0 0 0 (qW t).length],[.row 0 1 ((qW t).map I)]):=by
 have:=kN (f:=round (en.cz n) [3,9] [(.exit 0,[3])] yc e0 1 [0]) (λi (a:ay)=>([.own 0 0 0 a.length,.int .i64 (i:Int)],[.row 0 1 (a.map I)])) t.nodes og (λa=>(.exit 0,[.own 0 0 0 a.length],[.row 0 1 (a.map I)])) (λi a=>a.length<=i)
  (λi x a v=>by
   obtain⟨q,h⟩:∃q,q=t.nodes[i]:=⟨_,rfl⟩;rw[<-h];have b:=UD (n:=n) r q;simp only[Nd]at b;unfold og;generalize mS q=o at *
   cases o with
   |true =>
    refine⟨ak,?_⟩
    simp(disch:=omega)[round_eq,yc,l,h8,<-h,ca 203,b]
   |false =>
    refine⟨ak,?_⟩
    simp(disch:=omega)[round_eq,yc,l,h8,<-h,ca 203,b])
  (λa v=>by simp(disch:=omega)[round_eq,yc,h8]) [] ai
 rw[Qy,aL]at this
 simpa[qW]using this
def ahU{n:Nat}(b:105<n)(t:Tr.Tree)(hl:t.nodes.length<=1000):(en.cz n).p 175 [Tv t]=some (.b9 false ((qW t).map I)):=by
 rw[pp 175 rfl b rfl,b8,b6];have h:=ajt (n:=105) ah t hl
 generalize qW t=o at *
 simp(disch:=omega)[afA];rw[h _ aq aq]
 simp(disch:=omega)
def Rh{t:Tr.Tree}(b:Bt t)(i:Int):Bt (free t i).1:=by
 unfold free;split
 .exact b
 .split
  .exact b
  .split
   .exact b
   .exact⟨bJ (bz ..) b.len,λn h=>b.b7 n (bZ.1 h).1,b.ON,b.ck,b.Qz,b.nx⟩
def gf(c:Int)(s:Tr.Tree×List Ho×Bool)(h:Int):Tr.Tree×List Ho×Bool:=((js s.1 s.2.1 c h).1,(js s.1 s.2.1 c h).2.1,s.2.2 && !decide ((js s.1 s.2.1 c h).2.2=0))
def Jl(c:Int)(ks:ay):∀s:Tr.Tree×List Ho×Bool,((ks.foldl (gf c) s).1,(ks.foldl (gf c) s).2.1)=p9 c ks s.1 s.2.1:=by
 induction ks with
 |nil=>intro s;rfl
 |cons k ks b =>
  intro s;rw[bG,b];rfl
def MI(l:List Ho)(c h:Int):(pq l c h).length<=l.length:=by
 unfold pq;rw[aU,bF,bU];omega
def r8(t:Tr.Tree)(l:List Ho)(c h:Int):(js t l c h).2.1.length<=l.length:=by
 unfold js;split
 .exact aV _
 .exact MI l c h
def Oa{t:Tr.Tree}(hs:lC t.nodes)(i:Int):lC (free t i).1.nodes:=by
 unfold free;split
 .exact hs
 .split
  .exact hs
  .split
   .exact hs
   .exact hs.filter _
def H6{t:Tr.Tree}(hs:lC t.nodes)(l:List Ho)(c h:Int):lC (js t l c h).1.nodes:=by
 unfold js;split
 .exact hs
 .simp only;split
  .exact Oa hs _
  .exact hs
def C0{t:Tr.Tree}(b:Bt t)(l:List Ho)(c h:Int):Bt (js t l c h).1:=by
 unfold js;split
 .exact b
 .simp only;split
  .exact Rh b _
  .exact b
def gi(c:Int)(s:Tr.Tree×List Ho×Bool)(x:Ho):Tr.Tree×List Ho×Bool:=if x.c=c then gf c s x.h else s
def Ra(c:Int)(l:List Ho):∀s:Tr.Tree×List Ho×Bool,l.foldl (gi c) s=(As l c).foldl (gf c) s:=by
 induction l with
 |nil=>intro s;rfl
 |cons x l b =>
  intro s;rw[bG,b];unfold As gi;rw[bO]
  by_cases h:x.c=c<;>simp[h]
def ajI{n:Nat}(F:113<n)(l:List Ho)(hl:l.length<=1000)(f:Bool)(c:Int)(s:Tr.Tree×List Ho×Bool)(hs:lC s.1.nodes)(v:Bt s.1)(b:s.2.1.length<=1000)(e0:Env)(A:e0 10 = .b9 f (l.map Hv))(q:e0 11 = .int .i64 l.length)(h2:e0 2=I c)(h3:e0 3 = .ptr 0 0 0 0):
  iter (round (en.cz n) [1,12] [(.exit 0,[1])] yw e0 2 []) ([.b9 s.2.2 (s.2.1.map Hv),.int .i64 0],[.var [.b9 false (s.1.nodes.map Nd),.int .i64 s.1.next,.int .i64 s.1.ek],.var [.b9 false [],.int .i64 0,.int .i64 0]]) =
   some (.exit 0,[.b9 (l.foldl (gi c) s).2.2 ((l.foldl (gi c) s).2.1.map Hv)],[.var [.b9 false ((l.foldl (gi c) s).1.nodes.map Nd),.int .i64 (l.foldl (gi c) s).1.next,.int .i64 (l.foldl (gi c) s).1.ek],.var [.b9 false [],.int .i64 0,.int .i64 0]]):=by
 have:=kN (f:=round (en.cz n) [1,12] [(.exit 0,[1])] yw e0 2 []) (λi (s:Tr.Tree×List Ho×Bool)=>([.b9 s.2.2 (s.2.1.map Hv),.int .i64 (i:Int)],[.var [.b9 false (s.1.nodes.map Nd),.int .i64 s.1.next,.int .i64 s.1.ek],.var [.b9 false [],.int .i64 0,.int .i64 0]])) l (gi c)
  (λs=>(.exit 0,[.b9 s.2.2 (s.2.1.map Hv)],[.var [.b9 false (s.1.nodes.map Nd),.int .i64 s.1.next,.int .i64 s.1.ek],.var [.b9 false [],.int .i64 0,.int .i64 0]])) (λ_ s=>lC s.1.nodes/\Bt s.1/\s.2.1.length<=1000)
  (λi G s hs=>by
   let⟨hs,v,b⟩:=hs;let⟨t,m,g⟩:=s;obtain⟨x,E⟩:∃x,x=l[i]:=⟨_,rfl⟩;rw[<-E];simp only at hs v b;have z:=abS (n:=n) af t hs v.len m b g c x.h
   unfold gi gf
   by_cases y:x.c=c
   .refine⟨by rw[if_pos y];exact⟨H6 hs _ _ _,C0 v _ _ _,bJ (r8 _ _ _ _) b⟩,?_⟩
    rw[if_pos y];generalize js t m c x.h=r at *
    let⟨u,o,e⟩:=r;simp only[Tv]at z⊢;simp(disch:=omega)[round_eq,yw,A,q,h2,h3,<-E,y,ca 128,z]
   .refine⟨by rw[if_neg y];exact⟨hs,v,b⟩,?_⟩
    rw[if_neg y];simp(disch:=omega)[round_eq,yw,A,q,h2,<-E,y])
  (λs hs=>by simp(disch:=omega)[round_eq,yw,q]) s ⟨hs,v,b⟩
 simpa using this
def ahk{n:Nat}(b:115<n)(t:Tr.Tree)(hs:lC t.nodes)(i:Bt t)(l:List Ho)(hl:l.length<=1000)(f:Bool)(c:Int):
  (en.cz n).p 140 [Tv t,.b9 f (l.map Hv),I c]=some (.jg [Tv ((As l c).foldl (gf c) (t,l,f)).1,.b9 ((As l c).foldl (gf c) (t,l,f)).2.2 (((As l c).foldl (gf c) (t,l,f)).2.1.map Hv)]):=by
 rw[pp 140 rfl b rfl,b8,b6];have h:=ajI (n:=115) ah l hl f c (t,l,f) hs i hl
 rw[Ra]at h;generalize(As l c).foldl (gf c) (t,l,f)=r at *
 let⟨u,o,g⟩:=r;simp only at h⊢;simp(disch:=omega)[afS];rw[h _ aq aq aq aq]
 simp(disch:=omega)
def l54{n:Nat}(v:236<n)(c:Int)(s:Tr.Tree×List Ho×Bool)(h:Bt s.1)(b:s.2.1.length<=1000)(e0:Env)(h2:e0 2=I c)(h3:e0 3 = .ptr 0 0 0 0):
  iter (round (en.cz n) [1,8] [(.exit 0,[1])] Gu e0 2 []) ([.b9 s.2.2 (s.2.1.map Hv),.int .i64 0],[.var [.b9 false (s.1.nodes.map Nd),.int .i64 s.1.next,.int .i64 s.1.ek],.var [.b9 false [],.int .i64 0,.int .i64 0]]) =
   some (.exit 0,[.b9 (vR.foldl (gf c) s).2.2 ((vR.foldl (gf c) s).2.1.map Hv)],[.var [.b9 false ((vR.foldl (gf c) s).1.nodes.map Nd),.int .i64 (vR.foldl (gf c) s).1.next,.int .i64 (vR.foldl (gf c) s).1.ek],.var [.b9 false [],.int .i64 0,.int .i64 0]]):=by
 have:=kN (f:=round (en.cz n) [1,8] [(.exit 0,[1])] Gu e0 2 []) (λi (s:Tr.Tree×List Ho×Bool)=>([.b9 s.2.2 (s.2.1.map Hv),.int .i64 (i:Int)],[.var [.b9 false (s.1.nodes.map Nd),.int .i64 s.1.next,.int .i64 s.1.ek],.var [.b9 false [],.int .i64 0,.int .i64 0]])) (List.range 100) (λs k=>gf c s (k:Int))
  (λs=>(.exit 0,[.b9 s.2.2 (s.2.1.map Hv)],[.var [.b9 false (s.1.nodes.map Nd),.int .i64 s.1.next,.int .i64 s.1.ek],.var [.b9 false [],.int .i64 0,.int .i64 0]])) (λ_ s=>Bt s.1/\s.2.1.length<=1000)
  (λi q s hs=>by
   let⟨h,b⟩:=hs;let⟨t,m,g⟩:=s;rw[List.getElem_range];have q:i<100:=by simpa using q
   simp only at h b;have l:=abX (n:=n) af t h m b g c (i:Int)
   unfold gf;refine⟨⟨C0 h _ _ _,bJ (r8 _ _ _ _) b⟩,?_⟩;generalize js t m c (i:Int)=r at *
   let⟨u,o,e⟩:=r;simp only[Tv]at l⊢;simp(disch:=omega)[round_eq,Gu,h2,h3,ca 106,l])
  (λs hs=>by
   let⟨t,m,g⟩:=s;simp(disch:=omega)[round_eq,Gu]) s ⟨h,b⟩
 unfold vR;rw[List.foldl_map]
 simpa using this
def ahj{n:Nat}(b:247<n)(t:Tr.Tree)(i:Bt t)(l:List Ho)(hl:l.length<=1000)(f:Bool)(c:Int):
  (en.cz n).p 54 [Tv t,.b9 f (l.map Hv),I c]=some (.jg [Tv (vR.foldl (gf c) (t,l,f)).1,.b9 (vR.foldl (gf c) (t,l,f)).2.2 ((vR.foldl (gf c) (t,l,f)).2.1.map Hv)]):=by
 rw[pp 54 rfl b rfl,b8,b6];have h:=l54 (n:=247) ah c (t,l,f) i hl
 generalize vR.foldl (gf c) (t,l,f)=r at *
 let⟨u,o,g⟩:=r;simp only at h⊢;simp(disch:=omega)[c54];rw[h _ aq aq]
 simp(disch:=omega)
end Go.Proofs.YtghgbehknhmnaaaGreatDoor
