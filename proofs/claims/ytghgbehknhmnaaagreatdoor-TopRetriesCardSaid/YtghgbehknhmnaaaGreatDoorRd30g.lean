/- Part of the proof that TopRetriesCard holds. -/
import Derived.Test.YtghgbehknhmnaaaGreatDoorSh30g
set_option linter.all false
namespace Go.Proofs.YtghgbehknhmnaaaGreatDoor
open Go.Am Go.Tr Go.Am.Nm Go.Lib
theorem Ql(Γ:jE)(D:DF)(args:List AV):Ae Γ D args=@kW _ _ (D.st args) ⟨eval Γ D.body (λ_=>true) AV (λx s=>match x with
  | .exit _=>none
  | .ny p=>D.fin p s
  |_=>(pV s D.res).bind λv=>(nr s.h v).bind λq=>some q.1)⟩:=rfl
def yE:List (Int×AV):=[(1,.fn (.func 60) [] []),(2,.fn (.func 61) [] []),(3,.fn (.func 62) [] []),(4,.fn (.func 63) [] []),(5,.fn (.func 64) [] []),(6,.fn (.func 65) [] []),(7,.fn (.func 66) [] []),(8,.fn (.func 67) [] []),(9,.fn (.func 68) [] []),(10,.fn (.func 69) [] []),(11,.fn (.func 70) [] []),(12,.fn (.func 71) [] []),(13,.fn (.func 72) [] []),(14,.fn (.func 73) [] []),(15,.fn (.func 74) [] []),(16,.fn (.func 75) [] []),(17,.fn (.func 76) [] [])]
def q25(a b c:AB):(en.cz 155).h 25 [] [a,b,c]=some (.mb 3,[a,b,c,.mp .i64 yE]):=by
 have:(en.cz 155).h 25 [] [a,b,c]=kU (en.cz 147) c25 [] [a,b,c]:=iW.oH rfl rfl ah [] _
 rw[this,b6];simp(disch:=omega)[c25,kQ,yE]
def LP{n:Int}(h:n<1\/17<n):rW yE n=false:=by
 unfold rW;rw[cD.2]
 .rfl
 .intro p b;simp only[yE,bw,List.not_mem_nil,or_false]at b
  rcases b with rfl | rfl | rfl | rfl | rfl | rfl | rfl | rfl | rfl | rfl | rfl | rfl | rfl | rfl | rfl | rfl | rfl<;>simp<;>omega
def qJ.mono{K m m':Nat}(h:qJ K m)(i:m<=m'):qJ K m':=λb=>h af
def LO{n:Int}(h1:1<=n)(h2:n<=17):∃K,ko yE n .mj = .fn (.func K) [] []/\rW yE n=true/\qJ K 150:=by
 have b:n=1\/n=2\/n=3\/n=4\/n=5\/n=6\/n=7\/n=8\/n=9\/n=10\/n=11\/n=12\/n=13\/n=14\/n=15\/n=16\/n=17:=af
 rcases b with rfl | rfl | rfl | rfl | rfl | rfl | rfl | rfl | rfl | rfl | rfl | rfl | rfl | rfl | rfl | rfl | rfl
 .exact⟨60,rfl,rfl,s60.mono ah⟩
 .exact⟨61,rfl,rfl,s61.mono ah⟩
 .exact⟨62,rfl,rfl,s62.mono ah⟩
 .exact⟨63,rfl,rfl,s63.mono ah⟩
 .exact⟨64,rfl,rfl,s64.mono ah⟩
 .exact⟨65,rfl,rfl,s65.mono ah⟩
 .exact⟨66,rfl,rfl,s66.mono ah⟩
 .exact⟨67,rfl,rfl,s67.mono ah⟩
 .exact⟨68,rfl,rfl,s68.mono ah⟩
 .exact⟨69,rfl,rfl,s69.mono ah⟩
 .exact⟨70,rfl,rfl,s70.mono ah⟩
 .exact⟨71,rfl,rfl,s71.mono ah⟩
 .exact⟨72,rfl,rfl,s72.mono ah⟩
 .exact⟨73,rfl,rfl,s73.mono ah⟩
 .exact⟨74,rfl,rfl,s74.mono ah⟩
 .exact⟨75,rfl,rfl,s75.mono ah⟩
 .exact⟨76,rfl,rfl,s76.mono ah⟩
def s12{n:Nat}(S:155<n){k:Nat}{f:FS}{o:lX}(L:mF k f)(hk:k<=200)(Q:uy o):∃i l,(en.cz n).p 12 [Fv f,Ov o]=some (.jg [Fv i,Av l])/\mF (k+1) i/\zM l:=by
 generalize h:(en.cz n).p 12 _=res;rw[p12 S,Ql]at h;have q:=DD (n:=155) ah (e:=1) ah
 have G:=DC (n:=155) ah 1
 have E:∃i l,some (AV.jg [Fv f,Av ⟨1,0,0,0,0,[],[]⟩])=some (.jg [Fv i,Av l])/\mF (k+1) i/\zM l:=⟨_,_,rfl,L.up,j7 ..⟩
 by_cases O:1<=o.kind/\o.kind<=17
 case neg =>
  have P:=LP (n:=o.kind) af
  simp(disch:=omega)[d12,Ka,Qp,q25,P,q,Bj,nY,Dm]at h;rw[<-h];exact E
 obtain⟨K,A,z,W⟩:=LO O.1 O.2
 by_cases M:0<=o.client
 case neg =>
  simp(disch:=omega)[d12,Ka,Qp,q25,A,z,M,q,Bj,nY,Dm]at h;rw[<-h];exact E
 by_cases c3:o.client<16
 case neg =>
  simp(disch:=omega)[d12,Ka,Qp,q25,A,z,M,c3,q,Bj,nY,Dm]at h;rw[<-h];exact E
 obtain⟨r,H,N,U⟩:=W (n:=155) ah L hk Q (.var (Fc f)) (.var nY) (.var Dm) (.mp .i64 yE) (by simp[gd,AV.jW]) (by simp[gd,AV.jW,nY]) (by simp[gd,AV.jW,Dm]) (by simp[gd,yE,AV.KM])
 simp only[pJ,Wc,Fc,Sc,Oc,Ac,aI,aL,aP,nY,Dm]at N;simp(disch:=omega)[d12,Ka,Qp,q25,A,z,M,c3,G,Bj,nY,Dm,N]at h
 rcases U with⟨rfl,i,l,x,y,X,Z,Y,rfl,F⟩ | ⟨⟨e,rfl⟩,Y,rfl⟩
 .rcases F with⟨rfl,rfl⟩ | ⟨rfl,b,es,rfl,h1,h2,h3⟩ | ⟨rfl,b,v,rfl,h1⟩
  .simp(disch:=omega)[nY,Dm,yK]at h;exact⟨i,l,h.symm,x,y⟩
  .have T:=(aA.1 h1).1;have hg:=(aA.1 h1).2;simp(disch:=omega)[nY,Dm,yK,hg,h2,h3]at h;exact⟨i,l,h.symm,x,y⟩
  .have T:=(aA.1 h1).1;have hg:=(aA.1 h1).2;simp(disch:=omega)[nY,Dm,yK,hg]at h;exact⟨i,l,h.symm,x,y⟩
 .simp(disch:=omega)[nY,Dm]at h;exact⟨f,⟨e,0,0,0,0,[],[]⟩,h.symm,L.up,j7 ..⟩
section
variable{n:Nat}
def Uz(b:181<n)(e:Int):(en.cz n).p 48 [I e]=some (Av ⟨e,0,0,0,0,[],[]⟩):=by
 rw[pp 48 rfl b rfl,b8,b6];simp(disch:=omega)[c48]
def abY(b:227<n)(q:Tr.Node)(h:q.b7.length<=1000/\q.data.length<=1000000):∃r,(en.cz n).p 101 [Nd q]=some (I r):=by
 rw[pp 101 rfl b rfl,b8,b6]
 by_cases c:q.kind=2
 .exact⟨_,by simp(disch:=omega)[YL,c];rfl⟩
 .exact⟨_,by simp(disch:=omega)[YL,c];rfl⟩
def Km{s:au}(h:iN s=true):s.length<=1000000:=by
 unfold iN at h;simp at h;omega
def Nx{p nm up:au}(i:p.length<=1000000)(h:AM p=some (nm,up)):nm.length<=1000000/\up.length<=1000000:=by
 unfold AM at h;cases hs:Nm.split p with
 |none=>rw[hs]at h;cases h
 |some l =>
  rw[hs]at h;have q:=D8 hs i;obtain⟨-,-,b⟩:=rE hs
  by_cases h0:l=[]
  .simp[h0]at h
  .simp only[if_neg h0,bh,Prod.mk.injEq]at h;obtain⟨rfl,rfl⟩:=h;refine⟨?_,?_⟩
   .have o:l.getLast?.getD []∈l:=by
     rw[List.getLast?_eq_some_getLast h0];exact List.getLast_mem h0
    have:=aM.1 b _ o;have r:=Km this;omega
   .by_cases h1:l.dropLast=[]
    .rw[h1];simp[jn]
    .rw[<-yP h1,List.dropLast_eq_take];exact q.take _
def s93(q:192<n)(t:Tr.Tree)(w:lM t)(p:au)(l:p.length<=1000000):∃d s e,(en.cz n).p 93 [Tv t,.str p]=some (.jg [I d,.str s,I e])/\s.length<=1000000:=by
 have h:=ah1 (n:=192) ah p l
 generalize b:(en.cz n).p 93 _=res;rw[pp 93 rfl q rfl,b8,b6]at b;unfold CE at h;cases hl:AM p with
 |none =>
  rw[hl]at h;simp(disch:=omega)[c93,ca 145,h]at b;exact⟨0,[],60,b.symm,ai⟩
 |some x =>
  obtain⟨nm,up⟩:=x;rw[hl]at h;have i:=Nx l hl;have o:=s92 (n:=192) ah t w up af
  simp only[Tv]at o h;simp(disch:=omega)[c93,ca 145,h,ca 92,o]at b;exact⟨_,nm,_,b.symm,i.1⟩
def ajp(l:List Ho)(hl:l.length<=1000)(i:Int)(e0:Env)(h0:e0 0 = .b9 false (l.map Hv))(h1:e0 1=I i):
  ∃y,(y=(AX.exit 0,[],[])\/y=(AX.ret,[AV.bool true],[]))/\iter (round (en.cz 207) [5] [(.exit 0,[]),(.ret,[4])] xX e0 0 []) ([I 0],[])=some y :=
 iQ (f:=round (en.cz 207) [5] [(.exit 0,[]),(.ret,[4])] xX e0 0 []) l.length (λi (_:Unit)=>([I (i:Int)],[])) (λy=>y=(AX.exit 0,[],[])\/y=(AX.ret,[AV.bool true],[])) (λ_ _=>True)
  (λj _ h _=>by
   obtain⟨x,b⟩:∃x,x=l[j]:=⟨_,rfl⟩
   by_cases c:x.ino=i
   .exact .inr ⟨_,.inr rfl,by simp(disch:=omega)[round_eq,xX,h0,h1,<-b,c]⟩
   .exact .inl ⟨(),trivial,by simp(disch:=omega)[round_eq,xX,h0,h1,<-b,c]⟩)
  (λ_ _=>⟨_,.inl rfl,by simp(disch:=omega)[round_eq,xX,h0]⟩) (aQ _) () trivial
def ahC(q:207<n)(l:List Ho)(hl:l.length<=1000)(i:Int):∃b,(en.cz n).p 229 [.b9 false (l.map Hv),I i]=some (.bool b):=by
 generalize h:(en.cz n).p 229 _=res;rw[pp 229 rfl q rfl,b8,b6]at h;simp(disch:=omega)[afk]at h;generalize o:iter _ _=oo at h;obtain⟨_,rfl | rfl,rfl⟩:∃y,_/\oo=some y:=by rw[<-o];exact ajp l hl i _ aq aq
 .simp(disch:=omega)at h;exact⟨false,h.symm⟩
 .simp(disch:=omega)at h;exact⟨true,h.symm⟩
def ajg(t:Tr.Tree)(w:lM t)(l:List Qu)(hl:l.length<=1000)(i:Int)(e0:Env)(h1:e0 1 = .b9 false (l.map Qv))(h3:e0 3 = .iV (Tb t)):
  ∃y,(y=(AX.exit 0,[],[])\/∃r H,y=(AX.ret,[I r],H))/\iter (round (en.cz 209) [7,8] [(.exit 0,[]),(.ret,[6])] tF e0 0 []) ([I i,I 0],[])=some y :=
 iQ (f:=round (en.cz 209) [7,8] [(.exit 0,[]),(.ret,[6])] tF e0 0 []) (t.nodes.length+1) (λj (i:Int)=>([I i,I (j:Int)],[])) (λy=>y=(AX.exit 0,[],[])\/∃r H,y=(AX.ret,[I r],H)) (λ_ _=>True)
  (λj i G _=>by
   have E:=nc w;have x:=E.len;have h:=abI (n:=209) ah l hl false i
   have b:=pT (n:=209) ah t E i
   unfold lq at b;simp only[Tv]at b;generalize F:ixQ l i=z at *
   by_cases o:0<=z
   .exact .inr ⟨_,.inr ⟨i,_,rfl⟩,by simp(disch:=omega)[round_eq,tF,h1,h3,ca 164,h,o];rfl⟩
   by_cases v:i=1
   .subst v;exact .inr ⟨_,.inr ⟨0,_,rfl⟩,by simp(disch:=omega)[round_eq,tF,h1,h3,ca 164,h,o];rfl⟩
   cases A:find t.nodes i with
   |none =>
    simp only[A,bQ,Nd,jo,aP]at b;exact .inl ⟨0,trivial,by simp(disch:=omega)[round_eq,tF,h1,h3,ca 164,h,o,v,ca 100,b]⟩
   |some q =>
    simp only[A,bB,Nd]at b;exact .inl ⟨q.up,trivial,by simp(disch:=omega)[round_eq,tF,h1,h3,ca 164,h,o,v,ca 100,b]⟩)
  (λ_ _=>⟨_,.inl rfl,by simp(disch:=omega)[round_eq,tF,h3]⟩) (aQ _) i trivial
def ahn(o:209<n)(t:Tr.Tree)(w:lM t)(l:List Qu)(hl:l.length<=1000)(i:Int):∃r,(en.cz n).p 273 [Tv t,.b9 false (l.map Qv),I i]=some (I r):=by
 generalize b:(en.cz n).p 273 _=res;rw[pp 273 rfl o rfl,b8,b6]at b;simp(disch:=omega)[aeZ]at b;generalize h:iter _ _=oo at b;obtain⟨_,rfl | ⟨r,H,rfl⟩,rfl⟩:∃y,_/\oo=some y:=by rw[<-h];exact ajg t w l hl i _ aq aq
 .simp(disch:=omega)at b;exact⟨0,b.symm⟩
 .simp(disch:=omega)at b;exact⟨r,b.symm⟩
end
section
variable{t:Tr.Tree}{l:List Qu}
def VL(w:lM t)(hl:l.length<=1000){j:Nat}(F:j<t.nodes.length)(q:Tr.Node)(E:q.b7.length<=64)(v:Int)(e0:Env)(h1:e0 1 = .b9 false (l.map Qv))(h2:e0 2 = .iV (Tb t))(h5:e0 5=I (j:Int))(h8:e0 8 = .ptr 0 0 0 0):
  ∃y,((∃v,y=(AX.exit 4,[I v],[AB.var (Nc q)]))\/∃H,y=(AX.ret,[AV.bool false],H))/\iter (round (en.cz 210) [6,9] [(.exit 4,[6]),(.ret,[4])] tH e0 1 []) ([I v,I 0],[.var (Nc q)])=some y :=
 iQ (f:=round (en.cz 210) [6,9] [(.exit 4,[6]),(.ret,[4])] tH e0 1 []) q.b7.length (λi (v:Int)=>([I v,I (i:Int)],[AB.var (Nc q)])) (λy=>(∃v,y=(AX.exit 4,[I v],[AB.var (Nc q)]))\/∃H,y=(AX.ret,[AV.bool false],H)) (λ_ _=>True)
  (λi v G _=>by
   obtain⟨e,h⟩:∃e,e=q.b7[i]:=⟨_,rfl⟩;obtain⟨p,b⟩:∃p,p=t.nodes[j]:=⟨_,rfl⟩;have A:=(nc w).len;obtain⟨r,o⟩:=ahn (n:=210) ah t w l hl q.ino
   simp only[Tv]at o
   by_cases x:e.ino=p.ino
   case neg=>exact .inl ⟨v,trivial,by simp(disch:=omega)[round_eq,tH,h2,h5,h8,<-h,<-b,x]⟩
   by_cases z:0<=v
   case neg=>exact .inl ⟨r,trivial,by simp(disch:=omega)[round_eq,tH,h1,h2,h5,h8,<-h,<-b,x,z,ca 273,o]⟩
   by_cases c3:r=v
   .exact .inl ⟨r,trivial,by simp(disch:=omega)[round_eq,tH,h1,h2,h5,h8,<-h,<-b,x,z,c3,ca 273,o]⟩
   .exact .inr ⟨_,.inr ⟨_,rfl⟩,by simp(disch:=omega)[round_eq,tH,h1,h2,h5,h8,<-h,<-b,x,z,c3,ca 273,o];rfl⟩)
  (λv _=>⟨_,.inl ⟨v,rfl⟩,by simp(disch:=omega)[round_eq,tH,h8]⟩) (aQ _) v trivial
def VK(w:lM t)(hl:l.length<=1000){j:Nat}(x:j<t.nodes.length)(e0:Env)(h1:e0 1 = .b9 false (l.map Qv))(h2:e0 2 = .iV (Tb t))(h5:e0 5=I (j:Int)):
  ∃y,(y=(AX.exit 2,[],[])\/∃H,y=(AX.ret,[AV.bool false],H))/\iter (round (en.cz 210) [6,7] [(.exit 2,[]),(.ret,[4])] xW e0 0 []) ([I (-1),I 0],[])=some y :=
 iQ (f:=round (en.cz 210) [6,7] [(.exit 2,[]),(.ret,[4])] xW e0 0 []) t.nodes.length (λi (v:Int)=>([I v,I (i:Int)],[])) (λy=>y=(AX.exit 2,[],[])\/∃H,y=(AX.ret,[AV.bool false],H)) (λ_ _=>True)
  (λi v z _=>by
   have h:=jQ w (aN z);obtain⟨q,n⟩:∃q,q=t.nodes[i]:=⟨_,rfl⟩;rw[<-n]at h;have o:=(nc w).len;generalize b:round (en.cz 210) [6,7] [(.exit 2,[]),(.ret,[4])] xW e0 0 [] _=res;simp(disch:=omega)[round_eq,xW,h2,<-n]at b;generalize r:iter _ _=oo at b;obtain⟨_,⟨v',rfl⟩ | ⟨H,rfl⟩,rfl⟩:∃y,_/\oo=some y:=by rw[<-r];exact VL w hl x q h.1 v _ (by simp(disch:=omega)[h1]) (by simp(disch:=omega)[h2]) (by simp(disch:=omega)[h5]) aq
   .simp(disch:=omega)at b;exact .inl ⟨v',trivial,by rw[<-b];simp(disch:=omega)⟩
   .simp(disch:=omega)at b;exact .inr ⟨_,.inr ⟨_,rfl⟩,b.symm⟩)
  (λv _=>⟨_,.inl rfl,by simp(disch:=omega)[round_eq,xW,h2]⟩) (aQ _) (-1) trivial
def VJ(w:lM t)(hl:l.length<=1000)(e0:Env)(h1:e0 1 = .b9 false (l.map Qv))(h2:e0 2 = .iV (Tb t)):
  ∃y,(y=(AX.exit 0,[],[])\/∃H,y=(AX.ret,[AV.bool false],H))/\iter (round (en.cz 210) [5] [(.exit 0,[]),(.ret,[4])] vA e0 0 []) ([I 0],[])=some y :=
 iQ (f:=round (en.cz 210) [5] [(.exit 0,[]),(.ret,[4])] vA e0 0 []) t.nodes.length (λi (_:Unit)=>([I (i:Int)],[])) (λy=>y=(AX.exit 0,[],[])\/∃H,y=(AX.ret,[AV.bool false],H)) (λ_ _=>True)
  (λi _ v _=>by
   obtain⟨q,h⟩:∃q,q=t.nodes[i]:=⟨_,rfl⟩;have n:=(nc w).len;generalize b:round (en.cz 210) [5] [(.exit 0,[]),(.ret,[4])] vA e0 0 [] _=res
   by_cases o:q.kind=1
   case neg =>
    simp(disch:=omega)[round_eq,vA,h2,<-h,o]at b;exact .inl ⟨(),trivial,by rw[<-b];simp(disch:=omega)⟩
   simp(disch:=omega)[round_eq,vA,h2,<-h,o]at b;generalize r:iter _ _=oo at b;obtain⟨_,rfl | ⟨H,rfl⟩,rfl⟩:∃y,_/\oo=some y:=by rw[<-r];exact VK w hl v _ (by simp(disch:=omega)[h1]) (by simp(disch:=omega)[h2]) aq
   .simp(disch:=omega)at b;exact .inl ⟨(),trivial,by rw[<-b];simp(disch:=omega)⟩
   .simp(disch:=omega)at b;exact .inr ⟨_,.inr ⟨_,rfl⟩,b.symm⟩)
  (λ_ _=>⟨_,.inl rfl,by simp(disch:=omega)[round_eq,vA,h2]⟩) (aQ _) () trivial
def ahB{n:Nat}(o:210<n)(w:lM t)(hl:l.length<=1000):∃b,(en.cz n).p 230 [Tv t,.b9 false (l.map Qv)]=some (.bool b):=by
 generalize h:(en.cz n).p 230 _=res;rw[pp 230 rfl o rfl,b8,b6]at h;simp(disch:=omega)[afj]at h;generalize i:iter _ _=oo at h;obtain⟨_,rfl | ⟨H,rfl⟩,rfl⟩:∃y,_/\oo=some y:=by rw[<-i];exact VJ w hl _ aq aq
 .simp(disch:=omega)at h;exact⟨true,h.symm⟩
 .simp(disch:=omega)at h;exact⟨false,h.symm⟩
def VI(w:lM t)(hl:l.length<=1000)(e0:Env)(h1:e0 1 = .b9 false (l.map Qv))(h2:e0 2 = .iV (Tb t)):
  ∃y,(y=(AX.exit 0,[],[])\/∃H,y=(AX.ret,[AV.bool true],H))/\iter (round (en.cz 215) [5] [(.exit 0,[]),(.ret,[4])] vz e0 0 []) ([I 0],[])=some y :=
 iQ (f:=round (en.cz 215) [5] [(.exit 0,[]),(.ret,[4])] vz e0 0 []) l.length (λi (_:Unit)=>([I (i:Int)],[])) (λy=>y=(AX.exit 0,[],[])\/∃H,y=(AX.ret,[AV.bool true],H)) (λ_ _=>True)
  (λi _ o _=>by
   obtain⟨q,h⟩:∃q,q=l[i]:=⟨_,rfl⟩;have b:=abJ (n:=215) ah t w q.ino
   simp only[Tv]at b;generalize kR t q.ino=u at *
   generalize kS t q.ino=v at *
   by_cases x:u<=q.nodes
   .by_cases r:v<=q.bytes
    .exact .inl ⟨(),trivial,by simp(disch:=omega)[round_eq,vz,h1,h2,<-h,b]⟩
    .exact .inr ⟨_,.inr ⟨_,rfl⟩,by simp(disch:=omega)[round_eq,vz,h1,h2,<-h,b];rfl⟩
   .exact .inr ⟨_,.inr ⟨_,rfl⟩,by simp(disch:=omega)[round_eq,vz,h1,h2,<-h,b];rfl⟩)
  (λ_ _=>⟨_,.inl rfl,by simp(disch:=omega)[round_eq,vz,h1]⟩) (aQ _) () trivial
def ahA{n:Nat}(o:215<n)(w:lM t)(hl:l.length<=1000):∃b,(en.cz n).p 231 [Tv t,.b9 false (l.map Qv)]=some (.bool b):=by
 generalize h:(en.cz n).p 231 _=res;rw[pp 231 rfl o rfl,b8,b6]at h;simp(disch:=omega)[afi]at h;generalize i:iter _ _=oo at h;obtain⟨_,rfl | ⟨H,rfl⟩,rfl⟩:∃y,_/\oo=some y:=by rw[<-i];exact VI w hl _ aq aq
 .simp(disch:=omega)at h;exact⟨false,h.symm⟩
 .simp(disch:=omega)at h;exact⟨true,h.symm⟩
end
section
variable{f:FS}{k:Nat}
abbrev LM:AB:=.var nY
def VY(A:mF k f){t:Tr.Tree}(w:lM t)(e0:Env)(h3:e0 3 = .ptr 0 0 0 0)(h4:e0 4 = .ptr 1 0 0 0):
  ∃y,(∃os:ay,os.length<=t.nodes.length/\y=(AX.exit 0,[AV.own 3 0 0 os.length],[AB.var (Fc f),.var (Tb t),LM,.row 0 1 (os.map I)]))/\
   iter (round (en.cz 216) [8,9] [(.exit 0,[8])] tL e0 4 [3]) ([.own 3 0 0 0,I 0],[.var (Fc f),.var (Tb t),LM,.row 0 1 []])=some y :=
 iQ (f:=round (en.cz 216) [8,9] [(.exit 0,[8])] tL e0 4 [3]) t.nodes.length (λi (os:ay)=>([.own 3 0 0 os.length,I (i:Int)],[AB.var (Fc f),.var (Tb t),LM,.row 0 1 (os.map I)]))
  (λy=>∃os:ay,os.length<=t.nodes.length/\y=(AX.exit 0,[AV.own 3 0 0 os.length],[AB.var (Fc f),.var (Tb t),LM,.row 0 1 (os.map I)])) (λi os=>os.length<=i)
  (λi os E r=>by
   obtain⟨q,h⟩:∃q,q=t.nodes[i]:=⟨_,rfl⟩;have v:=(nc w).len;have z:=A.hl;obtain⟨b,x⟩:=ahC (n:=216) ah f.holds af q.ino
   left
   by_cases l:q.kind=1
   case neg=>exact⟨os,af,by simp(disch:=omega)[round_eq,tL,h4,<-h,l,nY]⟩
   by_cases o:q.links=0
   case neg=>exact⟨os,af,by simp(disch:=omega)[round_eq,tL,h4,<-h,l,o,nY]⟩
   cases b with
   |true=>exact⟨os,af,by simp(disch:=omega)[round_eq,tL,h3,h4,<-h,l,o,ca 229,x,nY]⟩
   |false=>exact⟨os++[q.ino],ak,by simp(disch:=omega)[round_eq,tL,h3,h4,<-h,l,o,ca 229,x,nY]⟩)
  (λos r=>⟨_,⟨os,r,rfl⟩,by simp(disch:=omega)[round_eq,tL,h4]⟩) (aQ _) [] (aU _)
def VX{t:Tr.Tree}(w:lM t)(os:ay)(q:os.length<=1000)(e0:Env)(h4:e0 4 = .ptr 1 0 0 0)(h8:e0 8 = .own 3 0 0 os.length):
  ∃y,(∃b,lM b/\y=(AX.exit 2,[],[AB.var (Fc f),.var (Tb b),LM,.row 0 1 (os.map I)]))/\
   iter (round (en.cz 216) [11] [(.exit 2,[])] BF e0 4 []) ([I 0],[.var (Fc f),.var (Tb t),LM,.row 0 1 (os.map I)])=some y :=
 iQ (f:=round (en.cz 216) [11] [(.exit 2,[])] BF e0 4 []) os.length (λi (t:Tr.Tree)=>([I (i:Int)],[AB.var (Fc f),.var (Tb t),LM,.row 0 1 (os.map I)]))
  (λy=>∃b,lM b/\y=(AX.exit 2,[],[AB.var (Fc f),.var (Tb b),LM,.row 0 1 (os.map I)])) (λ_ t=>lM t)
  (λi t v w=>by
   obtain⟨x,o⟩:∃x,x=os[i]:=⟨_,rfl⟩;have l:=abH (n:=216) ah t (nc w) x
   have h:=WF.free w x;generalize free t x=r at l h;simp only[Tv]at l;exact .inl ⟨r.1,h,by simp(disch:=omega)[round_eq,BF,h4,h8,v,<-o,l,nY]⟩)
  (λt w=>⟨_,⟨t,w,rfl⟩,by simp(disch:=omega)[round_eq,BF,h8]⟩) (aQ _) t w
def VW{t:Tr.Tree}(w:lM t){l:List Qu}(hl:l.length<=1000)(os:ay)(e0:Env)(h2:e0 2 = .b9 false (l.map Qv))(h4:e0 4 = .ptr 1 0 0 0):
  ∃y,(y=(AX.exit 4,[AV.own 4 0 0 (l.filter λq=>(find t.nodes q.ino).isSome).length],[AB.var (Fc f),.var (Tb t),LM,.row 0 1 (os.map I),.row 0 3 ((l.filter λq=>(find t.nodes q.ino).isSome).map Qv)]))/\
   iter (round (en.cz 216) [14,15] [(.exit 4,[14])] yq e0 5 [4]) ([.own 4 0 0 0,I 0],[.var (Fc f),.var (Tb t),LM,.row 0 1 (os.map I),.row 0 3 []])=some y :=
 iQ (f:=round (en.cz 216) [14,15] [(.exit 4,[14])] yq e0 5 [4]) l.length (λi (qs:List Qu)=>([.own 4 0 0 qs.length,I (i:Int)],[AB.var (Fc f),.var (Tb t),LM,.row 0 1 (os.map I),.row 0 3 (qs.map Qv)]))
  (λy=>(y=(AX.exit 4,[AV.own 4 0 0 (l.filter λq=>(find t.nodes q.ino).isSome).length],[AB.var (Fc f),.var (Tb t),LM,.row 0 1 (os.map I),.row 0 3 ((l.filter λq=>(find t.nodes q.ino).isSome).map Qv)]))) (λi qs=>qs=(l.take i).filter λq=>(find t.nodes q.ino).isSome)
  (λi qs A h=>by
   obtain⟨x,v⟩:∃x,x=l[i]:=⟨_,rfl⟩;have z:qs.length<=l.length:=by rw[h];exact bH (bz _ _) (by rw[bE];omega)
   have o:=pT (n:=216) ah t (nc w) x.ino
   have b:(l.take (i+1)).filter (λq=>(find t.nodes q.ino).isSome)=qs++if (find t.nodes x.ino).isSome=true then[x]else[]:=by
    rw[ez,aD A,dy,<-h,<-v];simp[bM]
   unfold lq at o;simp only[Tv]at o;left;cases r:find t.nodes x.ino with
   |none =>
    rw[r]at b;simp only[r,bQ,Nd,jo,aP]at o;exact⟨qs,by rw[b];simp,by simp(disch:=omega)[round_eq,yq,h2,h4,<-v,o,nY]⟩
   |some q =>
    rw[r]at b;simp only[r,bB,Nd]at o;exact⟨qs++[x],by rw[b];simp,by simp(disch:=omega)[round_eq,yq,h2,h4,<-v,o,nY]⟩)
  (λqs h=>⟨_,rfl,by
   rw[aO (aU _)]at h;subst h;simp(disch:=omega)[round_eq,yq,h2]⟩) (aQ _) [] rfl
def ah0{n:Nat}(K:216<n)(o:mF k f)(hk:k<=200){t:Tr.Tree}(w:lM t){l:List Qu}(hs:mE l)(hl:l.length<=16):∃G e,(en.cz n).p 149 [Fv f,Tv t,.b9 false (l.map Qv)]=some (.jg [Fv G,I e])/\mF (k+1) G:=by
 generalize b:(en.cz n).p 149 _=res;rw[pp 149 rfl K rfl,b8,b6]at b;have E:=(nc w).len;simp(disch:=omega)[afO]at b;generalize r:iter _ _=oo at b;obtain⟨_,⟨os,H,rfl⟩,rfl⟩:∃y,_/\oo=some y:=by rw[<-r];exact VY o w _ aq aq
 simp(disch:=omega)[nY]at b;generalize r:iter _ _=oo at b;obtain⟨_,⟨v,w',rfl⟩,rfl⟩:∃y,_/\oo=some y:=by rw[<-r];exact VX (f:=f) w os af _ aq aq
 simp(disch:=omega)[nY]at b;generalize r:iter _ _=oo at b;obtain⟨_,rfl,rfl⟩:∃y,_/\oo=some y:=by rw[<-r];exact VW (f:=f) w' (l:=l) af os _ aq aq
 have A:(l.filter λq=>(find v.nodes q.ino).isSome).length<=16:=bH (bz _ _) hl
 have z:mE (l.filter λq=>(find v.nodes q.ino).isSome):=hs.filter _
 generalize(l.filter λq=>(find v.nodes q.ino).isSome)=qs at *
 obtain⟨b1,h⟩:=ahB (n:=216) ah w' (l:=qs) af
 obtain⟨L,i⟩:=ahA (n:=216) ah w' (l:=qs) af
 obtain⟨s',F,x⟩:=s55 (n:=216) ah o.s af w'
 simp only[Tv,Sv,Sc]at h i F;cases b1 with
 |false =>
  simp(disch:=omega)[nY,ca 230,h]at b;exact⟨f,91,b.symm,o.up⟩
 |true =>
 cases L with
 |true =>
  simp(disch:=omega)[nY,ca 230,h,ca 231,i]at b;exact⟨f,90,b.symm,o.up⟩
 |false =>
  simp(disch:=omega)[nY,ca 230,h,ca 231,i,ca 55,F]at b;exact⟨⟨s',f.holds,qs⟩,0,b.symm,⟨x,o.hs,o.hl,z,A⟩⟩
end
def Uy{n:Nat}(x:217<n){f:FS}{k:Nat}(q:mF k f)(hk:k<=200){t:Tr.Tree}(w:lM t){l:List Qu}(hs:mE l)(hl:l.length<=16)(e:Int){a:nH}(y:zM a):∃i v,(en.cz n).p 95 [Fv f,Tv t,.b9 false (l.map Qv),I e,Av a]=some (.jg [Fv i,Av v])/\mF (k+1) i/\zM v:=by
 generalize b:(en.cz n).p 95 _=res;rw[pp 95 rfl x rfl,b8,b6]at b;have h:=λe=>Uz (n:=217) ah e
 simp only[Av,Ac,aP]at h
 by_cases c:e=0
 case neg =>
  simp(disch:=omega)[c95,c,h]at b;exact⟨f,⟨e,0,0,0,0,[],[]⟩,b.symm,q.up,j7 ..⟩
 subst c;obtain⟨i,e',r,o⟩:=ah0 (n:=217) ah q hk w hs hl
 simp only[Fv,Fc,Sc,Tv,aI,aL]at r
 by_cases c:e'=0
 .subst c;simp(disch:=omega)[c95,ca 149,r]at b;exact⟨i,a,b.symm,o,y⟩
 .simp(disch:=omega)[c95,ca 149,r,c,h]at b;exact⟨f,⟨e',0,0,0,0,[],[]⟩,b.symm,q.up,j7 ..⟩
def We(d:au)(h:d.length<=5000)(K:Nat)(n:K<=10000)(at_:Nat)(b:au)(l:at_+b.length=K)(e0:Env)(h1:e0 1=I (at_:Int))(h2:e0 2 = .b9 false (b.map B)):
  ∃y,(∃d':au,K<=d'.length/\d'.length<=10000/\y=(AX.exit 0,[AV.own 0 0 0 d'.length],[AB.row 0 1 (d'.map B)]))/\iter (round (en.cz 238) [7] [(.exit 0,[7])] BI e0 1 [0]) ([.own 0 0 0 d.length],[.row 0 1 (d.map B)])=some y :=
 zF (f:=round (en.cz 238) [7] [(.exit 0,[7])] BI e0 1 [0]) (λ(d:au)=>([AV.own 0 0 0 d.length],[AB.row 0 1 (d.map B)])) (λy=>∃d':au,K<=d'.length/\d'.length<=10000/\y=(AX.exit 0,[AV.own 0 0 0 d'.length],[AB.row 0 1 (d'.map B)])) (λd=>d.length<=10000) (λd=>K-d.length)
  (λd h=>by
   have i:b.length<=10000:=af
   by_cases c:d.length<at_+b.length
   .exact .inl ⟨d++[0],ak,ak,by simp(disch:=omega)[round_eq,BI,h1,h2]⟩
   .exact .inr ⟨_,⟨d,af,h,rfl⟩,by simp(disch:=omega)[round_eq,BI,h1,h2]⟩)
  d af
def Wd(d:au)(r:d.length<=10000)(at_:Nat)(b:au)(v:at_+b.length<=d.length)(e0:Env)(h1:e0 1=I (at_:Int))(h2:e0 2 = .b9 false (b.map B))(o:e0 7 = .own 0 0 0 d.length):
  ∃y,(∃d':au,d'.length=d.length/\y=(AX.exit 2,[],[AB.row 0 1 (d'.map B)]))/\iter (round (en.cz 238) [8] [(.exit 2,[])] BH e0 1 []) ([I 0],[.row 0 1 (d.map B)])=some y :=
 iQ (f:=round (en.cz 238) [8] [(.exit 2,[])] BH e0 1 []) b.length (λi (d':au)=>([I (i:Int)],[AB.row 0 1 (d'.map B)])) (λy=>∃d':au,d'.length=d.length/\y=(AX.exit 2,[],[AB.row 0 1 (d'.map B)])) (λ_ d'=>d'.length=d.length)
  (λi d' q h=>by
   obtain⟨x,l⟩:∃x,x=b[i]:=⟨_,rfl⟩;have n:at_+i<d'.length:=af
   exact .inl ⟨d'.set (at_+i) x,an h,by simp(disch:=omega)[round_eq,BH,h1,h2,o,<-l]⟩)
  (λd' h=>⟨_,⟨d',h,rfl⟩,by simp(disch:=omega)[round_eq,BH,h2]⟩) (aQ _) d rfl
def aii{n:Nat}(l:238<n)(d:au)(r:d.length<=4096)(at_:Nat)(b:au)(v:at_+b.length<=4096):∃d':au,(en.cz n).p 108 [.b9 false (d.map B),I (at_:Int),.b9 false (b.map B)]=some (.b9 false (d'.map B))/\d'.length<=10000:=by
 generalize h:(en.cz n).p 108 _=res;rw[pp 108 rfl l rfl,b8,b6]at h
 by_cases c:b.length=0
 .simp(disch:=omega)[YJ,c]at h;exact⟨d,h.symm,af⟩
 .simp(disch:=omega)[YJ,c]at h;generalize i:iter _ _=oo at h;obtain⟨_,⟨q,h1,h2,rfl⟩,rfl⟩:∃y,_/\oo=some y:=by rw[<-i];exact We d af (at_+b.length) af at_ b rfl _ aq aq
  simp(disch:=omega)at h;generalize i:iter _ _=oo at h;obtain⟨_,⟨o,h3,rfl⟩,rfl⟩:∃y,_/\oo=some y:=by rw[<-i];exact Wd q h2 at_ b h1 _ aq aq aq
  simp(disch:=omega)[h3]at h;refine⟨o,?_,af⟩
  rw[<-h]
def Wh(q:Tr.Node)(M:q.b7.length<=64)(fr:Int)(H:AH)(K:oE H)(h0:H[0]? = some (.var (Nc q)))(e0:Env)(h2:e0 2=I fr)(l:e0 11 = .ptr 0 0 0 0)(L:Nat)(G:L=H.length):
  ∃y,(∃b:Int,-1<=b/\b<q.b7.length/\y=(AX.exit 2,[I b],H))/\iter (round (en.cz 228) [14,15] [(.exit 2,[14])] tP e0 L []) ([I (-1),I 0],H)=some y:=by
 subst G;have F:=(aA.1 h0).1;have h:=(aA.1 h0).2;have n:=K.same
 exact iQ (f:=round (en.cz 228) [14,15] [(.exit 2,[14])] tP e0 H.length []) q.b7.length (λi (b:Int)=>([I b,I (i:Int)],H)) (λy=>∃b:Int,-1<=b/\b<q.b7.length/\y=(AX.exit 2,[I b],H)) (λ_ b=>-1<=b/\b<q.b7.length)
  (λi b O o=>by
   obtain⟨x,r⟩:∃x,x=q.b7[i]:=⟨_,rfl⟩;left
   by_cases v:fr<=x.ek
   case neg=>exact⟨b,o,by simp(disch:=omega)[round_eq,tP,h2,l,h,<-r,v,n]⟩
   by_cases A:b<0
   .exact⟨i,⟨af,af⟩,by simp(disch:=omega)[round_eq,tP,h2,l,h,<-r,v,A,n]⟩
   obtain⟨m,rfl⟩:∃m:Nat,b=(m:Int):=⟨b.toNat,af⟩
   have N:m<q.b7.length:=af
   obtain⟨z,E⟩:∃z,z=q.b7[m]:=⟨_,rfl⟩
   by_cases c3:x.ek<z.ek
   .exact⟨i,⟨af,af⟩,by simp(disch:=omega)[round_eq,tP,h2,l,h,<-r,<-E,v,A,c3,n]⟩
   .exact⟨m,o,by simp(disch:=omega)[round_eq,tP,h2,l,h,<-r,<-E,v,A,c3,n]⟩)
  (λb o=>⟨_,⟨b,o.1,o.2,rfl⟩,by simp(disch:=omega)[round_eq,tP,l,h]⟩) (aQ _) (-1) ⟨af,af⟩
def Wg(q:Tr.Node)(E:q.b7.length<=64){M:Nat}(K:1<=M)(N:M<=64)(i:Int)(e0:Env)(_h2:True)(h3:e0 3=I (M:Int))(l:e0 11 = .ptr 0 0 0 0):
  ∃y,(∃(es:List Tr.Ent) (nx e:Int),es.length<=64/\y=(AX.ret,[AV.own 1 0 0 es.length,I nx,I e],[AB.var (Nc q),.row 0 3 (es.map En)]))/\iter (round (en.cz 228) [2,13] [(.ret,[8,9,10])] BJ e0 2 [1]) ([I i,.own 1 0 0 0],[.var (Nc q),.row 0 3 []])=some y :=
 zF (f:=round (en.cz 228) [2,13] [(.ret,[8,9,10])] BJ e0 2 [1]) (λ(x:Int×List Tr.Ent)=>([I x.1,.own 1 0 0 x.2.length],[AB.var (Nc q),.row 0 3 (x.2.map En)]))
  (λy=>∃(es:List Tr.Ent) (nx e:Int),es.length<=64/\y=(AX.ret,[AV.own 1 0 0 es.length,I nx,I e],[AB.var (Nc q),.row 0 3 (es.map En)])) (λx=>x.2.length<=M) (λx=>M-x.2.length)
  (λx o=>by
   obtain⟨fr,es⟩:=x;simp only at o;have key:=λe0 h2 l=>Wh q E fr [.var (Nc q),.row 0 3 (es.map En)] (kf (by simp[gd,AV.jW])) rfl e0 h2 l 2 rfl
   simp only[Nc]at key;generalize h:round (en.cz 228) [2,13] [(.ret,[8,9,10])] BJ e0 2 [1] _=res;simp(disch:=omega)[round_eq,BJ]at h;generalize o:iter _ _=oo at h;obtain⟨_,⟨b,H,G,rfl⟩,rfl⟩:∃y,_/\oo=some y:=by rw[<-o];exact key _ aq (by simp(disch:=omega)[l])
   by_cases v:b<0
   .simp(disch:=omega)[v]at h;exact .inr ⟨_,⟨es,_,_,af,rfl⟩,by rw[<-h]⟩
   by_cases A:es.length=M
   .have F:M-1<es.length:=by omega
    have r:((M:Int)-1)=((M-1:Nat):Int):=af
    obtain⟨z,n⟩:∃z,z=es[M-1]:=⟨_,rfl⟩;simp(disch:=omega)[h3,v,A,r,<-n]at h;exact .inr ⟨_,⟨es,_,_,af,rfl⟩,by rw[<-h,A]⟩
   obtain⟨m,rfl⟩:∃m:Nat,b=(m:Int):=⟨b.toNat,af⟩
   have L:m<q.b7.length:=af
   obtain⟨z,n⟩:∃z,z=q.b7[m]:=⟨_,rfl⟩;simp(disch:=omega)[h3,l,v,<-n]at h;exact .inl ⟨(IntKind.i64.wrap (z.ek+1),es++[z]),ak,ak,by rw[<-h];simp(disch:=omega)⟩)
  (i,[]) (aQ _)
def ain{n:Nat}(z:228<n)(t:Tr.Tree)(w:lM t)(d i m:Int):∃(fl:Bool) (es:List Tr.Ent) (nx e:Int),(en.cz n).p 102 [Tv t,I d,I i,I m]=some (.jg [.b9 fl (es.map En),I nx,I e])/\es.length<=64:=by
 generalize b:(en.cz n).p 102 _=res;rw[pp 102 rfl z rfl,b8,b6]at b
 by_cases h:i<0
 .simp(disch:=omega)[Ls,h]at b;exact⟨false,[],0,1,b.symm,ai⟩
 by_cases l:m<1
 .simp(disch:=omega)[Ls,h,l]at b;exact⟨false,[],0,1,b.symm,ai⟩
 by_cases c3:64<m
 .simp(disch:=omega)[Ls,h,l,c3]at b;exact⟨false,[],0,1,b.symm,ai⟩
 have o:=Kj (n:=228) ah t (nc w) d
 have x:(kD t d).b7.length<=64:=by
  unfold kD;cases A:find t.nodes d with
  |none=>simp[jo]
  |some q =>
   simp only;split
   .exact(jQ w (fk A).1).1
   .simp[jo]
 generalize kD t d=q at *
 generalize jF t d=e at *
 simp only[Tv,Nd]at o
 by_cases c4:e=0
 case neg =>
  simp(disch:=omega)[Ls,h,l,c3,ca 152,o,c4]at b;exact⟨false,[],0,e,b.symm,ai⟩
 subst c4;simp(disch:=omega)[Ls,h,l,c3,ca 152,o]at b;have key:=λe0 h2 h3 r=>Wg q x (M:=m.toNat) af af i e0 h2 h3 r
 rw[show ((m.toNat:Nat):Int)=m by omega]at key
 generalize v:iter _ _=oo at b;obtain⟨_,⟨es,nx,e,E,rfl⟩,rfl⟩:∃y,_/\oo=some y:=by rw[<-v];exact key _ trivial aq aq
 simp(disch:=omega)at b;exact⟨_,es,nx,e,b.symm,af⟩
def af7{n:Nat}(b:218<n){t:Tr.Tree}(w:lM t)(i:Int)(s:au)(hs:s.length<=1000000)(kind:Int):(en.cz n).p 96 [Tv t,I i,.str s,I kind]=some (.jg [Tv (Tr.add j4 gr t i s kind).1,I (Tr.add j4 gr t i s kind).2.1,I (Tr.add j4 gr t i s kind).2.2]):=by
 refine s96 b t (nc w) i s af kind ?_ ?_
 .have:=w.bg.ck;omega
 .exact λ_ _=>wS (w.bg.nC kind _) af
def s49{n:Nat}(hn:226<n){f:FS}{k:Nat}(h:mF k f)(hk:k<=200){o:lX}(Z:uy o):∃F H,(en.cz n).p 49 [Fv f,Ov o]=some (.jg [Fv F,Av H])/\mF (k+1) F/\zM H:=by
 generalize b:(en.cz n).p 49 _=res;rw[pp 49 rfl hn rfl,b8,b6]at b;have hop:=Z.p;have hot:=Z.t;have A:=λe=>Uz (n:=226) ah e
 simp only[Av,Ac,aP]at A;obtain⟨d,s,e,N,W⟩:=s93 (n:=226) ah f.s.now h.s.w o.path af
 obtain⟨G,E,U,y,Y⟩:=s93 (n:=226) ah f.s.now h.s.w o.to af
 simp only[Tv]at N y
 by_cases c3:o.kind=3
 .have T:=s92 (n:=226) ah f.s.now h.s.w o.path af
  generalize mO f.s.now o.path=wk at *
  obtain⟨i,e0⟩:=wk;simp only[Tv]at T
  by_cases M:e0=0
  case neg =>
   simp(disch:=omega)[RQ,c3,ca 92,T,M,A]at b;exact⟨f,⟨e0,0,0,0,0,[],[]⟩,b.symm,h.up,j7 ..⟩
  by_cases x:U=0
  case neg =>
   simp(disch:=omega)[RQ,c3,ca 92,T,M,ca 93,y,x,A]at b;exact⟨f,⟨U,0,0,0,0,[],[]⟩,b.symm,h.up,j7 ..⟩
  subst M x
  have Q:(en.cz 226).p 94 [Tv f.s.now,I i,I G,.str E]=some (.jg [Tv (Tr.ln j4 gr f.s.now i G E).1,I (Tr.ln j4 gr f.s.now i G E).2]):=by
   have P:=h.s.w.bg;refine s94 ah f.s.now (nc h.s.w) i G E af (by have:=P.ck;omega) (λq S=>?_) λq S=>?_
   .have h1:=P.b7 q (fk S).1;have h2:=P.lk q (fk S).1;exact wS ((P.mono (show 0<=1 by omega)).iP (n:={q with links:=q.links+1}) (by simp only;omega) (by simp only;omega)) af
   .have:=P.lk q (fk S).1;omega
  have L:=WF.ln jM h.s.w i G E;generalize Tr.ln j4 gr f.s.now i G E=r at *
  obtain⟨t,e⟩:=r;obtain⟨F,H,z,l,v⟩:=Uy (n:=226) ah h hk L h.qs h.ql e (a:=⟨0,i,0,0,0,[],[]⟩) (j7 ..)
  simp only[Tv,Fv,Fc,Sc,Av,Ac,aI,aL,aP]at Q z;simp(disch:=omega)[RQ,c3,ca 92,T,ca 93,y,ca 94,Q,ca 95,z]at b;exact⟨F,H,b.symm,l,v⟩
 by_cases he:e=0
 case neg =>
  simp(disch:=omega)[RQ,c3,ca 93,N,he,A]at b;exact⟨f,⟨e,0,0,0,0,[],[]⟩,b.symm,h.up,j7 ..⟩
 subst he
 by_cases X:o.kind=2
 .have K:=af7 (n:=226) ah h.s.w d s W o.n
  have L:=WF.add jM h.s.w d s o.n;generalize Tr.add j4 gr f.s.now d s o.n=r at *
  obtain⟨t,i,e⟩:=r;obtain⟨F,H,z,l,v⟩:=Uy (n:=226) ah h hk L h.qs h.ql e (a:=⟨0,i,o.n,0,0,[],[]⟩) (j7 ..)
  simp only[Tv,Fv,Fc,Sc,Av,Ac,aI,aL,aP]at K z;simp(disch:=omega)[RQ,ca 93,N,X,ca 96,K,ca 95,z]at b;exact⟨F,H,b.symm,l,v⟩
 by_cases c4:o.kind=4
 .have O:=IB h.s.w d s;have K:=s97 (n:=226) ah f.s.now (nc h.s.w) d s af O.1 O.2
  have L:=WF.un jM h.s.w d s;generalize Tr.un j4 f.s.now d s=r at *
  obtain⟨t,i,e⟩:=r;obtain⟨F,H,z,l,v⟩:=Uy (n:=226) ah h hk L h.qs h.ql e (a:=⟨0,i,0,0,0,[],[]⟩) (j7 ..)
  simp only[Tv,Fv,Fc,Sc,Av,Ac,aI,aL,aP]at K z;simp(disch:=omega)[RQ,ca 93,N,c4,ca 97,K,ca 95,z]at b;exact⟨F,H,b.symm,l,v⟩
 by_cases x:U=0
 case neg =>
  simp(disch:=omega)[RQ,c3,ca 93,N,X,c4,y,x,A]at b;exact⟨f,⟨U,0,0,0,0,[],[]⟩,b.symm,h.up,j7 ..⟩
 subst x;have Q:=Zp (n:=226) ah f.s.now (nc h.s.w) d s af
 have O:=QC h.s.w d s G E;have K:=s99 (n:=226) ah f.s.now (nc h.s.w) d G s E af af (by have:=h.s.w.bg.ck;omega) O.1 O.2
 have L:=WF.mv jM h.s.w d s G E;generalize(Tr.look j4 f.s.now d s)=lk at *
 obtain⟨li,le⟩:=lk;generalize Tr.mv j4 gr f.s.now d s G E=r at *
 obtain⟨t,i,e⟩:=r;obtain⟨F,H,z,l,v⟩:=Uy (n:=226) ah h hk L h.qs h.ql e (a:=⟨0,li,0,0,0,[],[]⟩) (j7 ..)
 simp only[Tv,Fv,Fc,Sc,Av,Ac,aI,aL,aP]at Q K z;simp(disch:=omega)[RQ,c3,ca 93,N,X,c4,y,ca 98,Q,ca 99,K,ca 95,z]at b;exact⟨F,H,b.symm,l,v⟩
def ac8(X:AH)(z:oE X)(es:List Tr.Ent)(r:es.length<=64)(fl:Bool)(e0:Env)(n:e0 11 = .b9 fl (es.map En))(L b:Nat)(E:L=X.length+1)(v:b=X.length):
  ∃y,(∃h:List au,h.length=es.length/\y=(AX.exit 1,[AV.own b 0 0 h.length],X++[AB.row 0 1 (h.map AV.str)]))/\iter (round (en.cz 234) [14,15] [(.exit 1,[14])] Gy e0 L [b]) ([.own b 0 0 0,I 0],X++[.row 0 1 []])=some y:=by
 subst E v;have A:=λh0 Y=>z.tail (L:=X.length+1) (R:=[X.length]) af ai h0 Y
 have o:=jr X
 exact iQ (f:=round (en.cz 234) [14,15] [(.exit 1,[14])] Gy e0 (X.length+1) [X.length]) es.length (λi (h:List au)=>([.own X.length 0 0 h.length,I (i:Int)],X++[AB.row 0 1 (h.map AV.str)]))
  (λy=>∃h:List au,h.length=es.length/\y=(AX.exit 1,[AV.own X.length 0 0 h.length],X++[AB.row 0 1 (h.map AV.str)])) (λi h=>h.length=i)
  (λi h F l=>by
   obtain⟨x,q⟩:∃x,x=es[i]:=⟨_,rfl⟩;exact .inl ⟨h++[x.name],by simp[l],by simp(disch:=omega)[round_eq,Gy,n,<-q,l,A,o]⟩)
  (λh l=>⟨_,⟨h,l,rfl⟩,by simp(disch:=omega)[round_eq,Gy,n,l]⟩) (aQ _) [] rfl
def s50{n:Nat}(hn:234<n){f:FS}{k:Nat}(v:mF k f)(hk:k<=200){o:lX}(ho:uy o):∃H K,(en.cz n).p 50 [Fv f,Ov o]=some (.jg [Fv H,Av K])/\mF (k+1) H/\zM K:=by
 generalize b:(en.cz n).p 50 _=res;rw[pp 50 rfl hn rfl,b8,b6]at b;have hop:=ho.p;have A:=λe=>Uz (n:=234) ah e
 simp only[Av,Ac,aP]at A;have x:=s92 (n:=234) ah f.s.now v.s.w o.path af
 generalize mO f.s.now o.path=Y at *
 obtain⟨i,e0⟩:=Y;simp only[Tv]at x
 by_cases G:e0=0
 case neg =>
  simp(disch:=omega)[OP,ca 92,x,G,A]at b;exact⟨f,⟨e0,0,0,0,0,[],[]⟩,b.symm,v.up,j7 ..⟩
 subst G;have z:=pT (n:=234) ah f.s.now (nc v.s.w) i
 have hg:lq (find f.s.now.nodes i) = .jg [Nd (iS f.s.now i),.bool (find f.s.now.nodes i).isSome]:=by
  unfold lq iS;cases find f.s.now.nodes i<;>rfl
 rw[hg]at z
 have hqs:(iS f.s.now i).b7.length<=64/\(iS f.s.now i).data.length<=4096:=by
  unfold iS;cases M:find f.s.now.nodes i with
  |none=>simp[jo]
  |some q=>exact jQ v.s.w (fk M).1
 generalize iS f.s.now i=q at *
 generalize(find f.s.now.nodes i).isSome=bq at *
 simp only[Tv,Nd]at z
 by_cases T:o.kind=1
 .simp(disch:=omega)[OP,ca 92,x,ca 100,z,T]at b;exact⟨f,⟨0,i,q.kind,0,0,[],[]⟩,b.symm,v.up,j7 ..⟩
 by_cases c7:o.kind=7
 .obtain⟨r,W⟩:=abY (n:=234) ah q af
  simp only[Nd]at W;simp(disch:=omega)[OP,ca 92,x,ca 100,z,c7,W]at b;exact⟨f,⟨0,i,q.kind,q.links,r,[],[]⟩,b.symm,v.up,j7 ..⟩
 by_cases c6:o.kind=6
 .obtain⟨fl,es,nx,e,S,O⟩:=ain (n:=234) ah f.s.now v.s.w i o.n o.m
  simp only[Tv]at S
  by_cases E:e=0
  case neg =>
   simp(disch:=omega)[OP,ca 92,x,ca 100,z,c6,ca 102,S,E,A]at b;exact⟨f,⟨e,0,0,0,0,[],[]⟩,b.symm,v.up,j7 ..⟩
  subst E;simp(disch:=omega)[OP,ca 92,x,ca 100,z,c6,ca 102,S]at b;have key:=λe0 h=>ac8 [.var (Fc f),.var nY,.var Dm,.var (Tb f.s.now),.var (Nc q)] (kf (by simp[gd,AV.jW,nY,Dm])) es O fl e0 h 6 5 rfl rfl
  simp only[nY,Dm,Fc,Sc,Nc,Tb,aI,aL]at key;generalize hx:iter _ _=oo at b;obtain⟨_,⟨Z,hns,rfl⟩,rfl⟩:∃y,_/\oo=some y:=by rw[<-hx];exact key _ aq
  simp(disch:=omega)at b;exact⟨f,⟨0,0,0,nx,0,Z,[]⟩,b.symm,v.up,⟨by simp only;omega,ai⟩⟩
 by_cases c8:o.kind=8
 .have F:=aim (n:=234) ah f.s.now (nc v.s.w) f.holds (by have:=v.hl;omega) false o.client o.handle i
  have U:=yN f.s.now f.holds o.client o.handle i;generalize qm f.s.now f.holds o.client o.handle i=r at *
  obtain⟨l,e⟩:=r;simp only[Tv,dw]at F U
  by_cases E:e=0
  .subst E
   rcases U with⟨_,h⟩ | ⟨_,_,_,_,_,h5,h6,h7⟩
   .exact absurd rfl h
   .cases h7;simp(disch:=omega)[OP,ca 92,x,ca 100,z,c8,ca 103,F]at b;exact⟨⟨f.s,uF f.holds ⟨o.client,o.handle,i⟩,f.jG⟩,⟨0,i,0,0,0,[],[]⟩,b.symm,⟨v.s.mono af,FL v.hs h5,by simp only[FM];omega,v.qs,v.ql⟩,j7 ..⟩
  .simp(disch:=omega)[OP,ca 92,x,ca 100,z,c8,ca 103,F,E,A]at b;exact⟨f,⟨e,0,0,0,0,[],[]⟩,b.symm,v.up,j7 ..⟩
 by_cases c13:o.kind=13
 .have F:=ail (n:=234) ah f.s.now v.s.w f.jG (by have:=v.ql;omega) false i o.n o.m
  obtain⟨h1,h2⟩:=IK (t:=f.s.now) v.qs v.ql i o.n o.m;generalize rI f.s.now f.jG i o.n o.m=r at *
  obtain⟨l,e⟩:=r;simp only at h1 h2 F;obtain⟨H,K,X,N,P⟩:=Uy (n:=234) ah v hk v.s.w h1 h2 e (a:=⟨0,i,0,0,0,[],[]⟩) (j7 ..)
  simp only[Tv,Fv,Fc,Sc,Av,Ac,aI,aL,aP,dw]at F X;simp(disch:=omega)[OP,ca 92,x,ca 100,z,c13,ca 104,F,ca 95,X]at b;exact⟨H,K,b.symm,N,P⟩
 obtain⟨s',a,e,Q,L⟩:=aik (n:=234) ah v.s i
 simp only[Sv,Sc]at Q
 by_cases E:e=0
 .subst E;simp(disch:=omega)[OP,ca 92,x,ca 100,z,T,c7,c6,c8,c13,ca 105,Q]at b;exact⟨⟨s',f.holds,f.jG⟩,⟨0,0,0,a,0,[],[]⟩,b.symm,⟨L.mono af,v.hs,v.hl,v.qs,v.ql⟩,j7 ..⟩
 .simp(disch:=omega)[OP,ca 92,x,ca 100,z,T,c7,c6,c8,c13,ca 105,Q,E,A]at b;exact⟨f,⟨e,0,0,0,0,[],[]⟩,b.symm,v.up,j7 ..⟩
end Go.Proofs.YtghgbehknhmnaaaGreatDoor
namespace Go.Tr
structure Rec where
 c:Int
 s:Int
 a:nH
end Go.Tr
namespace Go.Proofs.YtghgbehknhmnaaaGreatDoor
open Go.Am Go.Tr Go.Am.Nm Go.Lib
abbrev Rc(r:Rec):List AV:=.int .i64 r.c :: .int .i64 r.s::Ac r.a
attribute [simp] Rc
@[simp]def Rv(r:Rec):AV:=.agg (Rc r)
@[simp]def agi(a b c d e f g h i j:AV)(l:List AV):Am.shape 9 true (a::b::c::d::e::f::g::h::i::j::l)=some (.agg [a,b,c,d,e,f,g,h,i]):=by simp[Am.shape]
@[simp]def akI(l:List Rec):jw 9 (l.map Rv)=true:=by simp[jw]
structure Tsp(c:Int)(A M B:List Rec):Prop where
 a:∀r∈A,r.c<c
 m:M.length<=1
 mc:∀r∈M,r.c=c
 b:∀r∈B,c<r.c
 l:(A++M++B).length<=1000
def OG{α:Type}{p:α->Bool}{A N:List α}(b:∀x∈A,p x=true)(l:∀x∈N,p x=false):kg p (A++N)=A.length:=by
 unfold kg
 induction A with
 |nil =>
  cases N with
  |nil=>rfl
  |cons x N=>simp[dQ,l x ai]
 |cons x A h =>
  rw[aI,dQ,b x ai,h λy i=>b y (by simp[i])]
  simp
variable{A M:List Rec}
section
variable{n:Nat}
def s81(b:4<n)(r:Rec)(c:Int):(en.cz n).p 81 [Rv r,I c]=some (I (oa r.c c)):=by
 rw[pp 81 rfl b rfl,b8,b6];have h:=Zq (n:=4) ah r.c c
 simp(disch:=omega)[c81,ca 82,h]
def s80(G:163<n){c:Int}{B:List Rec}(h:Tsp c A M B)(f:Bool){X:AH}(O:oE X):eT (en.cz n) 80 [.b9 f ((A++M++B).map Rv),I c,.fn (.func 81) [] []] X=some (.jg [I (A.length:Int),.bool (!M.isEmpty)],X):=by
 have F:∀r∈M++B,c<=r.c:=λr o=>by
  rcases aX.1 o with o | o
  .have:=h.mc r o;omega
  .have:=h.b r o;omega
 have q:kg (λx:Rec=>decide (oa x.c c<0)) (A++M++B)=A.length:=by
  rw[cA];exact OG (λr o=>by simpa[qt]using h.a r o) (λr o=>by simpa[qt]using F r o)
 have E:=bsG (Γ:=en.cz 163) (z:=9) (cs:=Rc) (λ_=>rfl) (l:=A++M++B) (by have:=h.l;omega) O (xk X (cs:=Rc) (λ_=>rfl) (A++M++B) f) (I c) 81 [] [] (λx=>oa x.c c) (λi j P L N=>by
  rw[qt]at N⊢;have K:j<A.length:=by
   refine Nat.lt_of_not_le λv=>?_
   have:(A++M++B)[j]∈M++B:=by
    simp only[cA];rw[List.getElem_append_right v];exact aN _
   have:=F _ this;omega
  have H:(A++M++B)[i]∈A:=by
   simp only[cA];rw[List.getElem_append_left af]
   exact aN _
  exact h.a _ H) λx _=>by
   have:=s81 (n:=163) ah x c
   simp only[Rv,Rc,Ac]at this;simp(disch:=omega)[ca 81,this]
 rw[q]at E;rw[ph 80 rfl G rfl];refine Eq.trans E ?_
 have y:((A++M++B)[A.length]?.elim false λx=>decide (oa x.c c=0)) = !M.isEmpty:=by
  rw[cA,aS (aU _),Nat.sub_self];cases M with
  |nil =>
   cases B with
   |nil=>rfl
   |cons x B =>
    have:=h.b x ai
    have:¬x.c=c:=af
    simp[nj,this]
  |cons x M =>
   have:=h.mc x ai
   simp[nj,this]
 rw[y]
def s28(b:164<n){c:Int}{B:List Rec}(h:Tsp c A M B)(f:Bool):(en.cz n).p 28 [.b9 f ((A++M++B).map Rv),I c]=some (.jg [I (A.length:Int),.bool (!M.isEmpty)]):=by
 have i:=s80 (n:=164) ah h f (X:=[]) rfl
 generalize A++M++B=T at *
 rw[pp 28 rfl b rfl,b8,b6];simp(disch:=omega)[c28,i]
def zj(c s r:Int):Int:=if c<0\/16<=c then 1 else if s<1\/s<r then 120 else if r+1<s\/1099511627776<s then 121 else 0
def s29(i:165<n)(c s r:Int)(l:0<=r/\r<=1099511627776)(X:AH):eT (en.cz n) 29 [I c,I s,I r] X=some (if zj c s r=0 then .lU else .sI 97 (.agg [I (zj c s r)]),X):=by
 rw[ph 29 rfl i rfl,b6];unfold zj
 by_cases b:c<0
 .simp(disch:=omega)[TK,b]
 by_cases h:16<=c
 .simp(disch:=omega)[TK,b,h]
 by_cases c3:s<1
 .simp(disch:=omega)[TK,b,h,c3]
 by_cases c4:s<r
 .simp(disch:=omega)[TK,b,h,c3,c4]
 by_cases c5:r+1<s
 .simp(disch:=omega)[TK,b,h,c3,c4,c5]
 by_cases c6:1099511627776<s
 .simp(disch:=omega)[TK,b,h,c3,c4,c5,c6]
 .simp(disch:=omega)[TK,b,h,c3,c4,c5,c6]
end
def n9(c:Int):List Rec->Rec
 |r::_=>r
 | []=>⟨c,0,Az⟩
section
variable{n:Nat}{c:Int}{A M B:List Rec}{f:FS}{fl:Bool}{o:lX}
def Qi(x:168<n)(h:Tsp c A M B)(s:Int)(v:0<=(n9 c M).s/\(n9 c M).s<=1099511627776)(E:zj c s (n9 c M).s≠0):
  (en.cz n).p 15 [Fv f,.b9 fl ((A++M++B).map Rv),I c,I s,Ov o]=some (.jg [Fv f,.b9 fl ((A++M++B).map Rv),Av ⟨zj c s (n9 c M).s,0,0,0,0,[],[]⟩]):=by
 have q:=s28 (n:=168) ah h fl
 have hl:=h.l;have y:=h.m;rw[pp 15 rfl x rfl,b8,b6];have b:=s29 (n:=168) ah c s (n9 c M).s v
 rw[if_neg E]at b;generalize zj c s (n9 c M).s=e at *
 cases M with
 |nil =>
  generalize A++[]++B=T at *
  simp only[n9]at b;simp(disch:=omega)[YD,ca 28,q,b,ZR,LL]
 |cons r M =>
  obtain⟨T,i⟩:∃T,T=A++r::M++B:=⟨_,rfl⟩;rw[<-i]at q hl⊢;have z:A.length<T.length:=by rw[i];simp
  have hg:T[A.length]=r:=by subst i;simp
  simp only[n9]at b;simp(disch:=omega)[YD,ca 28,q,b,ZR,LL,hg]
def Mt(x:168<n)(h:Tsp c A M B)(s:Int)(v:0<=(n9 c M).s/\(n9 c M).s<=1099511627776)(E:zj c s (n9 c M).s=0)(hs:s=(n9 c M).s):
  (en.cz n).p 15 [Fv f,.b9 fl ((A++M++B).map Rv),I c,I s,Ov o]=some (.jg [Fv f,.b9 fl ((A++M++B).map Rv),Av (n9 c M).a]):=by
 have q:=s28 (n:=168) ah h fl
 have hl:=h.l;have y:=h.m;rw[pp 15 rfl x rfl,b8,b6];have b:=s29 (n:=168) ah c s (n9 c M).s v
 rw[if_pos E]at b;subst hs;cases M with
 |nil =>
  generalize A++[]++B=T at *
  simp only[n9]at b;simp(disch:=omega)[YD,ca 28,q,b,ZR,LL,n9]
 |cons r M =>
  obtain⟨T,i⟩:∃T,T=A++r::M++B:=⟨_,rfl⟩;rw[<-i]at q hl⊢;have z:A.length<T.length:=by rw[i];simp
  have hg:T[A.length]=r:=by subst i;simp
  simp only[n9]at b;simp(disch:=omega)[YD,ca 28,q,b,ZR,LL,hg,n9]
def Qh(K:168<n)(h:Tsp c A M B)(s:Int)(H:0<=(n9 c M).s/\(n9 c M).s<=1099511627776)(N:zj c s (n9 c M).s=0)(hs:s≠(n9 c M).s){G:FS}{F:nH}
  (E:(en.cz 168).p 12 [Fv f,Ov {o with client:=c}]=some (.jg [Fv G,Av F])) :
  (en.cz n).p 15 [Fv f,.b9 fl ((A++M++B).map Rv),I c,I s,Ov o]=some (.jg [Fv G,.b9 false ((A++[(⟨c,s,F⟩:Rec)]++B).map Rv),Av F]):=by
 have q:=s28 (n:=168) ah h fl
 have hl:=h.l;have v:=h.m;rw[pp 15 rfl K rfl,b8,b6];have i:=s29 (n:=168) ah c s (n9 c M).s H
 rw[if_pos N]at i;simp only[Fv,Fc,Sc,Ov,Oc,Av,Ac,aI,aL]at E;cases M with
 |nil =>
  obtain⟨T,b⟩:∃T,T=A++[]++B:=⟨_,rfl⟩;rw[<-b]at q hl⊢;have L:A.length<=T.length:=by rw[b];simp
  simp only[n9]at i hs;have e1:(T.map Rv).take A.length=A.map Rv:=by rw[b];simp
  have W:(T.map Rv).drop A.length=B.map Rv:=by rw[b];simp
  have U:∀x:AV,(A.map Rv++x::B.map Rv)[A.length]? = some x:=λx=>ai
  have S:∀x y:AV,(A.map Rv++x::B.map Rv).set A.length y=A.map Rv++y::B.map Rv:=λx y=>ai
  have O:T.length=A.length+B.length:=by rw[b];simp
  have Q:∀x:AV,(A.map Rv++x::B.map Rv).take (T.length+1)=A.map Rv++x::B.map Rv:=λx=>aO ak
  simp(disch:=omega)[-List.map_take,-List.map_drop,YD,ca 28,q,i,ZR,LL,hs,ca 12,E,p30,p31,jd,kO,e1,W,U,S,Q]
 |cons r M =>
  have P:M=[]:=by simpa using v
  subst P;obtain⟨T,b⟩:∃T,T=A++[r]++B:=⟨_,rfl⟩;rw[<-b]at q hl⊢;have z:A.length<T.length:=by rw[b];simp
  have hg:T[A.length]=r:=by subst b;simp
  simp only[n9]at i hs;simp(disch:=omega)[YD,ca 28,q,i,ZR,LL,hg,z,hs,ca 12,E,p30,jd];rw[aO ai]
  subst b;simp
end
abbrev ze:=Li.Ev lX nH
abbrev Ec(x:ze):List AV:=.int .i64 (if x.vO=true then 1 else 2) :: .int .i64 (x.c:Int)::(Oc x.op++Ac x.PT)
attribute [simp] Ec
@[simp]def Po(x:ze):AV:=.agg (Ec x)
@[simp]def abe(y x a3 a4 a5 a6 a7 a8 a9 b1 v r q o i h b z:AV)(l:List AV):Am.shape 17 true (y::x::a3::a4::a5::a6::a7::a8::a9::b1::v::r::q::o::i::h::b::z::l)=some (.agg [y,x,a3,a4,a5,a6,a7,a8,a9,b1,v,r,q,o,i,h,b]):=by simp[Am.shape]
@[simp]def akv(l:List ze):jw 17 (l.map Po)=true:=by simp[jw]
def KZ{α:Type}{a b:List α}{p:α->α->Bool}(i:∀x y,p x y=true↔x=y):(decide (a.length=b.length)&&(a.zip b).all λx=>p x.1 x.2)=true↔a=b:=by
 induction a generalizing b with
 |nil=>cases b<;>simp
 |cons x a h =>
  cases b with
  |nil=>simp
  |cons y b =>
   have:=h (b:=b);simp only[aF,decide_eq_true_eq]at this;simp only[aR,dZ,bU,aF,decide_eq_true_eq,gE,i,dU];rw[<-this]
   constructor
   .rintro⟨h1,h2,h3⟩;exact⟨h2,h1,h3⟩
   .rintro⟨h1,h2,h3⟩;exact⟨h2,h1,h3⟩
def agb{x y:UInt8}(h:(x.toNat:Int)=(y.toNat:Int)):x=y:=fW.1 af
section
variable{n:Nat}
def s87(i:160<n){a b:au}(q:a.length<=1000000)(l:b.length<=1000000):(en.cz n).p 87 [.b9 false (a.map B),.b9 false (b.map B)]=some (.bool (decide (a=b))):=by
 rw[pp 87 rfl i rfl];refine(eqG (z:=1) (agg:=false) (o:=.bin .neq (.t 19) (.t 23)) (F:=B) (λ_=>rfl) (λ_=>rfl) (λx y=>decide (x=y)) (λx y e h h1 h2=>?_) q l false false).trans ?_
 .by_cases c : x = y
  .simp(disch:=omega)[h1,h2,c]
  .have r:¬(x.toNat:Int)=(y.toNat:Int):=λh=>c (agb h)
   simp(disch:=omega)[h1,h2,c,r]
 .congr 2
  have:=KZ (a:=a) (b:=b) (p:=λx y=>decide (x=y)) ai
  by_cases c:a=b
  .rw[this.2 c];simp[c]
  .simp only[c,decide_false];exact Bool.eq_false_iff.2 λh=>c (this.1 h)
def s38(q:161<n){x y:nH}(o:zM x)(l:zM y):∃r,(en.cz n).p 38 [Av x,Av y]=some (.bool r)/\(r=true↔x=y):=by
 have h1:=s86 (n:=161) ah x.names y.names false false (by have:=o.n;omega) (by have:=l.n;omega)
 have h2:=s87 (n:=161) ah (a:=x.data) (b:=y.data) (by have:=o.d;omega) (by have:=l.d;omega)
 obtain⟨x1,x2,x3,x4,x5,x6,x7⟩:=x;obtain⟨y1,y2,y3,y4,y5,y6,y7⟩:=y;simp only at h1 h2;refine⟨decide (x1=y1/\x2=y2/\x3=y3/\x4=y4/\x5=y5/\x6=y6/\x7=y7),?_,ai⟩
 rw[p38 q,b8,b6]
 by_cases h:x1=y1
 .by_cases i : x2 = y2
  .by_cases c3 : x3 = y3
   .by_cases c4 : x4 = y4
    .by_cases c5 : x5 = y5
     .by_cases c6:x6=y6
      .subst c6;simp(disch:=omega)[RS,ca 86,h1,ca 87,h2,h,i,c3,c4,c5]
      .simp(disch:=omega)[RS,ca 86,h1,h,i,c3,c4,c5,c6]
     .simp(disch:=omega)[RS,h,i,c3,c4,c5]
    .simp(disch:=omega)[RS,h,i,c3,c4]
   .simp(disch:=omega)[RS,h,i,c3]
  .simp(disch:=omega)[RS,h,i]
 .simp(disch:=omega)[RS,h]
end
end Go.Proofs.YtghgbehknhmnaaaGreatDoor
