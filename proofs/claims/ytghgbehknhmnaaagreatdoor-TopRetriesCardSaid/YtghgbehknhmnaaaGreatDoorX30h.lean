/- Part of the proof that TopRetriesCard holds. -/
import Derived.Test.YtghgbehknhmnaaaGreatDoorX30f
set_option linter.all false
namespace Go.Proofs.YtghgbehknhmnaaaGreatDoor
open Go.Am Go.Tr Go.Am.Nm Go.Lib
def s88{n:Nat}(A:7<n)(x y:Tr.Node)(z:x.b7.length<=1000)(v:y.b7.length<=1000):
  (en.cz n).p 88 [Nd x,Nd y]=some (.bool (decide (jy x=jy y))):=by
 rw[pp 88 rfl A rfl,b8,b6];have q:=s90 (n:=7) ah x.b7 y.b7 false false z v
 have o:=s89 (n:=7) ah x.data y.data false false
 have h:∀x y:Tr.Node,jy x=jy y↔x.ino=y.ino/\x.kind=y.kind/\x.links=y.links/\x.up=y.up/\x.data=y.data/\x.b7=y.b7:=λx y=>by
  unfold jy;rw[Tr.Node.mk.injEq]
  constructor
  .rintro⟨h1,h2,h3,_,h4,_,h5,h6⟩;exact⟨h1,h2,h3,h6,h4,h5⟩
  .rintro⟨h1,h2,h3,h6,h4,h5⟩;exact⟨h1,h2,h3,rfl,h4,rfl,h5,h6⟩
 have i:decide (jy x=jy y)=decide (x.ino=y.ino/\x.kind=y.kind/\x.links=y.links/\x.up=y.up/\x.data=y.data/\x.b7=y.b7):=decide_eq_decide.2 (h x y);rw[i];clear i h;obtain⟨x1,x2,x3,x4,x5,x6,x7,x8⟩:=x;let⟨y1,y2,y3,y4,y5,y6,y7,r⟩:=y;simp only at q o
 by_cases b:x1=y1
 .by_cases l : x2 = y2
  .by_cases c3 : x3 = y3
   .by_cases c4 : x8 = r
    .by_cases c5:x5=y5
     .subst c5;simp(disch:=omega)[X2,b,l,c3,c4,ca 89,o,ca 90,q]
     .simp(disch:=omega)[X2,b,l,c3,c4,ca 89,o,c5]
    .simp(disch:=omega)[X2,b,l,c3,c4]
   .simp(disch:=omega)[X2,b,l,c3]
  .simp(disch:=omega)[X2,b,l]
 .simp(disch:=omega)[X2,b]
def l91{n:Nat}(K:7<n)(a b:List Tr.Node)(hl:a.length=b.length)(L:a.length<=1000)(E:∀q∈a,q.b7.length<=1000)(A:∀q∈b,q.b7.length<=1000)(f g:Bool)(e0:Env)(l:e0 15 = .b9 f (a.map Nd))(h1:e0 1 = .b9 g (b.map Nd))(h2:e0 2 = .fn (.func 88) [] [])(h:e0 16=I (a.length:Int)):
  iter (round (en.cz n) [17] [(.exit 0,[]),(.ret,[6])] C5 e0 0 []) ([.int .i64 0],[])=some (((a.zip b).find? λz=>!decide (jy z.1=jy z.2)).elim (.exit 0,[],[]) λz=>(.ret,[.bool false],[.var (Nc z.1),.var (Nc z.2)])) :=
 pE (f:=round (en.cz n) [17] [(.exit 0,[]),(.ret,[6])] C5 e0 0 []) (λi=>([.int .i64 (i:Int)],[])) (a.zip b) (λz=>!decide (jy z.1=jy z.2)) (λ_ z=>(.ret,[.bool false],[.var (Nc z.1),.var (Nc z.2)])) (.exit 0,[],[])
  (λi G=>by
   have H:i<a.length:=by rw[List.length_zip]at G;omega
   have v:i<b.length:=af
   rw[List.getElem_zip];obtain⟨x,r⟩:∃x,x=a[i]:=⟨_,rfl⟩;obtain⟨y,o⟩:∃y,y=b[i]:=⟨_,rfl⟩;rw[<-r,<-o];have F:=s88 (n:=n) af x y (by rw[r];exact E _ (aN H)) (by rw[o];exact A _ (aN v))
   simp only[Nd]at F
   by_cases c:jy x=jy y
   .simp(disch:=omega)[round_eq,C5,l,h1,h2,h,<-r,<-o,ca 88,F,c]
   .simp(disch:=omega)[round_eq,C5,l,h1,h2,h,<-r,<-o,ca 88,F,c])
  (by
   have e:(a.zip b).length=a.length:=by rw[List.length_zip];omega
   rw[e];simp(disch:=omega)[round_eq,C5,h])
def s91{n:Nat}(x:99<n)(a b:List Tr.Node)(E:a.length<=1000)(A:b.length<=1000)(r:∀q∈a,q.b7.length<=1000)(o:∀q∈b,q.b7.length<=1000)(f g:Bool):
  ∃Y,eT (en.cz n) 91 [.b9 f (a.map Nd),.b9 g (b.map Nd),.fn (.func 88) [] []] []=some (.bool (decide (a.map jy=b.map jy)),Y):=by
 rw[ph 91 rfl x rfl,b6]
 by_cases hl:a.length=b.length
 .have v:=wW hl;simp(disch:=omega)[c91,hl];rw[l91 (n:=99) ah a b hl af r o f g _ aq aq aq (by simp(disch:=omega)[hl])]
  cases l:(a.zip b).find? λz=>!decide (jy z.1=jy z.2)with
  |none =>
   have i:a.map jy=b.map jy:=v.1 (aM.2 λz y=>by simpa using cD.1 l z y)
   simp(disch:=omega)[i]
  |some z =>
   have i:a.map jy≠b.map jy:=λh=>by
    have h1:=aM.1 (v.2 h) z (bG l);have h2:=cM l;simp only[h1]at h2;cases h2
   simp(disch:=omega)[i]
 .have i:a.map jy≠b.map jy:=λh=>hl (by have:=congrArg List.length h;simpa using this)
  simp(disch:=omega)[c91,i]
def s40{n:Nat}(r:100<n)(a b:Tr.Tree)(o:Bt a)(l:Bt b):(en.cz n).p 40 [Tv a,Tv b]=some (.bool (qO a b)):=by
 rw[pp 40 rfl r rfl,b8,b6];let⟨Y,h⟩:=s91 (n:=100) ah a.nodes b.nodes o.len l.len o.b7 l.b7 false false
 unfold qO
 by_cases i:a.next=b.next
 .by_cases q:a.ek=b.ek
  .simp(disch:=omega)[c40,i,q,h]
  .simp(disch:=omega)[c40,i,q]
 .simp(disch:=omega)[c40,i]
def ajK{Γ:jE}(l:List Ho)(hl:l.length<=1000)(f:Bool)(c h:Int)(z:Tr.Node)(e0:Env)(h1:e0 1 = .b9 f (l.map Hv))(h2:e0 2=I c)(h3:e0 3=I h)(X:AH)(q:X.all gd=true)(L:Nat)(v:X.length=L):
  iter (round Γ [14] [(.exit 0,[14])] tO e0 L []) ([.int .i64 0],X)=some (.exit 0,[.int .i64 (kg (jx c h) l:Nat)],X):=by
 subst v
 exact Ob (f:=round Γ [14] [(.exit 0,[14])] tO e0 X.length []) (λi=>([.int .i64 (i:Int)],X)) l (λx=>!jx c h x) (λk=>(.exit 0,[.int .i64 (k:Int)],X))
  (λk hk=>by
   obtain⟨y,b⟩:∃y,y=l[k]:=⟨_,rfl⟩;rw[<-b];unfold jx
   by_cases r:y.c<c
   .simp(disch:=omega)[round_eq,tO,h1,h2,<-b,r,jv _ _ X _ q]
   .by_cases o : y.c = c
    .by_cases n:y.h<h
     .simp(disch:=omega)[round_eq,tO,h1,h2,h3,<-b,o,n,jv _ _ X _ q]
     .simp(disch:=omega)[round_eq,tO,h1,h2,h3,<-b,o,n]
    .simp(disch:=omega)[round_eq,tO,h1,h2,<-b,r,o])
  (by simp(disch:=omega)[round_eq,tO,h1])
def QM(l:List Ho)(q:Ho->Bool):0<=DU l q↔l.any q=true:=by
 unfold DU;cases b:l.find? q with
 |none =>
  have h:l.any q=false:=by
   rw[<-eE,cv]
   rintro⟨x,i,n⟩
   exact(cD.1 b x i) n
  rw[h];simp
 |some y =>
  have h:l.any q=true:=cv.2 ⟨y,bG b,cM b⟩;rw[h];simp
def aim{n:Nat}(S:231<n)(t:Tr.Tree)(P:Bt t)(l:List Ho)(hl:l.length<=1000)(f:Bool)(c h i:Int):
  (en.cz n).p 103 [Tv t,.b9 f (l.map Hv),I c,I h,I i]=some (.jg [.b9 (f && !decide ((qm t l c h i).2=0)) ((qm t l c h i).1.map Hv),I (qm t l c h i).2]):=by
 rw[pp 103 rfl S rfl,b8,b6];have v:=pT (n:=231) ah t P i
 have b:=abL (n:=231) ah t P i
 have F:=UH (n:=231) ah l hl f c h
 have A:=QM l (nZ c h);have L:=lK (jx c h) l;unfold qm;unfold Jh at b;unfold lq at v;have r:Kx c h=decide (0<=c/\c<16/\0<=h/\h<=99):=rfl;cases O:find t.nodes i with
 |none =>
  rw[O]at v b;simp only[bQ,Tv,Nd]at v b;cases hk:Kx c h with
  |false =>
   rw[hk]at r
   by_cases x:c<0
   .simp(disch:=omega)[vL,ca 100,v,x]
   .by_cases y : 16 <= c
    .simp(disch:=omega)[vL,ca 100,v,x,y]
    .by_cases E : h < 0
     .simp(disch:=omega)[vL,ca 100,v,x,y,E]
     .have G:99<h:=by
       rcases Int.lt_or_le 99 h with h' | h'
       .exact h'
       .have:=of_decide_eq_false r.symm;exact absurd ⟨af,af,af,h'⟩ this
      simp(disch:=omega)[vL,ca 100,v,x,y,E,G]
  |true =>
   rw[hk]at r;let⟨x,y,E,G⟩:=of_decide_eq_true r.symm;simp(disch:=omega)[vL,ca 100,v]
 |some q =>
  rw[O]at v b;simp only[bB,Tv,Nd]at v b;have M:=λe0 h1 h2 h3=>ajK (Γ:=en.cz 231) l hl f c h q e0 h1 h2 h3 [.var [.int .i64 q.ino,.int .i64 q.kind,.int .i64 q.links,.b9 false (q.data.map B),.b9 false (q.b7.map En),.int .i64 q.up]] rfl 1 rfl
  show _=some (AV.jg [.b9 (f && !decide ((if Kx c h=false then(l,(1:Int))else if mS q=true then(l,70)else if q.kind=2 then(l,72)else if l.any (nZ c h)=true then(l,71)else if 64<=l.length then(l,76)else(uF l ⟨c,h,i⟩,0)).2=0)) ((if Kx c h=false then(l,(1:Int))else if mS q=true then(l,70)else if q.kind=2 then(l,72)else if l.any (nZ c h)=true then(l,71)else if 64<=l.length then(l,76)else(uF l ⟨c,h,i⟩,0)).1.map Hv),I (if Kx c h=false then(l,(1:Int))else if mS q=true then(l,70)else if q.kind=2 then(l,72)else if l.any (nZ c h)=true then(l,71)else if 64<=l.length then(l,76)else(uF l ⟨c,h,i⟩,0)).2])
  have K:uF l ⟨c,h,i⟩=l.take (kg (jx c h) l)++⟨c,h,i⟩::l.drop (kg (jx c h) l):=rfl;rw[K];generalize l.any (nZ c h)=u at *
  generalize DU l (nZ c h)=N at *
  generalize mS q=o at *
  generalize kg (jx c h) l=k at *
  cases hk:Kx c h with
  |false =>
   rw[hk]at r
   by_cases x:c<0
   .simp(disch:=omega)[vL,ca 100,v,x]
   .by_cases y : 16 <= c
    .simp(disch:=omega)[vL,ca 100,v,x,y]
    .by_cases E : h < 0
     .simp(disch:=omega)[vL,ca 100,v,x,y,E]
     .have G:99<h:=by
       rcases Int.lt_or_le 99 h with h' | h'
       .exact h'
       .have:=of_decide_eq_false r.symm;exact absurd ⟨af,af,af,h'⟩ this
      simp(disch:=omega)[vL,ca 100,v,x,y,E,G]
  |true =>
   rw[hk]at r;let⟨x,y,E,G⟩:=of_decide_eq_true r.symm;clear r hk;cases o with
   |true=>simp(disch:=omega)[vL,ca 100,v,ca 160,b]
   |false =>
    by_cases H:q.kind=2
    .simp(disch:=omega)[vL,ca 100,v,ca 160,b,H]
    .cases u with
     |true =>
      have z:0<=N:=A.2 rfl;simp(disch:=omega)[vL,ca 100,v,ca 160,b,H,ca 161,F,z]
     |false =>
      have z:¬0<=N:=λh=>by cases A.1 h
      by_cases Q:64<=l.length
      .simp(disch:=omega)[vL,ca 100,v,ca 160,b,H,ca 161,F,z,Q]
      .simp(disch:=omega)[vL,ca 100,v,ca 160,b,H,ca 161,F,z,Q];rw[M _ aq aq aq]
       simp(disch:=omega)[L];have e1:(List.take k (l.map Hv)).length=k:=by rw[bE,cw];omega
       have T:(List.drop k (l.map Hv)).length=l.length-k:=by rw[bS,cw]
       refine⟨by rw[<-List.map_take];exact P8 _,by rw[<-List.map_drop];exact P8 _,?_⟩
       rw[iC,iJ];rw[aO (l:=List.take k (l.map Hv)++[_]) (by rw[aT,e1];simp)]
       rw[aO (by rw[aT,aT,e1,T];simp)]
       rw[cA];rfl
def abX{n:Nat}(Q:236<n)(t:Tr.Tree)(O:Bt t)(l:List Ho)(hl:l.length<=1000)(f:Bool)(c h:Int):
  (en.cz n).p 106 [Tv t,.b9 f (l.map Hv),I c,I h]=some (.jg [Tv (js t l c h).1,.b9 (f && !decide ((js t l c h).2.2=0)) ((js t l c h).2.1.map Hv),I (js t l c h).2.2]):=by
 rw[pp 106 rfl Q rfl,b8,b6];have b:=UH (n:=236) ah l hl f c h
 unfold js;cases N:l.find? (nZ c h)with
 |none =>
  have e:DU l (nZ c h) = -1:=by unfold DU;rw[N];rfl
  rw[e]at b;simp(disch:=omega)[O2,ca 161,b]
 |some y =>
  let⟨k,e,S,hk,M⟩:=wB N;have r:y=l[k]:=by rw[aD hk]at M;exact(bp M).symm
  have i:=Fg l c h k S
  have F:(pq l c h).length<=1000:=by
   have:=congrArg List.length i;simp at this;omega
  rw[e]at b;have q:=abL (n:=236) ah t O y.ino
  have x:=ahY (n:=236) ah (pq l c h) F false y.ino
  have H:=abH (n:=236) ah t O y.ino
  have G:=OK (pq l c h) y.ino;rw[i]at x;show _=some (AV.jg [Tv (if Jh t y.ino=true/\rU (pq l c h) y.ino=false then(free t y.ino).1 else t),.b9 (f && !decide ((0:Int)=0)) ((pq l c h).map Hv),I 0])
  rw[i];generalize rU (pq l c h) y.ino=L at *
  generalize((HY (pq l c h) y.ino:Nat):Int)=P at *
  generalize Jh t y.ino=o at *
  clear i F;have e1:(List.take k (l.map Hv)).length=k:=by rw[bE,cw];omega
  have T:(List.drop (k+1) (l.map Hv)).length=l.length-(k+1):=by rw[bS,cw]
  have E:jw 3 (List.take k (l.map Hv))=true:=by rw[<-List.map_take];exact P8 _
  have A:jw 3 (List.drop (k+1) (l.map Hv))=true:=by rw[<-List.map_drop];exact P8 _
  have z:List.take k (List.take k (l.map Hv))=List.take k (l.map Hv):=by rw[iC,iJ]
  have v:=EL l hk;simp only[Tv]at q H⊢;cases o with
  |false=>simp(disch:=omega)[O2,ca 161,b,<-r,E,A,z,v,ca 160,q]
  |true =>
   cases L with
   |true =>
    have K:¬P=0:=λh=>by cases G.1 h
    simp(disch:=omega)[O2,ca 161,b,<-r,E,A,z,v,ca 160,q,ca 165,x,K]
   |false =>
    have K:P=0:=G.2 rfl;simp(disch:=omega)[O2,ca 161,b,<-r,E,A,z,v,ca 160,q,ca 165,x,K,ca 166,H]
def aij{n:Nat}(r:237<n)(l:List Ho)(hl:l.length<=1000)(f:Bool)(c h:Int):(en.cz n).p 107 [.b9 f (l.map Hv),I c,I h]=some (.jg [I (FO l c h).1,I (FO l c h).2]):=by
 rw[pp 107 rfl r rfl,b8,b6];have b:=UH (n:=237) ah l hl f c h
 unfold FO;cases q:l.find? (nZ c h)with
 |none =>
  have e:DU l (nZ c h) = -1:=by unfold DU;rw[q];rfl
  rw[e]at b;simp(disch:=omega)[YK,ca 161,b]
 |some y =>
  let⟨k,e,_,hk,o⟩:=wB q;have i:y=l[k]:=by rw[aD hk]at o;exact(bp o).symm
  rw[e]at b;simp(disch:=omega)[YK,ca 161,b,<-i]
def og(a:ay)(q:Tr.Node):ay:=if mS q=true then a++[q.ino]else a
def Qy(l:List Tr.Node):∀a:ay,l.foldl og a=a++(l.filter mS).map Tr.Node.ino:=by
 induction l with
 |nil=>intro a;simp
 |cons q l b =>
  intro a;rw[bJ,b,bM];unfold og;cases mS q<;>simp
def ajt{n:Nat}(r:71<n)(t:Tr.Tree)(hl:t.nodes.length<=1000)(e0:Env)(l:e0 7 = .b9 false (t.nodes.map Nd))(h8:e0 8 = .int .i64 t.nodes.length):
  iter (round (en.cz n) [3,9] [(.exit 0,[3])] yc e0 1 [0]) ([.own 0 0 0 0,.int .i64 0],[.row 0 1 []])=some (.exit 0,[.own 0 0 0 (qW t).length],[.row 0 1 ((qW t).map I)]):=by
 have:=kN (f:=round (en.cz n) [3,9] [(.exit 0,[3])] yc e0 1 [0]) (λi (a:ay)=>([.own 0 0 0 a.length,.int .i64 (i:Int)],[.row 0 1 (a.map I)])) t.nodes og (λa=>(.exit 0,[.own 0 0 0 a.length],[.row 0 1 (a.map I)])) (λi a=>a.length<=i)
  (λi x a v=>by
   obtain⟨q,h⟩:∃q,q=t.nodes[i]:=⟨_,rfl⟩;rw[<-h];have b:=UD (n:=n) r q;simp only[Nd]at b;unfold og;generalize mS q=o at *
   cases o with
   |true =>
    refine⟨ak,?_⟩
    simp(disch:=omega)[round_eq,yc,l,h8,<-h,ca 203,b]
   |false =>
    refine⟨ak,?_⟩
    simp(disch:=omega)[round_eq,yc,l,h8,<-h,ca 203,b])
  (λa v=>by simp(disch:=omega)[round_eq,yc,h8]) [] ai
 rw[Qy,aL]at this
 simpa[qW]using this
def ahU{n:Nat}(b:105<n)(t:Tr.Tree)(hl:t.nodes.length<=1000):(en.cz n).p 175 [Tv t]=some (.b9 false ((qW t).map I)):=by
 rw[pp 175 rfl b rfl,b8,b6];have h:=ajt (n:=105) ah t hl
 generalize qW t=o at *
 simp(disch:=omega)[afA];rw[h _ aq aq]
 simp(disch:=omega)
def Rh{t:Tr.Tree}(b:Bt t)(i:Int):Bt (free t i).1:=by
 unfold free;split
 .exact b
 .split
  .exact b
  .split
   .exact b
   .exact⟨bH (bz ..) b.len,λn h=>b.b7 n (bY.1 h).1,b.ON,b.ck,b.Qz,b.nx⟩
def gf(c:Int)(s:Tr.Tree×List Ho×Bool)(h:Int):Tr.Tree×List Ho×Bool:=((js s.1 s.2.1 c h).1,(js s.1 s.2.1 c h).2.1,s.2.2 && !decide ((js s.1 s.2.1 c h).2.2=0))
def Jl(c:Int)(ks:ay):∀s:Tr.Tree×List Ho×Bool,((ks.foldl (gf c) s).1,(ks.foldl (gf c) s).2.1)=s5 c ks s.1 s.2.1:=by
 induction ks with
 |nil=>intro s;rfl
 |cons k ks b =>
  intro s;rw[bJ,b];rfl
def MI(l:List Ho)(c h:Int):(pq l c h).length<=l.length:=by
 unfold pq;rw[aT,bE,bS];omega
def r8(t:Tr.Tree)(l:List Ho)(c h:Int):(js t l c h).2.1.length<=l.length:=by
 unfold js;split
 .exact aU _
 .exact MI l c h
def Oa{t:Tr.Tree}(hs:lC t.nodes)(i:Int):lC (free t i).1.nodes:=by
 unfold free;split
 .exact hs
 .split
  .exact hs
  .split
   .exact hs
   .exact hs.filter _
def H6{t:Tr.Tree}(hs:lC t.nodes)(l:List Ho)(c h:Int):lC (js t l c h).1.nodes:=by
 unfold js;split
 .exact hs
 .simp only;split
  .exact Oa hs _
  .exact hs
def C0{t:Tr.Tree}(b:Bt t)(l:List Ho)(c h:Int):Bt (js t l c h).1:=by
 unfold js;split
 .exact b
 .simp only;split
  .exact Rh b _
  .exact b
def gi(c:Int)(s:Tr.Tree×List Ho×Bool)(x:Ho):Tr.Tree×List Ho×Bool:=if x.c=c then gf c s x.h else s
def Ra(c:Int)(l:List Ho):∀s:Tr.Tree×List Ho×Bool,l.foldl (gi c) s=(As l c).foldl (gf c) s:=by
 induction l with
 |nil=>intro s;rfl
 |cons x l b =>
  intro s;rw[bJ,b];unfold As gi;rw[bM]
  by_cases h:x.c=c<;>simp[h]
def ajI{n:Nat}(F:113<n)(l:List Ho)(hl:l.length<=1000)(f:Bool)(c:Int)(s:Tr.Tree×List Ho×Bool)(hs:lC s.1.nodes)(v:Bt s.1)(b:s.2.1.length<=1000)(e0:Env)(A:e0 10 = .b9 f (l.map Hv))(q:e0 11 = .int .i64 l.length)(h2:e0 2=I c)(h3:e0 3 = .ptr 0 0 0 0):
  iter (round (en.cz n) [1,12] [(.exit 0,[1])] yw e0 2 []) ([.b9 s.2.2 (s.2.1.map Hv),.int .i64 0],[.var [.b9 false (s.1.nodes.map Nd),.int .i64 s.1.next,.int .i64 s.1.ek],.var [.b9 false [],.int .i64 0,.int .i64 0]]) =
   some (.exit 0,[.b9 (l.foldl (gi c) s).2.2 ((l.foldl (gi c) s).2.1.map Hv)],[.var [.b9 false ((l.foldl (gi c) s).1.nodes.map Nd),.int .i64 (l.foldl (gi c) s).1.next,.int .i64 (l.foldl (gi c) s).1.ek],.var [.b9 false [],.int .i64 0,.int .i64 0]]):=by
 have:=kN (f:=round (en.cz n) [1,12] [(.exit 0,[1])] yw e0 2 []) (λi (s:Tr.Tree×List Ho×Bool)=>([.b9 s.2.2 (s.2.1.map Hv),.int .i64 (i:Int)],[.var [.b9 false (s.1.nodes.map Nd),.int .i64 s.1.next,.int .i64 s.1.ek],.var [.b9 false [],.int .i64 0,.int .i64 0]])) l (gi c)
  (λs=>(.exit 0,[.b9 s.2.2 (s.2.1.map Hv)],[.var [.b9 false (s.1.nodes.map Nd),.int .i64 s.1.next,.int .i64 s.1.ek],.var [.b9 false [],.int .i64 0,.int .i64 0]])) (λ_ s=>lC s.1.nodes/\Bt s.1/\s.2.1.length<=1000)
  (λi G s hs=>by
   let⟨hs,v,b⟩:=hs;let⟨t,m,g⟩:=s;obtain⟨x,E⟩:∃x,x=l[i]:=⟨_,rfl⟩;rw[<-E];simp only at hs v b;have z:=abS (n:=n) af t hs v.len m b g c x.h
   unfold gi gf
   by_cases y:x.c=c
   .refine⟨by rw[if_pos y];exact⟨H6 hs _ _ _,C0 v _ _ _,bH (r8 _ _ _ _) b⟩,?_⟩
    rw[if_pos y];generalize js t m c x.h=r at *
    let⟨u,o,e⟩:=r;simp only[Tv]at z⊢;simp(disch:=omega)[round_eq,yw,A,q,h2,h3,<-E,y,ca 128,z]
   .refine⟨by rw[if_neg y];exact⟨hs,v,b⟩,?_⟩
    rw[if_neg y];simp(disch:=omega)[round_eq,yw,A,q,h2,<-E,y])
  (λs hs=>by simp(disch:=omega)[round_eq,yw,q]) s ⟨hs,v,b⟩
 simpa using this
def ahk{n:Nat}(b:115<n)(t:Tr.Tree)(hs:lC t.nodes)(i:Bt t)(l:List Ho)(hl:l.length<=1000)(f:Bool)(c:Int):
  (en.cz n).p 140 [Tv t,.b9 f (l.map Hv),I c]=some (.jg [Tv ((As l c).foldl (gf c) (t,l,f)).1,.b9 ((As l c).foldl (gf c) (t,l,f)).2.2 (((As l c).foldl (gf c) (t,l,f)).2.1.map Hv)]):=by
 rw[pp 140 rfl b rfl,b8,b6];have h:=ajI (n:=115) ah l hl f c (t,l,f) hs i hl
 rw[Ra]at h;generalize(As l c).foldl (gf c) (t,l,f)=r at *
 let⟨u,o,g⟩:=r;simp only at h⊢;simp(disch:=omega)[afS];rw[h _ aq aq aq aq]
 simp(disch:=omega)
def l54{n:Nat}(v:236<n)(c:Int)(s:Tr.Tree×List Ho×Bool)(h:Bt s.1)(b:s.2.1.length<=1000)(e0:Env)(h2:e0 2=I c)(h3:e0 3 = .ptr 0 0 0 0):
  iter (round (en.cz n) [1,8] [(.exit 0,[1])] Gu e0 2 []) ([.b9 s.2.2 (s.2.1.map Hv),.int .i64 0],[.var [.b9 false (s.1.nodes.map Nd),.int .i64 s.1.next,.int .i64 s.1.ek],.var [.b9 false [],.int .i64 0,.int .i64 0]]) =
   some (.exit 0,[.b9 (vR.foldl (gf c) s).2.2 ((vR.foldl (gf c) s).2.1.map Hv)],[.var [.b9 false ((vR.foldl (gf c) s).1.nodes.map Nd),.int .i64 (vR.foldl (gf c) s).1.next,.int .i64 (vR.foldl (gf c) s).1.ek],.var [.b9 false [],.int .i64 0,.int .i64 0]]):=by
 have:=kN (f:=round (en.cz n) [1,8] [(.exit 0,[1])] Gu e0 2 []) (λi (s:Tr.Tree×List Ho×Bool)=>([.b9 s.2.2 (s.2.1.map Hv),.int .i64 (i:Int)],[.var [.b9 false (s.1.nodes.map Nd),.int .i64 s.1.next,.int .i64 s.1.ek],.var [.b9 false [],.int .i64 0,.int .i64 0]])) (List.range 100) (λs k=>gf c s (k:Int))
  (λs=>(.exit 0,[.b9 s.2.2 (s.2.1.map Hv)],[.var [.b9 false (s.1.nodes.map Nd),.int .i64 s.1.next,.int .i64 s.1.ek],.var [.b9 false [],.int .i64 0,.int .i64 0]])) (λ_ s=>Bt s.1/\s.2.1.length<=1000)
  (λi q s hs=>by
   let⟨h,b⟩:=hs;let⟨t,m,g⟩:=s;rw[List.getElem_range];have q:i<100:=by simpa using q
   simp only at h b;have l:=abX (n:=n) af t h m b g c (i:Int)
   unfold gf;refine⟨⟨C0 h _ _ _,bH (r8 _ _ _ _) b⟩,?_⟩;generalize js t m c (i:Int)=r at *
   let⟨u,o,e⟩:=r;simp only[Tv]at l⊢;simp(disch:=omega)[round_eq,Gu,h2,h3,ca 106,l])
  (λs hs=>by
   let⟨t,m,g⟩:=s;simp(disch:=omega)[round_eq,Gu]) s ⟨h,b⟩
 unfold vR;rw[List.foldl_map]
 simpa using this
def ahj{n:Nat}(b:247<n)(t:Tr.Tree)(i:Bt t)(l:List Ho)(hl:l.length<=1000)(f:Bool)(c:Int):
  (en.cz n).p 54 [Tv t,.b9 f (l.map Hv),I c]=some (.jg [Tv (vR.foldl (gf c) (t,l,f)).1,.b9 (vR.foldl (gf c) (t,l,f)).2.2 ((vR.foldl (gf c) (t,l,f)).2.1.map Hv)]):=by
 rw[pp 54 rfl b rfl,b8,b6];have h:=l54 (n:=247) ah c (t,l,f) i hl
 generalize vR.foldl (gf c) (t,l,f)=r at *
 let⟨u,o,g⟩:=r;simp only at h⊢;simp(disch:=omega)[c54];rw[h _ aq aq]
 simp(disch:=omega)
end Go.Proofs.YtghgbehknhmnaaaGreatDoor
namespace Go.Tr
structure tW where
 from_:Int
 till:Int
 node:Node
structure qI where
 id:Int
 ino:Int
 at_:Int
structure j5 where
 now:Tree
 tick:Int
 since:ay
 jU:List tW
 taken:List qI
 next:Int
structure FS where
 s:j5
 holds:List Ho
 jG:List Qu
structure lX where
 kind:Int
 client:Int
 path:au
 to:au
 n:Int
 m:Int
 handle:Int
 data:au
structure nH where
 err:Int
 ino:Int
 kind:Int
 n:Int
 m:Int
 names:List au
 data:au
end Go.Tr
namespace Go.Proofs.YtghgbehknhmnaaaGreatDoor
open Go.Am Go.Tr Go.Am.Nm Go.Lib
@[simp]def Pv(p:tW):AV:=.agg [.int .i64 p.from_,.int .i64 p.till,.int .i64 p.node.ino,.int .i64 p.node.kind,.int .i64 p.node.links,.b9 false (p.node.data.map B),.b9 false (p.node.b7.map En),.int .i64 p.node.up]
@[simp]def Xv(x:qI):AV:=.agg [.int .i64 x.id,.int .i64 x.ino,.int .i64 x.at_]
abbrev Sc(s:j5):List AV:=[.b9 false (s.now.nodes.map Nd),.int .i64 s.now.next,.int .i64 s.now.ek,.int .i64 s.tick,.b9 false (s.since.map I),.b9 false (s.jU.map Pv),.b9 false (s.taken.map Xv),.int .i64 s.next]
@[simp]def Sv(s:j5):AV:=.agg (Sc s)
abbrev Fc(f:FS):List AV:=Sc f.s++[.b9 false (f.holds.map Hv),.b9 false (f.jG.map Qv)]
@[simp]def Fv(f:FS):AV:=.agg (Fc f)
abbrev Oc(o:lX):List AV:=[.int .i64 o.kind,.int .i64 o.client,.str o.path,.str o.to,.int .i64 o.n,.int .i64 o.m,.int .i64 o.handle,.b9 false (o.data.map B)]
@[simp]def Ov(o:lX):AV:=.agg (Oc o)
abbrev Ac(a:nH):List AV:=[.int .i64 a.err,.int .i64 a.ino,.int .i64 a.kind,.int .i64 a.n,.int .i64 a.m,.b9 false (a.names.map AV.str),.b9 false (a.data.map B)]
@[simp]def Av(a:nH):AV:=.agg (Ac a)
attribute [simp] Sc Fc Oc Ac
@[simp]def agk(a b c d:AV)(l:List AV):Am.shape 3 true (a::b::c::d::l)=some (.agg [a,b,c]):=by simp[Am.shape]
@[simp]def agj(a b c d e f g h i:AV)(l:List AV):Am.shape 8 true (a::b::c::d::e::f::g::h::i::l)=some (.agg [a,b,c,d,e,f,g,h]):=by simp[Am.shape]
@[simp]def abf(a b c d e f g h i j k:AV)(l:List AV):Am.shape 10 true (a::b::c::d::e::f::g::h::i::j::k::l)=some (.agg [a,b,c,d,e,f,g,h,i,j]):=by simp[Am.shape]
@[simp]def akK(l:List tW):jw 8 (l.map Pv)=true:=by simp[jw]
@[simp]def akG(l:List qI):jw 3 (l.map Xv)=true:=by simp[jw]
structure sF(n:Nat)(s:j5):Prop where
 w:lM s.now
 sn:s.since.length=s.now.nodes.length
 tk:0<=s.tick/\s.tick<=n
 pl:s.jU.length<=200*n
 pe:∀p∈s.jU,p.node.b7.length<=64/\p.node.data.length<=4096
 tl:s.taken.length<=16
 nx:1<=s.next/\s.next<=1099511627776
structure mF(n:Nat)(f:FS):Prop where
 s:sF n f.s
 hs:qh f.holds
 hl:f.holds.length<=64
 qs:mE f.jG
 ql:f.jG.length<=16
def sF.mono{n m:Nat}{s:j5}(h:sF n s)(b:n<=m):sF m s :=
 ⟨h.w,h.sn,⟨h.tk.1,by have:=h.tk.2;omega⟩,by have:=h.pl;omega,h.pe,h.tl,h.nx⟩
def mF.mono{n m:Nat}{f:FS}(h:mF n f)(b:n<=m):mF m f:=⟨h.s.mono b,h.hs,h.hl,h.qs,h.ql⟩
variable{n:Nat}
def ahq(b:21<n)(x:Tr.Node)(i:Int)(X:AH):eT (en.cz n) 260 [Nd x,I i] X=some (I (oa x.ino i),X):=by
 have h:=Zq (n:=21) ah x.ino i
 have h2:(en.cz n).p 260 [Nd x,I i]=some (I (oa x.ino i)):=by
  rw[pp 260 rfl b rfl,b8,b6];simp(disch:=omega)[ae3,ca 82,h]
 simp only[Nd]at h2;simp(disch:=omega)[ca 260,h2]
def Ks(l:List Tr.Node)(i:Int):Int:=if (find l i).isSome=true then(jK l i:Nat)else -1
def UX{l:List Tr.Node}(hs:lC l)(i:Int): -1<=Ks l i/\Ks l i<l.length:=by
 unfold Ks
 rcases pN hs i with⟨n,h,b⟩ | ⟨b,h⟩
 .rw[b];simp;omega
 .rw[b];simp;omega
def abw(o:102<n){l:List Tr.Node}(hs:lC l)(hl:l.length<=1000)(i:Int):(en.cz n).p 211 [.b9 false (l.map Nd),I i]=some (I (Ks l i)):=by
 rw[pp 211 rfl o rfl,b8,b6];have h:=SR (n:=102) ah hs hl i 260 (X:=[]) rfl λx _=>ahq ah x i []
 unfold Ks;cases b:(find l i).isSome with
 |true =>
  rw[b]at h;simp(disch:=omega)[Yr,h]
 |false =>
  rw[b]at h;simp(disch:=omega)[Yr,h]
def abv(q:103<n)(x y:Tr.Node)(o:x.b7.length<=1000)(l:y.b7.length<=1000):∃b,(en.cz n).p 212 [Nd x,Nd y]=some (.bool b):=by
 rw[pp 212 rfl q rfl,b8,b6];have r:=s90 (n:=103) ah x.b7 y.b7 false false o l
 have h1:=oq x.data;have h2:=oq y.data;refine⟨decide (x.ino=y.ino)&&decide (x.kind=y.kind)&&decide (x.links=y.links)&&decide (x.up=y.up)&&decide (x.data=y.data)&&decide (x.b7=y.b7),?_⟩
 by_cases h:x.ino=y.ino
 .by_cases i : x.kind = y.kind
  .by_cases c3 : x.links = y.links
   .by_cases c4 : x.up = y.up
    .by_cases c5:x.data=y.data
     .simp(disch:=omega)[Ih,h,i,c3,c4,c5,j9,h2,ca 90,r]
     .simp(disch:=omega)[Ih,h,i,c3,c4,c5,j9,h1,h2]
    .simp(disch:=omega)[Ih,h,i,c3,c4]
   .simp(disch:=omega)[Ih,h,i,c3]
  .simp(disch:=omega)[Ih,h,i]
 .simp(disch:=omega)[Ih,h]
def v7(l:List qI)(a b:Int):Bool:=l.any λx=>decide (a<=x.at_)&&decide (x.at_<b)
def ahp(o:22<n)(x:qI)(a b:Int)(X:AH)(i j:Nat)(h:X[i]? = some (.var [I a]))(q:X[j]? = some (.var [I b])):
  eT (en.cz n) 262 [Xv x,.ptr i 0 0 0,.ptr j 0 0 0] X=some (.bool (decide (a<=x.at_)&&decide (x.at_<b)),X):=by
 rw[ph 262 rfl o rfl,b6]
 by_cases l:a<=x.at_
 .simp(disch:=omega)[Yh,h,q,l]
 .simp(disch:=omega)[Yh,h,l]
def abu(h:28<n){l:List qI}(hl:l.length<=1000)(a b:Int):(en.cz n).p 213 [.b9 false (l.map Xv),I a,I b]=some (.bool (v7 l a b)):=by
 rw[pp 213 rfl h rfl,b8,b6];let⟨Z,_,h1⟩:=ixG (Γ:=en.cz 26) (z:=3) (cs:=λx:qI=>[I x.id,I x.ino,I x.at_]) (λ_=>rfl) (l:=l) af (X:=[.var [I a],.var [I b]]) rfl (xk _ (cs:=λx:qI=>[I x.id,I x.ino,I x.at_]) (λ_=>rfl) l false) 262 [] [.ptr 0 0 0 0,.ptr 1 0 0 0] (λx=>decide (a<=x.at_)&&decide (x.at_<b)) λx _=>⟨[],rfl,ahp ah x a b _ 0 1 rfl rfl⟩
 have h1:eT (en.cz 27) 297 [.b9 false (l.map Xv),.fn (.func 262) [] [.ptr 0 0 0 0,.ptr 1 0 0 0]] [.var [I a],.var [I b]]=_:=(aiA ah _ _).trans h1
 have h2:eT (en.cz 28) 261 [.b9 false (l.map Xv),.fn (.func 262) [] [.ptr 0 0 0 0,.ptr 1 0 0 0]] [.var [I a],.var [I b]]=_:=(aiI ah _ _).trans (cfG h1)
 unfold v7;simp(disch:=omega)[afp,h2]
variable{n:Nat}
def ah8(z:77<n){s:j5}{k:Nat}(h:sF k s)(i:Int):∃s' a e,(en.cz n).p 134 [Sv s,I i]=some (.jg [Sv s',I a,I e])/\sF k s':=by
 rw[pp 134 rfl z rfl,b8,b6];have b:=BW (n:=77) ah s.now h.w.wf.jL (nc h.w).len i
 have r:=aiS (n:=77) ah
 have x:=h.tl;unfold lq at b;cases v:find s.now.nodes i with
 |none =>
  rw[v]at b;simp only[bQ,Tv,Nd,jo,aP]at b;refine⟨s,0,70,?_,h⟩;simp(disch:=omega)[Lo,ca 182,b]
 |some q =>
  rw[v]at b;simp only[bB,Tv,Nd]at b
  by_cases o:q.kind=2
  .by_cases A : 16 <= s.taken.length
   .refine⟨s,0,76,?_,h⟩;simp(disch:=omega)[Lo,ca 182,b,o]
   .by_cases l : 1099511627776 <= s.next
    .refine⟨s,0,76,?_,h⟩;simp(disch:=omega)[Lo,ca 182,b,o,l]
    .have y:=h.nx;refine⟨⟨s.now,s.tick,s.since,s.jU,s.taken++[⟨s.next,i,s.tick⟩],s.next+1⟩,s.next,0,?_,⟨h.w,h.sn,h.tk,h.pl,h.pe,ak,by simp only;omega⟩⟩
     simp(disch:=omega)[Lo,ca 182,b,o,l,r,jd]
  .refine⟨s,0,73,?_,h⟩;simp(disch:=omega)[Lo,ca 182,b,o]
def ahH(b:16<n)(x:qI)(i:Int)(X:AH)(k:Nat)(hk:X[k]? = some (.var [I i])):eT (en.cz n) 223 [Xv x,.ptr k 0 0 0] X=some (.bool (decide (x.id≠i)),X):=by
 rw[ph 223 rfl b rfl,b6];simp(disch:=omega)[afl,hk]
def ahF(q:29<n)(p:tW){l:List qI}(hl:l.length<=1000)(X:AH)(k b:Nat)(hk:X[k]? = some (.var [.own b 0 0 l.length]))(o:X[b]? = some (.row 0 3 (l.map Xv))\/X[b]? = some (.me 0 3 (l.map Xv))):
  eT (en.cz n) 225 [Pv p,.ptr k 0 0 0] X=some (.bool (v7 l p.from_ p.till),X.set b (.me 0 3 (l.map Xv))):=by
 rw[ph 225 rfl q rfl,b6];have h:=abu (n:=29) ah hl p.from_ p.till
 rcases o with o | o
 .simp(disch:=omega)[Yn,hk,o,ca 213,h]
 .have e:X.set b (.me 0 3 (l.map Xv))=X:=by
   apply dO;intro i;rw[fA];split
   .rename_i r;subst r;rw[o,if_pos (aA.1 o).1]
   .rfl
  rw[e];simp(disch:=omega)[Yn,hk,o,ca 213,h]
def ahG(v:81<n){l:List qI}(hl:l.length<=1000){ps:List tW}(q:ps.length<=1000000)(a0 o i:List AV)(h0:a0.all (uI 5)=true)(h1:o.all (uI 5)=true)(h2:i.all (uI 5)=true):
  ∃A,(A=AB.row 0 3 (l.map Xv)\/A=AB.me 0 3 (l.map Xv))/\eT (en.cz n) 224 [.b9 false (ps.map Pv),.fn (.func 225) [] [.ptr 4 0 0 0]] [.var a0,.var o,.var i,.row 0 3 (l.map Xv),.var [.own 3 0 0 l.length]] =
   some (.own 5 0 0 (ps.filter λp=>v7 l p.from_ p.till).length,[.var a0,.var o,.var i,A,.var [.own 3 0 0 l.length],.row 0 8 ((ps.filter λp=>v7 l p.from_ p.till).map Pv)]):=by
 have hs:∀A:AB,ve 5 A=true->oE [.var a0,.var o,.var i,A,.var [.own 3 0 0 l.length]]:=λA b=>by
  show List.all _ (ve 5)=true;simp only[bU,iI,b];simp[ve,h0,h1,h2,uI]
 let⟨E,r,h⟩:=SP (Γ:=en.cz 81) (z:=8) (bytes:=96) (zero:=[I 0,I 0,I 0,I 0,I 0,.b9 false [],.b9 false [],I 0]) (cs:=λp:tW=>[I p.from_,I p.till,I p.node.ino,I p.node.kind,I p.node.links,.b9 false (p.node.data.map B),.b9 false (p.node.b7.map En),I p.node.up]) ah (λ_=>rfl) (λ_=>rfl) rfl rfl (l:=ps) q false
  (λX=>∃A,(A=AB.row 0 3 (l.map Xv)\/A=AB.me 0 3 (l.map Xv))/\X=[.var a0,.var o,.var i,A,.var [.own 3 0 0 l.length]]) ⟨_,.inl rfl,rfl⟩ (λy h1=>by obtain⟨A,b,rfl⟩:=h1;exact⟨hs A (by rcases b with rfl | rfl<;>rfl),rfl⟩) 225 [] [.ptr 4 0 0 0] (λp=>v7 l p.from_ p.till) (by simp[k7]) λx _ y h1 Y=>by
   obtain⟨A,b,rfl⟩:=h1;exact⟨_,⟨_,.inr rfl,rfl⟩,ahF ah x af _ 4 3 rfl (by rcases b with rfl | rfl;exact .inl rfl;exact .inr rfl)⟩
 obtain⟨A,b,rfl⟩:=r;exact⟨A,b,(ph 224 rfl v rfl _ _).trans h⟩
def ah4(y:82<n){s:j5}{k:Nat}(h:sF k s)(i:Int)(hk:k<=1000):∃s' e,(en.cz n).p 139 [Sv s,I i]=some (.jg [Sv s',I e])/\sF k s':=by
 have q:=h.tl;have r:=h.pl;obtain⟨_,rfl,h1⟩:=SP (Γ:=en.cz 80) (z:=3) (bytes:=24) (zero:=[I 0,I 0,I 0]) (cs:=λx:qI=>[I x.id,I x.ino,I x.at_]) ah (λ_=>rfl) (λ_=>rfl) rfl rfl (l:=s.taken) af false (X:=[.var (Sc s),.var [I i],.var [.b9 false [],I 0,I 0,I 0,.b9 false [],.b9 false [],.b9 false [],I 0]]) (λX=>X=_) rfl (λK h1=>by subst h1;exact⟨rfl,rfl⟩) 223 [] [.ptr 1 0 0 0] (λx=>decide (x.id≠i)) (by simp[k7]) λx _ K h1 Y=>⟨_,rfl,by subst h1;exact ahH ah x i _ 1 rfl⟩
 have h1:eT (en.cz 82) 222 [.b9 false (s.taken.map Xv),.fn (.func 223) [] [.ptr 1 0 0 0]] [.var (Sc s),.var [I i],.var [.b9 false [],I 0,I 0,I 0,.b9 false [],.b9 false [],.b9 false [],I 0]]=some (.own 3 0 0 (s.taken.filter λx=>decide (x.id≠i)).length,[.var (Sc s),.var [I i],.var [.b9 false [],I 0,I 0,I 0,.b9 false [],.b9 false [],.b9 false [],I 0],.row 0 3 ((s.taken.filter λx=>decide (x.id≠i)).map Xv)]):=(aiQ (n:=82) ah _ _).trans h1
 have F:(s.taken.filter λx=>decide (x.id≠i)).length<=s.taken.length:=bz _ _
 have o:(s.taken.filter λx=>decide (x.id≠i)).length<=16:=af
 generalize(s.taken.filter λx=>decide (x.id≠i))=l at *
 generalize b:(en.cz n).p 139 _=res;rw[pp 139 rfl y rfl,b8,b6]at b
 by_cases H:l.length=s.taken.length
 .simp(disch:=omega)[Se,h1,H]at b;exact⟨s,100,b.symm,h⟩
 .let⟨A,G,h2⟩:=ahG (n:=82) ah (l:=l) af (ps:=s.jU) af [.b9 false (s.now.nodes.map Nd),I s.now.next,I s.now.ek,I s.tick,.b9 false (s.since.map I),.b9 false (s.jU.map Pv),.own 3 0 0 l.length,I s.next] [I i] [.b9 false [],I 0,I 0,I 0,.b9 false [],.b9 false [],.b9 false [],I 0] rfl rfl rfl
  have E:(s.jU.filter λp=>v7 l p.from_ p.till).length<=s.jU.length:=bz _ _
  refine⟨{s with taken:=l,jU:=s.jU.filter λp=>v7 l p.from_ p.till},0,?_,⟨h.w,h.sn,h.tk,by simp only;omega,λp v=>h.pe p (bY.1 v).1,o,h.nx⟩⟩
  rw[<-b]
  rcases G with rfl | rfl
  .simp(disch:=omega)[Se,h1,h2]
  .simp(disch:=omega)[Se,h1,h2]
variable{X:AH}
def UF{n:Nat}(r:41<n)(t:Tr.Tree)(w:lM t){i:Int}{d:Nat}(q:uA t i d){k:Nat}(B:Bx X k t):
  eT (en.cz n) 191 [.ptr k 0 0 0,I i] X=some (.own X.length 0 0 (d+1),X++[.row 0 1 ((i::mP t d i).map I)]):=by
 rw[acu r,b6];have x:=r6 w q;have h:=λe0 h0=>ade (n:=41) ah t w B e0 h0 q [i] ak
 have y:([i]++mP t d i).length=d+1:=by simp[pP]
 rw[y]at h;have l:=λY h0=>B.pl.tail (L:=X.length+1) (R:=[X.length]) af ai h0 Y
 have b:=jr X;have v:=B.lt;have o:¬k=X.length:=af
 simp(disch:=omega)[R5,l,b];have h':=λe0 h0=>h e0 h0
 simp only[aR,bt,bN,aP]at h';rw[h' _ (by simp(disch:=omega)[o])]
 simp(disch:=omega)
def Iz{t:Tr.Tree}{i:Int}{d:Nat}(b:uA t i d)(o:Int):∀ {k:Nat},d<k->wU t k i o=(i::mP t d i).contains o:=by
 induction b with
 |root =>
  intro k hk;obtain⟨k,rfl⟩:∃j,k=j+1:=⟨k-1,af⟩
  simp only[wU,mP]
  by_cases h:(1:Int)=o
  .simp[h]
  .have h':¬o=1:=λe=>h e.symm
   simp[h,h']
 | @up i q d v r h1 b l =>
  intro k hk;obtain⟨k,rfl⟩:∃j,k=j+1:=⟨k-1,af⟩
  have n:BT t i=q.up:=zO v;simp only[wU,mP,n];rw[l af]
  by_cases h:i=o
  .simp[h]
  .have h':¬o=i:=λe=>h e.symm
   simp[h,h',h1]
def ajk{Γ:jE}(l:ay)(hl:l.length<=1000)(o:Int)(e0:Env)(h0:e0 0 = .b9 false (l.map I))(h1:e0 1=I o)(n:e0 7=I (l.length:Int)):
  iter (round Γ [8] [(.exit 0,[]),(.ret,[4])] xO e0 0 []) ([I 0],[])=some ((l.find? λx=>decide (x=o)).elim (.exit 0,[],[]) λ_=>(.ret,[I (l.findIdx λx=>decide (x=o):Nat)],[])) :=
 pE (f:=round Γ [8] [(.exit 0,[]),(.ret,[4])] xO e0 0 []) (λi=>([I (i:Int)],[])) l (λx=>decide (x=o)) (λk _=>(.ret,[I (k:Int)],[])) (.exit 0,[],[])
  (λk hk=>by
   obtain⟨y,b⟩:∃y,y=l[k]:=⟨_,rfl⟩;rw[<-b]
   by_cases h:y=o
   .simp(disch:=omega)[round_eq,xO,h0,h1,n,<-b,h]
   .have h':¬o=y:=λe=>h e.symm
    simp(disch:=omega)[round_eq,xO,h0,h1,n,<-b,h,h'])
  (by simp(disch:=omega)[round_eq,xO,n])
def abA{n:Nat}(r:43<n)(l:ay)(hl:l.length<=1000)(o:Int):(en.cz n).p 192 [.b9 false (l.map I),I o]=some (.bool (l.contains o)):=by
 have i:(en.cz 43).p 249 [.b9 false (l.map I),I o]=some (I (EC l λx=>decide (x=o))):=by
  rw[aiK ah,b8,b6]
  have h:=ajk (Γ:=en.cz 42) l hl o;unfold EC;simp(disch:=omega)[Yj];rw[h _ aq aq aq]
  cases l.find? λx=>decide (x=o)with
  |none=>simp(disch:=omega)
  |some y=>simp(disch:=omega)
 let⟨_,_,q⟩:=DT l λx=>decide (x=o)
 have v:(l.any λx=>decide (x=o))=l.contains o:=by
  rw[eM];simp
 rw[v]at q;generalize(EC l λx=>decide (x=o))=j at *
 generalize l.contains o=b at *
 rw[pp 192 rfl r rfl,b8,b6]
 by_cases c:0<=j
 .have:=q.1 c;simp(disch:=omega)[Yt,ca 249,i,c,this]
 .have:b=false:=by
   cases b with
   |false=>rfl
   |true=>exact absurd (q.2 rfl) c
  simp(disch:=omega)[Yt,ca 249,i,c,this]
def yX(t:Tr.Tree)(ino at_ own:Int)(q:Tr.Node):Bool:=decide (q.kind=2)&&(below t q.ino ino&&(decide (12<at_+depth t q.ino-own)||(decide (at_+depth t q.ino-own=12)&&decide (0<q.b7.length))))
def ahu{n:Nat}(T:44<n)(t:Tr.Tree)(w:lM t){q:Tr.Node}(S:q∈t.nodes)(ino at_ own:Int)(ha:0<=at_/\at_<=1000)(W:0<=own/\own<=1000){k:Nat}(B:Bx X k t)(a b c d:Nat)(h1:X[a]? = some (.var [.ptr k 0 0 0]))(h2:X[b]? = some (.var [I at_]))(h3:X[c]? = some (.var [I own]))(h4:X[d]? = some (.var [I ino])):
  ∃Z,Z.all gd=true/\eT (en.cz n) 251 [Nd q,.ptr a 0 0 0,.ptr b 0 0 0,.ptr c 0 0 0,.ptr d 0 0 0] X=some (.bool (yX t ino at_ own q),X++Z):=by
 generalize o:eT (en.cz n) 251 _ _=res;rw[ph 251 rfl T rfl,b6]at o;unfold yX;have N:=(aA.1 h1).1;have M:=(aA.1 h2).1;have L:=(aA.1 h3).1;have H:=(aA.1 h4).1;have h1:=iT h1 N;have h2:=iT h2 M;have h3:=iT h3 L;have h4:=iT h4 H
 by_cases y:q.kind=2
 .let⟨i,h,O,_⟩:=w.dep _ _ (jN w.wf.jL S) y;have G:=r6 w h;have Q:=w.wf.len;have z:=UF (n:=44) ah t w h B
  have E:=abA (n:=44) ah (q.ino::mP t i q.ino) (by simp[pP];omega) ino
  have U:below t q.ino ino=(q.ino::mP t i q.ino).contains ino:=Iz h ino af
  have K:=k8 h af
  have A:((q.ino::mP t i q.ino).map I).length=i+1:=by simp[pP]
  rw[U,K];generalize Y:(q.ino::mP t i q.ino).map I=m at *
  generalize(q.ino::mP t i q.ino).contains ino=bb at *
  have l:m.take (i+1)=m:=aO af
  refine⟨[.me 0 1 m],rfl,?_⟩;rw[<-o];cases bb with
  |false=>simp(disch:=omega)[Ig,y,h1,h2,h3,h4,z,A,l,ca 192,E,jk]
  |true =>
   by_cases P:12<at_+(i:Int)-own
   .have x:12<at_+((i:Int)+1)-1-own:=by omega
    simp(disch:=omega)[Ig,y,h1,h2,h3,h4,z,A,l,ca 192,E,P,x,jk]
   .have x:¬12<at_+((i:Int)+1)-1-own:=by omega
    by_cases v:at_+(i:Int)-own=12
    .have r:at_+((i:Int)+1)-1-own=12:=by omega
     by_cases F:0<q.b7.length
     .simp(disch:=omega)[Ig,y,h1,h2,h3,h4,z,A,l,ca 192,E,v,r,F,jk]
     .simp(disch:=omega)[Ig,y,h1,h2,h3,h4,z,A,l,ca 192,E,v,r,F,jk]
    .have r:¬at_+((i:Int)+1)-1-own=12:=by omega
     simp(disch:=omega)[Ig,y,h1,h2,h3,h4,z,A,l,ca 192,E,P,x,v,r,jk]
 .refine⟨[],rfl,?_⟩;rw[<-o,cH];simp(disch:=omega)[Ig,y]
def Ma{Y:AH}(b:oE X)(h:Y.all (ve (X.length+Y.length))=true):oE (X++Y):=by
 unfold oE at b⊢;rw[aT,cm,aF];exact⟨Dx af b,h⟩
def abz{n:Nat}(M:144<n)(t:Tr.Tree)(w:lM t){ino:Int}(H:jF t ino=0)(at_:Int)(P:0<=at_/\at_<=1000){k:Nat}(B:Bx X k t):
  ∃Y,eT (en.cz n) 194 [.ptr k 0 0 0,I ino,I at_] X=some (.bool (t.nodes.any (yX t ino at_ (depth t ino))),Y)/\Gw X Y k t:=by
 have o:=B.lt;have K:=w.wf.len;have hk:=B.get o;have B1:Bx (X++[.var [.ptr k 0 0 0],.var [I ino],.var [I at_]]) k t:=⟨Ma B.pl (by simp[ve,uI,AV.jW];omega),by rw[aJ o];exact B.at_⟩
 let⟨E,S,i⟩:=abl (n:=144) ah t w H B1
 let⟨T,x,y⟩:=nS.1 H;let⟨v,h,_⟩:=w.dep _ _ x y;have O:=r6 w h;have A:=k8 h af
 have B2:Bx (X++([.var [.ptr k 0 0 0],.var [I ino],.var [I at_]]++(E++[.var [I (depth t ino)]]))) k t:=by
  have:=(B1.app S).app (Y:=[.var [I (depth t ino)]]) rfl
  simpa using this
 simp only[aI,aL]at B2;rw[A]at B2 i⊢
 let⟨Z,Q,F⟩:=ixG (Γ:=en.cz 142) (z:=6) (cs:=Nc) (λ_=>rfl) (l:=t.nodes) af B2.pl (xk _ (cs:=Nc) (λ_=>rfl) t.nodes false) 251 [] [.ptr X.length 0 0 0,.ptr (X.length+2) 0 0 0,.ptr (X.length+(E.length+1+1+1)) 0 0 0,.ptr (X.length+1) 0 0 0] (yX t ino at_ v) λq L=>ahu ah t w L ino at_ v P af B2 _ _ _ _ ai (by rw[aS af];simp) (by rw[aS af];simp) (by rw[aS af];simp)
 have F:=(aiB (n:=143) ah _ _).trans F
 have r:=(aiJ (n:=144) ah _ _).trans (cfG F)
 have r:eT (en.cz 144) 250 [.b9 false (t.nodes.map Nd),.fn (.func 251) [] [.ptr X.length 0 0 0,.ptr (X.length+2) 0 0 0,.ptr (X.length+(E.length+1+1+1)) 0 0 0,.ptr (X.length+1) 0 0 0]] _=_:=r
 have G:Gw X (X++AB.var [.ptr k 0 0 0] :: .var [I ino] :: .var [I at_]::(E ++ .var [I v]::Z)) k t:=by
  refine⟨?_,ai,λj N _=>by rw[aJ N]⟩
  have:=B2.app Q
  simpa using this
 refine⟨_,?_,G⟩;generalize t.nodes.any (yX t ino at_ v)=b at *
 simp only[cA,aI,aL]at r i;rw[ph 194 rfl M rfl,b6];simp(disch:=omega)[afv,i,r,hk,jk]
def CW{t:Tr.Tree}(ino at_:Int):t.nodes.any (yX t ino at_ (depth t ino))=decide (12<high t ino at_):=by
 rw[eM,cv,decide_eq_true_eq];unfold high;rw[F9 (λn:Tr.Node=>n.kind=2/\below t n.ino ino=true) (λn=>at_+depth t n.ino-depth t ino+if 0<n.b7.length then 1 else 0) 12 t.nodes 0]
 constructor
 .rintro⟨q,b,h⟩
  right;simp only[yX,aF,bP,decide_eq_true_eq]at h;refine⟨q,b,⟨h.1,h.2.1⟩,?_⟩
  rcases h.2.2 with h | ⟨h,h'⟩
  .split<;>omega
  .rw[if_pos h'];omega
 .rintro(h | ⟨q,b,⟨h1,h2⟩,h3⟩)
  .omega
  .refine⟨q,b,?_⟩;simp only[yX,aF,bP,decide_eq_true_eq];refine⟨h1,h2,?_⟩;split at h3
   .by_cases h:12<at_+(depth t q.ino:Int)-depth t ino
    .exact .inl h
    .exact .inr ⟨af,by assumption⟩
   .exact .inl af
end Go.Proofs.YtghgbehknhmnaaaGreatDoor
