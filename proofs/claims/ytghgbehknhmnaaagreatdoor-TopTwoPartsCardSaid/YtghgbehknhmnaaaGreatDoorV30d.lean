/- Part of the proof that TopTwoPartsCard holds. -/
import Derived.Test.YtghgbehknhmnaaaGreatDoorU30a
set_option linter.all false
namespace Go.Proofs.YtghgbehknhmnaaaGreatDoor
open Go.Am Go.Tr
theorem oN(f:Fn)(a c:List AV):(AV.fn f a c).cells=[.fn f a c]:=rfl
def nS{t:Tr.Tree}{d:Int}:jF t d=0↔∃q,find t.nodes d=some q/\q.kind=2:=by
 unfold jF;cases find t.nodes d with
 |none=>simp
 |some q =>
  simp only
  constructor
  .intro h;split at h
   .exact⟨q,rfl,by assumption⟩
   .cases h
  .rintro⟨b,h,hk⟩
   obtain rfl:=bB h;rw[if_pos hk]
def RF{t:Tr.Tree}(w:lM t){d:Int}{q:Tr.Node}(b:find t.nodes d=some q)(hk:q.kind=2):dat t d=0:=by
 unfold dat;rw[iX b]
 rcases w.zB (fk b).1 with⟨h,_⟩ | ⟨_,h,_⟩
 .omega
 .rw[h];rfl
def abB{n:Nat}(P:123<n)(t:Tr.Tree)(w:lM t)(d:Int):(en.cz n).p 184 [Tv t,I d]=some (.jg [I (kR t d),I (kS t d)]):=by
 rw[pp 184 rfl P rfl,b8,b6];have i:=BW (n:=123) ah t w.wf.jL (nc w).len d
 have O:=λargs h=>aiM (n:=123) ah args h
 have U:=λargs h=>(ow (Γ:=en.cz 79) (f:=244) (F:=zn) 300 args h).symm
 have z:∀s:ay×Int,s.1=[]->IA t s.1<301:=λs hs=>by
  have hl:=w.wf.len;have:=bz (λq:Tr.Node=>!([]:ay).contains q.ino) t.nodes
  rw[hs];unfold IA;omega
 unfold lq at i;unfold kR kS;cases o:find t.nodes d with
 |none =>
  have l:¬jF t d=0:=λh=>by
   let⟨q,h1,_⟩:=nS.1 h;rw[o]at h1;cases h1
  rw[o]at i;rw[if_neg l,if_neg l];simp only[bS,Tv,Nd,jo,aN]at i;simp(disch:=omega)[R8,oN,ca 182,i]
 |some q =>
  rw[o]at i
  by_cases r:q.kind=2
  .have l:jF t d=0:=nS.2 ⟨q,o,r⟩;rw[if_pos l,if_pos l];have b:=C2 t w 301 d ([],0) [.var (Nc q)] rfl (z ([],0) rfl) iE (λx y=>by cases y) (dX 0) (by have:=Ee w d;simp only[bt];omega)
   rw[ow]at b;let⟨M,L,v⟩:=AJ w d
   have E:=Hy M (λx y=>by
    let⟨p,e,_,h⟩:=(Ip w).1 ((L x).1 y);let⟨T,A,e',H,Q⟩:=q8 h;rw[<-Q];exact rZ w (by rw[iX A];exact H))
   have K:=RF w o r;rw[K,Int.zero_add]at v;have e1:(xG t 301 d ([],0)).1=B5 t d:=rfl;have G:=iX o;rw[G]at b;generalize xG t 301 d ([],0)=m at *
   rw[<-e1]at v E⊢;rw[<-v];have N:=w.wf.len;simp only[bC,Tv,Nd,r]at i;simp only[bs,Nc,Tb,r,aN,aK,aL]at b;generalize mG (en.cz 79) 244 zn 300=Γ at *
   generalize zn=F at *
   simp(disch:=omega)[R8,oN,ca 182,i,O,b]
  .have l:¬jF t d=0:=λh=>by
    let⟨S,h1,h2⟩:=nS.1 h;rw[o]at h1;obtain rfl:=bB h1;exact r h2
   rw[if_neg l,if_neg l];simp only[bC,Tv,Nd]at i;simp(disch:=omega)[R8,oN,ca 182,i,r]
variable{n:Nat}
@[simp]def Qv(x:Qu):AV:=.agg [.int .i64 x.ino,.int .i64 x.nodes,.int .i64 x.bytes]
@[simp]def akJ(l:List Qu):jw 3 (l.map Qv)=true:=by simp[jw]
def UB(b:23<n)(q:Qu)(i:Int):(en.cz n).p 264 [Qv q,I i]=some (I (oa q.ino i)):=by
 rw[pp 264 rfl b rfl,b8,b6];have h:=Zq (n:=23) ah q.ino i
 simp(disch:=omega)[ae0,ca 82,h]
def aji(E:23<n)(l:List Qu)(hs:mE l)(hl:l.length<=1000)(f:Bool)(i:Int)(e0:Env)(h0:e0 0 = .b9 f (l.map Qv))(h1:e0 1=I i)(h2:e0 2 = .fn (.func 264) [] [])(X:AH)(A:X.all gd=true):
  iter (round (en.cz n) [9,10] [(.exit 0,[9])] xN e0 X.length []) ([.int .i64 0,.int .i64 l.length],X)=some (.exit 0,[.int .i64 (jZ l i:Nat)],X) :=
 wH (f:=round (en.cz n) [9,10] [(.exit 0,[9])] xN e0 X.length []) (λi j=>([.int .i64 (i:Int),.int .i64 (j:Int)],X)) l.length (jZ l i) (lK _ _) (λc=>(.exit 0,[.int .i64 (c:Int)],X))
  (λa j G H=>by
   have y:=Jk (i:=a) (j:=j);obtain⟨m,v⟩:∃m,m=(a+j) / 2:=⟨_,rfl⟩;rw[<-v]at y⊢;have F:m<l.length:=af
   have b:=qc hs i F;obtain⟨x,r⟩:∃x,x=l[m]:=⟨_,rfl⟩;rw[<-r]at b;have z:=UB (n:=n) E x i;have q:=qt x.ino i;simp only[Qv]at z;generalize oa x.ino i=ci at *
   by_cases h:m<jZ l i
   .have o:ci<0:=q.2 (b.1 h);simp(disch:=omega)[round_eq,xN,h0,h1,h2,wrap_u64,y,<-r,ca 264,z,h,o,jv _ _ X _ A]
   .have o:¬ci<0:=λh'=>h (b.2 (q.1 h'))
    simp(disch:=omega)[round_eq,xN,h0,h1,h2,wrap_u64,y,<-r,ca 264,z,h,o,jv _ _ X _ A])
  (λa K=>by simp(disch:=omega)[round_eq,xN]) _ 0 l.length rfl (aT _) (lK _ _) (aV _)
def aho(z:31<n)(l:List Qu)(hs:mE l)(hl:l.length<=1000)(f:Bool)(i:Int)(X:AH)(y:X.all gd=true):
  eT (en.cz n) 263 [.b9 f (l.map Qv),I i,.fn (.func 264) [] []] X=some (.jg [I (jZ l i:Nat),.bool (kH l i).isSome],X):=by
 rw[ph 263 rfl z rfl,b6];have h1:=λe0 h0 h1 h2=>aji (n:=31) ah l hs hl f i e0 h0 h1 h2 X y
 have q:=CX hs i;simp(disch:=omega)[ae1,jv _ _ X _ y];rw[h1 _ aq aq aq]
 generalize jZ l i=c at *
 rcases q with⟨v,r,q⟩ | ⟨q,r⟩
 .rw[q];obtain⟨x,o⟩:∃x,x=l[c]:=⟨_,rfl⟩;have hg:=UB (n:=31) ah x i
  have b:=(nj x.ino i).2 (by rw[o];exact r)
  rw[b]at hg;simp only[Qv]at hg;simp(disch:=omega)[<-o,ca 264,hg]
 .rw[q]
  by_cases v:c<l.length
  .obtain⟨x,o⟩:∃x,x=l[c]:=⟨_,rfl⟩;have hg:=UB (n:=31) ah x i
   have b:¬oa x.ino i=0:=λh=>r v (by rw[<-o];exact(nj x.ino i).1 h)
   generalize oa x.ino i=ci at *
   simp only[Qv]at hg;simp(disch:=omega)[<-o,ca 264,hg,b]
  .simp(disch:=omega)
def abt(b:32<n)(l:List Qu)(hs:mE l)(hl:l.length<=1000)(f:Bool)(i:Int):
  (en.cz n).p 216 [.b9 f (l.map Qv),I i]=some (.jg [I (jZ l i:Nat),.bool (kH l i).isSome]):=by
 rw[pp 216 rfl b rfl,b8,b6];have h:=aho (n:=32) ah l hs hl f i [] rfl
 simp(disch:=omega)[afo,h]
def abn(i:33<n)(l:List Qu)(hs:mE l)(hl:l.length<=1000)(f:Bool)(d:Int)(o:d≠0):
  eT (en.cz n) 283 [I d,.ptr 0 0 0 0,.ptr 1 0 0 0] [.var [.b9 f (l.map Qv)],.var [I 0]]=some (.bool !(kH l d).isSome,[.var [.b9 f (l.map Qv)],.var [I (if (kH l d).isSome=true then d else 0)]]):=by
 rw[ph 283 rfl i rfl,b6];have b:=abt (n:=33) ah l hs hl f d
 cases h:(kH l d).isSome with
 |true =>
  rw[h]at b;simp(disch:=omega)[Yf,ca 216,b,o]
 |false =>
  rw[h]at b;simp(disch:=omega)[Yf,ca 216,b]
def aje(E:39<n)(t:Tr.Tree)(w:lM t)(l:List Qu)(hs:mE l)(hl:l.length<=1000)(f:Bool)(e0:Env)(h2:e0 2 = .fn (.func 283) [] [.ptr 0 0 0 0,.ptr 1 0 0 0])(h3:e0 3 = .iV (Tb t)){d:Int}{k:Nat}(hk:uA t d k):
  iter (round (en.cz n) [1] [(.exit 0,[])] BA e0 2 []) ([I d],[.var [.b9 f (l.map Qv)],.var [I 0]])=some (.exit 0,[],[.var [.b9 f (l.map Qv)],.var [I (Cb t l (k+1) d)]]):=by
 have y:∀ {d:Int} {k:Nat},uA t d k->d≠0:=λh=>by
  cases h with
  |root=>decide
  |up h _ _ _=>have:=(w.wf.pos _ _ h).1;omega
 induction hk with
 |root =>
  rw[iter_eq];have o:=abn (n:=n) af l hs hl f 1 ah
  simp only[Cb,if_true];generalize(kH l 1).isSome=b at *
  cases b<;>simp(disch:=omega)[round_eq,BA,h2,o]
 | @up i q k x hk v F z =>
  rw[iter_eq];have o:=abn (n:=n) af l hs hl f i (y (.up x hk v F))
  have r:=BW (n:=n) E t w.wf.jL (nc w).len i;have A:BT t i=q.up:=by unfold BT;rw[x];rfl
  unfold Cb;rw[A,if_neg v];unfold lq at r;rw[x]at r;simp only[bC,Tv,Nd]at r;generalize(kH l i).isSome=b at *
  cases b with
  |true=>simp(disch:=omega)[round_eq,BA,h2,o]
  |false =>
   simp(disch:=omega)[round_eq,BA,h2,h3,o,v,ca 182,r];exact z
def ahx(i:121<n)(t:Tr.Tree)(w:lM t)(l:List Qu)(hs:mE l)(hl:l.length<=1000)(f:Bool){d:Int}(q:jF t d=0):(en.cz n).p 243 [Tv t,.b9 f (l.map Qv),I d]=some (I (dom t l d)):=by
 rw[pp 243 rfl i rfl,b8,b6];let⟨k,hk⟩:=RC w q;have b:=λe0 h2 h3=>aje (n:=120) ah t w l hs hl f e0 h2 h3 hk
 rw[XG w hk (fN k)]at b;have h:=aiD (n:=121) ah
 generalize dom t l d=o at *
 simp(disch:=omega)[afb,h,b6,Yg];rw[b _ aq aq]
 simp(disch:=omega)
def Iy{t:Tr.Tree}(w:lM t)(d:Int):0<=kR t d/\kR t d<=200/\0<=kS t d/\kS t d<=819200:=by
 unfold kR kS;let⟨n,l,_⟩:=AJ w d
 have q:=Hy n (λx o=>by
  let⟨p,e,_,h⟩:=(Ip w).1 ((l x).1 o);let⟨v,b,e',i,r⟩:=q8 h;rw[<-r];exact rZ w (by rw[iX b];exact i))
 have:=w.wf.len;have:=JE w (B5 t d);split<;>omega
variable{n:Nat}
def abK(o:211<n)(t:Tr.Tree)(r:Bt t)(i:Int):(en.cz n).p 162 [Tv t,I i]=some (.bool (decide (jF t i=0))):=by
 rw[pp 162 rfl o rfl,b8,b6];have b:=pT (n:=211) ah t r i
 unfold lq at b;unfold jF;cases h:find t.nodes i with
 |none =>
  rw[h]at b;simp only[bS,Tv,Nd,jo,aN]at b;simp(disch:=omega)[Sa,ca 100,b]
 |some q =>
  rw[h]at b;simp only[bC,Tv,Nd]at b
  by_cases l:q.kind=2
  .simp(disch:=omega)[Sa,ca 100,b,l]
  .simp(disch:=omega)[Sa,ca 100,b,l]
def ajf{Γ:jE}(t:Tr.Tree)(hl:t.nodes.length<=1000)(i:Int)(e0:Env)(h2:e0 2 = .iV (Tb t))(h1:e0 1=I i):
  iter (round Γ [5] [(.exit 0,[]),(.ret,[4])] xL e0 0 []) ([.int .i64 0],[])=some ((t.nodes.find? λq=>decide (q.ino=i)).elim (.exit 0,[],[]) λ_=>(.ret,[I (t.nodes.findIdx λq=>decide (q.ino=i):Nat)],[])) :=
 pE (f:=round Γ [5] [(.exit 0,[]),(.ret,[4])] xL e0 0 []) (λi=>([.int .i64 (i:Int)],[])) t.nodes (λq=>decide (q.ino=i)) (λk _=>(.ret,[I (k:Int)],[])) (.exit 0,[],[])
  (λk hk=>by
   obtain⟨y,b⟩:∃y,y=t.nodes[k]:=⟨_,rfl⟩;rw[<-b]
   by_cases h:y.ino=i
   .simp(disch:=omega)[round_eq,xL,h2,h1,<-b,h]
   .simp(disch:=omega)[round_eq,xL,h2,h1,<-b,h])
  (by simp(disch:=omega)[round_eq,xL,h2])
def ixN(t:Tr.Tree)(i:Int):Int:=(find t.nodes i).elim (-1) λ_=>((t.nodes.findIdx λq=>decide (q.ino=i):Nat):Int)
def ahm(b:212<n)(t:Tr.Tree)(hl:t.nodes.length<=1000)(i:Int):(en.cz n).p 274 [Tv t,I i]=some (I (ixN t i)):=by
 rw[pp 274 rfl b rfl,b8,b6];have h:=ajf (Γ:=en.cz 212) t hl i;unfold ixN find;simp(disch:=omega)[aeY];rw[h _ aq aq]
 cases t.nodes.find? λq=>decide (q.ino=i)with
 |none=>simp(disch:=omega)
 |some y=>simp(disch:=omega)
def NC{t:Tr.Tree}{i:Int}{q:Tr.Node}(h:find t.nodes i=some q):∃k:Nat,ixN t i=(k:Int)/\k<t.nodes.length/\t.nodes[k]? = some q:=by
 refine⟨t.nodes.findIdx λq=>decide (q.ino=i),by unfold ixN;rw[h];rfl,?_⟩
 let⟨o,n⟩:=fk h;have h1:(t.nodes.findIdx λq=>decide (q.ino=i))<t.nodes.length:=cT ⟨q,o,decide_eq_true n⟩
 refine⟨h1,?_⟩;unfold find at h;rw[List.find?_eq_some_iff_getElem]at h;let⟨_,k,hk,b,l⟩:=h
 have h3:(t.nodes.findIdx λq=>decide (q.ino=i))=k:=by
  refine(List.findIdx_eq hk).2 ⟨?_,λj r=>?_⟩
  .rw[b];exact decide_eq_true n
  .have:=l j r
   simpa using this
 rw[h3,aH hk,b]
abbrev Mk(t:Tr.Tree)(M:ay):List AV:=t.nodes.map λq=>.bool (M.contains q.ino)
def YY{t:Tr.Tree}(hs:lC t.nodes){M:ay}{k:Nat}{q:Tr.Node}(hk:k<t.nodes.length)(b:t.nodes[k]? = some q):(Mk t M).set k (.bool true)=Mk t (M++[q.ino]):=by
 rw[aH hk]at b;have b:=bB b;apply List.ext_getElem
 .simp
 .intro j h1 h2;rw[List.getElem_set];simp only[dY];split
  .rename_i h;subst h;rw[b];simp
  .rename_i h;have i:j<t.nodes.length:=by simpa using h2
   have:t.nodes[j].ino≠q.ino:=by
    rw[<-b]
    rcases Nat.lt_or_gt_of_ne h with h | h
    .have:=(aX.1 hs) _ _ hk i h;omega
    .have:=(aX.1 hs) _ _ i hk h;omega
   simp[this]
def BS(t:Tr.Tree)(M:ay):(Mk t M).length=t.nodes.length:=cv ..
def VH(F:212<n)(t:Tr.Tree)(w:lM t)(q:Tr.Node)(k:Nat)(hk:k<t.nodes.length)(x:q=t.nodes[k])(s:ay×Bool)(e0:Env)(h2:e0 2 = .iV (Tb t))(h5:e0 5 = .own 0 0 0 t.nodes.length)(h8:e0 8=I k):
  iter (round (en.cz n) [7,9] [(.exit 4,[7])] xU e0 1 []) ([.bool s.2,.int .i64 0],[.row 0 1 (Mk t s.1)])=some (.exit 4,[.bool (q.b7.foldl KB s).2],[.row 0 1 (Mk t (q.b7.foldl KB s).1)]):=by
 have hl:=(nc w).len;have L:q.b7.length<=1000:=by have:=(w.bg.iS q.ino).1;rw[iX (jN w.wf.jL (by rw[x];exact aP hk))]at this;omega
 exact kN (f:=round (en.cz n) [7,9] [(.exit 4,[7])] xU e0 1 []) (λi (s:ay×Bool)=>([.bool s.2,.int .i64 (i:Int)],[.row 0 1 (Mk t s.1)])) q.b7 KB (λs=>(.exit 4,[.bool s.2],[.row 0 1 (Mk t s.1)])) (λ_ _=>True)
  (λi K s _=>by
   refine⟨trivial,?_⟩;obtain⟨e,y⟩:∃e,e=q.b7[i]:=⟨_,rfl⟩;have A:(find t.nodes e.ino).isSome=true:=rZ w (i:=q.ino) (by rw[iX (jN w.wf.jL (by rw[x];exact aP hk)),y];exact aP K)
   rw[<-y];let⟨p,z⟩:=bM.1 A;let⟨j,H,o,v⟩:=NC z;have r:=ahm (n:=n) F t hl e.ino;have b:=λM:ay=>YY (M:=M) w.wf.jL o v
   rw[(fk z).2]at b;have G:=BS t s.1
   have l:∀h:j<(Mk t s.1).length,(Mk t s.1)[j] = .bool (s.1.contains e.ino):=λh=>by
    rw[aH o]at v;rw[dY,bB v,(fk z).2]
   rw[H]at r;simp only[Tv]at r;have b:=b s.1;unfold KB;cases E:s.1.contains e.ino with
   |true =>
    rw[E]at l;rw[if_pos rfl];generalize Mk t s.1=R at *
    simp(disch:=omega)[round_eq,xU,h2,h5,h8,<-x,<-y,r,o,l]
   |false =>
    rw[E]at l;rw[if_neg ai]
    generalize Mk t s.1=R at *
    simp only;rw[<-b];simp(disch:=omega)[round_eq,xU,h2,h5,h8,<-x,<-y,r,o,l])
  (λs _=>by simp(disch:=omega)[round_eq,xU,h2,h8,<-x]) s trivial
def VG(y:212<n)(t:Tr.Tree)(w:lM t)(i:Int)(s:ay×Bool)(e0:Env)(h2:e0 2 = .iV (Tb t))(h5:e0 5 = .own 0 0 0 t.nodes.length)(h1:e0 1=I i):
  iter (round (en.cz n) [7,8] [(.exit 2,[7])] vw e0 1 []) ([.bool s.2,.int .i64 0],[.row 0 1 (Mk t s.1)])=some (.exit 2,[.bool (t.nodes.foldl (BX i) s).2],[.row 0 1 (Mk t (t.nodes.foldl (BX i) s).1)]):=by
 have hl:=(nc w).len
 exact kN (f:=round (en.cz n) [7,8] [(.exit 2,[7])] vw e0 1 []) (λk (s:ay×Bool)=>([.bool s.2,.int .i64 (k:Int)],[.row 0 1 (Mk t s.1)])) t.nodes (BX i) (λs=>(.exit 2,[.bool s.2],[.row 0 1 (Mk t s.1)])) (λ_ _=>True)
  (λk hk s _=>by
   refine⟨trivial,?_⟩;obtain⟨q,l⟩:∃q,q=t.nodes[k]:=⟨_,rfl⟩;rw[<-l];have z:=BS t s.1;have b:∀h:k<(Mk t s.1).length,(Mk t s.1)[k] = .bool (s.1.contains q.ino):=λh=>by rw[dY,<-l]
   have o:=λe0 h2 h5 h8=>VH (n:=n) y t w q k hk l s e0 h2 h5 h8
   unfold BX;cases v:s.1.contains q.ino with
   |true =>
    rw[v]at b;rw[if_neg ai]
    generalize q.b7.foldl KB s=m at *
    have e1:Mk t m.1=Mk t m.1:=rfl;generalize x:Mk t s.1=R at *
    generalize Mk t m.1=A at *
    simp(disch:=omega)[round_eq,vw,h2,h5,hk,b];rw[o _ (by simp(disch:=omega)[h2]) (by simp(disch:=omega)[h5]) aq]
    simp(disch:=omega)
   |false =>
    rw[v]at b
    by_cases r:q.ino=i
    .rw[if_neg (by simp[r])]
     generalize q.b7.foldl KB s=m at *
     generalize x:Mk t s.1=R at *
     generalize Mk t m.1=A at *
     simp(disch:=omega)[round_eq,vw,h2,h5,h1,hk,<-l,b,r];rw[o _ (by simp(disch:=omega)[h2]) (by simp(disch:=omega)[h5]) aq]
     simp(disch:=omega)
    .rw[if_pos ⟨r,rfl⟩];generalize x:Mk t s.1=R at *
     simp(disch:=omega)[round_eq,vw,h2,h5,h1,hk,<-l,b,r])
  (λs _=>by simp(disch:=omega)[round_eq,vw,h2]) s trivial
def J3(t:Tr.Tree)(i:Int):Nat->ay->Bool
 |0,_=>false
 |k+1,M=>if (uC t i M).2=true then J3 t i k (uC t i M).1 else true
def Ny{n:Nat}(o:212<n)(t:Tr.Tree)(w:lM t)(i:Int)(e0:Env)(h2:e0 2 = .iV (Tb t))(h5:e0 5 = .own 0 0 0 t.nodes.length)(h1:e0 1=I i):
  ∀(k j:Nat)(M:ay),j+k=t.nodes.length->iter (round (en.cz n) [6] [(.exit 0,[]),(.ret,[4])] xS e0 1 []) ([.int .i64 (j:Int)],[.row 0 1 (Mk t M)]) =
   some (if J3 t i k M=true then(.ret,[.own 0 0 0 t.nodes.length],[.row 0 1 (Mk t (zg t i k M))])else(.exit 0,[],[.row 0 1 (Mk t (zg t i k M))]))
 |0,j,M,v=>by
  have hl:=(nc w).len;rw[iter_eq];have h:j=t.nodes.length:=af
  subst h;simp(disch:=omega)[round_eq,xS,h2,zg,J3]
 |k+1,j,M,v=>by
  have hl:=(nc w).len;have r:j<t.nodes.length:=af
  have b:=λe0 h2 h5 h1=>VG (n:=n) o t w i (M,false) e0 h2 h5 h1
  change ∀e0 h2 h5 h1,iter _ _=some (AX.exit 2,[AV.bool (uC t i M).2],[AB.row 0 1 (Mk t (uC t i M).1)])at b
  unfold zg J3;have l:=Ny o t w i e0 h2 h5 h1 k (j+1) (uC t i M).1 af
  rw[iter_eq];cases q:(uC t i M).2 with
  |true =>
   rw[q]at b;simp only[if_true];rw[<-l];clear l;generalize Mk t M=R at *
   generalize Mk t (uC t i M).1=x at *
   simp(disch:=omega)[round_eq,xS,h2];rw[b _ (by simp(disch:=omega)[h2]) (by simp(disch:=omega)[h5]) (by simp(disch:=omega)[h1])]
   simp(disch:=omega)
  |false =>
   rw[q]at b;simp only[aZ,if_false,if_true];clear l;generalize Mk t M=R at *
   generalize Mk t (uC t i M).1=x at *
   simp(disch:=omega)[round_eq,xS,h2];rw[b _ (by simp(disch:=omega)[h2]) (by simp(disch:=omega)[h5]) (by simp(disch:=omega)[h1])]
   simp(disch:=omega)[h5]
def ahz(y:213<n)(t:Tr.Tree)(w:lM t)(i:Int):(en.cz n).p 233 [Tv t,I i]=some (.b9 false (Mk t (qK t i))):=by
 rw[pp 233 rfl y rfl,b8,b6];have hl:=(nc w).len;have h:=λe0 h2 h5 h1=>Ny (n:=213) ah t w i e0 h2 h5 h1 t.nodes.length 0 [] af
 have r:Mk t []=List.replicate t.nodes.length (.bool false):=by
  unfold Mk;simp[List.map_const']
 have o:=BS t (qK t i)
 change ∀(e0:Env)(h2:e0 2 = .iV (Tb t))(h5:e0 5 = .own 0 0 0 t.nodes.length)(h1:e0 1=I i),iter (round (en.cz 213) [6] [(.exit 0,[]),(.ret,[4])] xS e0 1 []) ([AV.int .i64 0],[.row 0 1 (Mk t [])])=some (if J3 t i t.nodes.length []=true then(AX.ret,[AV.own 0 0 0 t.nodes.length],[AB.row 0 1 (Mk t (qK t i))])else(AX.exit 0,[],[AB.row 0 1 (Mk t (qK t i))]))at h
 rw[r]at h;have z:(Mk t (qK t i)).all AV.j8=true:=by rw[aM];intro x v;obtain⟨q,_,rfl⟩:=cQ.1 v;rfl
 have r:jw 1 (Mk t (qK t i))=true:=by simp[jw]
 generalize Mk t (qK t i)=R at *
 generalize J3 t i t.nodes.length []=b at *
 have l:List.take t.nodes.length R=R:=aO af
 simp(disch:=omega)[afg];rw[h _ aq aq aq]
 cases b
 .simp(disch:=omega)[o,l]
 .simp(disch:=omega)[o,l]
def ajx{Γ:jE}(t:Tr.Tree)(w:lM t)(M:ay)(e0:Env)(h2:e0 2 = .iV (Tb t))(o:e0 7 = .b9 false (Mk t M)):
  iter (round Γ [8,9,10] [(.exit 0,[8,9])] yl e0 0 []) ([.int .i64 0,.int .i64 0,.int .i64 0],[])=some (.exit 0,[.int .i64 (t.nodes.foldl (HZ M) (0,0)).1,.int .i64 (t.nodes.foldl (HZ M) (0,0)).2],[]):=by
 have hl:=(nc w).len
 exact kN (f:=round Γ [8,9,10] [(.exit 0,[8,9])] yl e0 0 []) (λk (s:Int×Int)=>([.int .i64 s.1,.int .i64 s.2,.int .i64 (k:Int)],[])) t.nodes (HZ M) (λs=>(.exit 0,[.int .i64 s.1,.int .i64 s.2],[])) (λk s=>0<=s.1/\s.1<=k/\0<=s.2/\s.2<=4096*(k:Int))
  (λk hk s hs=>by
   obtain⟨q,n⟩:∃q,q=t.nodes[k]:=⟨_,rfl⟩;have l:=Ee w q.ino;unfold dat at l;rw[iX (jN w.wf.jL (by rw[n];exact aP hk))]at l
   rw[<-n];have i:=BS t M;have b:∀h:k<(Mk t M).length,(Mk t M)[k] = .bool (M.contains q.ino):=λh=>by rw[dY,<-n]
   unfold HZ;cases r:M.contains q.ino with
   |true =>
    rw[r]at b;rw[if_pos rfl];refine⟨⟨by simp only;omega,by simp only;omega,by simp only;omega,by simp only;omega⟩,?_⟩
    generalize Mk t M=R at *
    simp(disch:=omega)[round_eq,yl,h2,o,<-n,b,i]
   |false =>
    rw[r]at b;rw[if_neg ai]
    refine⟨⟨af,af,af,af⟩,?_⟩
    generalize Mk t M=R at *
    simp(disch:=omega)[round_eq,yl,o,b,i])
  (λs hs=>by
   have i:=BS t M;generalize Mk t M=R at *
   simp(disch:=omega)[round_eq,yl,o,i]) (0,0) ⟨dX _,dX _,dX _,dX _⟩
def abJ(o:214<n)(t:Tr.Tree)(w:lM t)(d:Int):(en.cz n).p 163 [Tv t,I d]=some (.jg [I (kR t d),I (kS t d)]):=by
 rw[pp 163 rfl o rfl,b8,b6];have b:=abK (n:=214) ah t (nc w) d
 have i:=ahz (n:=214) ah t w d
 by_cases l:jF t d=0
 .have h:=λe0 h2 q=>ajx (Γ:=en.cz 214) t w (qK t d) e0 h2 q
  rw[La w l]at h;rw[decide_eq_true l]at b;generalize Mk t (qK t d)=R at *
  generalize kR t d=u at *
  generalize kS t d=v at *
  simp only[Tv]at b i;simp(disch:=omega)[YB,ca 162,b,ca 233,i];rw[h _ aq aq]
  simp(disch:=omega)
 .rw[decide_eq_false l]at b;unfold kR kS;rw[if_neg l,if_neg l];simp only[Tv]at b;simp(disch:=omega)[YB,ca 162,b]
def GA(l:List Qu)(i:Int):Int:=(kH l i).elim (-1) λ_=>((l.findIdx λq=>decide (q.ino=i):Nat):Int)
def QL(l:List Qu)(i:Int):GA l i<0↔kH l i=none:=by
 unfold GA;cases kH l i with
 |none=>simp
 |some q=>simp
def ajw{Γ:jE}(l:List Qu)(hl:l.length<=1000)(f:Bool)(i:Int)(e0:Env)(h0:e0 0 = .b9 f (l.map Qv))(h1:e0 1=I i):
  iter (round Γ [5] [(.exit 0,[]),(.ret,[4])] yj e0 0 []) ([.int .i64 0],[])=some ((l.find? λq=>decide (q.ino=i)).elim (.exit 0,[],[]) λ_=>(.ret,[I (l.findIdx λq=>decide (q.ino=i):Nat)],[])) :=
 pE (f:=round Γ [5] [(.exit 0,[]),(.ret,[4])] yj e0 0 []) (λi=>([.int .i64 (i:Int)],[])) l (λq=>decide (q.ino=i)) (λk _=>(.ret,[I (k:Int)],[])) (.exit 0,[],[])
  (λk hk=>by
   obtain⟨y,b⟩:∃y,y=l[k]:=⟨_,rfl⟩;rw[<-b]
   by_cases h:y.ino=i
   .simp(disch:=omega)[round_eq,yj,h0,h1,<-b,h]
   .simp(disch:=omega)[round_eq,yj,h0,h1,<-b,h])
  (by simp(disch:=omega)[round_eq,yj,h0])
def abI{n:Nat}(b:208<n)(l:List Qu)(hl:l.length<=1000)(f:Bool)(i:Int):(en.cz n).p 164 [.b9 f (l.map Qv),I i]=some (I (GA l i)):=by
 rw[pp 164 rfl b rfl,b8,b6];have h:=ajw (Γ:=en.cz 208) l hl f i;unfold GA kH;simp(disch:=omega)[afG];rw[h _ aq aq]
 cases l.find? λq=>decide (q.ino=i)with
 |none=>simp(disch:=omega)
 |some y=>simp(disch:=omega)
def sq(x:Qu)(s:List Qu×Bool)(q:Qu):List Qu×Bool :=
 ((if s.2=false/\x.ino<=q.ino then s.1++[x]else s.1)++(if q.ino≠x.ino then[q]else[]),s.2||decide (x.ino<=q.ino))
def Qd(x:Qu)(s:List Qu×Bool):List Qu:=if s.2=true then s.1 else s.1++[x]
def Dy(x:Qu):∀(l:List Qu)(a:List Qu),l.foldl (sq x) (a,true)=(a++qy l x.ino,true)
 | [],a=>by simp[qy]
 |q::l,a=>by
  rw[bG];have h1:sq x (a,true) q=(a++(if q.ino≠x.ino then[q]else[]),true):=by unfold sq;simp
  rw[h1,Dy x l];unfold qy;rw[bO]
  by_cases c:q.ino=x.ino<;>simp[c]
def Mg(x:Qu):∀(l:List Qu)(a:List Qu),Qd x (l.foldl (sq x) (a,false))=a++rN l x
 | [],a=>by simp[Qd,rN]
 |q::l,a=>by
  rw[bG]
  have b:∀l:List Qu,rN l x=(l.takeWhile λq=>decide (q.ino<x.ino))++x::(l.dropWhile λq=>decide (q.ino<x.ino)).filter λq=>decide (q.ino≠x.ino):=λl=>by
   unfold rN jZ;rw[uo,uq]
  by_cases c:x.ino<=q.ino
  .have i:¬q.ino<x.ino:=by omega
   have h1:sq x (a,false) q=(a++[x]++(if q.ino≠x.ino then[q]else[]),true):=by unfold sq;simp[c]
   rw[h1,Dy,b,dA,cV];unfold Qd qy;simp only[i,decide_false,aZ,if_false,if_true,aL,bO]
   by_cases h:q.ino=x.ino<;>simp[h]
  .have i:q.ino<x.ino:=by omega
   have h:q.ino≠x.ino:=af
   have h1:sq x (a,false) q=(a++[q],false):=by unfold sq;simp[c,h]
   rw[h1,Mg x l,b,b,dA,cV];simp[i]
def ajJ{Γ:jE}(l:List Qu)(hl:l.length<=1000)(f:Bool)(n:Tr.Node)(x:Qu)(d:Bool)(e0:Env)(h1:e0 1 = .b9 f (l.map Qv))(h2:e0 2=I x.ino)(h3:e0 3=I x.nodes)(h4:e0 4=I x.bytes):
  iter (round Γ [17,18,19] [(.exit 0,[17,18])] qH e0 2 [1]) ([.own 1 0 0 0,.bool d,.int .i64 0],[.var (Nc n),.row 0 3 []]) =
   some (.exit 0,[.own 1 0 0 (l.foldl (sq x) ([],d)).1.length,.bool (l.foldl (sq x) ([],d)).2],[.var (Nc n),.row 0 3 ((l.foldl (sq x) ([],d)).1.map Qv)]):=by
 exact kN (f:=round Γ [17,18,19] [(.exit 0,[17,18])] qH e0 2 [1]) (λk (s:List Qu×Bool)=>([.own 1 0 0 s.1.length,.bool s.2,.int .i64 (k:Int)],[.var (Nc n),.row 0 3 (s.1.map Qv)])) l (sq x) (λs=>(.exit 0,[.own 1 0 0 s.1.length,.bool s.2],[.var (Nc n),.row 0 3 (s.1.map Qv)])) (λk s=>s.1.length<=2*k)
  (λk hk s hs=>by
   obtain⟨q,i⟩:∃q,q=l[k]:=⟨_,rfl⟩;let⟨a,d⟩:=s;rw[<-i];simp only at hs;unfold sq
   by_cases b:q.ino=x.ino
   .cases d with
    |true =>
     refine⟨by simp[b];omega,?_⟩
     simp(disch:=omega)[round_eq,qH,h1,h2,<-i,b]
    |false =>
     refine⟨by simp[b];omega,?_⟩
     simp(disch:=omega)[round_eq,qH,h1,h2,h3,h4,<-i,b]
   .by_cases h : x.ino <= q.ino
    .cases d with
     |true =>
      refine⟨by simp[b,h];omega,?_⟩
      simp(disch:=omega)[round_eq,qH,h1,h2,<-i,b,h]
     |false =>
      refine⟨by simp[b,h];omega,?_⟩
      simp(disch:=omega)[round_eq,qH,h1,h2,h3,h4,<-i,b,h]
    .cases d with
     |true =>
      refine⟨by simp[b,h];omega,?_⟩
      simp(disch:=omega)[round_eq,qH,h1,h2,<-i,b,h]
     |false =>
      refine⟨by simp[b,h];omega,?_⟩
      simp(disch:=omega)[round_eq,qH,h1,h2,<-i,b,h])
  (λs hs=>by simp(disch:=omega)[round_eq,qH,h1]) ([],d) ai
def Mh(x:Qu):∀(l:List Qu)(s:List Qu×Bool),(l.foldl (sq x) s).1.length<=s.1.length+2*l.length
 | [],s=>ai
 |q::l,s=>by
  rw[bG];refine bJ (Mh x l _) ?_;unfold sq;simp only[aU,aS];split<;>split<;>simp<;>omega
def ail{n:Nat}(X:232<n)(t:Tr.Tree)(w:lM t)(l:List Qu)(hl:l.length<=1000)(f:Bool)(i a b:Int):
  (en.cz n).p 104 [Tv t,.b9 f (l.map Qv),I i,I a,I b]=some (.jg [.b9 (f && !decide ((rI t l i a b).2=0)) ((rI t l i a b).1.map Qv),I (rI t l i a b).2]):=by
 rw[pp 104 rfl X rfl,b8,b6];have E:=pT (n:=232) ah t (nc w) i
 have o:=abK (n:=232) ah t (nc w) i
 have z:=abJ (n:=232) ah t w i
 have L:=abI (n:=232) ah l hl f i
 have Z:=Iy w i;unfold lq at E;unfold rI;cases P:find t.nodes i with
 |none =>
  have Q:jF t i=70:=by unfold jF;rw[P]
  rw[P]at E;rw[Q];simp only[bS,Tv,Nd,jo,aN]at E;simp(disch:=omega)[El,ca 100,E]
 |some q =>
  rw[P]at E;simp only[bC,Tv,Nd]at E
  by_cases W:q.kind=2
  .have Q:jF t i=0:=by unfold jF;rw[P];simp[W]
   rw[Q]at o⊢;simp only[decide_true,Tv]at o z;have F:=λe0 h1 h2 h3 h4 d=>ajJ (Γ:=en.cz 232) l hl f q ⟨i,a,b⟩ d e0 h1 h2 h3 h4
   simp only[Nc]at F;have y:=λd=>Mh ⟨i,a,b⟩ l ([],d)
   simp only[bt,bW]at y
   by_cases O:a<0
   .have A:¬0<=a:=by omega
    have U:=Dy ⟨i,a,b⟩ l [];have F:=λe0 h1 h2 h3 h4=>F e0 h1 h2 h3 h4 true
    have y:=y true;rw[U,aL]at F y;simp only at F y;generalize qy l i=r at *
    generalize kR t i=u at *
    generalize kS t i=v at *
    clear L U;simp(disch:=omega)[El,ca 100,E,ca 162,o,ca 163,z,O,A];rw[F _ aq aq aq aq]
    simp(disch:=omega)
   .have A:0<=a:=by omega
    by_cases K:a<kR t i
    .generalize kR t i=u at *
     generalize kS t i=v at *
     simp(disch:=omega)[El,ca 100,E,ca 162,o,ca 163,z,O,A,K]
    .by_cases M : b < kS t i
     .generalize kR t i=u at *
      generalize kS t i=v at *
      simp(disch:=omega)[El,ca 100,E,ca 162,o,ca 163,z,O,A,K,M]
     .have T:=QL l i;have G:=Mg ⟨i,a,b⟩ l [];have F:=λe0 h1 h2 h3 h4=>F e0 h1 h2 h3 h4 false
      have y:=y false;rw[aL]at G;generalize rN l ⟨i,a,b⟩=Y at *
      generalize l.foldl (sq ⟨i,a,b⟩) ([],false)=r at *
      generalize GA l i=x at *
      generalize kR t i=u at *
      generalize kS t i=v at *
      let⟨r,d⟩:=r;unfold Qd at G;simp only at G F y
      by_cases H:x<0
      .have N:=T.1 H;rw[N]
       by_cases S:16<=l.length
       .clear F;simp(disch:=omega)[El,ca 100,E,ca 162,o,ca 163,z,O,A,K,M,ca 164,L,H,S]
       .simp(disch:=omega)[El,ca 100,E,ca 162,o,ca 163,z,O,A,K,M,ca 164,L,H,S];rw[F _ aq aq aq aq]
        cases d with
        |true =>
         simp only[if_true]at G;subst G;simp(disch:=omega)
        |false =>
         simp only[aZ,if_false]at G;subst G;simp(disch:=omega)
      .have N:¬kH l i=none:=λh=>H (T.2 h)
       simp(disch:=omega)[El,ca 100,E,ca 162,o,ca 163,z,O,A,K,M,ca 164,L,H,N];rw[F _ aq aq aq aq]
       cases d with
       |true =>
        simp only[if_true]at G;subst G;simp(disch:=omega)
       |false =>
        simp only[aZ,if_false]at G;subst G;simp(disch:=omega)
  .have Q:jF t i=73:=by unfold jF;rw[P];simp[W]
   rw[Q]at o⊢;simp only[show decide ((73:Int)=0)=false from rfl,Tv]at o
   simp(disch:=omega)[El,ca 100,E,ca 162,o]
def zh(l:List Qu){k:Nat}(hk:k<l.length):((l.map Qv).take k++(l.map Qv).drop (k+1)).take (k+(l.length-(k+1)))=(l.map Qv).take k++(l.map Qv).drop (k+1):=by
 rw[aO];simp;omega
def ah9{n:Nat}(W:140<n)(t:Tr.Tree)(w:lM t)(l:List Qu)(hs:mE l)(hl:l.length<=1000)(i a b:Int):
  (en.cz n).p 133 [Tv t,.b9 false (l.map Qv),I i,I a,I b]=some (.jg [.b9 false ((rI t l i a b).1.map Qv),I (rI t l i a b).2]):=by
 rw[pp 133 rfl W rfl];have o:=BW (n:=140) ah t w.wf.jL (nc w).len i
 have y:=abB (n:=140) ah t w i
 have r:=abt (n:=140) ah l hs hl false i
 have T:=aiU (n:=140) ah
 have M:=acv (n:=140) ah
 have S:=aiT (n:=140) ah
 have Y:=Iy w i;unfold lq at o;unfold rI;cases N:find t.nodes i with
 |none =>
  have O:jF t i=70:=by unfold jF;rw[N]
  rw[N]at o;rw[O];simp only[bS,Tv,Nd,jo,aN]at o;rw[b8,b6];simp(disch:=omega)[zo,ca 182,o]
 |some q =>
  rw[N]at o;simp only[bC,Tv,Nd]at o
  by_cases E:q.kind=2
  .have O:jF t i=0:=by unfold jF;rw[N];simp[E]
   rw[O];simp only[Tv]at y
   rcases CX hs i with⟨P,U,H⟩ | ⟨H,_⟩
   .rw[H]at r;have K:=MH hs P U;have L:=MN (x:=⟨i,a,b⟩) hs P U;have Q:=zh l P
    by_cases F:a<0
    .rw[K];generalize jZ l i=k at *
     rw[b8,b6];simp(disch:=omega)[zo,ca 182,o,ca 216,r,E,F,T,M,jd,kP,Q]
    .by_cases z : a < kR t i
     .generalize kR t i=u at *
      generalize kS t i=v at *
      generalize jZ l i=k at *
      rw[b8,b6];simp(disch:=omega)[zo,ca 182,o,ca 216,r,E,F,ca 184,y,z]
     .by_cases A : b < kS t i
      .generalize kR t i=u at *
       generalize kS t i=v at *
       generalize jZ l i=k at *
       rw[b8,b6];simp(disch:=omega)[zo,ca 182,o,ca 216,r,E,F,ca 184,y,z,A]
      .have G:¬kH l i=none:=λh=>by rw[H]at h;cases h
       rw[L];generalize kR t i=u at *
       generalize kS t i=v at *
       simp only;generalize jZ l i=k at *
       rw[b8,b6];simp(disch:=omega)[zo,ca 182,o,ca 216,r,E,F,ca 184,y,z,A,G,M,jd,P];exact aO ai
   .rw[H]at r;have K:=Kn H;have L:=Ko (x:=⟨i,a,b⟩) H;have X:=JF l i
    by_cases F:a<0
    .rw[K];generalize jZ l i=k at *
     rw[b8,b6];simp(disch:=omega)[zo,ca 182,o,ca 216,r,E,F]
    .by_cases z : a < kR t i
     .generalize kR t i=u at *
      generalize kS t i=v at *
      generalize jZ l i=k at *
      rw[b8,b6];simp(disch:=omega)[zo,ca 182,o,ca 216,r,E,F,ca 184,y,z]
     .by_cases A : b < kS t i
      .generalize kR t i=u at *
       generalize kS t i=v at *
       generalize jZ l i=k at *
       rw[b8,b6];simp(disch:=omega)[zo,ca 182,o,ca 216,r,E,F,ca 184,y,z,A]
      .by_cases G : 16 <= l.length
       .generalize kR t i=u at *
        generalize kS t i=v at *
        generalize jZ l i=k at *
        rw[b8,b6];simp(disch:=omega)[zo,ca 182,o,ca 216,r,E,F,ca 184,y,z,A,H,G]
       .rw[L];generalize kR t i=u at *
        generalize kS t i=v at *
        simp only;generalize jZ l i=k at *
        rw[b8,b6];simp(disch:=omega)[zo,ca 182,o,ca 216,r,E,F,ca 184,y,z,A,H,G,M,S,jd,kO];rw[aO ak]
  .have O:jF t i=73:=by unfold jF;rw[N];simp[E]
   rw[O];rw[b8,b6];simp(disch:=omega)[zo,ca 182,o,E]
structure Gi where
 a:UInt8
 n:Int
 b:Int
 n0 : -128<=n
 n1:n<=127
 b0 : -128<=b
 b1:b<=127
@[simp]def Gv(g:Gi):AV:=.agg [.int .u8 g.a.toNat,.int .i8 g.n,.int .i8 g.b]
@[simp]def akO(l:List Gi):jw 3 (l.map Gv)=true:=by simp[jw]
open Go.Am Go.Tr Go.Am.Nm
structure Bx(X:AH)(k:Nat)(t:Tr.Tree):Prop where
 pl:oE X
 at_:X[k]? = some (.var [.b9 false (t.nodes.map Nd),.int .i64 t.next,.int .i64 t.ek])
variable{X:AH}
def Bx.lt{k:Nat}{t:Tr.Tree}(h:Bx X k t):k<X.length:=(aD.1 h.at_).1
def Bx.get{k:Nat}{t:Tr.Tree}(h:Bx X k t)(hk:k<X.length):X[k] = .var [.b9 false (t.nodes.map Nd),.int .i64 t.next,.int .i64 t.ek]:=by
 have:=h.at_;rw[aH hk]at this;exact bB this
def Bx.app{k:Nat}{t:Tr.Tree}(h:Bx X k t){Y:AH}(b:Y.all gd=true):Bx (X++Y) k t :=
 ⟨tZ h.pl b,by rw[aJ h.lt];exact h.at_⟩
def Bx.set{k:Nat}{t:Tr.Tree}(h:Bx X k t)(u:Tr.Tree):Bx (X.set k (.var (Tb u))) k u:=by
 exact⟨IJ h.pl k rfl,by rw[aR h.lt]⟩
def DB{n:Nat}(x:36<n)(t:Tr.Tree)(hs:lC t.nodes)(hl:t.nodes.length<=1000)(i:Int){k:Nat}(B:Bx X k t):
  eT (en.cz n) 185 [.ptr k 0 0 0,I i] X=some (.jg [Nd (iS t i),.bool (find t.nodes i).isSome],X++[.var (Nc (iS t i))]):=by
 rw[U3 x,b6];have r:=B.app (Y:=[.var [.int .i64 0,.int .i64 0,.int .i64 0,.b9 false [],.b9 false [],.int .i64 0]]) rfl;have h:=Ki (n:=36) ah t hs hl i _ r.pl k r.at_
 have hk:=B.get;have y:=B.lt
 rcases Im hs i with⟨q,b,z,o⟩ | b
 .rw[iX b];rw[b]at h⊢;have l:q=t.nodes[jK t.nodes i]:=by rw[aH z]at o;exact(bB o).symm
  generalize jK t.nodes i=c at *
  simp(disch:=omega)[Cd,h,<-l,hk,jk]
 .have v:iS t i=jo:=by unfold iS;rw[b];rfl
  rw[v];rw[b]at h⊢;generalize jK t.nodes i=c at *
  simp(disch:=omega)[Cd,h,jo]
structure Gw(X Y:AH)(k:Nat)(u:Tr.Tree):Prop where
 bx:Bx Y k u
 le:X.length<=Y.length
 old:∀j,j<X.length->j≠k->Y[j]? = X[j]?
def Gw.trans{X Y Z:AH}{k:Nat}{u v:Tr.Tree}(h:Gw X Y k u)(h':Gw Y Z k v):Gw X Z k v :=
 ⟨h'.bx,bJ h.le h'.le,λj i b=>(h'.old j (bu i h.le) b).trans (h.old j i b)⟩
theorem Gw.of{X:AH}{k:Nat}{t:Tr.Tree}(B:Bx X k t)(u:Tr.Tree)(E:AH)(i:E.all gd=true):Gw X (X.set k (.var (Tb u))++E) k u :=
 ⟨(B.set u).app i,ai,λj h b=>by
  rw[aJ (an h),aI (Ne.symm b)]⟩
def tY{t:Tr.Tree}(hs:lC t.nodes)(n:Tr.Node):(iP t n).nodes.length<=t.nodes.length+1:=by
 rcases pN hs n.ino with⟨i,b,_⟩ | ⟨h,_⟩
 .rw[EG hs i b rfl];simp
 .rw[Cg hs h rfl];simp;omega
def EZ{m:Nat}(r:61<m)(t:Tr.Tree)(hs:lC t.nodes)(hl:t.nodes.length<=1000)(n:Tr.Node){X:AH}{k:Nat}(B:Bx X k t):
  ∃Y,eT (en.cz m) 173 [.ptr k 0 0 0,Nd n] X=some (.jg [],Y)/\Gw X Y k (iP t n):=by
 rw[ph 173 rfl r rfl,b6];have i:=Ki (n:=61) ah t hs hl n.ino _ B.pl k B.at_
 have hk:=B.get;have v:=B.lt;have b:=U0 (n:=61) ah
 have l:=aiP (n:=61) ah
 rcases pN hs n.ino with⟨q,x,h⟩ | ⟨h,_⟩
 .rw[EG hs q x rfl];rw[h]at i;generalize jK t.nodes n.ino=c at *
  refine⟨X.set k (.var (Tb ⟨false,t.nodes.set c n,t.next,t.ek⟩))++[.me 0 6 ((t.nodes.set c n).map Nd)],?_,Gw.of B _ _ rfl⟩;simp(disch:=omega)[Yz,i,q,hk,b,jd,lV,kM,zV,pR,jk];rw[aO ai]
  simp[Tb,fH]
 .rw[Cg hs h rfl];rw[h]at i;have o:jK t.nodes n.ino<=t.nodes.length:=lK _ _;generalize jK t.nodes n.ino=c at *
  refine⟨X.set k (.var (Tb ⟨false,t.nodes.take c++n::t.nodes.drop c,t.next,t.ek⟩))++[.me 1 6 ((t.nodes.take c++n::t.nodes.drop c).map Nd)],?_,Gw.of B _ _ rfl⟩;simp(disch:=omega)[Yz,i,hk,b,jd,l,kO,lV,kM,zV,pR,jk];rw[aO ak]
  simp[Tb]
open Go.Am Go.Tr Go.Am.Nm Go.Lib
def RI{a b:au}:compareBytes a b<0↔gr a b=true:=by
 rw[vt]
 by_cases h:a=b
 .subst h;rw[if_pos rfl,ov];simp
 .rw[if_neg h];cases gr a b<;>simp
def Gn{a b:au}:compareBytes a b=0↔a=b:=by
 rw[vt]
 by_cases h:a=b
 .simp[h]
 .rw[if_neg h];cases gr a b<;>simp[h]
variable{n:Nat}
def ahv(i:18<n)(a b:au):(en.cz n).p 248 [.str a,.str b]=some (I (compareBytes a b)):=by
 rw[pp 248 rfl i rfl,b8,b6];have h:(en.cz 18).p 284 [.str a,.str b]=some (.int .i64 (compareBytes a b)):=by rw[aiC ah];rfl
 simp(disch:=omega)[ae8,ca 284,h]
def UC(b:19<n)(e:Tr.Ent)(s:au):(en.cz n).p 247 [En e,.str s]=some (I (compareBytes e.name s)):=by
 rw[pp 247 rfl b rfl,b8,b6];have h:=ahv (n:=19) ah e.name s
 simp(disch:=omega)[ae9,ca 248,h]
def ajl(F:19<n)(l:List Tr.Ent)(hs:sr gr l)(hl:l.length<=1000)(f:Bool)(s:au)(e0:Env)(h0:e0 0 = .b9 f (l.map En))(h1:e0 1 = .str s)(h2:e0 2 = .fn (.func 247) [] [])(X:AH)(E:X.all gd=true):
  iter (round (en.cz n) [9,10] [(.exit 0,[9])] xP e0 X.length []) ([.int .i64 0,.int .i64 l.length],X)=some (.exit 0,[.int .i64 (lP gr l s:Nat)],X) :=
 wH (f:=round (en.cz n) [9,10] [(.exit 0,[9])] xP e0 X.length []) (λi j=>([.int .i64 (i:Int),.int .i64 (j:Int)],X)) l.length (lP gr l s) (lK _ _) (λc=>(.exit 0,[.int .i64 (c:Int)],X))
  (λa j H K=>by
   have z:=Jk (i:=a) (j:=j);obtain⟨m,y⟩:∃m,m=(a+j) / 2:=⟨_,rfl⟩;rw[<-y]at z⊢;have G:m<l.length:=af
   have o:=wN jM hs s G;obtain⟨x,v⟩:∃x,x=l[m]:=⟨_,rfl⟩;rw[<-v]at o;have A:=UC (n:=n) F x s;have r:=RI (a:=x.name) (b:=s);simp only[En]at A;generalize compareBytes x.name s=ci at *
   by_cases h:m<lP gr l s
   .have q:ci<0:=r.2 (o.1 h);simp(disch:=omega)[round_eq,xP,h0,h1,h2,wrap_u64,z,<-v,ca 247,A,h,q,jv _ _ X _ E]
   .have q:¬ci<0:=λh'=>h (o.2 (r.1 h'))
    simp(disch:=omega)[round_eq,xP,h0,h1,h2,wrap_u64,z,<-v,ca 247,A,h,q,jv _ _ X _ E])
  (λa L=>by simp(disch:=omega)[round_eq,xP]) _ 0 l.length rfl (aT _) (lK _ _) (aV _)
def ahw(z:45<n)(l:List Tr.Ent)(hs:sr gr l)(hl:l.length<=1000)(f:Bool)(s:au)(X:AH)(y:X.all gd=true):
  eT (en.cz n) 246 [.b9 f (l.map En),.str s,.fn (.func 247) [] []] X=some (.jg [I (lP gr l s:Nat),.bool (l.find? λe=>decide (e.name=s)).isSome],X):=by
 rw[ph 246 rfl z rfl,b6];have h1:=λe0 h0 h1 h2=>ajl (n:=45) ah l hs hl f s e0 h0 h1 h2 X y
 have q:=ur jM hs s;simp(disch:=omega)[afa,jv _ _ X _ y];rw[h1 _ aq aq aq]
 generalize lP gr l s=c at *
 rcases q with⟨v,r,q⟩ | ⟨q,r⟩
 .rw[q];obtain⟨x,o⟩:∃x,x=l[c]:=⟨_,rfl⟩;have hg:=UC (n:=45) ah x s
  have i:=(Gn (a:=x.name) (b:=s)).2 (by rw[o];exact r)
  rw[i]at hg;simp only[En]at hg;simp(disch:=omega)[<-o,ca 247,hg]
 .rw[q]
  by_cases v:c<l.length
  .obtain⟨x,o⟩:∃x,x=l[c]:=⟨_,rfl⟩;have hg:=UC (n:=45) ah x s
   have i:¬compareBytes x.name s=0:=λh=>r v (by rw[<-o];exact Gn.1 h)
   generalize compareBytes x.name s=ci at *
   simp only[En]at hg;simp(disch:=omega)[<-o,ca 247,hg,i]
  .simp(disch:=omega)
def Ms(b:46<n)(q:Tr.Node)(hs:sr gr q.b7)(hl:q.b7.length<=1000)(s:au):
  (en.cz n).p 190 [Nd q,.str s]=some (.jg [I (lP gr q.b7 s:Nat),.bool (jB q s).isSome]):=by
 rw[pp 190 rfl b rfl,b8,b6];have h:=ahw (n:=46) ah q.b7 hs hl false s [] rfl
 unfold jB;simp(disch:=omega)[afw,h]
def UG(i:38<n)(s:au):(en.cz n).p 189 [.str s]=some (.bool (j4 s)):=by
 rw[U2 i];have h:iN s=j4 s:=by
  unfold iN j4
  have o:∀b,CA b=okB b:=λb=>by
   unfold CA okB
   by_cases h1:b.toNat<32<;>by_cases h2:b.toNat=47<;>simp[h1,h2]<;>omega
  have:s.all CA=s.all okB:=by congr 1;funext b;exact o b
  rw[this]
  congr 1
  cases s with
  |nil=>simp
  |cons x l =>
   have h1:1<=(x::l).length:=ai
   have h0:¬(x::l)=[]:=ai
   generalize x::l=y at *
   by_cases h2:32<y.length
   .have:¬y.length<=32:=by omega
    simp[h0,h2,this]
   .have:y.length<=32:=by omega
    simp[h0,h1,h2,this]
 rw[<-h];rfl
def Gw.same{X:AH}{k:Nat}{t:Tr.Tree}(B:Bx X k t){E:AH}(h:E.all gd=true):Gw X (X++E) k t :=
 ⟨B.app h,ai,λj b _=>aJ b⟩
def Qg{n:Nat}(o:37<n)(t:Tr.Tree)(hs:lC t.nodes)(hl:t.nodes.length<=1000)(i:Int){X:AH}{k:Nat}(B:Bx X k t):
  ∃Y,eT (en.cz n) 188 [.ptr k 0 0 0,I i] X=some (.jg [Nd (kD t i),I (jF t i)],Y)/\Gw X Y k t:=by
 rw[ph 188 rfl o rfl,b6];have b:=DB (n:=37) ah t hs hl i (B.app (Y:=[.var [.int .i64 0,.int .i64 0,.int .i64 0,.b9 false [],.b9 false [],.int .i64 0]]) rfl)
 have r:=B.lt;unfold kD jF;unfold iS at b;refine⟨X++[.var (Nc (kD t i)),.var (Nc (iS t i)),.var (Nc (iS t i))],?_,Gw.same B rfl⟩;unfold kD iS;cases h:find t.nodes i with
 |none =>
  rw[h]at b;simp only[Option.getD_none,jo,Nd,Nc,aN]at b;simp(disch:=omega)[R7,b,jo]
 |some q =>
  rw[h]at b;simp only[dh,Nd,Nc]at b
  by_cases l:q.kind=2
  .simp(disch:=omega)[R7,b,l,jo]
  .simp(disch:=omega)[R7,b,l,jo]
def mP(t:Tr.Tree):Nat->Int->ay
 |0,_=>[]
 |d+1,i=>BT t i::mP t d (BT t i)
def pP(t:Tr.Tree):∀(d:Nat)(i:Int),(mP t d i).length=d
 |0,_=>rfl
 |d+1,i=>by simp[mP,pP t d]
def ade{n:Nat}(E:36<n)(t:Tr.Tree)(w:lM t){X:AH}{k:Nat}(B:Bx X k t)(e0:Env)(h0:e0 0 = .ptr k 0 0 0){d:Nat}{i:Int}(y:uA t i d):∀(l:ay),l.length+d<=t.nodes.length->
  iter (round (en.cz n) [1,5] [(.exit 0,[5]),(.ret,[4])] Ek e0 (X.length+1) [X.length]) ([I i,.own X.length 0 0 l.length],X++[.row 0 1 (l.map I)])=some (.exit 0,[.own X.length 0 0 (l++mP t d i).length],X++[.row 0 1 ((l++mP t d i).map I)]):=by
 have hl:=(nc w).len;have F:=B.lt;have hk:=B.get
 induction y with
 |root =>
  intro l H;rw[iter_eq];simp(disch:=omega)[round_eq,ald,mP]
 | @up i q d v r h1 y z =>
  intro l H;have b:=z (l++[q.up]) ak
  have x:=DB (n:=n) E t w.wf.jL hl i (B.app (Y:=[.row 0 1 (l.map I)]) rfl);rw[iX v,v]at x;simp only[Nd,Nc]at x;have A:BT t i=q.up:=by unfold BT;rw[v];rfl
  have K:l++mP t (d+1) i=l++[q.up]++mP t d q.up:=by
   simp only[mP,A];simp
  rw[K];rw[iter_eq];have G:l.length<=t.nodes.length:=af
  have o:=λY h0=>B.pl.tail (L:=X.length+1) (R:=[X.length]) af ai h0 Y
  have h:=jr X;have M:(l++[q.up]).length=l.length+1:=ai
  rw[M]at b;generalize l++[q.up]++mP t d q.up=N at *
  simp(disch:=omega)[round_eq,ald,h0,h1,hk,x,r,o,h,jk]
  simpa using b
end Go.Proofs.YtghgbehknhmnaaaGreatDoor
