/- Part of the proof that TopTwoPartsCard holds. -/
import Derived.Test.YtghgbehknhmnaaaGreatDoorAmLp
set_option linter.all false
namespace Go.Tr
structure Ent where
 name:au
 ino:Int
 ek:Int
deriving DecidableEq
structure Node where
 ino:Int
 kind:Int
 links:Int
 fd:Bool
 data:au
 fe:Bool
 b7:List Ent
 up:Int
deriving DecidableEq
structure Tree where
 fn:Bool
 nodes:List Node
 next:Int
 ek:Int
deriving DecidableEq
def jo:Node:=⟨0,0,0,true,[],true,[],0⟩
def zk:Tree:=⟨true,[⟨1,2,0,true,[],true,[],1⟩],2,1⟩
def find(l:List Node)(i:Int):Option Node:=l.find? λn=>decide (n.ino=i)
def jF(t:Tree)(i:Int):Int:=match find t.nodes i with
 |none=>70
 |some n=>if n.kind=2 then 0 else 73
def kD(t:Tree)(i:Int):Node:=match find t.nodes i with
 |none=>jo
 |some n=>if n.kind=2 then n else jo
def jB(n:Node)(s:au):Option Ent:=n.b7.find? λe=>decide (e.name=s)
def ins(n:Node)(l:List Node):List Node:=(l.takeWhile λm=>decide (m.ino<n.ino))++n::(l.dropWhile λm=>decide (m.ino<n.ino)).filter λm=>decide (m.ino≠n.ino)
def iP(t:Tree)(n:Node):Tree:=⟨false,ins n t.nodes,t.next,t.ek⟩
def kj(t:Tree)(i:Int):Tree:=⟨false,t.nodes.filter λm=>decide (m.ino≠i),t.next,t.ek⟩
def q7(lt:au->au->Bool)(e:Ent)(l:List Ent):List Ent:=(l.takeWhile λx=>!lt e.name x.name)++e::l.dropWhile λx=>!lt e.name x.name
def iS(t:Tree)(i:Int):Node:=(find t.nodes i).getD jo
def iY(lt:au->au->Bool)(t:Tree)(i:Int)(s:au)(of:Int):Tree :=
 iP ⟨t.fn,t.nodes,t.next,t.ek+1⟩ {iS t i with fe:=false,b7:=q7 lt ⟨s,of,t.ek⟩ (iS t i).b7}
def left(t:Tree)(i:Int)(s:au):Tree :=
 iP t {iS t i with fe:=false,b7:=(iS t i).b7.filter λe=>decide (e.name≠s)}
def BT(t:Tree)(i:Int):Int:=(find t.nodes i).elim 0 Node.up
def tj(t:Tree):Nat->Int->Nat
 |0,_=>0
 |k+1,i=>if i=1 then 0 else tj t k (BT t i)+1
def depth(t:Tree)(i:Int):Nat:=tj t 201 i
def wU(t:Tree):Nat->Int->Int->Bool
 |0,_,_=>false
 |k+1,i,o=>if i=o then true else if i=1 then false else wU t k (BT t i) o
def below(t:Tree)(i o:Int):Bool:=wU t (t.nodes.length+1) i o
def full(t:Tree)(n:Node):Bool:=decide (64<=n.b7.length)||(decide (12<=depth t n.ino)||decide (1099511627776<=t.ek))
section
variable(ok:au->Bool)(lt:au->au->Bool)
def enter(t:Tree)(i:Int)(s:au):Int :=
 if jF t i≠0 then jF t i else if ok s=false then 60 else if (jB (kD t i) s).isSome=true then 71 else if full t (kD t i)=true then 76 else 0
def add(t:Tree)(i:Int)(s:au)(kind:Int):Tree×Int×Int :=
 if kind≠1/\kind≠2 then(t,0,1)else if enter ok t i s≠0 then(t,0,enter ok t i s)else if (200<=t.nodes.length\/1099511627776<=t.next)then(t,0,76)else
 (iY lt (iP ⟨t.fn,t.nodes,t.next+1,t.ek⟩ ⟨t.next,kind,1,true,[],true,[],if kind=2 then i else 0⟩) i s t.next,t.next,0)
def ln(t:Tree)(i:Int)(to:Int)(s:au):Tree×Int :=
 match find t.nodes i with
 |none=>(t,70)
 |some n=>if n.kind=1/\n.links=0 then(t,70)else if n.kind=2 then(t,72)else if enter ok t to s≠0 then(t,enter ok t to s)else
  (iY lt (iP t {n with links:=n.links+1}) to s i,0)
def look(t:Tree)(i:Int)(s:au):Int×Int :=
 if jF t i≠0 then(0,jF t i)else if ok s=false then(0,60)else match jB (kD t i) s with
 |none=>(0,70)
 |some e=>(e.ino,0)
def unnamed(t:Tree)(i:Int):Tree:=if (iS t i).kind=2 then kj t i else iP t {iS t i with links:=(iS t i).links-1}
def un(t:Tree)(i:Int)(s:au):Tree×Int×Int :=
 if (look ok t i s).2≠0 then(t,0,(look ok t i s).2)else if 0<(iS t (look ok t i s).1).b7.length then(t,0,74)else
 (unnamed (left t i s) (look ok t i s).1,(look ok t i s).1,0)
def high(t:Tree)(i:Int)(at_:Int):Int :=
 t.nodes.foldl (λm n=>if n.kind=2/\below t n.ino i=true then max m (at_+depth t n.ino-depth t i+if 0<n.b7.length then 1 else 0)else m) 0
def kT(t:Tree)(x:Node)(y:Int):Int:=match find t.nodes y with
 |none=>0
 |some n=>if x.kind=2/\n.kind≠2 then 73 else if x.kind≠2/\n.kind=2 then 72 else if 0<n.b7.length then 74 else 0
def lI(t:Tree)(to:Int)(as:au):Int:=(jB (kD t to) as).elim 0 Ent.ino
def sU(t:Tree)(from_:Int)(s:au)(to:Int)(as:au)(i y:Int):Tree :=
 let u:=left t from_ s
 let u:=if y≠0 then unnamed (left u to as) y else u
 let u:=if (iS t i).kind=2 then iP u {iS t i with up:=to}else u
 iY lt u to as i
def mv(t:Tree)(from_:Int)(s:au)(to:Int)(as:au):Tree×Int×Int :=
 if (look ok t from_ s).2≠0 then(t,0,(look ok t from_ s).2)else if jF t to≠0 then(t,0,jF t to)else if ok as=false then(t,0,60)else
 let i:=(look ok t from_ s).1
 let y:=lI t to as
 let x:=iS t i
 if y=i then(t,0,0)else if x.kind=2/\below t to i=true then(t,0,75)else if kT t x y≠0 then(t,0,kT t x y)else
 if (y=0/\to≠from_/\64<=(kD t to).b7.length)\/12<=depth t to\/(x.kind=2/\12<high t i (depth t to+1))\/1099511627776<=t.ek then(t,0,76)else
 (sU lt t from_ s to as i y,y,0)
def put(t:Tree)(i:Int)(data:au):Tree×Int:=match find t.nodes i with
 |none=>(t,70)
 |some n=>if n.kind=2 then(t,72)else if 4096<data.length then(t,2)else(iP t {n with fd:=false,data:=data},0)
def free(t:Tree)(i:Int):Tree×Int:=match find t.nodes i with
 |none=>(t,70)
 |some n=>if n.kind=2 then(t,72)else if 0<n.links then(t,71)else(kj t i,0)
structure Step where
 kind:Nat
 a:Nat
 b:Nat
 n:Nat
 m:Nat
 data:au
def names:List au:=[[97],[98],[99],[100],[101],[46,46]]
def nameOf(n:Nat):au:=names.getD (n%6) []
def nodeAt(t:Tree)(n:Nat):Int:=((t.nodes[n%(t.nodes.length+1)]?).elim t.next Node.ino)
def step(t:Tree)(s:Step):Tree :=
 match s.kind%8 with
 |0 | 1=>(add ok lt t (nodeAt t s.a) (nameOf s.n) (s.m%2+1:Nat)).1
 |2=>(ln ok lt t (nodeAt t s.b) (nodeAt t s.a) (nameOf s.n)).1
 |3=>(un ok t (nodeAt t s.a) (nameOf s.n)).1
 |4 | 5=>(mv ok lt t (nodeAt t s.a) (nameOf s.n) (nodeAt t s.b) (nameOf s.m)).1
 |6=>(put t (nodeAt t s.a) s.data).1
 |_=>(free t (nodeAt t s.a)).1
end
def lC(l:List Node):Prop:=l.Pairwise λm n=>m.ino<n.ino
theorem fk{l:List Node}{i:Int}{n:Node}(h:find l i=some n):n∈l/\n.ino=i:=⟨bI h,by simpa using cL h⟩
theorem jN{l:List Node}(hs:lC l){n:Node}(h:n∈l):find l n.ino=some n:=by
 induction l with
 |nil=>cases h
 |cons m l b =>
  let⟨h1,h2⟩:=bK.1 hs;unfold find;rw[eL]
  rcases bw.1 h with rfl | h
  .simp
  .have:=h1 n h;rw[decide_eq_false af]
   exact b h2 h
theorem um{l:List Node}{i:Int}:find l i=none↔∀n∈l,n.ino≠i:=by
 grind[find,List.find?_eq_none]
def wE(n m:Node)(l:List Node)(hs:lC (m::l)):ins n (m::l)=if m.ino<n.ino then m::ins n l else if m.ino=n.ino then n::l else n::m::l:=by
 let⟨h1,_⟩:=bK.1 hs;unfold ins
 by_cases b:m.ino<n.ino
 .simp[b]
 .have i:n.ino<=m.ino->(l.filter λm=>decide (m.ino≠n.ino))=l:=λh=>bQ.2 λq o=>by
   grind
  have i:=i af
  rw[if_neg b,dA,cV,decide_eq_false b]
  grind
theorem wD{n m:Node}:∀ {l:List Node},lC l->(m∈ins n l↔m=n\/(m∈l/\m.ino≠n.ino))
 | [],_=>by simp[ins]
 |q::l,h=>by
  let⟨h1,h2⟩:=bK.1 h;have b:=wD (n:=n) (m:=m) h2;rw[wE n q l h]
  grind
def nO{n:Node}:∀ {l:List Node},lC l->lC (ins n l)
 | [],_=>by simp[ins,lC]
 |q::l,h=>by
  let⟨h1,h2⟩:=bK.1 h;rw[wE n q l h];split
  .rename_i i;refine bK.2 ⟨λm b=>?_,nO h2⟩
   rcases(wD h2).1 b with rfl | b
   .exact i
   .exact h1 m b.1
  .split
   .rename_i i;exact bK.2 ⟨λm b=>by have:=h1 m b;omega,h2⟩
   .rename_i r o;refine bK.2 ⟨λm b=>?_,h⟩
    grind
def Ga{n:Node}{l:List Node}(hs:lC l)(i:Int):find (ins n l) i=if i=n.ino then some n else find l i:=by
 have b:=nO (n:=n) hs
 by_cases h:i=n.ino
 .subst h;rw[if_pos rfl];exact jN b ((wD hs).2 (.inl rfl))
 .rw[if_neg h];cases q:find l i with
  |none =>
   rw[um]at q⊢;intro m o
   rcases(wD hs).1 o with rfl | o
   .exact λe=>h e.symm
   .exact q m o.1
  |some m =>
   obtain⟨h1,rfl⟩:=fk q
   grind[jN,wD]
theorem Bk{l:List Node}(h:lC l)(p:Node->Bool):lC (l.filter p):=iw p h
def rX{l:List Node}(hs:lC l)(i j:Int):find (l.filter λm=>decide (m.ino≠i)) j=if j=i then none else find l j:=by
 by_cases h:j=i
 .rw[if_pos h,um]
  grind
 .rw[if_neg h];cases b:find l j with
  |none =>
   grind[um]
  |some m =>
   obtain⟨h1,rfl⟩:=fk b
   grind[jN,Bk]
theorem Ji{n:Node}{l:List Node}(hs:lC l):(ins n l).length=if (find l n.ino).isSome=true then l.length else l.length+1:=by
 induction l with
 |nil=>rfl
 |cons q l b =>
  let⟨h1,h2⟩:=bK.1 hs;rw[wE n q l hs];unfold find;rw[eL];split
  .rename_i h;rw[decide_eq_false af]
   have:=b h2
   grind[find,List.length_cons]
  grind
def cN(n:Node)(i:Int):Nat:=(n.b7.filter λe=>decide (e.ino=i)).length
def cnt(l:List Node)(i:Int):Nat:=(l.map λn=>cN n i).sum
def cO(o:Option Node)(i:Int):Nat:=o.elim 0 λn=>cN n i
theorem mW(n:Node)(l:List Node)(i:Int):cnt (n::l) i=cN n i+cnt l i:=rfl
def xI(m:Node)(l:List Node)(i:Int):find (m::l) i=if m.ino=i then some m else find l i:=by
 grind[find]
def Eg{n:Node}(i:Int):∀ {l:List Node},lC l->cnt (ins n l) i+cO (find l n.ino) i=cnt l i+cN n i
 | [],_=>by simp[ins,cnt,find,cO]
 |m::l,h=>by
  let⟨h1,h2⟩:=bK.1 h;have v:=Eg (n:=n) i h2;rw[wE n m l h,xI];split
  .rename_i x;rw[if_neg af,mW,mW]
   omega
  .split
   .grind[mW,cO]
   .rename_i r o;have:find l n.ino=none:=um.2 λq b=>by have:=h1 q b;omega
    grind[mW,cO]
def y8(i j:Int):∀ {l:List Node},lC l->cnt (l.filter λm=>decide (m.ino≠j)) i+cO (find l j) i=cnt l i
 | [],_=>by simp[cnt,find,cO]
 |m::l,h=>by
  let⟨h1,h2⟩:=bK.1 h;have n:=y8 i j h2;rw[xI,bO]
  by_cases b:m.ino=j
  .have:(l.filter λm=>decide (m.ino≠j))=l:=bQ.2 λq o=>by grind
   rw[if_pos b,if_neg (an b),this,mW]
   grind[cO]
  .rw[if_neg b,if_pos (an b),mW,mW]
   omega
variable{n:Node}{s:au}
def xK{i:Int}:0<cN n i↔∃e∈n.b7,e.ino=i:=by
 unfold cN
 simp_all
def zK{i:Int}:∀ {l:List Node},0<cnt l i↔∃n∈l,0<cN n i
 | []=>by simp[cnt]
 |m::l=>by
  have b:=zK (i:=i) (l:=l);rw[mW]
  grind
def Gq{l:List Node}(h:n∈l)(i:Int):cN n i<=cnt l i:=by
 induction l with
 |nil=>cases h
 |cons m l b =>
  rw[mW]
  grind
def JG{l:List Node}(hs:lC l){i:Int}(h:cnt l i=1){m:Node}(v:m∈l)(r:n∈l)(h1:0<cN m i)(h2:0<cN n i):m=n:=by
 induction l with
 |nil=>cases v
 |cons q l x =>
  let⟨z,y⟩:=bK.1 hs;rw[mW]at h
  rcases bw.1 v with rfl | o
  .rcases bw.1 r with rfl | b
   .rfl
   .have:=Gq b i;omega
  .rcases bw.1 r with rfl | b
   .have:=Gq o i;omega
   .have:=zK.2 ⟨m,o,h1⟩;exact x y af o b
section
variable{lt:au->au->Bool}
structure Ord(lt:au->au->Bool):Prop where
 QW:∀a,lt a a=false
 tr:∀a b c,lt a b=true->lt b c=true->lt a c=true
 tot:∀a b,lt a b=true\/a=b\/lt b a=true
def sr(lt:au->au->Bool)(l:List Ent):Prop:=l.Pairwise λa b=>lt a.name b.name=true
theorem xC(e x:Ent)(l:List Ent):q7 lt e (x::l)=if lt e.name x.name=true then e::x::l else x::q7 lt e l:=by
 unfold q7;cases h:lt e.name x.name<;>simp[h]
theorem uj(e:Ent)(l:List Ent):(q7 lt e l).Perm (e::l):=by
 induction l with
 |nil=>simp[q7]
 |cons x l b =>
  grind[xC,List.Perm.refl]
def wF{e x:Ent}{l:List Ent}:x∈q7 lt e l↔x=e\/x∈l:=by
 grind[uj]
def NH(e:Ent)(l:List Ent):(q7 lt e l).length=l.length+1:=by
 rw[(uj e l).length_eq,aS]
def FN(o:Ord lt){e:Ent}:∀ {l:List Ent},sr lt l->(∀x∈l,x.name≠e.name)->sr lt (q7 lt e l)
 | [],_,_=>by simp[q7,sr]
 |x::l,h,n=>by
  let⟨h1,h2⟩:=bK.1 h;rw[xC];split
  .rename_i i;refine bK.2 ⟨λy b=>?_,h⟩
   rcases bw.1 b with rfl | b
   .exact i
   .exact o.tr _ _ _ i (h1 y b)
  .rename_i i;refine bK.2 ⟨λy b=>?_,FN o h2 λy b=>n y (by simp[b])⟩
   rcases wF.1 b with rfl | b
   .rcases o.tot x.name y.name with h | h | h
    .exact h
    .grind
    .exact absurd h i
   .exact h1 y b
def XZ(n:Node)(e:Ent)(b:Bool)(i:Int):cN {n with fe:=b,b7:=q7 lt e n.b7} i=cN n i+if e.ino=i then 1 else 0:=by
 unfold cN;simp only;rw[((uj (lt:=lt) e n.b7).filter _).length_eq,bO]
 grind
def kV{e:Ent}(h:jB n s=some e):e∈n.b7/\e.name=s:=⟨bI h,by simpa using cL h⟩
def vq:jB n s=none↔∀e∈n.b7,e.name≠s:=by
 grind[jB,List.find?_eq_none]
def nF(s:au)(l:List Ent):List Ent:=l.filter λe=>decide (e.name≠s)
def vr(o:Ord lt){s:au}{e:Ent}:∀ {l:List Ent},sr lt l->e∈l->e.name=s->(e::nF s l).Perm l
 | [],_,h,_=>by cases h
 |x::l,hs,h,b=>by
  let⟨h1,h2⟩:=bK.1 hs;unfold nF;rw[bO]
  rcases bw.1 h with rfl | h
  .rw[if_neg (an b)]
   have:(l.filter λe=>decide (e.name≠s))=l:=bQ.2 λy n=>by
    have:=h1 y n;have i:y.name≠s:=λh'=>by rw[h',b,o.QW]at this;cases this
    simpa using i
   rw[this]
  .have q:x.name≠s:=λh'=>by
    have:=h1 e h;rw[h',b,o.QW]at this;cases this
   rw[if_pos (an q)]
   exact(List.Perm.swap x e _).trans (List.Perm.cons x (vr o h2 h b))
def RP(o:Ord lt){e:Ent}(hs:sr lt n.b7)(h:jB n s=some e)(b:Bool)(i:Int):cN {n with fe:=b,b7:=nF s n.b7} i+(if e.ino=i then 1 else 0)=cN n i:=by
 let⟨h1,h2⟩:=kV h;have:=((vr o hs h1 h2).filter λe=>decide (e.ino=i)).length_eq
 grind[cN]
def CV(o:Ord lt){e:Ent}(hs:sr lt n.b7)(h:jB n s=some e):(nF s n.b7).length+1=n.b7.length:=by
 let⟨h1,h2⟩:=kV h;have:=(vr o hs h1 h2).length_eq
 grind
def ry{l:List Ent}{e:Ent}:e∈nF s l↔e∈l/\e.name≠s:=by
 grind[nF]
end
section
variable(ok:au->Bool)(lt:au->au->Bool)
structure qg(t:Tree)(l:List Ent):Prop where
 nm:∀e∈l,ok e.name=true
 ck:∀e∈l,1<=e.ek/\e.ek<t.ek
 to:∀e∈l,(find t.nodes e.ino).isSome=true
 jL:sr lt l
 SJ:l.Pairwise λa b=>a.ek≠b.ek
 len:l.length<=64
structure zq(t:Tree)(M:Int->Nat):Prop where
 jL:lC t.nodes
 pos:∀i n,find t.nodes i=some n->1<=i/\i<t.next
 ZV:t.next<=1099511627776
 Ld:1<=t.ek
 XN:t.ek<=1099511627776
 len:t.nodes.length<=200
 root:∃r,find t.nodes 1=some r/\r.kind=2/\r.up=1/\r.links=0
 Eh:cnt t.nodes 1=0
 file:∀i n,find t.nodes i=some n->n.kind=1->n.b7=[]/\n.up=0/\n.data.length<=4096/\n.links=(cnt t.nodes i+M i:Nat)
 dir:∀i n,find t.nodes i=some n->n.kind=2->n.data=[]/\qg ok lt t n.b7
 FH:∀i n,find t.nodes i=some n->n.kind=2->i≠1->cnt t.nodes i+M i=1/\n.links=1
 par:∀i n,find t.nodes i=some n->n.kind=2->i≠1->M i=0->∃p,find t.nodes n.up=some p/\cN p i=1
 kind:∀i n,find t.nodes i=some n->n.kind=1\/n.kind=2
end
variable{ok:au->Bool}{lt:au->au->Bool}{t:Tree}{M:Int->Nat}
def inc(M:Int->Nat)(i:Int):Int->Nat:=λk=>M k+if k=i then 1 else 0
def dec(M:Int->Nat)(i:Int):Int->Nat:=λk=>M k-if k=i then 1 else 0
def JC(M:Int->Nat)(i:Int):dec (inc M i) i=M:=by
 funext k
 grind[dec,inc]
variable{i:Int}{n:Node}
def jI{l:List Node}(h:find l i=some n):n.ino=i:=(fk h).2
theorem Nn(w:zq ok lt t M)(h:0<cnt t.nodes i):(find t.nodes i).isSome=true:=by
 let⟨n,o,q⟩:=zK.1 h;obtain⟨e,l,rfl⟩:=xK.1 q;have b:=jN w.jL o
 rcases w.kind _ _ b with hk | hk
 .rw[(w.file _ _ b hk).1]at l;cases l
 .exact(w.dir _ _ b hk).2.to e l
def D6(w:zq ok lt t M)(b:find t.nodes i=some n){e:Ent}(h:e∈n.b7):n.kind=2:=by
 rcases w.kind _ _ b with hk | hk
 .rw[(w.file _ _ b hk).1]at h;cases h
 .exact hk
def kr(w:lC t.nodes)(n:Node)(i:Int):find (iP t n).nodes i=if i=n.ino then some n else find t.nodes i:=Ga w i
def xJ(w:lC t.nodes){m:Node}(h:find t.nodes n.ino=some m)(i:Int):cnt (iP t n).nodes i+cN m i=cnt t.nodes i+cN n i:=by
 have:=Eg (n:=n) i w;rw[h]at this;exact this
def xy(w:lC t.nodes){m:Node}(h:find t.nodes n.ino=some m):(iP t n).nodes.length=t.nodes.length:=by
 grind[Ji,iP]
theorem iX(h:find t.nodes i=some n):iS t i=n:=by unfold iS;rw[h];rfl
def qg.mono{l:List Ent}(h:qg ok lt t l){b:Tree}(q:t.ek<=b.ek)(o:∀i,(find t.nodes i).isSome=true->(find b.nodes i).isSome=true):qg ok lt b l :=
 ⟨h.nm,λe n=>by have:=h.ck e n;omega,λe n=>o _ (h.to e n),h.jL,h.SJ,h.len⟩
def qg.drop{l:List Ent}(h:qg ok lt t l)(s:au):qg ok lt t (nF s l) :=
 ⟨λe b=>h.nm e (ry.1 b).1,λe b=>h.ck e (ry.1 b).1,λe b=>h.to e (ry.1 b).1,h.jL.filter _,h.SJ.filter _,bJ (bz ..) h.len⟩
theorem zq.left(o:Ord lt)(w:zq ok lt t M){p:Node}(v:find t.nodes i=some p)(H:p.kind=2){s:au}{e:Ent}(U:jB p s=some e):zq ok lt (left t i s) (inc M e.ino):=by
 have K:=jI v;have F:=(w.dir _ _ v H).2;obtain⟨n,y⟩:∃n,n={p with fe:=false,b7:=nF s p.b7}:=⟨_,rfl⟩
 have x:n.ino=i:=by rw[y];exact K
 have hl:Tr.left t i s=iP t n:=by unfold Tr.left;rw[iX v,y];rfl
 have E:find t.nodes n.ino=some p:=by rw[x];exact v
 have A:=λj=>kr w.jL n j
 have hc:=λj=>xJ w.jL E j
 have PI:∀j,cN n j+(if e.ino=j then 1 else 0)=cN p j:=λj=>by rw[y];exact RP o F.jL U false j
 have Q:=kV U
 have l:∀j,(find t.nodes j).isSome=true->(find (iP t n).nodes j).isSome=true:=λj h=>by
  grind
 rw[hl];have X:n.kind=p.kind:=by rw[y]
 have L:n.up=p.up:=by rw[y]
 have N:n.links=p.links:=by rw[y]
 have P:n.data=p.data:=by rw[y]
 have O:n.b7=nF s p.b7:=by rw[y]
 have z:∀j,cnt (iP t n).nodes j+(if e.ino=j then 1 else 0)=cnt t.nodes j:=λj=>by grind
 have Z:e.ino≠1:=λh1=>by
  have h2:0<cN p 1:=xK.2 ⟨e,Q.1,h1⟩;have h3:=Gq (fk v).1 1;have:=w.Eh;omega
 refine⟨nO w.jL,λj m b=>?_,w.ZV,w.Ld,w.XN,by rw[xy w.jL E];exact w.len,?_,?_,λj m b hk=>?_,λj m b hk=>?_,λj m b hk h1=>?_,λj m b hk h1 W=>?_,λj m b=>?_⟩
 .rw[A]at b;split at b
  .rename_i h;subst h;rw[x];exact w.pos _ _ v
  .exact w.pos _ _ b
 .let⟨r,h1,h2,h3,h4⟩:=w.root
  grind
 .have:=z 1;have:=w.Eh;omega
 .rw[A]at b;have:=z j;split at b
  .cases b;omega
  .let⟨T,S,g3,g4⟩:=w.file _ _ b hk;refine⟨T,S,g3,?_⟩;rw[g4];unfold inc
   grind
 .rw[A]at b;split at b
  .cases b;refine⟨by rw[P];exact(w.dir _ _ v H).1,?_⟩
   rw[O];exact(F.drop s).mono (dX _) l
  .let⟨T,S⟩:=w.dir _ _ b hk;exact⟨T,S.mono (dX _) l⟩
 .have hcj:=z j;have key:cnt t.nodes j+M j=1/\m.links=1:=by
   rw[A]at b;split at b
   .rename_i h;cases b;rw[x]at h;subst h;have:=w.FH _ _ v H h1;rw[N];exact this
   .exact w.FH _ _ b hk h1
  refine⟨?_,key.2⟩;unfold inc
  grind
 .have Y:j≠e.ino:=λh=>by unfold inc at W;grind
  have G:M j=0:=by unfold inc at W;grind
  have key:∃q,find t.nodes m.up=some q/\cN q j=1:=by
   rw[A]at b;split at b
   .rename_i h;cases b;rw[x]at h;subst h;rw[L];exact w.par _ _ v H h1 G
   .exact w.par _ _ b hk h1 G
  grind
 .rw[A]at b;split at b
  .grind
  .exact w.kind _ _ b
def zq.iY(o:Ord lt)(w:zq ok lt t M){p:Node}(E:find t.nodes i=some p)(L:p.kind=2){s:au}(hs:ok s=true)(hno:∀e∈p.b7,e.name≠s)(hlen:p.b7.length<64)(PJ:t.ek<1099511627776)
  {of:Int} {m:Node} (T:find t.nodes of=some m) (hM:1<=M of) (ho1:of≠1) (N:m.kind=2->m.up=i):zq ok lt (iY lt t i s of) (dec M of):=by
 have hpi:=jI E;have y:=(w.dir _ _ E L).2;obtain⟨e,W⟩:∃e:Ent,e=⟨s,of,t.ek⟩:=⟨_,rfl⟩;obtain⟨n,F⟩:∃n,n={p with fe:=false,b7:=q7 lt e p.b7}:=⟨_,rfl⟩
 obtain⟨u,hu⟩:∃u:Tree,u=⟨t.fn,t.nodes,t.next,t.ek+1⟩:=⟨_,rfl⟩;have z:u.nodes=t.nodes:=by rw[hu]
 have G:n.ino=i:=by rw[F];exact hpi
 have hl:Tr.iY lt t i s of=iP u n:=by unfold Tr.iY;rw[iX E,F,W,hu]
 have P:find u.nodes n.ino=some p:=by rw[G,z];exact E
 have Z:lC u.nodes:=by rw[z];exact w.jL
 have K:=λj=>kr Z n j
 have hc:=λj=>xJ Z P j
 have PI:∀j,cN n j=cN p j+(if e.ino=j then 1 else 0):=λj=>by rw[F];exact XZ p e false j
 have U:e.ino=of:=by rw[W]
 rw[z]at hc;simp only[z]at K
 have A:∀j,(find t.nodes j).isSome=true->(find (iP u n).nodes j).isSome=true:=λj h=>by
  grind
 rw[hl];have hnk:n.kind=p.kind:=by rw[F]
 have S:n.up=p.up:=by rw[F]
 have hnl:n.links=p.links:=by rw[F]
 have hnd:n.data=p.data:=by rw[F]
 have hne:n.b7=q7 lt e p.b7:=by rw[F]
 have H:∀j,cnt (iP u n).nodes j=cnt t.nodes j+(if of=j then 1 else 0):=λj=>by grind
 have v:(iP u n).ek=t.ek+1:=by unfold iP;rw[hu]
 have Q:(iP u n).next=t.next:=by unfold iP;rw[hu]
 refine⟨nO Z,λj m b=>?_,by rw[Q];exact w.ZV,by rw[v];have:=w.Ld;omega,by rw[v];omega,by rw[xy Z P,z];exact w.len,?_,?_,λj m b hk=>?_,λj m b hk=>?_,λj m b hk h1=>?_,λj q b hk h1 hM'=>?_,λj m b=>?_⟩
 .rw[K]at b;rw[Q];split at b
  .rename_i h;subst h;rw[G];exact w.pos _ _ E
  .exact w.pos _ _ b
 .let⟨r,h1,h2,h3,h4⟩:=w.root
  grind
 .have:=H 1;rw[if_neg ho1]at this;have:=w.Eh;omega
 .rw[K]at b;have:=H j;split at b
  .cases b;omega
  .let⟨Y,g2,g3,g4⟩:=w.file _ _ b hk;refine⟨Y,g2,g3,?_⟩;rw[g4];unfold dec
   grind
 .rw[K]at b;split at b
  .cases b;refine⟨by rw[hnd];exact(w.dir _ _ E L).1,?_⟩
   rw[hne];have Tj:∀x∈p.b7,x.name≠e.name:=λx l=>by rw[W];exact hno x l
   refine⟨λx l=>?_,λx l=>?_,λx l=>?_,FN o y.jL Tj,?_,by rw[NH];omega⟩
   .rcases wF.1 l with rfl | l
    .rw[W];exact hs
    .exact y.nm x l
   .rw[v]
    rcases wF.1 l with rfl | l
    .rw[W];have:=w.Ld;simp only;omega
    .have:=y.ck x l;omega
   .refine A _ ?_
    rcases wF.1 l with rfl | l
    .rw[U,T];rfl
    .exact y.to x l
   .refine((uj (lt:=lt) e p.b7).pairwise_iff λh=>h.symm).2 (bK.2 ⟨λx l=>?_,y.SJ⟩)
    have:=y.ck x l
    grind
  .let⟨Y,g2⟩:=w.dir _ _ b hk;exact⟨Y,g2.mono (by rw[v];omega) A⟩
 .have hcj:=H j;have key:cnt t.nodes j+M j=1/\m.links=1:=by
   rw[K]at b;split at b
   .rename_i h;cases b;rw[G]at h;subst h;have:=w.FH _ _ E L h1;rw[hnl];exact this
   .exact w.FH _ _ b hk h1
  refine⟨?_,key.2⟩;unfold dec
  grind
 .have O:find t.nodes j=some q\/(j=i/\q=n):=by
   grind
  by_cases hje:j=of
  .subst hje;have hqu:q.up=i/\cnt t.nodes j+M j=1:=by
    rcases O with h | ⟨h,rfl⟩
    .rw[T]at h;cases h;exact⟨N hk,(w.FH _ _ T hk h1).1⟩
    .subst h;rw[E]at T;cases T;exact⟨by rw[S];exact N L,(w.FH _ _ E L h1).1⟩
   refine⟨n,by grind,?_⟩
   have Y:=PI j;rw[U,if_pos rfl]at Y;have g2:=Gq (fk E).1 j;omega
  .have X:M j=0:=by unfold dec at hM';grind
   have key:∃r,find t.nodes q.up=some r/\cN r j=1:=by
    rcases O with h | ⟨h,rfl⟩
    .exact w.par _ _ h hk h1 X
    .subst h;rw[S];exact w.par _ _ E L h1 X
   grind
 .rw[K]at b;split at b
  .grind
  .exact w.kind _ _ b
def zq.set(w:zq ok lt t M){p:Node}(A:find t.nodes i=some p)(P:n.ino=i)(x:n.kind=p.kind)(Q:n.b7=p.b7)(O:Int->Nat)(S:∀j,j≠i->O j=M j)
  (E:n.kind=1->n.up=0/\n.data.length<=4096/\n.links=(cnt t.nodes i+O i:Nat))
  (y:n.kind=2->n.data=[]/\n.links=p.links/\O i=M i/\(n.up=p.up\/(i≠1/\M i≠0))):zq ok lt (iP t n) O:=by
 have H:find t.nodes n.ino=some p:=by rw[P];exact A
 have U:=λj=>kr w.jL n j
 have W:=λj=>xJ w.jL H j
 have T:∀j,cN n j=cN p j:=λj=>by unfold cN;rw[Q]
 have v:∀j,(find t.nodes j).isSome=true->(find (iP t n).nodes j).isSome=true:=λj h=>by
  grind
 have F:∀j,cnt (iP t n).nodes j=cnt t.nodes j:=λj=>by grind
 have b:∀j m,find (iP t n).nodes j=some m->(j=i/\m=n)\/(j≠i/\find t.nodes j=some m):=λj m l=>by
  grind
 refine⟨nO w.jL,λj m l=>?_,w.ZV,w.Ld,w.XN,by rw[xy w.jL H];exact w.len,?_,by rw[F];exact w.Eh,λj m l hk=>?_,λj m l hk=>?_,λj m l hk h1=>?_,λj m l hk h1 z=>?_,λj m l=>?_⟩
 .rcases b j m l with⟨rfl,rfl⟩ | ⟨_,l⟩
  .exact w.pos _ _ A
  .exact w.pos _ _ l
 .let⟨r,h1,h2,h3,h4⟩:=w.root
  grind
 .rw[F]
  rcases b j m l with⟨rfl,rfl⟩ | ⟨o,l⟩
  .refine⟨?_,E hk⟩;rw[Q];exact(w.file _ _ A (x.symm.trans hk)).1
  .let⟨N,K,L,G⟩:=w.file _ _ l hk
   grind
 .rcases b j m l with⟨rfl,rfl⟩ | ⟨o,l⟩
  .refine⟨(y hk).1,?_⟩;rw[Q];exact(w.dir _ _ A (x.symm.trans hk)).2.mono (dX _) v
  .let⟨N,K⟩:=w.dir _ _ l hk;exact⟨N,K.mono (dX _) v⟩
 .rw[F]
  rcases b j m l with⟨rfl,rfl⟩ | ⟨o,l⟩
  .let⟨N,K,L,G⟩:=y hk;rw[L,K];exact w.FH _ _ A (x.symm.trans hk) h1
  .rw[S j o];exact w.FH _ _ l hk h1
 .have key:∃q,find t.nodes m.up=some q/\cN q j=1:=by
   rcases b j m l with⟨rfl,rfl⟩ | ⟨o,l⟩
   .let⟨N,K,L,G⟩:=y hk;rw[L]at z
    rcases G with G | G
    .rw[G];exact w.par _ _ A (x.symm.trans hk) h1 z
    grind
   .rw[S j o]at z;exact w.par _ _ l hk h1 z
  grind
 .rcases b j m l with⟨rfl,rfl⟩ | ⟨o,l⟩
  .rw[x];exact w.kind _ _ A
  .exact w.kind _ _ l
variable{ok:au->Bool}{lt:au->au->Bool}{t:Tree}{M:Int->Nat}
variable{i:Int}
def zq.gone(w:zq ok lt t M){p:Node}(G:find t.nodes i=some p)(x:p.b7=[])(h1:i≠1)(L:cnt t.nodes i=0)(E:Int->Nat)(A:∀j,j≠i->E j=M j):zq ok lt (kj t i) E:=by
 have H:∀j,find (kj t i).nodes j=if j=i then none else find t.nodes j:=λj=>rX w.jL i j
 have F:∀j,cN p j=0:=λj=>by unfold cN;rw[x];rfl
 have o:∀j,cnt (kj t i).nodes j=cnt t.nodes j:=λj=>by
  have:=y8 j i w.jL;rw[G]at this;simp only[cO,bC,F]at this;exact this
 have b:∀j m,find (kj t i).nodes j=some m->j≠i/\find t.nodes j=some m:=λj m l=>by
  grind
 have K:∀j m,find t.nodes j=some m->qg ok lt t m.b7->qg ok lt (kj t i) m.b7:=λj m l h =>
  ⟨h.nm,h.ck,λe x=>by
   rw[H,if_neg]
   .exact h.to e x
   .intro z;have:=zK.2 ⟨m,(fk l).1,xK.2 ⟨e,x,z⟩⟩;omega,h.jL,h.SJ,h.len⟩
 refine⟨Bk w.jL _,λj m l=>w.pos _ _ (b j m l).2,w.ZV,w.Ld,w.XN,bJ (bz ..) w.len,?_,by rw[o];exact w.Eh,λj m l hk=>?_,λj m l hk=>?_,λj m l hk y=>?_,λj m l hk y v=>?_,λj m l=>w.kind _ _ (b j m l).2⟩
 .let⟨r,Q,P⟩:=w.root
  grind
 .let⟨n,l⟩:=b j m l;let⟨O,N,U,T⟩:=w.file _ _ l hk
  grind
 .let⟨n,l⟩:=b j m l;let⟨O,N⟩:=w.dir _ _ l hk
  grind
 .let⟨n,l⟩:=b j m l;rw[o,A j n];exact w.FH _ _ l hk y
 .let⟨n,l⟩:=b j m l;rw[A j n]at v;let⟨q,q1,S⟩:=w.par _ _ l hk y v
  grind
def qY(t:Tree)(kind up:Int):Node:=⟨t.next,kind,1,true,[],true,[],up⟩
def nC(t:Tree)(kind up:Int):Tree:=iP ⟨t.fn,t.nodes,t.next+1,t.ek⟩ (qY t kind up)
theorem CR(w:zq ok lt t M):find t.nodes t.next=none:=by
 cases h:find t.nodes t.next with
 |none=>rfl
 |some n=>have:=(w.pos _ _ h).2;omega
def OJ(w:zq ok lt t M):cnt t.nodes t.next=0:=by
 grind[Nat.eq_zero_or_pos,cnt,Nn,CR]
def CS(w:zq ok lt t M)(kind up:Int)(j:Int):find (nC t kind up).nodes j=if j=t.next then some (qY t kind up)else find t.nodes j:=Ga w.jL j
def zq.more(w:zq ok lt t M)(kind up:Int)(hk:kind=1/\up=0\/kind=2)(H:M t.next=0)(G:t.nodes.length<200)(O:t.next<1099511627776):zq ok lt (nC t kind up) (inc M t.next):=by
 have U:=CS w kind up;have y:=CR w;have z:=OJ w;have N:∀j,cN (qY t kind up) j=0:=λj=>rfl
 have v:∀j,cnt (nC t kind up).nodes j=cnt t.nodes j:=λj=>by
  have:=Eg (n:=qY t kind up) j w.jL;have e:find t.nodes (qY t kind up).ino=none:=y;rw[e,N]at this;unfold nC iP
  simpa[cO]using this
 have b:∀j m,find (nC t kind up).nodes j=some m->(j=t.next/\m=qY t kind up)\/(j≠t.next/\find t.nodes j=some m):=λj m i=>by
  grind
 have o:∀j,(find t.nodes j).isSome=true->(find (nC t kind up).nodes j).isSome=true:=λj h=>by
  grind
 have E:∀j,j≠t.next->inc M t.next j=M j:=λj h=>by unfold inc;rw[if_neg h];rfl
 have F:(nC t kind up).next=t.next+1:=rfl;let⟨r,L,K⟩:=w.root;have T:=w.pos _ _ L;refine⟨nO w.jL,λj m i=>?_,by rw[F];omega,w.Ld,w.XN,?_,⟨r,?_,K⟩,by rw[v];exact w.Eh,λj m i hk=>?_,λj m i hk=>?_,λj m i hk A=>?_,λj m i hk A x=>?_,λj m i=>?_⟩
 .rw[F]
  rcases b j m i with⟨rfl,_⟩ | ⟨_,i⟩
  .omega
  .have:=w.pos _ _ i;omega
 .have:=Ji (n:=qY t kind up) w.jL;have e:find t.nodes (qY t kind up).ino=none:=y;rw[e]at this;have h2:(nC t kind up).nodes.length=t.nodes.length+1:=by unfold nC iP;simpa using this
  omega
 .grind
 .rw[v]
  rcases b j m i with⟨rfl,rfl⟩ | ⟨l,i⟩
  .refine⟨rfl,?_,by simp[qY],?_⟩
   .rcases ‹kind=1/\up=0\/kind=2› with h | h
    .exact h.2
    .have:kind=1:=hk;omega
   .unfold inc;rw[z,H,if_pos rfl];rfl
  .rw[E j l];exact w.file _ _ i hk
 .rcases b j m i with⟨rfl,rfl⟩ | ⟨l,i⟩
  .exact⟨rfl,⟨by simp[qY],by simp[qY],by simp[qY],by simp[qY,sr],by simp[qY],by simp[qY]⟩⟩
  .let⟨Q,P⟩:=w.dir _ _ i hk;exact⟨Q,P.mono (dX _) o⟩
 .rw[v]
  rcases b j m i with⟨rfl,rfl⟩ | ⟨l,i⟩
  .unfold inc;rw[z,H,if_pos rfl];exact⟨rfl,rfl⟩
  .rw[E j l];exact w.FH _ _ i hk A
 .rcases b j m i with⟨rfl,rfl⟩ | ⟨l,i⟩
  .unfold inc at x
   grind
  .rw[E j l]at x;let⟨q,q1,S⟩:=w.par _ _ i hk A x
   grind
 .rcases b j m i with⟨rfl,rfl⟩ | ⟨l,i⟩
  .exact hk.imp (λh=>h.1) id
  .exact w.kind _ _ i
inductive uA(t:Tree):Int->Nat->Prop
 |root:uA t 1 0
 |up {i:Int} {n:Node} {d:Nat} (h:find t.nodes i=some n) (hk:n.kind=2) (h1:i≠1) (hd:uA t n.up d):uA t i (d+1)
def uA.inj{i:Int}{d b:Nat}(h:uA t i d):uA t i b->d=b:=by
 induction h generalizing b with
 |root =>
  intro h';cases h' with
  |root=>rfl
  |up _ _ h1 _=>exact absurd rfl h1
 |up h hk h1 n l =>
  intro h';cases h' with
  |root=>exact absurd rfl h1
  |up g o r q =>
   grind
def uA.keep{l:Tree}{P:Int->Prop}(r:∀j n,P j->find t.nodes j=some n->n.kind=2->j≠1->P n.up/\∃b,find l.nodes j=some b/\b.kind=2/\b.up=n.up){d:Nat}(h:uA t i d):P i->uA l i d:=by
 induction h with
 |root=>intro _;exact .root
 |up h hk h1 A o =>
  intro q;let⟨z,b,y,x,v⟩:=r _ _ q h hk h1;exact .up y x h1 (by rw[v];exact o z)
def zO{n:Node}(h:find t.nodes i=some n):BT t i=n.up:=by unfold BT;rw[h];rfl
def RD{d:Nat}(h:uA t i d):∀k,d<k->tj t k i=d:=by
 induction h with
 |root =>
  intro k hk;obtain⟨k,rfl⟩:∃j,k=j+1:=⟨k-1,af⟩
  simp[tj]
 |up h hk h1 n b =>
  intro k l;obtain⟨k,rfl⟩:∃j,k=j+1:=⟨k-1,af⟩
  simp only[tj];rw[if_neg h1,zO h,b k af]
theorem k8{d:Nat}(h:uA t i d)(b:d<=200):depth t i=d:=RD h 201 af
structure WF(ok:au->Bool)(lt:au->au->Bool)(t:Tree):Prop where
 wf:zq ok lt t λ_=>0
 dep:∀i n,find t.nodes i=some n->n.kind=2->∃d,uA t i d/\d<=12/\(d=12->n.b7=[])
def th{h:Tree}(w:WF ok lt t)(P:Int->Prop)
  (r:∀j n,P j->find t.nodes j=some n->n.kind=2->j≠1->P n.up/\∃b,find h.nodes j=some b/\b.kind=2/\b.up=n.up)
  (q:∀j b,find h.nodes j=some b->b.kind=2->P j/\∃n,find t.nodes j=some n/\n.kind=2/\(n.b7=[]->b.b7=[]\/depth t j<12)) :
  ∀i n,find h.nodes i=some n->n.kind=2->∃d,uA h i d/\d<=12/\(d=12->n.b7=[]):=by
 intro i b o hk;let⟨l,n,y,x,E⟩:=q i b o hk;let⟨d,A,z,F⟩:=w.dep i n y x;refine⟨d,A.keep r l,z,λv=>?_⟩
 grind[k8]
def wK(h:jF t i=0):∃p,find t.nodes i=some p/\p.kind=2/\kD t i=p:=by
 unfold jF at h;cases b:find t.nodes i with
 |none=>rw[b]at h;simp at h
 |some p =>
  rw[b]at h;simp only at h;split at h
  .rename_i hk;refine⟨p,rfl,hk,?_⟩;unfold kD
   grind
  .omega
def rq{s:au}(h:enter ok t i s=0):∃p,find t.nodes i=some p/\p.kind=2/\ok s=true/\(∀e∈p.b7,e.name≠s)/\p.b7.length<64/\depth t i<12/\t.ek<1099511627776:=by
 unfold enter at h;split at h
 .rename_i h0;exact absurd h h0
 .rename_i h0;let⟨p,h1,h2,h3⟩:=wK (cW.1 h0);rw[h3]at h;split at h
  .omega
  .rename_i n;split at h
   .omega
   .rename_i l;split at h
    .omega
    .rename_i b;refine⟨p,h1,h2,an n,?_,?_⟩
     .have:jB p s=none:=by
       cases o:jB p s with
       |none=>rfl
       |some e=>rw[o]at l;simp at l
      exact vq.1 this
     .unfold full at b;rw[jI h1]at b;simp only[bR,decide_eq_true_eq]at b;omega
variable{ok:au->Bool}{lt:au->au->Bool}{t:Tree}{M:Int->Nat}
def rj(w:lC t.nodes){i:Int}{n:Node}(b:n.ino=i)(j:Int):find (iP t n).nodes j=if j=i then some n else find t.nodes j:=by
 rw[kr w,b]
def pF(w:lC t.nodes){i:Int}{p:Node}(h:find t.nodes i=some p)(s:au)(of:Int)(j:Int):
  find (iY lt t i s of).nodes j=if j=i then some {p with fe:=false,b7:=q7 lt ⟨s,of,t.ek⟩ p.b7}else find t.nodes j:=by
 unfold iY;rw[iX h];have b:=jI h;exact rj (t:=⟨t.fn,t.nodes,t.next,t.ek+1⟩) w (n:={p with fe:=false,b7:=q7 lt ⟨s,of,t.ek⟩ p.b7}) b j
def pK(w:lC t.nodes){i:Int}{p:Node}(h:find t.nodes i=some p)(s:au)(j:Int):
  find (left t i s).nodes j=if j=i then some {p with fe:=false,b7:=nF s p.b7}else find t.nodes j:=by
 unfold left;rw[iX h];have b:=jI h;exact rj w (n:={p with fe:=false,b7:=nF s p.b7}) b j
def sJ(i:Int):dec (inc (λ_=>0) i) i=λ_=>0:=JC _ i
def WF.new:WF ok lt zk:=by
 have l:∀i,find zk.nodes i=if (1:Int)=i then some ⟨1,2,0,true,[],true,[],1⟩else none:=λi=>by
  show find [_] i=_;rw[xI];rfl
 have b:∀i n,find zk.nodes i=some n->i=1/\n=⟨1,2,0,true,[],true,[],1⟩:=λi n h=>by
  grind
 refine⟨⟨by simp[zk,lC],λi n h=>?_,ah,ah,ah,ah,⟨_,by rw[l,if_pos rfl],rfl,rfl,rfl⟩,ah,λi n h hk=>?_,λi n h hk=>?_,λi n h hk h1=>?_,λi n h hk h1=>?_,λi n h=>?_⟩,λi n h hk=>?_⟩
 .obtain⟨rfl,rfl⟩:=b i n h;decide
 .grind
 .obtain⟨rfl,rfl⟩:=b i n h;exact⟨rfl,⟨ai,ai,ai,by simp[sr],ai,ai⟩⟩
 .grind
 .grind
 .grind
 .obtain⟨rfl,rfl⟩:=b i n h;exact⟨0,.root,af,af⟩
def WF.add(o:Ord lt)(w:WF ok lt t)(i:Int)(s:au)(kind:Int):WF ok lt (add ok lt t i s kind).1:=by
 unfold Tr.add;split
 .exact w
 .rename_i hk;split
  .exact w
  .rename_i T;let⟨p,H,p2,p3,p4,p5,p6,p7⟩:=rq (cW.1 T);split
   .exact w
   .rename_i Y;have O:kind=1\/kind=2:=by omega
    have z:kind=1/\(if kind=2 then i else 0)=0\/kind=2:=by
     grind
    have G:=w.wf.more kind (if kind=2 then i else 0) z rfl af af
    have y:=CS w.wf kind (if kind=2 then i else 0)
    have X:=w.wf.pos _ _ H;have r:find (nC t kind (if kind=2 then i else 0)).nodes i=some p:=by grind
    have v:find (nC t kind (if kind=2 then i else 0)).nodes t.next=some (qY t kind (if kind=2 then i else 0)):=by rw[y,if_pos rfl]
    have F:=G.iY o r p2 p3 p4 p5 p7 v (by unfold inc;rw[if_pos rfl];omega) (by grind) (λh=>by
     have:kind=2:=h;show (if kind=2 then i else 0)=i
     rw[if_pos this])
    rw[sJ]at F;have E:=pF (lt:=lt) G.jL r s t.next;have N:∀j n,find t.nodes j=some n->j≠t.next:=λj n h=>by have:=w.wf.pos _ _ h;omega
    let⟨d,W,d2,d3⟩:=w.dep i p H p2;have U:d<12:=by rw[k8 W af]at p6;exact p6
    have K:∀j n,find t.nodes j=some n->∃q,find (iY lt (nC t kind (if kind=2 then i else 0)) i s t.next).nodes j=some q/\q.kind=n.kind/\q.up=n.up/\(j≠i->q.b7=n.b7):=λj n h=>by
     grind
    have keep:∀j d,uA t j d->uA (iY lt (nC t kind (if kind=2 then i else 0)) i s t.next) j d:=λj d h=>h.keep (P:=λ_=>True) (λj n _ h hk _=>by
     grind) trivial
    show WF ok lt (iY lt (nC t kind (if kind=2 then i else 0)) i s t.next)
    refine⟨F,λj q l b=>?_⟩
    have A:=l;rw[E]at l;split at l
    .grind
    .rename_i S;rw[y]at l;split at l
     .rename_i Q;cases l;have x:kind=2:=b;refine⟨d+1,.up A b (by grind) ?_,af,λ_=>rfl⟩
      have L:(qY t kind (if kind=2 then i else 0)).up=i:=by show (if kind=2 then i else 0)=i;rw[if_pos x]
      grind
     .let⟨e,e1,e2,Z⟩:=w.dep j q l b
      grind
def WF.ln(o:Ord lt)(w:WF ok lt t)(i to:Int)(s:au):WF ok lt (ln ok lt t i to s).1:=by
 unfold Tr.ln;split
 .exact w
 .rename_i n v;split
  .exact w
  .rename_i W;split
   .exact w
   .rename_i E;split
    .exact w
    .rename_i L;let⟨p,U,p2,p3,p4,p5,p6,p7⟩:=rq (cW.1 L);have l:=jI v;have hk:n.kind=1:=(w.wf.kind _ _ v).resolve_right E;let⟨f1,P,O,N⟩:=w.wf.file _ _ v hk;have G:=w.wf.set (n:={n with links:=n.links+1}) v l rfl rfl (inc (λ_=>0) i) (λj y=>by unfold inc;rw[if_neg y]) (λ_=>⟨P,O,by simp only[N,inc];simp⟩) (λh=>absurd h E)
     have A:=λj=>rj w.wf.jL (n:={n with links:=n.links+1}) l j
     have H:to≠i:=λh=>by grind
     have b:find (iP t {n with links:=n.links+1}).nodes to=some p:=by grind
     have z:i≠1:=λh=>by
      subst h;let⟨r,S,Q,_⟩:=w.wf.root
      grind
     have F:=G.iY o b p2 p3 p4 p5 p7 (of:=i) (m:={n with links:=n.links+1}) (by rw[A,if_pos rfl]) (by unfold inc;rw[if_pos rfl];omega) z (λh=>absurd h E)
     rw[sJ]at F;have K:=pF (lt:=lt) G.jL b s i;refine⟨F,th w (λ_=>True) (λj q _ y x _=>⟨trivial,?_⟩) (λj T y x=>⟨trivial,?_⟩)⟩
     .grind
     grind
theorem WF.put(w:WF ok lt t)(i:Int)(data:au):WF ok lt (put t i data).1:=by
 unfold Tr.put;split
 .exact w
 .rename_i n l;split
  .exact w
  .rename_i v;split
   .exact w
   .rename_i c3;have b:=jI l;have hk:n.kind=1:=(w.wf.kind _ _ l).resolve_right v;let⟨f1,A,F,z⟩:=w.wf.file _ _ l hk;have x:=w.wf.set (n:={n with fd:=false,data:=data}) l b rfl rfl (λ_=>0) (λj r=>rfl) (λ_=>⟨A,by simp only;omega,z⟩) (λh=>absurd h v)
    have y:=λj=>rj w.wf.jL (n:={n with fd:=false,data:=data}) b j
    refine⟨x,th w (λ_=>True) (λj q _ r o _=>⟨trivial,?_⟩) (λj E r o=>⟨trivial,?_⟩)⟩
    .grind
    grind
def Js(w:lC t.nodes)(i j:Int):find (kj t i).nodes j=if j=i then none else find t.nodes j:=rX w i j
def WF.free(w:WF ok lt t)(i:Int):WF ok lt (free t i).1:=by
 unfold Tr.free;split
 .exact w
 .rename_i n b;split
  .exact w
  .rename_i z;split
   .exact w
   .rename_i c3;have hk:n.kind=1:=(w.wf.kind _ _ b).resolve_right z;let⟨f1,K,H,G⟩:=w.wf.file _ _ b hk
    have o:i≠1:=λh=>by
     subst h;let⟨r,E,A,_⟩:=w.wf.root
     grind
    have v:=w.wf.gone b f1 o af (λ_=>0) (λ_ _=>rfl)
    have y:=Js w.wf.jL i;refine⟨v,th w (λ_=>True) (λj q _ x l _=>⟨trivial,?_⟩) (λj F x l=>⟨trivial,?_⟩)⟩
    .grind
    grind
variable{ok:au->Bool}{lt:au->au->Bool}{t:Tree}{M:Int->Nat}
variable{i y x o:Int}
def zq.unnamed(w:zq ok lt t M){q:Node}(b:find t.nodes y=some q)(v:q.b7=[])(E:1<=M y)(h1:y≠1):zq ok lt (unnamed t y) (dec M y):=by
 unfold Tr.unnamed;rw[iX b];have o:∀j,j≠y->dec M y j=M j:=λj r=>by unfold dec;rw[if_neg r];rfl
 split
 .rename_i hk;have:=(w.FH _ _ b hk h1).1;exact w.gone b v h1 af _ o
 .rename_i hk;have l:=(w.kind _ _ b).resolve_right hk;let⟨f1,A,z,x⟩:=w.file _ _ b l;have i:=jI b;exact w.set (n:={q with links:=q.links-1}) b i rfl rfl _ o (λ_=>⟨A,z,by simp only[x,dec,if_true];omega⟩) (λh=>absurd h hk)
def rY(w:lC t.nodes){q:Node}(h:find t.nodes y=some q)(j:Int):find (unnamed t y).nodes j=if j=y then(if q.kind=2 then none else some {q with links:=q.links-1})else find t.nodes j:=by
 unfold unnamed;rw[iX h];split
 .rw[Js w]
 .have b:=jI h;rw[rj w (n:={q with links:=q.links-1}) b]
def zD{s:au}(h:look ok t i s=(x,0)):∃p e,find t.nodes i=some p/\p.kind=2/\ok s=true/\jB p s=some e/\e.ino=x:=by
 unfold look at h;split at h
 .grind
 .rename_i h0;let⟨p,h1,h2,h3⟩:=wK (cW.1 h0)
  grind
theorem mo(w:WF ok lt t){z:Node}(l:find t.nodes x=some z)(o:z.b7=[]){j:Int}{n:Node}(b:find t.nodes j=some n)(hk:n.kind=2)(h1:j≠1):n.up≠x:=by
 intro h;let⟨p,i,p2⟩:=w.wf.par _ _ b hk h1 rfl
 grind[cN]
def mV(w:WF ok lt t){p:Node}(l:find t.nodes i=some p){e:Ent}(v:e∈p.b7):(∃n,find t.nodes e.ino=some n)/\e.ino≠1/\e.ino≠i:=by
 have hk:=D6 w.wf l v;have h1:=(w.wf.dir _ _ l hk).2.to e v;have y:0<cN p e.ino:=xK.2 ⟨e,v,rfl⟩;have x:=Gq (fk l).1 e.ino;have b:e.ino≠1:=λh=>by rw[h]at y x;have:=w.wf.Eh;omega
 refine⟨bM.1 h1,b,λh=>?_⟩
 rw[h]at y b;have r:=(w.wf.FH _ _ l hk b).1;let⟨q,q1,E⟩:=w.wf.par _ _ l hk b rfl;have:=JG w.wf.jL (an r) (fk l).1 (fk q1).1 y af
 subst this;have o:p.up=i:=(jI q1).symm.trans (jI l);let⟨d,A,_⟩:=w.dep _ _ l hk;cases A with
 |root=>exact b rfl
 |up g F G z =>
  rw[l]at g;cases g;rw[o]at z;have:=uA.inj z (.up l hk b (by rw[o];exact z))
  omega
def WF.un(o:Ord lt)(w:WF ok lt t)(i:Int)(s:au):WF ok lt (un ok t i s).1:=by
 unfold Tr.un;split
 .exact w
 .rename_i h0;obtain⟨p,e,q,p2,p3,p4,p5⟩:=zD (x:=(look ok t i s).1) (by rw[<-cW.1 h0])
  rw[<-p5];obtain⟨K,_⟩:=kV p4;obtain⟨⟨z,A⟩,r,E⟩:=mV w q K;split
  .exact w
  .rename_i hl;rw[iX A]at hl;have b:z.b7=[]:=bh af
   have y:=w.wf.left o q p2 p4;have H:=λj=>pK w.wf.jL q s j
   have l:find (left t i s).nodes e.ino=some z:=by grind
   have v:=y.unnamed l b (by unfold inc;rw[if_pos rfl];omega) r
   rw[sJ]at v;have G:=λj=>rY y.jL l j
   refine⟨v,th w (λj=>j≠e.ino) (λj n F h hk h1=>⟨mo w A b h hk h1,?_⟩) (λj L F hk=>?_)⟩
   .grind
   grind
inductive JR(t:Tree)(i:Int):Int->Nat->Prop
 |here:JR t i i 0
 |up {j:Int} {n:Node} {e:Nat} (h:find t.nodes j=some n) (hk:n.kind=2) (h1:j≠1) (hr:JR t i n.up e):JR t i j (e+1)
def JR.dep{j:Int}{e d:Nat}(h:JR t i j e):uA t i d->uA t j (d+e):=by
 induction h with
 |here=>exact id
 |up h hk h1 l b=>exact λg=>.up h hk h1 (b g)
def BM:∀ {a b:ay},a.Nodup->(∀x∈a,x∈b)->a.length<=b.length
 | [],_,_,_=>ai
 |x::a,b,h,hs=>by
  let⟨h1,h2⟩:=dR.1 h;have:=BM (a:=a) (b:=b.erase x) h2 λy i=>(iy (λ(e:y=x)=>h1 (e▸i))).2 (hs y (by simp[i]))
  grind
def r6(w:WF ok lt t){d:Nat}(h:uA t i d):d<t.nodes.length:=by
 have:∃l:ay,l.Nodup/\l.length=d+1/\∀j∈l,j∈t.nodes.map Node.ino/\∃q,q<=d/\uA t j q:=by
  induction h with
  |root =>
   let⟨r,v,_⟩:=w.wf.root
   exact⟨[1],ai,rfl,λj b=>by
    simp only[cr]at b;subst b;exact⟨cQ.2 ⟨r,(fk v).1,jI v⟩,0,aV _,.root⟩⟩
  | @up i n d h hk h1 x y =>
   let⟨l,l1,l2,o⟩:=y;refine⟨i::l,dR.2 ⟨λz=>?_,l1⟩,by simp[l2],λj b=>?_⟩
   .let⟨_,q,e1,A⟩:=o i z;have:=A.inj (.up h hk h1 x);omega
   .rcases bw.1 b with rfl | b
    .exact⟨cQ.2 ⟨n,(fk h).1,jI h⟩,d+1,aV _,.up h hk h1 x⟩
    grind
 let⟨l,l1,l2,o⟩:=this;have:=BM l1 λj b=>(o j b).1
 grind
def YP{e:Nat}(h:JR t o i e):∀k,e<k->wU t k i o=true:=by
 induction h with
 |here =>
  intro k hk;obtain⟨k,rfl⟩:∃j,k=j+1:=⟨k-1,af⟩
  simp[wU]
 | @up j n e h hk h1 r l =>
  intro k q;obtain⟨k,rfl⟩:∃j,k=j+1:=⟨k-1,af⟩
  simp only[wU];rw[zO h,l k af]
  by_cases b:j=o
  .rw[if_pos b]
  .rw[if_neg b,if_neg h1]
def wT(w:WF ok lt t){d:Nat}(n:uA t i d):below t i o=true↔∃e,JR t o i e:=by
 constructor
 .intro h;unfold below at h;generalize t.nodes.length+1=k at h
  induction n generalizing k with
  |root =>
   cases k with
   |zero=>simp[wU]at h
   |succ k =>
    simp only[wU]at h;split at h
    .rename_i l;subst l;exact⟨0,.here⟩
    .simp at h
  |up g v q E r =>
   cases k with
   |zero=>simp[wU]at h
   |succ k =>
    simp only[wU]at h;split at h
    .rename_i l;subst l;exact⟨0,.here⟩
    .rw[zO g]at h;let⟨e,b⟩:=r k h;exact⟨e+1,.up g v q b⟩
 .rintro⟨e,b⟩
  refine YP b _ ?_;have x:e<=d:=by
   clear w
   induction b generalizing d with
   |here=>omega
   |up g v q A r =>
    cases n with
    |root=>exact absurd rfl q
    |up k y z kd =>
     grind
  have:=r6 w n;omega
variable{ok:au->Bool}{lt:au->au->Bool}{t:Tree}{M:Int->Nat}
def Br{n:Node}{s a:au}(h:a≠s)(b:Bool):jB {n with fe:=b,b7:=nF s n.b7} a=jB n a:=by
 unfold jB nF
 grind
def OM{x:Node}{y:Int}{z:Node}(h:kT t x y=0)(b:find t.nodes y=some z):(x.kind=2↔z.kind=2)/\z.b7=[]:=by
 unfold kT at h;rw[b]at h;simp only at h;split at h
 .omega
 .rename_i l;split at h
  .omega
  .rename_i i;split at h
   .omega
   grind
def Jj{i at_:Int}:∀ {l:List Node} {m:Int},m<=l.foldl (λm n=>if n.kind=2/\below t n.ino i=true then max m (at_+depth t n.ino-depth t i+if 0<n.b7.length then 1 else 0)else m) m
 | [],m=>dX _
 |n::l,m=>by
  rw[bG];refine Int.le_trans ?_ (Jj (l:=l))
  grind
def D5{i at_:Int}:∀ {l:List Node} {m:Int} {n:Node},n∈l->n.kind=2->below t n.ino i=true->
  at_+depth t n.ino-depth t i+(if 0<n.b7.length then 1 else 0)<=l.foldl (λm n=>if n.kind=2/\below t n.ino i=true then max m (at_+depth t n.ino-depth t i+if 0<n.b7.length then 1 else 0)else m) m
 |q::l,m,n,h,hk,b=>by
  rw[bG]
  rcases bw.1 h with rfl | h
  .refine Int.le_trans ?_ (Jj (l:=l))
   grind
  .exact D5 h hk b
def WF.mv (o:Ord lt) (w:WF ok lt t) (from_:Int) (s:au) (to:Int) (as:au):WF ok lt (mv ok lt t from_ s to as).1:=by
 unfold Tr.mv;split
 .exact w
 .rename_i h0;split
  .exact w
  .rename_i hE;split
   .exact w
   .rename_i h2;obtain⟨p,e,p1,p2,p3,p4,p5⟩:=zD (x:=(look ok t from_ s).1) (by rw[<-cW.1 h0])
    obtain⟨q,q1,q2,q3⟩:=wK (cW.1 hE);have hok:ok as=true:=by simpa using h2
    rw[<-p5];obtain⟨he,PG⟩:=kV p4;obtain⟨⟨x,E⟩,l,hxf⟩:=mV w p1 he;simp only[iX E];obtain⟨i,hi⟩:∃i,i=e.ino:=⟨_,rfl⟩;rw[<-hi]at E l hxf⊢;obtain⟨y,hy⟩:∃y,y=lI t to as:=⟨_,rfl⟩;rw[<-hy];split
    .exact w
    .rename_i hyi;split
     .exact w
     .rename_i ad4;split
      .exact w
      .rename_i vo;have vo:=cW.1 vo;split
       .exact w
       .rename_i Z;have U:x.ino=i:=jI E
        have aj8:i≠to:=λh=>by
         subst h;rw[E]at q1;cases q1;exact ad4 ⟨q2,by
          obtain⟨d,d1,_⟩:=w.dep _ _ E q2;exact(wT w d1).2 ⟨0,.here⟩⟩
        have w1:=w.wf.left o p1 p2 p4;rw[<-hi]at w1;have hf1:=λj=>pK w.wf.jL p1 s j
        have ajS:find (left t from_ s).nodes i=some x:=by grind
        obtain⟨H,g1,g2,g3,g4⟩:∃H,find (left t from_ s).nodes to=some H/\H.kind=2/\H.up=q.up/\(to=from_->H.b7=nF s q.b7)/\(to≠from_->H=q):=by
         grind
        have F:as≠s\/to≠from_->jB H as=jB q as:=λh=>by
         by_cases htf:to=from_
         .have has:as≠s:=h.resolve_right (λh=>h htf)
          have:=Br (n:=q) has false
          grind
         .rw[g4.2 htf]
        have hqs:to=from_->as=s->y=i:=λh1 h2=>by
         rw[hy,hi];unfold lI
         grind
        have hqa:as≠s\/to≠from_:=by
         grind
        have F:=F hqa
        have hql:H.b7.length<=q.b7.length/\(to=from_->H.b7.length+1=q.b7.length):=by
         by_cases htf:to=from_
         .have hpq:q=p:=by grind
          subst hpq;have:=CV o (w.wf.dir _ _ p1 p2).2.jL p4
          grind
         grind
        have main:∃u,(if y≠0 then unnamed (left (left t from_ s) to as) y else left t from_ s)=u/\zq ok lt u (inc (λ_=>0) i)/\u.ek=t.ek/\find u.nodes i=some x/\
          (∃r,find u.nodes to=some r/\r.kind=2/\r.up=q.up/\(∀e∈r.b7,e.name≠as)/\r.b7.length<64)/\
          (∀j n,find t.nodes j=some n->n.kind=2->j≠1->n.up≠y)/\
          (∀j n,j≠y->find t.nodes j=some n->n.kind=2->∃A,find u.nodes j=some A/\A.kind=2/\A.up=n.up)/\
          (∀j A,find u.nodes j=some A->A.kind=2->j≠y/\∃n,find t.nodes j=some n/\n.kind=2/\A.up=n.up/\(j=to\/(n.b7=[]->A.b7=[]))):=by
         by_cases hy0:y=0
         .rw[if_neg (λh=>h hy0)]
          have hno:jB q as=none:=by
           cases hq:jB q as with
           |none=>rfl
           |some e2 =>
            exfalso;have:y=e2.ino:=by rw[hy];unfold lI;rw[q3,hq];rfl
            obtain⟨⟨n2,hn2⟩,_⟩:=mV w q1 (kV hq).1;have:=w.wf.pos _ _ hn2;omega
          refine⟨_,rfl,w1,rfl,ajS,⟨H,g1,g2,g3,?_,?_⟩,λj n v hk h1 hn=>?_,λj n K v hk=>?_,λj A v hk=>?_⟩
          .rw[hno]at F;exact vq.1 F
          .have h64:=(w.wf.dir _ _ q1 q2).2.len
           grind
          .obtain⟨r,r1,_⟩:=w.wf.par _ _ v hk h1 rfl;have:=w.wf.pos _ _ r1;omega
          .grind
          .have hj0:j≠0:=λh=>by have:=w1.pos _ _ v;omega
           grind
         .rw[if_pos hy0];obtain⟨e2,X⟩:∃e2,jB q as=some e2:=by
           cases hq:jB q as with
           |none=>exfalso;apply hy0;rw[hy];unfold lI;rw[q3,hq];rfl
           |some e2=>exact⟨e2,rfl⟩
          have hye:y=e2.ino:=by rw[hy];unfold lI;rw[q3,X];rfl
          obtain⟨⟨z,hz⟩,hy1,hyt⟩:=mV w q1 (kV X).1;rw[<-hye]at hz hy1 hyt;obtain⟨hkk,hze⟩:=OM vo hz
          have hyf:y≠from_:=λh=>by
           grind
          have w2:=w1.left o g1 g2 (by rw[F];exact X)
          rw[<-hye]at w2;have hf2:=λj=>pK w1.jL g1 as j
          have KR:find (left (left t from_ s) to as).nodes y=some z:=by grind
          have w3:=w2.unnamed KR hze (by unfold inc;rw[if_pos rfl];omega) hy1
          rw[JC]at w3;have hf3:=λj=>rY w2.jL KR j
          have hq2:=CV o (w1.dir _ _ g1 g2).2.jL (by rw[F];exact X)
          refine⟨_,rfl,w3,?_,?_,⟨{H with fe:=false,b7:=nF as H.b7},?_,g2,g3,?_,?_⟩,λj n v hk h1=>mo w hz hze v hk h1,λj n K v hk=>?_,λj A v hk=>?_⟩
          .unfold unnamed;split<;>rfl
          .grind
          .grind
          .intro e he;exact(ry.1 he).2
          .have h64:=(w.wf.dir _ _ q1 q2).2.len
           grind
          .grind
          grind
        obtain⟨u,hu,wu,huc,hui,⟨r,r1,r2,r3,r4,r5⟩,Y,N,ad5⟩:=main;have hdt:depth t to<12:=af
        have PJ:t.ek<1099511627776:=af
        show WF ok lt (sU lt t from_ s to as i y);unfold sU;simp only[iX E];rw[hu];obtain⟨O,G,dt2,dt3⟩:=w.dep _ _ q1 q2;rw[k8 G af]at hdt
        by_cases b:x.kind=2
        .rw[if_pos b];have LH:=w.wf.dir _ _ E b;have hxl:=w.wf.FH _ _ E b l;have w4:=wu.set (n:={x with up:=to}) hui U rfl rfl (inc (λ_=>0) i) (λ_ _=>rfl) (λh=>by simp only at h;omega) (λ_=>⟨LH.1,rfl,rfl,.inr ⟨l,by unfold inc;rw[if_pos rfl];omega⟩⟩)
         have hf4:=λj=>rj wu.jL (n:={x with up:=to}) U j
         have r1':find (iP u {x with up:=to}).nodes to=some r:=by grind
         have w5:=w4.iY o r1' r2 hok r4 r5 (by show u.ek<_;rw[huc];exact PJ) (of:=i) (m:={x with up:=to}) (by rw[hf4,if_pos rfl]) (by unfold inc;rw[if_pos rfl];omega) l (λ_=>rfl)
         rw[sJ]at w5;have hf5:=pF (lt:=lt) w4.jL r1' as i;obtain⟨di,Q,di2,di3⟩:=w.dep _ _ E b;have hnb:¬ ∃k,JR t i to k:=λh=>ad4 ⟨b,(wT w G).2 h⟩
         have keep:∀j d,uA t j d->(j≠y/\¬ ∃k,JR t i j k)->uA (iY lt (iP u {x with up:=to}) to as i) j d:=λj d h=>h.keep (P:=λj=>j≠y/\¬ ∃k,JR t i j k) (λj n v S hk h1=>by
          refine⟨⟨Y j n S hk h1,λ⟨k,hr⟩=>v.2 ⟨k+1,.up S hk h1 hr⟩⟩,?_⟩
          obtain⟨A,a1,a2,a3⟩:=N j n v.1 S hk;have T:j≠i:=λh=>v.2 ⟨0,by rw[h];exact .here⟩
          grind)
         have hty:to≠y:=λh=>by
          grind
         have akb:=keep to O G ⟨hty,hnb⟩
         have hdi:uA (iY lt (iP u {x with up:=to}) to as i) i (O+1):=by
          refine .up (n:={x with up:=to}) ?_ b l akb
          grind
         have ajV:∀j k,JR t i j k->j≠y->uA (iY lt (iP u {x with up:=to}) to as i) j (O+1+k):=λj k h=>by
          induction h with
          |here=>intro _;exact hdi
          | @up j n k S hk h1 hr ih =>
           intro K
           by_cases T:j=i
           .exfalso;subst T;rw[E]at S;cases S;cases Q with
            |root=>exact l rfl
            |up c1 c2 c3 c4 =>
             rw[E]at c1;cases c1;have:=hr.dep (.up E b l c4);have:=this.inj c4;omega
           .obtain⟨A,a1,a2,a3⟩:=N j n K S hk
            by_cases hjt:j=to
            .exfalso;subst hjt;exact hnb ⟨k+1,.up S hk h1 hr⟩
            .refine .up (n:=A) ?_ a2 h1 ?_
             .grind
             grind
         refine⟨w5,λj A v hk=>?_⟩
         by_cases T:j=i
         .subst T;have L:¬(12<high t j (depth t to+1)):=λh=>Z (.inr (.inr (.inl ⟨b,h⟩)))
          have hb0:below t j j=true:=(wT w Q).2 ⟨0,.here⟩;have W:=D5 (t:=t) (i:=j) (at_:=(depth t to:Int)+1) (m:=0) (fk E).1 b (by rw[U];exact hb0)
          unfold high at L;rw[U]at W;rw[k8 G af]at W L
          rw[hf5,if_neg aj8,hf4,if_pos rfl]at v;cases v;refine⟨O+1,hdi,af,λh=>?_⟩
          simp only
          rcases dH x.b7.length with h0 | h0
          .grind
          grind
         .have hu2:∃n2,find u.nodes j=some n2/\n2.kind=2/\(j≠to->n2=A):=by
           grind
          obtain⟨n2,b1,b2,b3⟩:=hu2;obtain⟨K,n,c1,c2,c3,c4⟩:=ad5 j n2 b1 b2;obtain⟨d,d1,d2,d3⟩:=w.dep _ _ c1 c2
          by_cases hR:∃k,JR t i j k
          .have hjt:j≠to:=λh=>hnb (h▸hR)
           have hbj:=(wT w d1).2 hR;obtain⟨k,hk2⟩:=hR;have hdd:=d1.inj (hk2.dep Q);have L:¬(12<high t i (depth t to+1)):=λh=>Z (.inr (.inr (.inl ⟨b,h⟩)))
           have W:=D5 (t:=t) (i:=i) (at_:=(depth t to:Int)+1) (m:=0) (fk c1).1 c2 (by rw[jI c1];exact hbj)
           unfold high at L;rw[jI c1,k8 d1 af,k8 Q af,k8 G af]at W
           rw[k8 G af,k8 Q af]at L
           refine⟨O+1+k,ajV j k hk2 K,af,λh=>?_⟩
           have hn0:n.b7=[]:=by
            rcases dH n.b7.length with h0 | h0
            .grind
            grind
           grind
          grind
        .rw[if_neg b];have w5:=wu.iY o r1 r2 hok r4 r5 (by rw[huc];exact PJ) (of:=i) (m:=x) hui (by unfold inc;rw[if_pos rfl];omega) l (λh=>absurd h b)
         rw[sJ]at w5;have hf5:=pF (lt:=lt) wu.jL r1 as i;refine⟨w5,th w (λj=>j≠y) (λj n v S hk h1=>⟨Y j n S hk h1,?_⟩) (λj A v hk=>?_)⟩
         .grind
         grind
def WF.step(o:Ord lt)(w:WF ok lt t)(s:Step):WF ok lt (step ok lt t s):=by
 unfold Tr.step;split
 .exact w.add o _ _ _
 .exact w.add o _ _ _
 .exact w.ln o _ _ _
 .exact w.un o _ _
 .exact w.mv o _ _ _ _
 .exact w.mv o _ _ _ _
 .exact w.put _ _
 .exact w.free _
variable{ok:au->Bool}{lt:au->au->Bool}{t:Tree}
structure Dok(lt:au->au->Bool)(u:Tree)(i:Int)(q:Node):Prop where
 jL:lC u.nodes
 len:u.nodes.length<=200
 at_:find u.nodes i=some q
 es:sr lt q.b7
 el:q.b7.length<=64
def AG(o:Ord lt)(w:WF ok lt t){a to:Int}{s nm:au}{p q x:Node}{e:Ent}(H:find t.nodes a=some p)(p2:p.kind=2)(p4:jB p s=some e)(q1:find t.nodes to=some q)(q2:q.kind=2)(hx:find t.nodes e.ino=some x)
  (U:∀b,jB q nm=some b->b.ino≠e.ino/\∀z,find t.nodes b.ino=some z->z.b7=[]) :
  ∃i,Dok lt (left t a s) to i/\((jB q nm=none/\jB i nm=none)\/∃b z,jB q nm=some b/\jB i nm=some b/\find t.nodes b.ino=some z/\Dok lt (left (left t a s) to nm) b.ino z/\
   ∃r,Dok lt (unnamed (left (left t a s) to nm) b.ino) to r/\jB r nm=none):=by
 let⟨N,PG⟩:=kV p4;let⟨_,X,W⟩:=mV w H N;have y:=w.wf.left o H p2 p4;have hf1:=λj=>pK w.wf.jL H s j
 obtain⟨i,E,A,O⟩:∃i,find (left t a s).nodes to=some i/\i.kind=2/\((to=a/\p=q/\i.b7=nF s q.b7)\/(to≠a/\i=q)):=by
  grind
 have M:(jB q nm=none/\jB i nm=none)\/∃b,jB q nm=some b/\jB i nm=some b:=by
  rcases O with⟨_,rfl,O⟩ | ⟨_,rfl⟩
  .by_cases has : nm = s
   .grind
   .have:=Br (n:=p) has false;unfold jB at this⊢;rw[O,this];cases List.find? (λe=>decide (e.name=nm)) p.b7 with
    |none=>grind
    |some b=>grind
  .cases jB i nm with
   |none=>grind
   |some b=>grind
 refine⟨i,⟨y.jL,y.len,E,(y.dir _ _ E A).2.jL,(y.dir _ _ E A).2.len⟩,?_⟩
 rcases M with h | ⟨b,h1,h2⟩
 .exact .inl h
 .right;let⟨⟨z,P⟩,K,Q⟩:=mV w q1 (kV h1).1;let⟨S,l⟩:=U b h1;have l:=l z P
  have T:b.ino≠a:=λh=>by
   grind
  have G:=y.left o E A h2;have Z:=λj=>pK y.jL E nm j
  have v:find (left (left t a s) to nm).nodes b.ino=some z:=by grind
  have F:=G.unnamed v l (by unfold inc;rw[if_pos rfl];omega) K
  have Y:=λj=>rY G.jL v j
  have L:find (unnamed (left (left t a s) to nm) b.ino).nodes to=some {i with fe:=false,b7:=nF nm i.b7}:=by
   grind
  refine⟨b,z,h1,h2,P,⟨G.jL,G.len,v,by rw[l];exact List.Pairwise.nil,by rw[l];simp⟩,_,⟨F.jL,F.len,L,?_,?_⟩,vq.2 λe N=>(ry.1 N).2⟩
  .exact(F.dir _ _ L A).2.jL
  .exact(F.dir _ _ L A).2.len
def F9{α:Type}(P:α->Prop)[DecidablePred P](v:α->Int)(c:Int):∀(l:List α)(m:Int),c<l.foldl (λm n=>if P n then max m (v n)else m) m↔c<m\/∃n∈l,P n/\c<v n
 | [],m=>ai
 |n::l,m=>by
  rw[bG,F9 P v c l]
  grind
end Go.Tr
