/- Part of the proof that TopScriptsCard holds. -/
import Derived.Test.YtahlmpbhfljalaaGreatDoorAmLp
set_option linter.all false
namespace Go.Tr
structure Ent where
 name:aq
 ino:Int
 gr:Int
deriving DecidableEq
structure Node where
 ino:Int
 kind:Int
 links:Int
 fd:Bool
 data:aq
 fe:Bool
 ek:List Ent
 up:Int
deriving DecidableEq
structure Tree where
 fn:Bool
 nodes:List Node
 next:Int
 gr:Int
deriving DecidableEq
def jb:Node:=⟨0,0,0,true,[],true,[],0⟩
def CW:Tree:=⟨true,[⟨1,2,0,true,[],true,[],1⟩],2,1⟩
def find(l:List Node)(i:Int):Option Node:=l.find? λn=>decide (n.ino=i)
def jK(t:Tree)(i:Int):Int:=match find t.nodes i with
 |none=>70
 |some n=>if n.kind=2 then 0 else 73
def uf(t:Tree)(i:Int):Node:=match find t.nodes i with
 |none=>jb
 |some n=>if n.kind=2 then n else jb
def jd(n:Node)(s:aq):Option Ent:=n.ek.find? λe=>decide (e.name=s)
def ins(n:Node)(l:List Node):List Node:=(l.takeWhile λm=>decide (m.ino<n.ino))++n::(l.dropWhile λm=>decide (m.ino<n.ino)).filter λm=>decide (m.ino≠n.ino)
def iD(t:Tree)(n:Node):Tree:=⟨false,ins n t.nodes,t.next,t.gr⟩
def kN(t:Tree)(i:Int):Tree:=⟨false,t.nodes.filter λm=>decide (m.ino≠i),t.next,t.gr⟩
def sH(lt:aq->aq->Bool)(e:Ent)(l:List Ent):List Ent:=(l.takeWhile λx=>!lt e.name x.name)++e::l.dropWhile λx=>!lt e.name x.name
def iq(t:Tree)(i:Int):Node:=(find t.nodes i).getD jb
def iT(lt:aq->aq->Bool)(t:Tree)(i:Int)(s:aq)(of:Int):Tree :=
 iD ⟨t.fn,t.nodes,t.next,t.gr+1⟩ {iq t i with fe:=false,ek:=sH lt ⟨s,of,t.gr⟩ (iq t i).ek}
def left(t:Tree)(i:Int)(s:aq):Tree :=
 iD t {iq t i with fe:=false,ek:=(iq t i).ek.filter λe=>decide (e.name≠s)}
def Is(t:Tree)(i:Int):Int:=(find t.nodes i).elim 0 Node.up
def Og(t:Tree):Nat->Int->Nat
 |0,_=>0
 |k+1,i=>if i=1 then 0 else Og t k (Is t i)+1
def depth(t:Tree)(i:Int):Nat:=Og t 201 i
def ya(t:Tree):Nat->Int->Int->Bool
 |0,_,_=>false
 |k+1,i,o=>if i=o then true else if i=1 then false else ya t k (Is t i) o
def below(t:Tree)(i o:Int):Bool:=ya t (t.nodes.length+1) i o
def full(t:Tree)(n:Node):Bool:=decide (64<=n.ek.length)||(decide (12<=depth t n.ino)||decide (1099511627776<=t.gr))
section
variable(ok:aq->Bool)(lt:aq->aq->Bool)
def enter(t:Tree)(i:Int)(s:aq):Int :=
 if jK t i≠0 then jK t i else if ok s=false then 60 else if (jd (uf t i) s).isSome=true then 71 else if full t (uf t i)=true then 76 else 0
def add(t:Tree)(i:Int)(s:aq)(kind:Int):Tree×Int×Int :=
 if kind≠1/\kind≠2 then(t,0,1)else if enter ok t i s≠0 then(t,0,enter ok t i s)else if (200<=t.nodes.length\/1099511627776<=t.next)then(t,0,76)else
 (iT lt (iD ⟨t.fn,t.nodes,t.next+1,t.gr⟩ ⟨t.next,kind,1,true,[],true,[],if kind=2 then i else 0⟩) i s t.next,t.next,0)
def ln(t:Tree)(i:Int)(to:Int)(s:aq):Tree×Int :=
 match find t.nodes i with
 |none=>(t,70)
 |some n=>if n.kind=1/\n.links=0 then(t,70)else if n.kind=2 then(t,72)else if enter ok t to s≠0 then(t,enter ok t to s)else
  (iT lt (iD t {n with links:=n.links+1}) to s i,0)
def look(t:Tree)(i:Int)(s:aq):Int×Int :=
 if jK t i≠0 then(0,jK t i)else if ok s=false then(0,60)else match jd (uf t i) s with
 |none=>(0,70)
 |some e=>(e.ino,0)
def unnamed(t:Tree)(i:Int):Tree:=if (iq t i).kind=2 then kN t i else iD t {iq t i with links:=(iq t i).links-1}
def un(t:Tree)(i:Int)(s:aq):Tree×Int×Int :=
 if (look ok t i s).2≠0 then(t,0,(look ok t i s).2)else if 0<(iq t (look ok t i s).1).ek.length then(t,0,74)else
 (unnamed (left t i s) (look ok t i s).1,(look ok t i s).1,0)
def high(t:Tree)(i:Int)(at_:Int):Int :=
 t.nodes.foldl (λm n=>if n.kind=2/\below t n.ino i=true then max m (at_+depth t n.ino-depth t i+if 0<n.ek.length then 1 else 0)else m) 0
def kM(t:Tree)(x:Node)(y:Int):Int:=match find t.nodes y with
 |none=>0
 |some n=>if x.kind=2/\n.kind≠2 then 73 else if x.kind≠2/\n.kind=2 then 72 else if 0<n.ek.length then 74 else 0
def zl(t:Tree)(to:Int)(as:aq):Int:=(jd (uf t to) as).elim 0 Ent.ino
def sy(t:Tree)(from_:Int)(s:aq)(to:Int)(as:aq)(i y:Int):Tree :=
 let u:=left t from_ s
 let u:=if y≠0 then unnamed (left u to as) y else u
 let u:=if (iq t i).kind=2 then iD u {iq t i with up:=to}else u
 iT lt u to as i
def mv(t:Tree)(from_:Int)(s:aq)(to:Int)(as:aq):Tree×Int×Int :=
 if (look ok t from_ s).2≠0 then(t,0,(look ok t from_ s).2)else if jK t to≠0 then(t,0,jK t to)else if ok as=false then(t,0,60)else
 let i:=(look ok t from_ s).1
 let y:=zl t to as
 let x:=iq t i
 if y=i then(t,0,0)else if x.kind=2/\below t to i=true then(t,0,75)else if kM t x y≠0 then(t,0,kM t x y)else
 if (y=0/\to≠from_/\64<=(uf t to).ek.length)\/12<=depth t to\/(x.kind=2/\12<high t i (depth t to+1))\/1099511627776<=t.gr then(t,0,76)else
 (sy lt t from_ s to as i y,y,0)
def put(t:Tree)(i:Int)(data:aq):Tree×Int:=match find t.nodes i with
 |none=>(t,70)
 |some n=>if n.kind=2 then(t,72)else if 4096<data.length then(t,2)else(iD t {n with fd:=false,data:=data},0)
def free(t:Tree)(i:Int):Tree×Int:=match find t.nodes i with
 |none=>(t,70)
 |some n=>if n.kind=2 then(t,72)else if 0<n.links then(t,71)else(kN t i,0)
structure Step where
 kind:Nat
 a:Nat
 b:Nat
 n:Nat
 m:Nat
 data:aq
def names:List aq:=[[97],[98],[99],[100],[101],[46,46]]
def nameOf(n:Nat):aq:=names.getD (n%6) []
def nodeAt(t:Tree)(n:Nat):Int:=((t.nodes[n%(t.nodes.length+1)]?).elim t.next Node.ino)
def step(t:Tree)(s:Step):Tree :=
 match s.kind%8 with
 |0 | 1=>(add ok lt t (nodeAt t s.a) (nameOf s.n) (s.m%2+1:Nat)).1
 |2=>(ln ok lt t (nodeAt t s.b) (nodeAt t s.a) (nameOf s.n)).1
 |3=>(un ok t (nodeAt t s.a) (nameOf s.n)).1
 |4 | 5=>(mv ok lt t (nodeAt t s.a) (nameOf s.n) (nodeAt t s.b) (nameOf s.m)).1
 |6=>(put t (nodeAt t s.a) s.data).1
 |_=>(free t (nodeAt t s.a)).1
end
def kI(l:List Node):Prop:=l.Pairwise λm n=>m.ino<n.ino
def gZ{l:List Node}{i:Int}{n:Node}(h:find l i=some n):n∈l/\n.ino=i:=⟨bN h,by simpa using cW h⟩
theorem jt{l:List Node}(hs:kI l){n:Node}(h:n∈l):find l n.ino=some n:=by
 induction l with
 |nil=>cases h
 |cons m l b =>
  let⟨h1,h2⟩:=bC.1 hs;unfold find;rw[fD]
  rcases aY.1 h with rfl | h
  .simp
  .have:=h1 n h;rw[decide_eq_false aa]
   exact b h2 h
theorem tO{l:List Node}{i:Int}:find l i=none↔∀n∈l,n.ino≠i:=by
 grind[find,List.find?_eq_none]
def vz(n m:Node)(l:List Node)(hs:kI (m::l)):ins n (m::l)=if m.ino<n.ino then m::ins n l else if m.ino=n.ino then n::l else n::m::l:=by
 let⟨h1,_⟩:=bC.1 hs;unfold ins
 by_cases b:m.ino<n.ino
 .simp[b]
 .have i:n.ino<=m.ino->(l.filter λm=>decide (m.ino≠n.ino))=l:=λh=>bJ.2 λq o=>by
   grind
  have i:=i aa
  rw[if_neg b,ec,dF,decide_eq_false b]
  grind
theorem vw{n m:Node}:∀ {l:List Node},kI l->(m∈ins n l↔m=n\/(m∈l/\m.ino≠n.ino))
 | [],_=>by simp[ins]
 |q::l,h=>by
  let⟨h1,h2⟩:=bC.1 h;have b:=vw (n:=n) (m:=m) h2;rw[vz n q l h]
  grind
def mZ{n:Node}:∀ {l:List Node},kI l->kI (ins n l)
 | [],_=>by simp[ins,kI]
 |q::l,h=>by
  let⟨h1,h2⟩:=bC.1 h;rw[vz n q l h];split
  .rename_i i;refine bC.2 ⟨λm b=>?_,mZ h2⟩
   rcases(vw h2).1 b with rfl | b
   .exact i
   .exact h1 m b.1
  .split
   .rename_i i;exact bC.2 ⟨λm b=>by have:=h1 m b;omega,h2⟩
   .rename_i r o;refine bC.2 ⟨λm b=>?_,h⟩
    grind
def FG{n:Node}{l:List Node}(hs:kI l)(i:Int):find (ins n l) i=if i=n.ino then some n else find l i:=by
 have b:=mZ (n:=n) hs
 by_cases h:i=n.ino
 .subst h;rw[if_pos rfl];exact jt b ((vw hs).2 (.inl rfl))
 .rw[if_neg h];cases q:find l i with
  |none =>
   rw[tO]at q⊢;intro m o
   rcases(vw hs).1 o with rfl | o
   .exact λe=>h e.symm
   .exact q m o.1
  |some m =>
   obtain⟨h1,rfl⟩:=gZ q
   grind[jt,vw]
theorem zS{l:List Node}(h:kI l)(p:Node->Bool):kI (l.filter p):=gI p h
def q7{l:List Node}(hs:kI l)(i j:Int):find (l.filter λm=>decide (m.ino≠i)) j=if j=i then none else find l j:=by
 by_cases h:j=i
 .rw[if_pos h,tO]
  grind
 .rw[if_neg h];cases b:find l j with
  |none =>
   grind[tO]
  |some m =>
   obtain⟨h1,rfl⟩:=gZ b
   grind[jt,zS]
theorem Ja{n:Node}{l:List Node}(hs:kI l):(ins n l).length=if (find l n.ino).isSome=true then l.length else l.length+1:=by
 induction l with
 |nil=>rfl
 |cons q l b =>
  let⟨h1,h2⟩:=bC.1 hs;rw[vz n q l hs];unfold find;rw[fD];split
  .rename_i h;rw[decide_eq_false aa]
   have:=b h2
   grind[find,List.length_cons]
  grind
def cN(n:Node)(i:Int):Nat:=(n.ek.filter λe=>decide (e.ino=i)).length
def cnt(l:List Node)(i:Int):Nat:=(l.map λn=>cN n i).sum
def cO(o:Option Node)(i:Int):Nat:=o.elim 0 λn=>cN n i
theorem mg(n:Node)(l:List Node)(i:Int):cnt (n::l) i=cN n i+cnt l i:=rfl
def wH(m:Node)(l:List Node)(i:Int):find (m::l) i=if m.ino=i then some m else find l i:=by
 grind[find]
def Dw{n:Node}(i:Int):∀ {l:List Node},kI l->cnt (ins n l) i+cO (find l n.ino) i=cnt l i+cN n i
 | [],_=>by simp[ins,cnt,find,cO]
 |m::l,h=>by
  let⟨h1,h2⟩:=bC.1 h;have v:=Dw (n:=n) i h2;rw[vz n m l h,wH];split
  .rename_i x;rw[if_neg aa,mg,mg]
   omega
  .split
   .grind[mg,cO]
   .rename_i r o;have:find l n.ino=none:=tO.2 λq b=>by have:=h1 q b;omega
    grind[mg,cO]
def xM(i j:Int):∀ {l:List Node},kI l->cnt (l.filter λm=>decide (m.ino≠j)) i+cO (find l j) i=cnt l i
 | [],_=>by simp[cnt,find,cO]
 |m::l,h=>by
  let⟨h1,h2⟩:=bC.1 h;have n:=xM i j h2;rw[wH,bX]
  by_cases b:m.ino=j
  .have:(l.filter λm=>decide (m.ino≠j))=l:=bJ.2 λq o=>by grind
   rw[if_pos b,if_neg (ak b),this,mg]
   grind[cO]
  .rw[if_neg b,if_pos (ak b),mg,mg]
   omega
variable{n:Node}{s:aq}
def uQ{i:Int}:0<cN n i↔∃e∈n.ek,e.ino=i:=by
 unfold cN
 simp_all
def yz{i:Int}:∀ {l:List Node},0<cnt l i↔∃n∈l,0<cN n i
 | []=>by simp[cnt]
 |m::l=>by
  have b:=yz (i:=i) (l:=l);rw[mg]
  grind
def Cf{l:List Node}(h:n∈l)(i:Int):cN n i<=cnt l i:=by
 induction l with
 |nil=>cases h
 |cons m l b =>
  rw[mg]
  grind
def Dv{l:List Node}(hs:kI l){i:Int}(h:cnt l i=1){m:Node}(v:m∈l)(r:n∈l)(h1:0<cN m i)(h2:0<cN n i):m=n:=by
 induction l with
 |nil=>cases v
 |cons q l x =>
  let⟨g1,y⟩:=bC.1 hs;rw[mg]at h
  rcases aY.1 v with rfl | o
  .rcases aY.1 r with rfl | b
   .rfl
   .have:=Cf b i;omega
  .rcases aY.1 r with rfl | b
   .have:=Cf o i;omega
   .have:=yz.2 ⟨m,o,h1⟩;exact x y aa o b
section
variable{lt:aq->aq->Bool}
structure Ord(lt:aq->aq->Bool):Prop where
 QA:∀a,lt a a=false
 tr:∀a b c,lt a b=true->lt b c=true->lt a c=true
 tot:∀a b,lt a b=true\/a=b\/lt b a=true
def rA(lt:aq->aq->Bool)(l:List Ent):Prop:=l.Pairwise λa b=>lt a.name b.name=true
theorem BK(e x:Ent)(l:List Ent):sH lt e (x::l)=if lt e.name x.name=true then e::x::l else x::sH lt e l:=by
 unfold sH;cases h:lt e.name x.name<;>simp[h]
theorem tL(e:Ent)(l:List Ent):(sH lt e l).Perm (e::l):=by
 induction l with
 |nil=>simp[sH]
 |cons x l b =>
  grind[BK,List.Perm.refl]
def vA{e x:Ent}{l:List Ent}:x∈sH lt e l↔x=e\/x∈l:=by
 grind[tL]
def Nl(e:Ent)(l:List Ent):(sH lt e l).length=l.length+1:=by
 rw[(tL e l).length_eq,aK]
def Fm(o:Ord lt){e:Ent}:∀ {l:List Ent},rA lt l->(∀x∈l,x.name≠e.name)->rA lt (sH lt e l)
 | [],_,_=>by simp[sH,rA]
 |x::l,h,n=>by
  let⟨h1,h2⟩:=bC.1 h;rw[BK];split
  .rename_i i;refine bC.2 ⟨λy b=>?_,h⟩
   rcases aY.1 b with rfl | b
   .exact i
   .exact o.tr _ _ _ i (h1 y b)
  .rename_i i;refine bC.2 ⟨λy b=>?_,Fm o h2 λy b=>n y (by simp[b])⟩
   rcases vA.1 b with rfl | b
   .rcases o.tot x.name y.name with h | h | h
    .exact h
    .grind
    .exact absurd h i
   .exact h1 y b
def XW(n:Node)(e:Ent)(b:Bool)(i:Int):cN {n with fe:=b,ek:=sH lt e n.ek} i=cN n i+if e.ino=i then 1 else 0:=by
 unfold cN;simp only;rw[((tL (lt:=lt) e n.ek).filter _).length_eq,bX]
 grind
def j4{e:Ent}(h:jd n s=some e):e∈n.ek/\e.name=s:=⟨bN h,by simpa using cW h⟩
def uM:jd n s=none↔∀e∈n.ek,e.name≠s:=by
 grind[jd,List.find?_eq_none]
def mI(s:aq)(l:List Ent):List Ent:=l.filter λe=>decide (e.name≠s)
def uN(o:Ord lt){s:aq}{e:Ent}:∀ {l:List Ent},rA lt l->e∈l->e.name=s->(e::mI s l).Perm l
 | [],_,h,_=>by cases h
 |x::l,hs,h,b=>by
  let⟨h1,h2⟩:=bC.1 hs;unfold mI;rw[bX]
  rcases aY.1 h with rfl | h
  .rw[if_neg (ak b)]
   have:(l.filter λe=>decide (e.name≠s))=l:=bJ.2 λy n=>by
    have:=h1 y n;have i:y.name≠s:=λh'=>by rw[h',b,o.QA]at this;cases this
    simpa using i
   rw[this]
  .have hx:x.name≠s:=λh'=>by
    have:=h1 e h;rw[h',b,o.QA]at this;cases this
   rw[if_pos (ak hx)]
   exact(List.Perm.swap x e _).trans (List.Perm.cons x (uN o h2 h b))
def Rw(o:Ord lt){e:Ent}(hs:rA lt n.ek)(h:jd n s=some e)(b:Bool)(i:Int):cN {n with fe:=b,ek:=mI s n.ek} i+(if e.ino=i then 1 else 0)=cN n i:=by
 let⟨h1,h2⟩:=j4 h;have:=((uN o hs h1 h2).filter λe=>decide (e.ino=i)).length_eq
 grind[cN]
def B7(o:Ord lt){e:Ent}(hs:rA lt n.ek)(h:jd n s=some e):(mI s n.ek).length+1=n.ek.length:=by
 let⟨h1,h2⟩:=j4 h;have:=(uN o hs h1 h2).length_eq
 grind
def qA{l:List Ent}{e:Ent}:e∈mI s l↔e∈l/\e.name≠s:=by
 grind[mI]
end
section
variable(ok:aq->Bool)(lt:aq->aq->Bool)
structure pg(t:Tree)(l:List Ent):Prop where
 nm:∀e∈l,ok e.name=true
 ck:∀e∈l,1<=e.gr/\e.gr<t.gr
 to:∀e∈l,(find t.nodes e.ino).isSome=true
 jh:rA lt l
 dis:l.Pairwise λa b=>a.gr≠b.gr
 len:l.length<=64
structure yc(t:Tree)(M:Int->Nat):Prop where
 jh:kI t.nodes
 pos:∀i n,find t.nodes i=some n->1<=i/\i<t.next
 ZK:t.next<=1099511627776
 KS:1<=t.gr
 XK:t.gr<=1099511627776
 len:t.nodes.length<=200
 root:∃r,find t.nodes 1=some r/\r.kind=2/\r.up=1/\r.links=0
 Dx:cnt t.nodes 1=0
 file:∀i n,find t.nodes i=some n->n.kind=1->n.ek=[]/\n.up=0/\n.data.length<=4096/\n.links=(cnt t.nodes i+M i:Nat)
 dir:∀i n,find t.nodes i=some n->n.kind=2->n.data=[]/\pg ok lt t n.ek
 CZ:∀i n,find t.nodes i=some n->n.kind=2->i≠1->cnt t.nodes i+M i=1/\n.links=1
 par:∀i n,find t.nodes i=some n->n.kind=2->i≠1->M i=0->∃p,find t.nodes n.up=some p/\cN p i=1
 kind:∀i n,find t.nodes i=some n->n.kind=1\/n.kind=2
end
variable{ok:aq->Bool}{lt:aq->aq->Bool}{t:Tree}{M:Int->Nat}
def inc(M:Int->Nat)(i:Int):Int->Nat:=λk=>M k+if k=i then 1 else 0
def dec(M:Int->Nat)(i:Int):Int->Nat:=λk=>M k-if k=i then 1 else 0
def Jt(M:Int->Nat)(i:Int):dec (inc M i) i=M:=by
 funext k
 grind[dec,inc]
variable{i:Int}{n:Node}
def iI{l:List Node}(h:find l i=some n):n.ino=i:=(gZ h).2
theorem MY(w:yc ok lt t M)(h:0<cnt t.nodes i):(find t.nodes i).isSome=true:=by
 let⟨n,o,q⟩:=yz.1 h;obtain⟨e,l,rfl⟩:=uQ.1 q;have b:=jt w.jh o
 rcases w.kind _ _ b with hk | hk
 .rw[(w.file _ _ b hk).1]at l;cases l
 .exact(w.dir _ _ b hk).2.to e l
def qY(w:yc ok lt t M)(b:find t.nodes i=some n){e:Ent}(h:e∈n.ek):n.kind=2:=by
 rcases w.kind _ _ b with hk | hk
 .rw[(w.file _ _ b hk).1]at h;cases h
 .exact hk
def jM(w:kI t.nodes)(n:Node)(i:Int):find (iD t n).nodes i=if i=n.ino then some n else find t.nodes i:=FG w i
def wO(w:kI t.nodes){m:Node}(h:find t.nodes n.ino=some m)(i:Int):cnt (iD t n).nodes i+cN m i=cnt t.nodes i+cN n i:=by
 have:=Dw (n:=n) i w;rw[h]at this;exact this
def wv(w:kI t.nodes){m:Node}(h:find t.nodes n.ino=some m):(iD t n).nodes.length=t.nodes.length:=by
 grind[Ja,iD]
theorem iy(h:find t.nodes i=some n):iq t i=n:=by unfold iq;rw[h];rfl
def pg.mono{l:List Ent}(h:pg ok lt t l){b:Tree}(q:t.gr<=b.gr)(o:∀i,(find t.nodes i).isSome=true->(find b.nodes i).isSome=true):pg ok lt b l :=
 ⟨h.nm,λe n=>by have:=h.ck e n;omega,λe n=>o _ (h.to e n),h.jh,h.dis,h.len⟩
def pg.drop{l:List Ent}(h:pg ok lt t l)(s:aq):pg ok lt t (mI s l) :=
 ⟨λe b=>h.nm e (qA.1 b).1,λe b=>h.ck e (qA.1 b).1,λe b=>h.to e (qA.1 b).1,h.jh.filter _,h.dis.filter _,bQ (bG ..) h.len⟩
def yc.left(o:Ord lt)(w:yc ok lt t M){p:Node}(v:find t.nodes i=some p)(H:p.kind=2){s:aq}{e:Ent}(T:jd p s=some e):yc ok lt (left t i s) (inc M e.ino):=by
 have K:=iI v;have F:=(w.dir _ _ v H).2;obtain⟨n,y⟩:∃n,n={p with fe:=false,ek:=mI s p.ek}:=⟨_,rfl⟩
 have x:n.ino=i:=by rw[y];exact K
 have hl:Tr.left t i s=iD t n:=by unfold Tr.left;rw[iy v,y];rfl
 have E:find t.nodes n.ino=some p:=by rw[x];exact v
 have A:=λj=>jM w.jh n j
 have hc:=λj=>wO w.jh E j
 have Z:∀j,cN n j+(if e.ino=j then 1 else 0)=cN p j:=λj=>by rw[y];exact Rw o F.jh T false j
 have Q:=j4 T
 have l:∀j,(find t.nodes j).isSome=true->(find (iD t n).nodes j).isSome=true:=λj h=>by
  grind
 rw[hl];have W:n.kind=p.kind:=by rw[y]
 have L:n.up=p.up:=by rw[y]
 have N:n.links=p.links:=by rw[y]
 have P:n.data=p.data:=by rw[y]
 have O:n.ek=mI s p.ek:=by rw[y]
 have z:∀j,cnt (iD t n).nodes j+(if e.ino=j then 1 else 0)=cnt t.nodes j:=λj=>by grind
 have Y:e.ino≠1:=λh1=>by
  have h2:0<cN p 1:=uQ.2 ⟨e,Q.1,h1⟩;have h3:=Cf (gZ v).1 1;have:=w.Dx;omega
 refine⟨mZ w.jh,λj m b=>?_,w.ZK,w.KS,w.XK,by rw[wv w.jh E];exact w.len,?_,?_,λj m b hk=>?_,λj m b hk=>?_,λj m b hk h1=>?_,λj m b hk h1 U=>?_,λj m b=>?_⟩
 .rw[A]at b;split at b
  .rename_i h;subst h;rw[x];exact w.pos _ _ v
  .exact w.pos _ _ b
 .let⟨r,h1,h2,h3,h4⟩:=w.root
  grind
 .have:=z 1;have:=w.Dx;omega
 .rw[A]at b;have:=z j;split at b
  .cases b;omega
  .let⟨g1,S,g3,g4⟩:=w.file _ _ b hk;refine⟨g1,S,g3,?_⟩;rw[g4];unfold inc
   grind
 .rw[A]at b;split at b
  .cases b;refine⟨by rw[P];exact(w.dir _ _ v H).1,?_⟩
   rw[O];exact(F.drop s).mono (eT _) l
  .let⟨g1,S⟩:=w.dir _ _ b hk;exact⟨g1,S.mono (eT _) l⟩
 .have hcj:=z j;have key:cnt t.nodes j+M j=1/\m.links=1:=by
   rw[A]at b;split at b
   .rename_i h;cases b;rw[x]at h;subst h;have:=w.CZ _ _ v H h1;rw[N];exact this
   .exact w.CZ _ _ b hk h1
  refine⟨?_,key.2⟩;unfold inc
  grind
 .have X:j≠e.ino:=λh=>by unfold inc at U;grind
  have G:M j=0:=by unfold inc at U;grind
  have key:∃q,find t.nodes m.up=some q/\cN q j=1:=by
   rw[A]at b;split at b
   .rename_i h;cases b;rw[x]at h;subst h;rw[L];exact w.par _ _ v H h1 G
   .exact w.par _ _ b hk h1 G
  grind
 .rw[A]at b;split at b
  .grind
  .exact w.kind _ _ b
def yc.iT(o:Ord lt)(w:yc ok lt t M){p:Node}(A:find t.nodes i=some p)(K:p.kind=2){s:aq}(hs:ok s=true)(hno:∀e∈p.ek,e.name≠s)(hlen:p.ek.length<64)(S2:t.gr<1099511627776)
  {of:Int} {m:Node} (S:find t.nodes of=some m) (hM:1<=M of) (ho1:of≠1) (L:m.kind=2->m.up=i):yc ok lt (iT lt t i s of) (dec M of):=by
 have hpi:=iI A;have v:=(w.dir _ _ A K).2;obtain⟨e,U⟩:∃e:Ent,e=⟨s,of,t.gr⟩:=⟨_,rfl⟩;obtain⟨n,E⟩:∃n,n={p with fe:=false,ek:=sH lt e p.ek}:=⟨_,rfl⟩
 obtain⟨u,Y⟩:∃u:Tree,u=⟨t.fn,t.nodes,t.next,t.gr+1⟩:=⟨_,rfl⟩;have y:u.nodes=t.nodes:=by rw[Y]
 have F:n.ino=i:=by rw[E];exact hpi
 have hl:Tr.iT lt t i s of=iD u n:=by unfold Tr.iT;rw[iy A,E,U,Y]
 have O:find u.nodes n.ino=some p:=by rw[F,y];exact A
 have X:kI u.nodes:=by rw[y];exact w.jh
 have H:=λj=>jM X n j
 have hc:=λj=>wO X O j
 have hcn:∀j,cN n j=cN p j+(if e.ino=j then 1 else 0):=λj=>by rw[E];exact XW p e false j
 have T:e.ino=of:=by rw[U]
 rw[y]at hc;simp only[y]at H
 have z:∀j,(find t.nodes j).isSome=true->(find (iD u n).nodes j).isSome=true:=λj h=>by
  grind
 rw[hl];have hnk:n.kind=p.kind:=by rw[E]
 have Q:n.up=p.up:=by rw[E]
 have hnl:n.links=p.links:=by rw[E]
 have hnd:n.data=p.data:=by rw[E]
 have hne:n.ek=sH lt e p.ek:=by rw[E]
 have G:∀j,cnt (iD u n).nodes j=cnt t.nodes j+(if of=j then 1 else 0):=λj=>by grind
 have l:(iD u n).gr=t.gr+1:=by unfold iD;rw[Y]
 have P:(iD u n).next=t.next:=by unfold iD;rw[Y]
 refine⟨mZ X,λj m b=>?_,by rw[P];exact w.ZK,by rw[l];have:=w.KS;omega,by rw[l];omega,by rw[wv X O,y];exact w.len,?_,?_,λj m b hk=>?_,λj m b hk=>?_,λj m b hk h1=>?_,λj q b hk h1 hM'=>?_,λj m b=>?_⟩
 .rw[H]at b;rw[P];split at b
  .rename_i h;subst h;rw[F];exact w.pos _ _ A
  .exact w.pos _ _ b
 .let⟨r,h1,h2,h3,h4⟩:=w.root
  grind
 .have:=G 1;rw[if_neg ho1]at this;have:=w.Dx;omega
 .rw[H]at b;have:=G j;split at b
  .cases b;omega
  .let⟨g1,Z,g3,g4⟩:=w.file _ _ b hk;refine⟨g1,Z,g3,?_⟩;rw[g4];unfold dec
   grind
 .rw[H]at b;split at b
  .cases b;refine⟨by rw[hnd];exact(w.dir _ _ A K).1,?_⟩
   rw[hne];have S0:∀x∈p.ek,x.name≠e.name:=λx hx=>by rw[U];exact hno x hx
   refine⟨λx hx=>?_,λx hx=>?_,λx hx=>?_,Fm o v.jh S0,?_,by rw[Nl];omega⟩
   .rcases vA.1 hx with rfl | hx
    .rw[U];exact hs
    .exact v.nm x hx
   .rw[l]
    rcases vA.1 hx with rfl | hx
    .rw[U];have:=w.KS;simp only;omega
    .have:=v.ck x hx;omega
   .refine z _ ?_
    rcases vA.1 hx with rfl | hx
    .rw[T,S];rfl
    .exact v.to x hx
   .refine((tL (lt:=lt) e p.ek).pairwise_iff λh=>h.symm).2 (bC.2 ⟨λx hx=>?_,v.dis⟩)
    have:=v.ck x hx
    grind
  .let⟨g1,Z⟩:=w.dir _ _ b hk;exact⟨g1,Z.mono (by rw[l];omega) z⟩
 .have hcj:=G j;have key:cnt t.nodes j+M j=1/\m.links=1:=by
   rw[H]at b;split at b
   .rename_i h;cases b;rw[F]at h;subst h;have:=w.CZ _ _ A K h1;rw[hnl];exact this
   .exact w.CZ _ _ b hk h1
  refine⟨?_,key.2⟩;unfold dec
  grind
 .have N:find t.nodes j=some q\/(j=i/\q=n):=by
   grind
  by_cases hje:j=of
  .subst hje;have hqu:q.up=i/\cnt t.nodes j+M j=1:=by
    rcases N with h | ⟨h,rfl⟩
    .rw[S]at h;cases h;exact⟨L hk,(w.CZ _ _ S hk h1).1⟩
    .subst h;rw[A]at S;cases S;exact⟨by rw[Q];exact L K,(w.CZ _ _ A K h1).1⟩
   refine⟨n,by grind,?_⟩
   have g1:=hcn j;rw[T,if_pos rfl]at g1;have Z:=Cf (gZ A).1 j;omega
  .have W:M j=0:=by unfold dec at hM';grind
   have key:∃r,find t.nodes q.up=some r/\cN r j=1:=by
    rcases N with h | ⟨h,rfl⟩
    .exact w.par _ _ h hk h1 W
    .subst h;rw[Q];exact w.par _ _ A K h1 W
   grind
 .rw[H]at b;split at b
  .grind
  .exact w.kind _ _ b
def yc.set(w:yc ok lt t M){p:Node}(A:find t.nodes i=some p)(L:n.ino=i)(x:n.kind=p.kind)(N:n.ek=p.ek)(K:Int->Nat)(O:∀j,j≠i->K j=M j)
  (E:n.kind=1->n.up=0/\n.data.length<=4096/\n.links=(cnt t.nodes i+K i:Nat))
  (y:n.kind=2->n.data=[]/\n.links=p.links/\K i=M i/\(n.up=p.up\/(i≠1/\M i≠0))):yc ok lt (iD t n) K:=by
 have G:find t.nodes n.ino=some p:=by rw[L];exact A
 have Q:=λj=>jM w.jh n j
 have S:=λj=>wO w.jh G j
 have P:∀j,cN n j=cN p j:=λj=>by unfold cN;rw[N]
 have v:∀j,(find t.nodes j).isSome=true->(find (iD t n).nodes j).isSome=true:=λj h=>by
  grind
 have F:∀j,cnt (iD t n).nodes j=cnt t.nodes j:=λj=>by grind
 have b:∀j m,find (iD t n).nodes j=some m->(j=i/\m=n)\/(j≠i/\find t.nodes j=some m):=λj m l=>by
  grind
 refine⟨mZ w.jh,λj m l=>?_,w.ZK,w.KS,w.XK,by rw[wv w.jh G];exact w.len,?_,by rw[F];exact w.Dx,λj m l hk=>?_,λj m l hk=>?_,λj m l hk h1=>?_,λj m l hk h1 z=>?_,λj m l=>?_⟩
 .rcases b j m l with⟨rfl,rfl⟩ | ⟨_,l⟩
  .exact w.pos _ _ A
  .exact w.pos _ _ l
 .let⟨r,h1,h2,h3,h4⟩:=w.root
  grind
 .rw[F]
  rcases b j m l with⟨rfl,rfl⟩ | ⟨o,l⟩
  .refine⟨?_,E hk⟩;rw[N];exact(w.file _ _ A (x.symm.trans hk)).1
  .let⟨g1,H,g3,g4⟩:=w.file _ _ l hk
   grind
 .rcases b j m l with⟨rfl,rfl⟩ | ⟨o,l⟩
  .refine⟨(y hk).1,?_⟩;rw[N];exact(w.dir _ _ A (x.symm.trans hk)).2.mono (eT _) v
  .let⟨g1,H⟩:=w.dir _ _ l hk;exact⟨g1,H.mono (eT _) v⟩
 .rw[F]
  rcases b j m l with⟨rfl,rfl⟩ | ⟨o,l⟩
  .let⟨g1,H,g3,g4⟩:=y hk;rw[g3,H];exact w.CZ _ _ A (x.symm.trans hk) h1
  .rw[O j o];exact w.CZ _ _ l hk h1
 .have key:∃q,find t.nodes m.up=some q/\cN q j=1:=by
   rcases b j m l with⟨rfl,rfl⟩ | ⟨o,l⟩
   .let⟨g1,H,g3,g4⟩:=y hk;rw[g3]at z
    rcases g4 with g4 | g4
    .rw[g4];exact w.par _ _ A (x.symm.trans hk) h1 z
    grind
   .rw[O j o]at z;exact w.par _ _ l hk h1 z
  grind
 .rcases b j m l with⟨rfl,rfl⟩ | ⟨o,l⟩
  .rw[x];exact w.kind _ _ A
  .exact w.kind _ _ l
variable{ok:aq->Bool}{lt:aq->aq->Bool}{t:Tree}{M:Int->Nat}
variable{i:Int}
def yc.gone(w:yc ok lt t M){p:Node}(G:find t.nodes i=some p)(x:p.ek=[])(h1:i≠1)(L:cnt t.nodes i=0)(E:Int->Nat)(A:∀j,j≠i->E j=M j):yc ok lt (kN t i) E:=by
 have H:∀j,find (kN t i).nodes j=if j=i then none else find t.nodes j:=λj=>q7 w.jh i j
 have F:∀j,cN p j=0:=λj=>by unfold cN;rw[x];rfl
 have o:∀j,cnt (kN t i).nodes j=cnt t.nodes j:=λj=>by
  have:=xM j i w.jh;rw[G]at this;simp only[cO,cG,F]at this;exact this
 have b:∀j m,find (kN t i).nodes j=some m->j≠i/\find t.nodes j=some m:=λj m l=>by
  grind
 have K:∀j m,find t.nodes j=some m->pg ok lt t m.ek->pg ok lt (kN t i) m.ek:=λj m l h =>
  ⟨h.nm,h.ck,λe x=>by
   rw[H,if_neg]
   .exact h.to e x
   .intro z;have:=yz.2 ⟨m,(gZ l).1,uQ.2 ⟨e,x,z⟩⟩;omega,h.jh,h.dis,h.len⟩
 refine⟨zS w.jh _,λj m l=>w.pos _ _ (b j m l).2,w.ZK,w.KS,w.XK,bQ (bG ..) w.len,?_,by rw[o];exact w.Dx,λj m l hk=>?_,λj m l hk=>?_,λj m l hk y=>?_,λj m l hk y v=>?_,λj m l=>w.kind _ _ (b j m l).2⟩
 .let⟨r,P,O⟩:=w.root
  grind
 .let⟨n,l⟩:=b j m l;let⟨g1,N,g3,g4⟩:=w.file _ _ l hk
  grind
 .let⟨n,l⟩:=b j m l;let⟨g1,N⟩:=w.dir _ _ l hk
  grind
 .let⟨n,l⟩:=b j m l;rw[o,A j n];exact w.CZ _ _ l hk y
 .let⟨n,l⟩:=b j m l;rw[A j n]at v;let⟨q,q1,Q⟩:=w.par _ _ l hk y v
  grind
def sw(t:Tree)(kind up:Int):Node:=⟨t.next,kind,1,true,[],true,[],up⟩
def pH(t:Tree)(kind up:Int):Tree:=iD ⟨t.fn,t.nodes,t.next+1,t.gr⟩ (sw t kind up)
theorem BW(w:yc ok lt t M):find t.nodes t.next=none:=by
 cases h:find t.nodes t.next with
 |none=>rfl
 |some n=>have:=(w.pos _ _ h).2;omega
def Ol(w:yc ok lt t M):cnt t.nodes t.next=0:=by
 grind[Nat.eq_zero_or_pos,cnt,MY,BW]
def BX(w:yc ok lt t M)(kind up:Int)(j:Int):find (pH t kind up).nodes j=if j=t.next then some (sw t kind up)else find t.nodes j:=FG w.jh j
def yc.more(w:yc ok lt t M)(kind up:Int)(hk:kind=1/\up=0\/kind=2)(G:M t.next=0)(F:t.nodes.length<200)(N:t.next<1099511627776):yc ok lt (pH t kind up) (inc M t.next):=by
 have S:=BX w kind up;have y:=BW w;have z:=Ol w;have L:∀j,cN (sw t kind up) j=0:=λj=>rfl
 have v:∀j,cnt (pH t kind up).nodes j=cnt t.nodes j:=λj=>by
  have:=Dw (n:=sw t kind up) j w.jh;have e:find t.nodes (sw t kind up).ino=none:=y;rw[e,L]at this;unfold pH iD
  simpa[cO]using this
 have b:∀j m,find (pH t kind up).nodes j=some m->(j=t.next/\m=sw t kind up)\/(j≠t.next/\find t.nodes j=some m):=λj m i=>by
  grind
 have o:∀j,(find t.nodes j).isSome=true->(find (pH t kind up).nodes j).isSome=true:=λj h=>by
  grind
 have E:∀j,j≠t.next->inc M t.next j=M j:=λj h=>by unfold inc;rw[if_neg h];rfl
 have hx:(pH t kind up).next=t.next+1:=rfl;let⟨r,K,H⟩:=w.root;have Q:=w.pos _ _ K;refine⟨mZ w.jh,λj m i=>?_,by rw[hx];omega,w.KS,w.XK,?_,⟨r,?_,H⟩,by rw[v];exact w.Dx,λj m i hk=>?_,λj m i hk=>?_,λj m i hk A=>?_,λj m i hk A x=>?_,λj m i=>?_⟩
 .rw[hx]
  rcases b j m i with⟨rfl,_⟩ | ⟨_,i⟩
  .omega
  .have:=w.pos _ _ i;omega
 .have:=Ja (n:=sw t kind up) w.jh;have e:find t.nodes (sw t kind up).ino=none:=y;rw[e]at this;have h2:(pH t kind up).nodes.length=t.nodes.length+1:=by unfold pH iD;simpa using this
  omega
 .grind
 .rw[v]
  rcases b j m i with⟨rfl,rfl⟩ | ⟨l,i⟩
  .refine⟨rfl,?_,by simp[sw],?_⟩
   .rcases ‹kind=1/\up=0\/kind=2› with h | h
    .exact h.2
    .have:kind=1:=hk;omega
   .unfold inc;rw[z,G,if_pos rfl];rfl
  .rw[E j l];exact w.file _ _ i hk
 .rcases b j m i with⟨rfl,rfl⟩ | ⟨l,i⟩
  .exact⟨rfl,⟨by simp[sw],by simp[sw],by simp[sw],by simp[sw,rA],by simp[sw],by simp[sw]⟩⟩
  .let⟨g1,O⟩:=w.dir _ _ i hk;exact⟨g1,O.mono (eT _) o⟩
 .rw[v]
  rcases b j m i with⟨rfl,rfl⟩ | ⟨l,i⟩
  .unfold inc;rw[z,G,if_pos rfl];exact⟨rfl,rfl⟩
  .rw[E j l];exact w.CZ _ _ i hk A
 .rcases b j m i with⟨rfl,rfl⟩ | ⟨l,i⟩
  .unfold inc at x
   grind
  .rw[E j l]at x;let⟨q,q1,P⟩:=w.par _ _ i hk A x
   grind
 .rcases b j m i with⟨rfl,rfl⟩ | ⟨l,i⟩
  .exact hk.imp (λh=>h.1) id
  .exact w.kind _ _ i
inductive rK(t:Tree):Int->Nat->Prop
 |root:rK t 1 0
 |up {i:Int} {n:Node} {d:Nat} (h:find t.nodes i=some n) (hk:n.kind=2) (h1:i≠1) (hd:rK t n.up d):rK t i (d+1)
def rK.inj{i:Int}{d b:Nat}(h:rK t i d):rK t i b->d=b:=by
 induction h generalizing b with
 |root =>
  intro h';cases h' with
  |root=>rfl
  |up _ _ h1 _=>exact absurd rfl h1
 |up h hk h1 n l =>
  intro h';cases h' with
  |root=>exact absurd rfl h1
  |up g o g1 q =>
   grind
def rK.keep{l:Tree}{P:Int->Prop}(r:∀j n,P j->find t.nodes j=some n->n.kind=2->j≠1->P n.up/\∃b,find l.nodes j=some b/\b.kind=2/\b.up=n.up){d:Nat}(h:rK t i d):P i->rK l i d:=by
 induction h with
 |root=>intro _;exact .root
 |up h hk h1 x o =>
  intro q;let⟨g1,b,v,g3,g4⟩:=r _ _ q h hk h1;exact .up v g3 h1 (by rw[g4];exact o g1)
def Cz{n:Node}(h:find t.nodes i=some n):Is t i=n.up:=by unfold Is;rw[h];rfl
def Rh{d:Nat}(h:rK t i d):∀k,d<k->Og t k i=d:=by
 induction h with
 |root =>
  intro k hk;obtain⟨k,rfl⟩:∃j,k=j+1:=⟨k-1,aa⟩
  simp[Og]
 |up h hk h1 n b =>
  intro k l;obtain⟨k,rfl⟩:∃j,k=j+1:=⟨k-1,aa⟩
  simp only[Og];rw[if_neg h1,Cz h,b k aa]
theorem j9{d:Nat}(h:rK t i d)(b:d<=200):depth t i=d:=Rh h 201 aa
structure WF(ok:aq->Bool)(lt:aq->aq->Bool)(t:Tree):Prop where
 wf:yc ok lt t λ_=>0
 dep:∀i n,find t.nodes i=some n->n.kind=2->∃d,rK t i d/\d<=12/\(d=12->n.ek=[])
def sW{h:Tree}(w:WF ok lt t)(P:Int->Prop)
  (r:∀j n,P j->find t.nodes j=some n->n.kind=2->j≠1->P n.up/\∃b,find h.nodes j=some b/\b.kind=2/\b.up=n.up)
  (q:∀j b,find h.nodes j=some b->b.kind=2->P j/\∃n,find t.nodes j=some n/\n.kind=2/\(n.ek=[]->b.ek=[]\/depth t j<12)) :
  ∀i n,find h.nodes i=some n->n.kind=2->∃d,rK h i d/\d<=12/\(d=12->n.ek=[]):=by
 intro i b o hk;let⟨l,n,g1,x,g3⟩:=q i b o hk;let⟨d,z,y,A⟩:=w.dep i n g1 x;refine⟨d,z.keep r l,y,λv=>?_⟩
 grind[j9]
def vI(h:jK t i=0):∃p,find t.nodes i=some p/\p.kind=2/\uf t i=p:=by
 unfold jK at h;cases b:find t.nodes i with
 |none=>rw[b]at h;simp at h
 |some p =>
  rw[b]at h;simp only at h;split at h
  .rename_i hk;refine⟨p,rfl,hk,?_⟩;unfold uf
   grind
  .omega
def oV{s:aq}(h:enter ok t i s=0):∃p,find t.nodes i=some p/\p.kind=2/\ok s=true/\(∀e∈p.ek,e.name≠s)/\p.ek.length<64/\depth t i<12/\t.gr<1099511627776:=by
 unfold enter at h;split at h
 .rename_i h0;exact absurd h h0
 .rename_i h0;let⟨p,h1,h2,h3⟩:=vI (cQ.1 h0);rw[h3]at h;split at h
  .omega
  .rename_i n;split at h
   .omega
   .rename_i l;split at h
    .omega
    .rename_i b;refine⟨p,h1,h2,ak n,?_,?_⟩
     .have:jd p s=none:=by
       cases o:jd p s with
       |none=>rfl
       |some e=>rw[o]at l;simp at l
      exact uM.1 this
     .unfold full at b;rw[iI h1]at b;simp only[bP,decide_eq_true_eq]at b;omega
variable{ok:aq->Bool}{lt:aq->aq->Bool}{t:Tree}{M:Int->Nat}
def qx(w:kI t.nodes){i:Int}{n:Node}(b:n.ino=i)(j:Int):find (iD t n).nodes j=if j=i then some n else find t.nodes j:=by
 rw[jM w,b]
def ov(w:kI t.nodes){i:Int}{p:Node}(h:find t.nodes i=some p)(s:aq)(of:Int)(j:Int):
  find (iT lt t i s of).nodes j=if j=i then some {p with fe:=false,ek:=sH lt ⟨s,of,t.gr⟩ p.ek}else find t.nodes j:=by
 unfold iT;rw[iy h];have b:=iI h;exact qx (t:=⟨t.fn,t.nodes,t.next,t.gr+1⟩) w (n:={p with fe:=false,ek:=sH lt ⟨s,of,t.gr⟩ p.ek}) b j
def oC(w:kI t.nodes){i:Int}{p:Node}(h:find t.nodes i=some p)(s:aq)(j:Int):
  find (left t i s).nodes j=if j=i then some {p with fe:=false,ek:=mI s p.ek}else find t.nodes j:=by
 unfold left;rw[iy h];have b:=iI h;exact qx w (n:={p with fe:=false,ek:=mI s p.ek}) b j
def rN(i:Int):dec (inc (λ_=>0) i) i=λ_=>0:=Jt _ i
def WF.new:WF ok lt CW:=by
 have l:∀i,find CW.nodes i=if (1:Int)=i then some ⟨1,2,0,true,[],true,[],1⟩else none:=λi=>by
  show find [_] i=_;rw[wH];rfl
 have b:∀i n,find CW.nodes i=some n->i=1/\n=⟨1,2,0,true,[],true,[],1⟩:=λi n h=>by
  grind
 refine⟨⟨by simp[CW,kI],λi n h=>?_,af,af,af,af,⟨_,by rw[l,if_pos rfl],rfl,rfl,rfl⟩,af,λi n h hk=>?_,λi n h hk=>?_,λi n h hk h1=>?_,λi n h hk h1=>?_,λi n h=>?_⟩,λi n h hk=>?_⟩
 .obtain⟨rfl,rfl⟩:=b i n h;decide
 .grind
 .obtain⟨rfl,rfl⟩:=b i n h;exact⟨rfl,⟨ah,ah,ah,by simp[rA],ah,ah⟩⟩
 .grind
 .grind
 .grind
 .obtain⟨rfl,rfl⟩:=b i n h;exact⟨0,.root,aa,aa⟩
def WF.add(o:Ord lt)(w:WF ok lt t)(i:Int)(s:aq)(kind:Int):WF ok lt (add ok lt t i s kind).1:=by
 unfold Tr.add;split
 .exact w
 .rename_i hk;split
  .exact w
  .rename_i T;let⟨p,H,p2,p3,p4,p5,p6,p7⟩:=oV (cQ.1 T);split
   .exact w
   .rename_i Y;have O:kind=1\/kind=2:=by omega
    have z:kind=1/\(if kind=2 then i else 0)=0\/kind=2:=by
     grind
    have G:=w.wf.more kind (if kind=2 then i else 0) z rfl aa aa
    have y:=BX w.wf kind (if kind=2 then i else 0)
    have X:=w.wf.pos _ _ H;have r:find (pH t kind (if kind=2 then i else 0)).nodes i=some p:=by grind
    have v:find (pH t kind (if kind=2 then i else 0)).nodes t.next=some (sw t kind (if kind=2 then i else 0)):=by rw[y,if_pos rfl]
    have F:=G.iT o r p2 p3 p4 p5 p7 v (by unfold inc;rw[if_pos rfl];omega) (by grind) (λh=>by
     have:kind=2:=h;show (if kind=2 then i else 0)=i
     rw[if_pos this])
    rw[rN]at F;have E:=ov (lt:=lt) G.jh r s t.next;have N:∀j n,find t.nodes j=some n->j≠t.next:=λj n h=>by have:=w.wf.pos _ _ h;omega
    let⟨d,W,d2,d3⟩:=w.dep i p H p2;have U:d<12:=by rw[j9 W aa]at p6;exact p6
    have K:∀j n,find t.nodes j=some n->∃q,find (iT lt (pH t kind (if kind=2 then i else 0)) i s t.next).nodes j=some q/\q.kind=n.kind/\q.up=n.up/\(j≠i->q.ek=n.ek):=λj n h=>by
     grind
    have keep:∀j d,rK t j d->rK (iT lt (pH t kind (if kind=2 then i else 0)) i s t.next) j d:=λj d h=>h.keep (P:=λ_=>True) (λj n _ h hk _=>by
     grind) trivial
    show WF ok lt (iT lt (pH t kind (if kind=2 then i else 0)) i s t.next)
    refine⟨F,λj q l b=>?_⟩
    have A:=l;rw[E]at l;split at l
    .grind
    .rename_i S;rw[y]at l;split at l
     .rename_i Q;cases l;have x:kind=2:=b;refine⟨d+1,.up A b (by grind) ?_,aa,λ_=>rfl⟩
      have L:(sw t kind (if kind=2 then i else 0)).up=i:=by show (if kind=2 then i else 0)=i;rw[if_pos x]
      grind
     .let⟨e,e1,e2,Z⟩:=w.dep j q l b
      grind
def WF.ln(o:Ord lt)(w:WF ok lt t)(i to:Int)(s:aq):WF ok lt (ln ok lt t i to s).1:=by
 unfold Tr.ln;split
 .exact w
 .rename_i n v;split
  .exact w
  .rename_i T;split
   .exact w
   .rename_i c2;split
    .exact w
    .rename_i H;let⟨p,S,p2,p3,p4,p5,p6,p7⟩:=oV (cQ.1 H);have l:=iI v;have hk:n.kind=1:=(w.wf.kind _ _ v).resolve_right c2;let⟨f1,N,L,K⟩:=w.wf.file _ _ v hk;have F:=w.wf.set (n:={n with links:=n.links+1}) v l rfl rfl (inc (λ_=>0) i) (λj y=>by unfold inc;rw[if_neg y]) (λ_=>⟨N,L,by simp only[K,inc];simp⟩) (λh=>absurd h c2)
     have A:=λj=>qx w.wf.jh (n:={n with links:=n.links+1}) l j
     have hit:to≠i:=λh=>by grind
     have b:find (iD t {n with links:=n.links+1}).nodes to=some p:=by grind
     have z:i≠1:=λh=>by
      subst h;let⟨r,P,O,_⟩:=w.wf.root
      grind
     have E:=F.iT o b p2 p3 p4 p5 p7 (of:=i) (m:={n with links:=n.links+1}) (by rw[A,if_pos rfl]) (by unfold inc;rw[if_pos rfl];omega) z (λh=>absurd h c2)
     rw[rN]at E;have G:=ov (lt:=lt) F.jh b s i;refine⟨E,sW w (λ_=>True) (λj q _ y x _=>⟨trivial,?_⟩) (λj Q y x=>⟨trivial,?_⟩)⟩
     .grind
     grind
def WF.put(w:WF ok lt t)(i:Int)(data:aq):WF ok lt (put t i data).1:=by
 unfold Tr.put;split
 .exact w
 .rename_i n l;split
  .exact w
  .rename_i c2;split
   .exact w
   .rename_i c3;have b:=iI l;have hk:n.kind=1:=(w.wf.kind _ _ l).resolve_right c2;let⟨f1,z,E,y⟩:=w.wf.file _ _ l hk;have v:=w.wf.set (n:={n with fd:=false,data:=data}) l b rfl rfl (λ_=>0) (λj r=>rfl) (λ_=>⟨z,by simp only;omega,y⟩) (λh=>absurd h c2)
    have x:=λj=>qx w.wf.jh (n:={n with fd:=false,data:=data}) b j
    refine⟨v,sW w (λ_=>True) (λj q _ r o _=>⟨trivial,?_⟩) (λj A r o=>⟨trivial,?_⟩)⟩
    .grind
    grind
def Jj(w:kI t.nodes)(i j:Int):find (kN t i).nodes j=if j=i then none else find t.nodes j:=q7 w i j
def WF.free(w:WF ok lt t)(i:Int):WF ok lt (free t i).1:=by
 unfold Tr.free;split
 .exact w
 .rename_i n b;split
  .exact w
  .rename_i c2;split
   .exact w
   .rename_i c3;have hk:n.kind=1:=(w.wf.kind _ _ b).resolve_right c2;let⟨f1,H,G,F⟩:=w.wf.file _ _ b hk
    have o:i≠1:=λh=>by
     subst h;let⟨r,A,z,_⟩:=w.wf.root
     grind
    have v:=w.wf.gone b f1 o aa (λ_=>0) (λ_ _=>rfl)
    have y:=Jj w.wf.jh i;refine⟨v,sW w (λ_=>True) (λj q _ x l _=>⟨trivial,?_⟩) (λj E x l=>⟨trivial,?_⟩)⟩
    .grind
    grind
variable{ok:aq->Bool}{lt:aq->aq->Bool}{t:Tree}{M:Int->Nat}
variable{i y x o:Int}
def yc.unnamed(w:yc ok lt t M){q:Node}(b:find t.nodes y=some q)(v:q.ek=[])(E:1<=M y)(h1:y≠1):yc ok lt (unnamed t y) (dec M y):=by
 unfold Tr.unnamed;rw[iy b];have o:∀j,j≠y->dec M y j=M j:=λj r=>by unfold dec;rw[if_neg r];rfl
 split
 .rename_i hk;have:=(w.CZ _ _ b hk h1).1;exact w.gone b v h1 aa _ o
 .rename_i hk;have l:=(w.kind _ _ b).resolve_right hk;let⟨f1,A,z,x⟩:=w.file _ _ b l;have i:=iI b;exact w.set (n:={q with links:=q.links-1}) b i rfl rfl _ o (λ_=>⟨A,z,by simp only[x,dec,if_true];omega⟩) (λh=>absurd h hk)
def q8(w:kI t.nodes){q:Node}(h:find t.nodes y=some q)(j:Int):find (unnamed t y).nodes j=if j=y then(if q.kind=2 then none else some {q with links:=q.links-1})else find t.nodes j:=by
 unfold unnamed;rw[iy h];split
 .rw[Jj w]
 .have b:=iI h;rw[qx w (n:={q with links:=q.links-1}) b]
def yo{s:aq}(h:look ok t i s=(x,0)):∃p e,find t.nodes i=some p/\p.kind=2/\ok s=true/\jd p s=some e/\e.ino=x:=by
 unfold look at h;split at h
 .grind
 .rename_i h0;let⟨p,h1,h2,h3⟩:=vI (cQ.1 h0)
  grind
def Si(w:WF ok lt t){z:Node}(l:find t.nodes x=some z)(o:z.ek=[]){j:Int}{n:Node}(b:find t.nodes j=some n)(hk:n.kind=2)(h1:j≠1):n.up≠x:=by
 intro h;let⟨p,i,p2⟩:=w.wf.par _ _ b hk h1 rfl
 grind[cN]
def kW(w:WF ok lt t){p:Node}(l:find t.nodes i=some p){e:Ent}(v:e∈p.ek):(∃n,find t.nodes e.ino=some n)/\e.ino≠1/\e.ino≠i:=by
 have hk:=qY w.wf l v;have h1:=(w.wf.dir _ _ l hk).2.to e v;have y:0<cN p e.ino:=uQ.2 ⟨e,v,rfl⟩;have x:=Cf (gZ l).1 e.ino;have b:e.ino≠1:=λh=>by rw[h]at y x;have:=w.wf.Dx;omega
 refine⟨cC.1 h1,b,λh=>?_⟩
 rw[h]at y b;have r:=(w.wf.CZ _ _ l hk b).1;let⟨q,q1,E⟩:=w.wf.par _ _ l hk b rfl;have:=Dv w.wf.jh (ak r) (gZ l).1 (gZ q1).1 y aa
 subst this;have o:p.up=i:=(iI q1).symm.trans (iI l);let⟨d,A,_⟩:=w.dep _ _ l hk;cases A with
 |root=>exact b rfl
 |up g F g1 z =>
  rw[l]at g;cases g;rw[o]at z;have:=rK.inj z (.up l hk b (by rw[o];exact z))
  omega
def WF.un(o:Ord lt)(w:WF ok lt t)(i:Int)(s:aq):WF ok lt (un ok t i s).1:=by
 unfold Tr.un;split
 .exact w
 .rename_i h0;obtain⟨p,e,q,p2,p3,p4,p5⟩:=yo (x:=(look ok t i s).1) (by rw[<-cQ.1 h0])
  rw[<-p5];obtain⟨K,_⟩:=j4 p4;obtain⟨⟨z,A⟩,r,E⟩:=kW w q K;split
  .exact w
  .rename_i hl;rw[iy A]at hl;have b:z.ek=[]:=aV aa
   have y:=w.wf.left o q p2 p4;have H:=λj=>oC w.wf.jh q s j
   have l:find (left t i s).nodes e.ino=some z:=by grind
   have v:=y.unnamed l b (by unfold inc;rw[if_pos rfl];omega) r
   rw[rN]at v;have G:=λj=>q8 y.jh l j
   refine⟨v,sW w (λj=>j≠e.ino) (λj n F h hk h1=>⟨Si w A b h hk h1,?_⟩) (λj L F hk=>?_)⟩
   .grind
   grind
inductive Cr(t:Tree)(i:Int):Int->Nat->Prop
 |here:Cr t i i 0
 |up {j:Int} {n:Node} {e:Nat} (h:find t.nodes j=some n) (hk:n.kind=2) (h1:j≠1) (hr:Cr t i n.up e):Cr t i j (e+1)
def Cr.dep{j:Int}{e d:Nat}(h:Cr t i j e):rK t i d->rK t j (d+e):=by
 induction h with
 |here=>exact id
 |up h hk h1 l b=>exact λg=>.up h hk h1 (b g)
def Ak:∀ {a b:ax},a.Nodup->(∀x∈a,x∈b)->a.length<=b.length
 | [],_,_,_=>ah
 |x::a,b,h,hs=>by
  let⟨h1,h2⟩:=fE.1 h;have:=Ak (a:=a) (b:=b.erase x) h2 λy i=>(gJ (λ(e:y=x)=>h1 (e▸i))).2 (hs y (by simp[i]))
  grind
def ri(w:WF ok lt t){d:Nat}(h:rK t i d):d<t.nodes.length:=by
 have:∃l:ax,l.Nodup/\l.length=d+1/\∀j∈l,j∈t.nodes.map Node.ino/\∃q,q<=d/\rK t j q:=by
  induction h with
  |root =>
   let⟨r,v,_⟩:=w.wf.root
   exact⟨[1],ah,rfl,λj b=>by
    simp only[bS]at b;subst b;exact⟨b7.2 ⟨r,(gZ v).1,iI v⟩,0,aT _,.root⟩⟩
  | @up i n d h hk h1 x y =>
   let⟨l,l1,l2,o⟩:=y;refine⟨i::l,fE.2 ⟨λz=>?_,l1⟩,by simp[l2],λj b=>?_⟩
   .let⟨_,q,e1,A⟩:=o i z;have:=A.inj (.up h hk h1 x);omega
   .rcases aY.1 b with rfl | b
    .exact⟨b7.2 ⟨n,(gZ h).1,iI h⟩,d+1,aT _,.up h hk h1 x⟩
    grind
 let⟨l,l1,l2,o⟩:=this;have:=Ak l1 λj b=>(o j b).1
 grind
def YD{e:Nat}(h:Cr t o i e):∀k,e<k->ya t k i o=true:=by
 induction h with
 |here =>
  intro k hk;obtain⟨k,rfl⟩:∃j,k=j+1:=⟨k-1,aa⟩
  simp[ya]
 | @up j n e h hk h1 r l =>
  intro k q;obtain⟨k,rfl⟩:∃j,k=j+1:=⟨k-1,aa⟩
  simp only[ya];rw[Cz h,l k aa]
  by_cases b:j=o
  .rw[if_pos b]
  .rw[if_neg b,if_neg h1]
def vP(w:WF ok lt t){d:Nat}(n:rK t i d):below t i o=true↔∃e,Cr t o i e:=by
 constructor
 .intro h;unfold below at h;generalize t.nodes.length+1=k at h
  induction n generalizing k with
  |root =>
   cases k with
   |zero=>simp[ya]at h
   |succ k =>
    simp only[ya]at h;split at h
    .rename_i l;subst l;exact⟨0,.here⟩
    .simp at h
  |up g r g1 A q =>
   cases k with
   |zero=>simp[ya]at h
   |succ k =>
    simp only[ya]at h;split at h
    .rename_i l;subst l;exact⟨0,.here⟩
    .rw[Cz g]at h;let⟨e,b⟩:=q k h;exact⟨e+1,.up g r g1 b⟩
 .rintro⟨e,b⟩
  refine YD b _ ?_;have v:e<=d:=by
   clear w
   induction b generalizing d with
   |here=>omega
   |up g r g1 z q =>
    cases n with
    |root=>exact absurd rfl g1
    |up k x y kd =>
     grind
  have:=ri w n;omega
variable{ok:aq->Bool}{lt:aq->aq->Bool}{t:Tree}{M:Int->Nat}
def Aa{n:Node}{s a:aq}(h:a≠s)(b:Bool):jd {n with fe:=b,ek:=mI s n.ek} a=jd n a:=by
 unfold jd mI
 grind
def On{x:Node}{y:Int}{z:Node}(h:kM t x y=0)(b:find t.nodes y=some z):(x.kind=2↔z.kind=2)/\z.ek=[]:=by
 unfold kM at h;rw[b]at h;simp only at h;split at h
 .omega
 .rename_i i;split at h
  .omega
  .rename_i c2;split at h
   .omega
   grind
def Jd{i at_:Int}:∀ {l:List Node} {m:Int},m<=l.foldl (λm n=>if n.kind=2/\below t n.ino i=true then max m (at_+depth t n.ino-depth t i+if 0<n.ek.length then 1 else 0)else m) m
 | [],m=>eT _
 |n::l,m=>by
  rw[cE];refine Int.le_trans ?_ (Jd (l:=l))
  grind
def Dh{i at_:Int}:∀ {l:List Node} {m:Int} {n:Node},n∈l->n.kind=2->below t n.ino i=true->
  at_+depth t n.ino-depth t i+(if 0<n.ek.length then 1 else 0)<=l.foldl (λm n=>if n.kind=2/\below t n.ino i=true then max m (at_+depth t n.ino-depth t i+if 0<n.ek.length then 1 else 0)else m) m
 |q::l,m,n,h,hk,b=>by
  rw[cE]
  rcases aY.1 h with rfl | h
  .refine Int.le_trans ?_ (Jd (l:=l))
   grind
  .exact Dh h hk b
def WF.mv (o:Ord lt) (w:WF ok lt t) (from_:Int) (s:aq) (to:Int) (as:aq):WF ok lt (mv ok lt t from_ s to as).1:=by
 unfold Tr.mv;split
 .exact w
 .rename_i h0;split
  .exact w
  .rename_i hE;split
   .exact w
   .rename_i h2;obtain⟨p,e,p1,p2,p3,p4,p5⟩:=yo (x:=(look ok t from_ s).1) (by rw[<-cQ.1 h0])
    obtain⟨q,q1,q2,q3⟩:=vI (cQ.1 hE);have hok:ok as=true:=by simpa using h2
    rw[<-p5];obtain⟨he,QI⟩:=j4 p4;obtain⟨⟨x,hx⟩,l,hxf⟩:=kW w p1 he;simp only[iy hx];obtain⟨i,hi⟩:∃i,i=e.ino:=⟨_,rfl⟩;rw[<-hi]at hx l hxf⊢;obtain⟨y,hy⟩:∃y,y=zl t to as:=⟨_,rfl⟩;rw[<-hy];split
    .exact w
    .rename_i hyi;split
     .exact w
     .rename_i Z;split
      .exact w
      .rename_i hcl;have hcl:=cQ.1 hcl;split
       .exact w
       .rename_i Y;have T:x.ino=i:=iI hx
        have ajw:i≠to:=λh=>by
         subst h;rw[hx]at q1;cases q1;exact Z ⟨q2,by
          obtain⟨d,d1,_⟩:=w.dep _ _ hx q2;exact(vP w d1).2 ⟨0,.here⟩⟩
        have w1:=w.wf.left o p1 p2 p4;rw[<-hi]at w1;have hf1:=λj=>oC w.wf.jh p1 s j
        have aje:find (left t from_ s).nodes i=some x:=by grind
        obtain⟨G,g1,g2,g3,g4⟩:∃G,find (left t from_ s).nodes to=some G/\G.kind=2/\G.up=q.up/\(to=from_->G.ek=mI s q.ek)/\(to≠from_->G=q):=by
         grind
        have E:as≠s\/to≠from_->jd G as=jd q as:=λh=>by
         by_cases htf:to=from_
         .have has:as≠s:=h.resolve_right (λh=>h htf)
          have:=Aa (n:=q) has false
          grind
         .rw[g4.2 htf]
        have hqs:to=from_->as=s->y=i:=λh1 h2=>by
         rw[hy,hi];unfold zl
         grind
        have hqa:as≠s\/to≠from_:=by
         grind
        have E:=E hqa
        have hql:G.ek.length<=q.ek.length/\(to=from_->G.ek.length+1=q.ek.length):=by
         by_cases htf:to=from_
         .have hpq:q=p:=by grind
          subst hpq;have:=B7 o (w.wf.dir _ _ p1 p2).2.jh p4
          grind
         grind
        have main:∃u,(if y≠0 then unnamed (left (left t from_ s) to as) y else left t from_ s)=u/\yc ok lt u (inc (λ_=>0) i)/\u.gr=t.gr/\find u.nodes i=some x/\
          (∃r,find u.nodes to=some r/\r.kind=2/\r.up=q.up/\(∀e∈r.ek,e.name≠as)/\r.ek.length<64)/\
          (∀j n,find t.nodes j=some n->n.kind=2->j≠1->n.up≠y)/\
          (∀j n,j≠y->find t.nodes j=some n->n.kind=2->∃A,find u.nodes j=some A/\A.kind=2/\A.up=n.up)/\
          (∀j A,find u.nodes j=some A->A.kind=2->j≠y/\∃n,find t.nodes j=some n/\n.kind=2/\A.up=n.up/\(j=to\/(n.ek=[]->A.ek=[]))):=by
         by_cases hy0:y=0
         .rw[if_neg (λh=>h hy0)]
          have hno:jd q as=none:=by
           cases hq:jd q as with
           |none=>rfl
           |some e2 =>
            exfalso;have:y=e2.ino:=by rw[hy];unfold zl;rw[q3,hq];rfl
            obtain⟨⟨n2,hn2⟩,_⟩:=kW w q1 (j4 hq).1;have:=w.wf.pos _ _ hn2;omega
          refine⟨_,rfl,w1,rfl,aje,⟨G,g1,g2,g3,?_,?_⟩,λj n v hk h1 hn=>?_,λj n H v hk=>?_,λj A v hk=>?_⟩
          .rw[hno]at E;exact uM.1 E
          .have h64:=(w.wf.dir _ _ q1 q2).2.len
           grind
          .obtain⟨r,r1,_⟩:=w.wf.par _ _ v hk h1 rfl;have:=w.wf.pos _ _ r1;omega
          .grind
          .have hj0:j≠0:=λh=>by have:=w1.pos _ _ v;omega
           grind
         .rw[if_pos hy0];obtain⟨e2,W⟩:∃e2,jd q as=some e2:=by
           cases hq:jd q as with
           |none=>exfalso;apply hy0;rw[hy];unfold zl;rw[q3,hq];rfl
           |some e2=>exact⟨e2,rfl⟩
          have hye:y=e2.ino:=by rw[hy];unfold zl;rw[q3,W];rfl
          obtain⟨⟨z,hz⟩,hy1,hyt⟩:=kW w q1 (j4 W).1;rw[<-hye]at hz hy1 hyt;obtain⟨hkk,hze⟩:=On hcl hz
          have hyf:y≠from_:=λh=>by
           grind
          have w2:=w1.left o g1 g2 (by rw[E];exact W)
          rw[<-hye]at w2;have hf2:=λj=>oC w1.jh g1 as j
          have Hw:find (left (left t from_ s) to as).nodes y=some z:=by grind
          have w3:=w2.unnamed Hw hze (by unfold inc;rw[if_pos rfl];omega) hy1
          rw[Jt]at w3;have hf3:=λj=>q8 w2.jh Hw j
          have Kv:=B7 o (w1.dir _ _ g1 g2).2.jh (by rw[E];exact W)
          refine⟨_,rfl,w3,?_,?_,⟨{G with fe:=false,ek:=mI as G.ek},?_,g2,g3,?_,?_⟩,λj n v hk h1=>Si w hz hze v hk h1,λj n H v hk=>?_,λj A v hk=>?_⟩
          .unfold unnamed;split<;>rfl
          .grind
          .grind
          .intro e he;exact(qA.1 he).2
          .have h64:=(w.wf.dir _ _ q1 q2).2.len
           grind
          .grind
          grind
        obtain⟨u,hu,wu,huc,hui,⟨r,r1,r2,r3,r4,r5⟩,X,L,ad5⟩:=main;have hdt:depth t to<12:=aa
        have S2:t.gr<1099511627776:=aa
        show WF ok lt (sy lt t from_ s to as i y);unfold sy;simp only[iy hx];rw[hu];obtain⟨N,F,dt2,dt3⟩:=w.dep _ _ q1 q2;rw[j9 F aa]at hdt
        by_cases b:x.kind=2
        .rw[if_pos b];have Lm:=w.wf.dir _ _ hx b;have hxl:=w.wf.CZ _ _ hx b l;have w4:=wu.set (n:={x with up:=to}) hui T rfl rfl (inc (λ_=>0) i) (λ_ _=>rfl) (λh=>by simp only at h;omega) (λ_=>⟨Lm.1,rfl,rfl,.inr ⟨l,by unfold inc;rw[if_pos rfl];omega⟩⟩)
         have hf4:=λj=>qx wu.jh (n:={x with up:=to}) T j
         have r1':find (iD u {x with up:=to}).nodes to=some r:=by grind
         have w5:=w4.iT o r1' r2 hok r4 r5 (by show u.gr<_;rw[huc];exact S2) (of:=i) (m:={x with up:=to}) (by rw[hf4,if_pos rfl]) (by unfold inc;rw[if_pos rfl];omega) l (λ_=>rfl)
         rw[rN]at w5;have hf5:=ov (lt:=lt) w4.jh r1' as i;obtain⟨di,O,di2,di3⟩:=w.dep _ _ hx b;have hnb:¬ ∃k,Cr t i to k:=λh=>Z ⟨b,(vP w F).2 h⟩
         have keep:∀j d,rK t j d->(j≠y/\¬ ∃k,Cr t i j k)->rK (iT lt (iD u {x with up:=to}) to as i) j d:=λj d h=>h.keep (P:=λj=>j≠y/\¬ ∃k,Cr t i j k) (λj n v Q hk h1=>by
          refine⟨⟨X j n Q hk h1,λ⟨k,hr⟩=>v.2 ⟨k+1,.up Q hk h1 hr⟩⟩,?_⟩
          obtain⟨A,a1,a2,a3⟩:=L j n v.1 Q hk;have S:j≠i:=λh=>v.2 ⟨0,by rw[h];exact .here⟩
          grind)
         have hty:to≠y:=λh=>by
          grind
         have ajz:=keep to N F ⟨hty,hnb⟩
         have hdi:rK (iT lt (iD u {x with up:=to}) to as i) i (N+1):=by
          refine .up (n:={x with up:=to}) ?_ b l ajz
          grind
         have ajj:∀j k,Cr t i j k->j≠y->rK (iT lt (iD u {x with up:=to}) to as i) j (N+1+k):=λj k h=>by
          induction h with
          |here=>intro _;exact hdi
          | @up j n k Q hk h1 hr ih =>
           intro H
           by_cases S:j=i
           .exfalso;subst S;rw[hx]at Q;cases Q;cases O with
            |root=>exact l rfl
            |up c1 c2 c3 c4 =>
             rw[hx]at c1;cases c1;have:=hr.dep (.up hx b l c4);have:=this.inj c4;omega
           .obtain⟨A,a1,a2,a3⟩:=L j n H Q hk
            by_cases hjt:j=to
            .exfalso;subst hjt;exact hnb ⟨k+1,.up Q hk h1 hr⟩
            .refine .up (n:=A) ?_ a2 h1 ?_
             .grind
             grind
         refine⟨w5,λj A v hk=>?_⟩
         by_cases S:j=i
         .subst S;have K:¬(12<high t j (depth t to+1)):=λh=>Y (.inr (.inr (.inl ⟨b,h⟩)))
          have hb0:below t j j=true:=(vP w O).2 ⟨0,.here⟩;have U:=Dh (t:=t) (i:=j) (at_:=(depth t to:Int)+1) (m:=0) (gZ hx).1 b (by rw[T];exact hb0)
          unfold high at K;rw[T]at U;rw[j9 F aa]at U K
          rw[hf5,if_neg ajw,hf4,if_pos rfl]at v;cases v;refine⟨N+1,hdi,aa,λh=>?_⟩
          simp only
          rcases dx x.ek.length with h0 | h0
          .grind
          grind
         .have hu2:∃n2,find u.nodes j=some n2/\n2.kind=2/\(j≠to->n2=A):=by
           grind
          obtain⟨n2,b1,b2,b3⟩:=hu2;obtain⟨H,n,c1,c2,c3,c4⟩:=ad5 j n2 b1 b2;obtain⟨d,d1,d2,d3⟩:=w.dep _ _ c1 c2
          by_cases hR:∃k,Cr t i j k
          .have hjt:j≠to:=λh=>hnb (h▸hR)
           have hbj:=(vP w d1).2 hR;obtain⟨k,hk2⟩:=hR;have hdd:=d1.inj (hk2.dep O);have K:¬(12<high t i (depth t to+1)):=λh=>Y (.inr (.inr (.inl ⟨b,h⟩)))
           have U:=Dh (t:=t) (i:=i) (at_:=(depth t to:Int)+1) (m:=0) (gZ c1).1 c2 (by rw[iI c1];exact hbj)
           unfold high at K;rw[iI c1,j9 d1 aa,j9 O aa,j9 F aa]at U
           rw[j9 F aa,j9 O aa]at K
           refine⟨N+1+k,ajj j k hk2 H,aa,λh=>?_⟩
           have hn0:n.ek=[]:=by
            rcases dx n.ek.length with h0 | h0
            .grind
            grind
           grind
          grind
        .rw[if_neg b];have w5:=wu.iT o r1 r2 hok r4 r5 (by rw[huc];exact S2) (of:=i) (m:=x) hui (by unfold inc;rw[if_pos rfl];omega) l (λh=>absurd h b)
         rw[rN]at w5;have hf5:=ov (lt:=lt) wu.jh r1 as i;refine⟨w5,sW w (λj=>j≠y) (λj n v Q hk h1=>⟨X j n Q hk h1,?_⟩) (λj A v hk=>?_)⟩
         .grind
         grind
def WF.step(o:Ord lt)(w:WF ok lt t)(s:Step):WF ok lt (step ok lt t s):=by
 unfold Tr.step;split
 .exact w.add o _ _ _
 .exact w.add o _ _ _
 .exact w.ln o _ _ _
 .exact w.un o _ _
 .exact w.mv o _ _ _ _
 .exact w.mv o _ _ _ _
 .exact w.put _ _
 .exact w.free _
variable{ok:aq->Bool}{lt:aq->aq->Bool}{t:Tree}
structure Dok(lt:aq->aq->Bool)(u:Tree)(i:Int)(q:Node):Prop where
 jh:kI u.nodes
 len:u.nodes.length<=200
 at_:find u.nodes i=some q
 es:rA lt q.ek
 el:q.ek.length<=64
def zx(o:Ord lt)(w:WF ok lt t){a to:Int}{s nm:aq}{p q x:Node}{e:Ent}(G:find t.nodes a=some p)(p2:p.kind=2)(p4:jd p s=some e)(q1:find t.nodes to=some q)(q2:q.kind=2)(hx:find t.nodes e.ino=some x)
  (S:∀b,jd q nm=some b->b.ino≠e.ino/\∀z,find t.nodes b.ino=some z->z.ek=[]) :
  ∃i,Dok lt (left t a s) to i/\((jd q nm=none/\jd i nm=none)\/∃b z,jd q nm=some b/\jd i nm=some b/\find t.nodes b.ino=some z/\Dok lt (left (left t a s) to nm) b.ino z/\
   ∃r,Dok lt (unnamed (left (left t a s) to nm) b.ino) to r/\jd r nm=none):=by
 let⟨M,Z⟩:=j4 p4;let⟨_,U,T⟩:=kW w G M;have y:=w.wf.left o G p2 p4;have Y:=λj=>oC w.wf.jh G s j
 obtain⟨i,g1,A,g4⟩:∃i,find (left t a s).nodes to=some i/\i.kind=2/\((to=a/\p=q/\i.ek=mI s q.ek)\/(to≠a/\i=q)):=by
  grind
 have L:(jd q nm=none/\jd i nm=none)\/∃b,jd q nm=some b/\jd i nm=some b:=by
  rcases g4 with⟨_,rfl,g4⟩ | ⟨_,rfl⟩
  .by_cases has : nm = s
   .grind
   .have:=Aa (n:=p) has false;unfold jd at this⊢;rw[g4,this];cases List.find? (λe=>decide (e.name=nm)) p.ek with
    |none=>grind
    |some b=>grind
  .cases jd i nm with
   |none=>grind
   |some b=>grind
 refine⟨i,⟨y.jh,y.len,g1,(y.dir _ _ g1 A).2.jh,(y.dir _ _ g1 A).2.len⟩,?_⟩
 rcases L with h | ⟨b,h1,h2⟩
 .exact .inl h
 .right;let⟨⟨z,N⟩,H,O⟩:=kW w q1 (j4 h1).1;let⟨P,l⟩:=S b h1;have l:=l z N
  have Q:b.ino≠a:=λh=>by
   grind
  have F:=y.left o g1 A h2;have X:=λj=>oC y.jh g1 nm j
  have v:find (left (left t a s) to nm).nodes b.ino=some z:=by grind
  have E:=F.unnamed v l (by unfold inc;rw[if_pos rfl];omega) H
  have W:=λj=>q8 F.jh v j
  have K:find (unnamed (left (left t a s) to nm) b.ino).nodes to=some {i with fe:=false,ek:=mI nm i.ek}:=by
   grind
  refine⟨b,z,h1,h2,N,⟨F.jh,F.len,v,by rw[l];exact List.Pairwise.nil,by rw[l];simp⟩,_,⟨E.jh,E.len,K,?_,?_⟩,uM.2 λe M=>(qA.1 M).2⟩
  .exact(E.dir _ _ K A).2.jh
  .exact(E.dir _ _ K A).2.len
def FD{α:Type}(P:α->Prop)[DecidablePred P](v:α->Int)(c:Int):∀(l:List α)(m:Int),c<l.foldl (λm n=>if P n then max m (v n)else m) m↔c<m\/∃n∈l,P n/\c<v n
 | [],m=>ah
 |n::l,m=>by
  rw[cE,FD P v c l]
  grind
end Go.Tr
