/- Part of the proof that TopPassedCard holds. -/
import Derived.Test.YtaepagegdgdlhaaGreatDoorAmLp
set_option linter.all false
namespace Go.Tr
structure Ent where
 name:au
 ino:Int
 jC:Int
deriving DecidableEq
structure Node where
 ino:Int
 kind:Int
 links:Int
 fd:Bool
 data:au
 fe:Bool
 jF:List Ent
 up:Int
deriving DecidableEq
structure Tree where
 fn:Bool
 nodes:List Node
 next:Int
 jC:Int
deriving DecidableEq
def mq:Node:=⟨0,0,0,true,[],true,[],0⟩
def AY:Tree:=⟨true,[⟨1,2,0,true,[],true,[],1⟩],2,1⟩
def find(l:List Node)(i:Int):Option Node:=l.find? λn=>decide (n.ino=i)
def oN(t:Tree)(i:Int):Int:=match find t.nodes i with
 |none=>70
 |some n=>if n.kind=2 then 0 else 73
def mK(t:Tree)(i:Int):Node:=match find t.nodes i with
 |none=>mq
 |some n=>if n.kind=2 then n else mq
def mU(n:Node)(s:au):Option Ent:=n.jF.find? λe=>decide (e.name=s)
def ins(n:Node)(l:List Node):List Node:=(l.takeWhile λm=>decide (m.ino<n.ino))++n::(l.dropWhile λm=>decide (m.ino<n.ino)).filter λm=>decide (m.ino≠n.ino)
def kG(t:Tree)(n:Node):Tree:=⟨false,ins n t.nodes,t.next,t.jC⟩
def oC(t:Tree)(i:Int):Tree:=⟨false,t.nodes.filter λm=>decide (m.ino≠i),t.next,t.jC⟩
def wm(lt:au->au->Bool)(e:Ent)(l:List Ent):List Ent:=(l.takeWhile λx=>!lt e.name x.name)++e::l.dropWhile λx=>!lt e.name x.name
def kI(t:Tree)(i:Int):Node:=(find t.nodes i).getD mq
def kJ(lt:au->au->Bool)(t:Tree)(i:Int)(s:au)(of:Int):Tree :=
 kG ⟨t.fn,t.nodes,t.next,t.jC+1⟩ {kI t i with fe:=false,jF:=wm lt ⟨s,of,t.jC⟩ (kI t i).jF}
def left(t:Tree)(i:Int)(s:au):Tree :=
 kG t {kI t i with fe:=false,jF:=(kI t i).jF.filter λe=>decide (e.name≠s)}
def GM(t:Tree)(i:Int):Int:=(find t.nodes i).elim 0 Node.up
def xz(t:Tree):Nat->Int->Nat
 |0,_=>0
 |k+1,i=>if i=1 then 0 else xz t k (GM t i)+1
def depth(t:Tree)(i:Int):Nat:=xz t 201 i
def Fj(t:Tree):Nat->Int->Int->Bool
 |0,_,_=>false
 |k+1,i,o=>if i=o then true else if i=1 then false else Fj t k (GM t i) o
def below(t:Tree)(i o:Int):Bool:=Fj t (t.nodes.length+1) i o
def full(t:Tree)(n:Node):Bool:=decide (64<=n.jF.length)||(decide (12<=depth t n.ino)||decide (1099511627776<=t.jC))
section
variable(ok:au->Bool)(lt:au->au->Bool)
def enter(t:Tree)(i:Int)(s:au):Int :=
 if oN t i≠0 then oN t i else if ok s=false then 60 else if (mU (mK t i) s).isSome=true then 71 else if full t (mK t i)=true then 76 else 0
def add(t:Tree)(i:Int)(s:au)(kind:Int):Tree×Int×Int :=
 if kind≠1/\kind≠2 then(t,0,1)else if enter ok t i s≠0 then(t,0,enter ok t i s)else if (200<=t.nodes.length\/1099511627776<=t.next)then(t,0,76)else
 (kJ lt (kG ⟨t.fn,t.nodes,t.next+1,t.jC⟩ ⟨t.next,kind,1,true,[],true,[],if kind=2 then i else 0⟩) i s t.next,t.next,0)
def ln(t:Tree)(i:Int)(to:Int)(s:au):Tree×Int :=
 match find t.nodes i with
 |none=>(t,70)
 |some n=>if n.kind=1/\n.links=0 then(t,70)else if n.kind=2 then(t,72)else if enter ok t to s≠0 then(t,enter ok t to s)else
  (kJ lt (kG t {n with links:=n.links+1}) to s i,0)
def look(t:Tree)(i:Int)(s:au):Int×Int :=
 if oN t i≠0 then(0,oN t i)else if ok s=false then(0,60)else match mU (mK t i) s with
 |none=>(0,70)
 |some e=>(e.ino,0)
def unnamed(t:Tree)(i:Int):Tree:=if (kI t i).kind=2 then oC t i else kG t {kI t i with links:=(kI t i).links-1}
def un(t:Tree)(i:Int)(s:au):Tree×Int×Int :=
 if (look ok t i s).2≠0 then(t,0,(look ok t i s).2)else if 0<(kI t (look ok t i s).1).jF.length then(t,0,74)else
 (unnamed (left t i s) (look ok t i s).1,(look ok t i s).1,0)
def high(t:Tree)(i:Int)(at_:Int):Int :=
 t.nodes.foldl (λm n=>if n.kind=2/\below t n.ino i=true then max m (at_+depth t n.ino-depth t i+if 0<n.jF.length then 1 else 0)else m) 0
def jD(t:Tree)(x:Node)(y:Int):Int:=match find t.nodes y with
 |none=>0
 |some n=>if x.kind=2/\n.kind≠2 then 73 else if x.kind≠2/\n.kind=2 then 72 else if 0<n.jF.length then 74 else 0
def ot(t:Tree)(to:Int)(as:au):Int:=(mU (mK t to) as).elim 0 Ent.ino
def Vw(t:Tree)(from_:Int)(s:au)(to:Int)(as:au)(i y:Int):Tree :=
 let u:=left t from_ s
 let u:=if y≠0 then unnamed (left u to as) y else u
 let u:=if (kI t i).kind=2 then kG u {kI t i with up:=to}else u
 kJ lt u to as i
def mv(t:Tree)(from_:Int)(s:au)(to:Int)(as:au):Tree×Int×Int :=
 if (look ok t from_ s).2≠0 then(t,0,(look ok t from_ s).2)else if oN t to≠0 then(t,0,oN t to)else if ok as=false then(t,0,60)else
 let i:=(look ok t from_ s).1
 let y:=ot t to as
 let x:=kI t i
 if y=i then(t,0,0)else if x.kind=2/\below t to i=true then(t,0,75)else if jD t x y≠0 then(t,0,jD t x y)else
 if (y=0/\to≠from_/\64<=(mK t to).jF.length)\/12<=depth t to\/(x.kind=2/\12<high t i (depth t to+1))\/1099511627776<=t.jC then(t,0,76)else
 (Vw lt t from_ s to as i y,y,0)
def free(t:Tree)(i:Int):Tree×Int:=match find t.nodes i with
 |none=>(t,70)
 |some n=>if n.kind=2 then(t,72)else if 0<n.links then(t,71)else(oC t i,0)
def names:List au:=[[97],[98],[99],[100],[101],[46,46]]
end
def ym(l:List Node):Prop:=l.Pairwise λm n=>m.ino<n.ino
def jY{l:List Node}{i:Int}{n:Node}(h:find l i=some n):n∈l/\n.ino=i:=⟨dx h,by simpa using ek h⟩
def mJ{l:List Node}(hs:ym l){n:Node}(h:n∈l):find l n.ino=some n:=by
 induction l with
 |nil=>cases h
 |cons m l ih =>
  let⟨h1,h2⟩:=bh.1 hs;unfold find;rw[eO]
  rcases aP.1 h with rfl | h
  .simp
  .have:=h1 n h;rw[decide_eq_false aa]
   exact ih h2 h
def uR{l:List Node}{i:Int}:find l i=none↔∀n∈l,n.ino≠i:=by
 unfold find;rw[dy];simp
def zR(n m:Node)(l:List Node)(hs:ym (m::l)):ins n (m::l)=if m.ino<n.ino then m::ins n l else if m.ino=n.ino then n::l else n::m::l:=by
 let⟨h1,_⟩:=bh.1 hs;unfold ins
 by_cases c1:m.ino<n.ino
 .simp[c1]
 .have hf:n.ino<=m.ino->(l.filter λm=>decide (m.ino≠n.ino))=l:=λh=>dY.2 λq hq=>by
   have:=h1 q hq;simp;omega
  have hf:=hf aa
  rw[if_neg c1,ir,fB,decide_eq_false c1];simp only[aU,if_false,bB,dD]
  by_cases c2:m.ino=n.ino
  .rw[if_pos c2,decide_eq_false (by simp[c2])]
   simp only[aU,if_false];rw[hf]
  .rw[if_neg c2,decide_eq_true c2];simp only[if_true];rw[hf]
def zQ{n m:Node}:∀ {l:List Node},ym l->(m∈ins n l↔m=n\/(m∈l/\m.ino≠n.ino))
 | [],_=>by simp[ins]
 |q::l,h=>by
  let⟨h1,h2⟩:=bh.1 h;have ih:=zQ (n:=n) (m:=m) h2;rw[zR n q l h];split
  .rename_i hc;rw[aP,ih,aP]
   constructor
   .rintro(rfl | h | h)
    .exact .inr ⟨.inl rfl,aa⟩
    .exact .inl h
    .exact .inr ⟨.inr h.1,h.2⟩
   .rintro(h | ⟨rfl | h,h'⟩)
    .exact .inr (.inl h)
    .exact .inl rfl
    .exact .inr (.inr ⟨h,h'⟩)
  .split
   .rename_i hc;rw[aP,aP]
    constructor
    .rintro(h | h)
     .exact .inl h
     .exact .inr ⟨.inr h,by have:=h1 m h;omega⟩
    .rintro(h | ⟨rfl | h,h'⟩)
     .exact .inl h
     .exact absurd hc h'
     .exact .inr h
   .rename_i hc1 yC;rw[aP,aP]
    constructor
    .rintro(h | rfl | h)
     .exact .inl h
     .exact .inr ⟨.inl rfl,yC⟩
     .exact .inr ⟨.inr h,by have:=h1 m h;omega⟩
    .rintro(h | ⟨h,h'⟩)
     .exact .inl h
     .exact .inr h
def xX{n:Node}:∀ {l:List Node},ym l->ym (ins n l)
 | [],_=>by simp[ins,ym]
 |q::l,h=>by
  let⟨h1,h2⟩:=bh.1 h;rw[zR n q l h];split
  .rename_i hc;refine bh.2 ⟨λm hm=>?_,xX h2⟩
   rcases(zQ h2).1 hm with rfl | hm
   .exact hc
   .exact h1 m hm.1
  .split
   .rename_i hc;exact bh.2 ⟨λm hm=>by have:=h1 m hm;omega,h2⟩
   .rename_i hc1 yC;refine bh.2 ⟨λm hm=>?_,h⟩
    rcases aP.1 hm with rfl | hm
    .omega
    .have:=h1 m hm;omega
def MG{n:Node}{l:List Node}(hs:ym l)(i:Int):find (ins n l) i=if i=n.ino then some n else find l i:=by
 have hs':=xX (n:=n) hs
 by_cases h:i=n.ino
 .subst h;rw[if_pos rfl];exact mJ hs' ((zQ hs).2 (.inl rfl))
 .rw[if_neg h];cases hf:find l i with
  |none =>
   rw[uR]at hf⊢;intro m hm
   rcases(zQ hs).1 hm with rfl | hm
   .exact λe=>h e.symm
   .exact hf m hm.1
  |some m =>
   obtain⟨h1,rfl⟩:=jY hf;exact mJ hs' ((zQ hs).2 (.inr ⟨h1,h⟩))
def EP{l:List Node}(h:ym l)(p:Node->Bool):ym (l.filter p):=jm p h
def Ae{l:List Node}(hs:ym l)(i j:Int):find (l.filter λm=>decide (m.ino≠i)) j=if j=i then none else find l j:=by
 by_cases h:j=i
 .rw[if_pos h,uR];intro n hn;have:=(cg.1 hn).2;simp at this;omega
 .rw[if_neg h];cases hf:find l j with
  |none =>
   rw[uR]at hf⊢;exact λn hn=>hf n (cg.1 hn).1
  |some m =>
   obtain⟨h1,rfl⟩:=jY hf;exact mJ (EP hs _) (cg.2 ⟨h1,an h⟩)
def Qi{n:Node}{l:List Node}(hs:ym l):(ins n l).length=if (find l n.ino).isSome=true then l.length else l.length+1:=by
 induction l with
 |nil=>rfl
 |cons q l ih =>
  let⟨h1,h2⟩:=bh.1 hs;rw[zR n q l hs];unfold find;rw[eO];split
  .rename_i hc;rw[decide_eq_false aa]
   have:=ih h2;unfold find at this;rw[aQ,this];simp only;split<;>simp
  .split
   .rename_i hc;rw[decide_eq_true hc];simp
   .rename_i hc1 yC;rw[decide_eq_false yC]
    have:List.find? (λm=>decide (m.ino=n.ino)) l=none:=by
     have:=(uR (l:=l) (i:=n.ino)).2 λm hm=>by have:=h1 m hm;omega
     exact this
    simp only[this];simp
def cN(n:Node)(i:Int):Nat:=(n.jF.filter λe=>decide (e.ino=i)).length
def cnt(l:List Node)(i:Int):Nat:=(l.map λn=>cN n i).sum
def cO(o:Option Node)(i:Int):Nat:=o.elim 0 λn=>cN n i
theorem nT(n:Node)(l:List Node)(i:Int):cnt (n::l) i=cN n i+cnt l i:=rfl
def BE(m:Node)(l:List Node)(i:Int):find (m::l) i=if m.ino=i then some m else find l i:=by
 unfold find;rw[eO]
 by_cases h:m.ino=i<;>simp[h]
def JE{n:Node}(i:Int):∀ {l:List Node},ym l->cnt (ins n l) i+cO (find l n.ino) i=cnt l i+cN n i
 | [],_=>by simp[ins,cnt,find,cO]
 |m::l,h=>by
  let⟨h1,h2⟩:=bh.1 h;have ih:=JE (n:=n) i h2;rw[zR n m l h,BE];split
  .rename_i hc;rw[if_neg aa,nT,nT]
   omega
  .split
   .rw[nT,nT];simp only[cO,bw];omega
   .rename_i hc1 yC;have:find l n.ino=none:=uR.2 λq hq=>by have:=h1 q hq;omega
    rw[this,nT];simp only[cO,cK];omega
def Cx(i j:Int):∀ {l:List Node},ym l->cnt (l.filter λm=>decide (m.ino≠j)) i+cO (find l j) i=cnt l i
 | [],_=>by simp[cnt,find,cO]
 |m::l,h=>by
  let⟨h1,h2⟩:=bh.1 h;have ih:=Cx i j h2;rw[BE,dD]
  by_cases hc:m.ino=j
  .have:(l.filter λm=>decide (m.ino≠j))=l:=dY.2 λq hq=>by have:=h1 q hq;simp;omega
   rw[if_pos hc,if_neg (an hc),this,nT]
   simp only[cO,bw];omega
  .rw[if_neg hc,if_pos (an hc),nT,nT]
   omega
variable{n:Node}{s:au}
def uj{i:Int}:0<cN n i↔∃e∈n.jF,e.ino=i:=by
 unfold cN;rw[List.length_pos_iff_exists_mem]
 constructor
 .rintro⟨e,he⟩
  let⟨h1,h2⟩:=cg.1 he;exact⟨e,h1,an h2⟩
 .rintro⟨e,h1,h2⟩
  exact⟨e,cg.2 ⟨h1,an h2⟩⟩
def Ap{i:Int}:∀ {l:List Node},0<cnt l i↔∃n∈l,0<cN n i
 | []=>by simp[cnt]
 |m::l=>by
  have ih:=Ap (i:=i) (l:=l);rw[nT]
  constructor
  .intro h
   by_cases hm:0<cN m i
   .exact⟨m,ah,hm⟩
   .let⟨n,h1,h2⟩:=ih.1 aa
    exact⟨n,by simp[h1],h2⟩
  .rintro⟨n,h1,h2⟩
   rcases aP.1 h1 with rfl | h1
   .omega
   .have:=ih.2 ⟨n,h1,h2⟩;omega
def HU{l:List Node}(h:n∈l)(i:Int):cN n i<=cnt l i:=by
 induction l with
 |nil=>cases h
 |cons m l ih =>
  rw[nT]
  rcases aP.1 h with rfl | h
  .omega
  .have:=ih h;omega
def QV{l:List Node}(hs:ym l){i:Int}(h:cnt l i=1){m:Node}(hm:m∈l)(hn:n∈l)(h1:0<cN m i)(h2:0<cN n i):m=n:=by
 induction l with
 |nil=>cases hm
 |cons q l ih =>
  let⟨g1,g2⟩:=bh.1 hs;rw[nT]at h
  rcases aP.1 hm with rfl | km
  .rcases aP.1 hn with rfl | kn
   .rfl
   .have:=HU kn i;omega
  .rcases aP.1 hn with rfl | kn
   .have:=HU km i;omega
   .have:=Ap.2 ⟨m,km,h1⟩;exact ih g2 aa km kn
section
variable{lt:au->au->Bool}
structure Ord(lt:au->au->Bool):Prop where
 irr:∀a,lt a a=false
 tr:∀a b c,lt a b=true->lt b c=true->lt a c=true
 tot:∀a b,lt a b=true\/a=b\/lt b a=true
def KH(lt:au->au->Bool)(l:List Ent):Prop:=l.Pairwise λa b=>lt a.name b.name=true
def Bk(e x:Ent)(l:List Ent):wm lt e (x::l)=if lt e.name x.name=true then e::x::l else x::wm lt e l:=by
 unfold wm;cases h:lt e.name x.name<;>simp[h]
def xY(e:Ent)(l:List Ent):(wm lt e l).Perm (e::l):=by
 induction l with
 |nil=>simp[wm]
 |cons x l ih =>
  rw[Bk];split
  .exact List.Perm.refl _
  .exact(List.Perm.cons x ih).trans (List.Perm.swap e x l)
def zS{e x:Ent}{l:List Ent}:x∈wm lt e l↔x=e\/x∈l:=by
 rw[(xY e l).mem_iff,aP]
def VZ(e:Ent)(l:List Ent):(wm lt e l).length=l.length+1:=by
 rw[(xY e l).length_eq,aQ]
def Ma(o:Ord lt){e:Ent}:∀ {l:List Ent},KH lt l->(∀x∈l,x.name≠e.name)->KH lt (wm lt e l)
 | [],_,_=>by simp[wm,KH]
 |x::l,h,hn=>by
  let⟨h1,h2⟩:=bh.1 h;rw[Bk];split
  .rename_i hc;refine bh.2 ⟨λy hy=>?_,h⟩
   rcases aP.1 hy with rfl | hy
   .exact hc
   .exact o.tr _ _ _ hc (h1 y hy)
  .rename_i hc;refine bh.2 ⟨λy hy=>?_,Ma o h2 λy hy=>hn y (by simp[hy])⟩
   rcases zS.1 hy with rfl | hy
   .rcases o.tot x.name y.name with h | h | h
    .exact h
    .exact absurd h (hn x ah)
    .exact absurd h hc
   .exact h1 y hy
def afH(n:Node)(e:Ent)(b:Bool)(i:Int):cN {n with fe:=b,jF:=wm lt e n.jF} i=cN n i+if e.ino=i then 1 else 0:=by
 unfold cN;simp only;rw[((xY (lt:=lt) e n.jF).filter _).length_eq,dD]
 by_cases h:e.ino=i<;>simp[h]
def qL{e:Ent}(h:mU n s=some e):e∈n.jF/\e.name=s:=⟨dx h,by simpa using ek h⟩
def EW:mU n s=none↔∀e∈n.jF,e.name≠s:=by
 unfold mU;rw[dy];simp
def tg(s:au)(l:List Ent):List Ent:=l.filter λe=>decide (e.name≠s)
def yV(o:Ord lt){s:au}{e:Ent}:∀ {l:List Ent},KH lt l->e∈l->e.name=s->(e::tg s l).Perm l
 | [],_,h,_=>by cases h
 |x::l,hs,h,hn=>by
  let⟨h1,h2⟩:=bh.1 hs;unfold tg;rw[dD]
  rcases aP.1 h with rfl | h
  .rw[if_neg (an hn)]
   have:(l.filter λe=>decide (e.name≠s))=l:=dY.2 λy hy=>by
    have:=h1 y hy;have hne:y.name≠s:=λh'=>by rw[h',hn,o.irr]at this;cases this
    simpa using hne
   rw[this]
  .have hx:x.name≠s:=λh'=>by
    have:=h1 e h;rw[h',hn,o.irr]at this;cases this
   rw[if_pos (an hx)]
   exact(List.Perm.swap x e _).trans (List.Perm.cons x (yV o h2 h hn))
def aaQ(o:Ord lt){e:Ent}(hs:KH lt n.jF)(h:mU n s=some e)(b:Bool)(i:Int):cN {n with fe:=b,jF:=tg s n.jF} i+(if e.ino=i then 1 else 0)=cN n i:=by
 let⟨h1,h2⟩:=qL h;have:=((yV o hs h1 h2).filter λe=>decide (e.ino=i)).length_eq
 unfold cN;simp only;rw[<-this,dD]
 by_cases h:e.ino=i<;>simp[h]
def HM(o:Ord lt){e:Ent}(hs:KH lt n.jF)(h:mU n s=some e):(tg s n.jF).length+1=n.jF.length:=by
 let⟨h1,h2⟩:=qL h;have:=(yV o hs h1 h2).length_eq;rw[<-this,aQ]
def ya{l:List Ent}{e:Ent}:e∈tg s l↔e∈l/\e.name≠s:=by
 unfold tg;rw[cg];simp
end
section
variable(ok:au->Bool)(lt:au->au->Bool)
structure ur(t:Tree)(l:List Ent):Prop where
 nm:∀e∈l,ok e.name=true
 ck:∀e∈l,1<=e.jC/\e.jC<t.jC
 to:∀e∈l,(find t.nodes e.ino).isSome=true
 oe:KH lt l
 dis:l.Pairwise λa b=>a.jC≠b.jC
 len:l.length<=64
structure CP(t:Tree)(M:Int->Nat):Prop where
 oe:ym t.nodes
 pos:∀i n,find t.nodes i=some n->1<=i/\i<t.next
 nxt:t.next<=1099511627776
 ck1:1<=t.jC
 ck2:t.jC<=1099511627776
 len:t.nodes.length<=200
 root:∃r,find t.nodes 1=some r/\r.kind=2/\r.up=1/\r.links=0
 JF:cnt t.nodes 1=0
 file:∀i n,find t.nodes i=some n->n.kind=1->n.jF=[]/\n.up=0/\n.data.length<=4096/\n.links=(cnt t.nodes i+M i:Nat)
 dir:∀i n,find t.nodes i=some n->n.kind=2->n.data=[]/\ur ok lt t n.jF
 KP:∀i n,find t.nodes i=some n->n.kind=2->i≠1->cnt t.nodes i+M i=1/\n.links=1
 par:∀i n,find t.nodes i=some n->n.kind=2->i≠1->M i=0->∃p,find t.nodes n.up=some p/\cN p i=1
 kind:∀i n,find t.nodes i=some n->n.kind=1\/n.kind=2
end
variable{ok:au->Bool}{lt:au->au->Bool}{t:Tree}{M:Int->Nat}
def inc(M:Int->Nat)(i:Int):Int->Nat:=λk=>M k+if k=i then 1 else 0
def dec(M:Int->Nat)(i:Int):Int->Nat:=λk=>M k-if k=i then 1 else 0
def QO(M:Int->Nat)(i:Int):dec (inc M i) i=M:=by
 funext k
 unfold dec inc;split<;>omega
variable{i:Int}{n:Node}
def kN{l:List Node}(h:find l i=some n):n.ino=i:=(jY h).2
def Vu(w:CP ok lt t M)(h:0<cnt t.nodes i):(find t.nodes i).isSome=true:=by
 let⟨n,hn,hc⟩:=Ap.1 h;obtain⟨e,he,rfl⟩:=uj.1 hc;have hf:=mJ w.oe hn
 rcases w.kind _ _ hf with hk | hk
 .rw[(w.file _ _ hf hk).1]at he;cases he
 .exact(w.dir _ _ hf hk).2.to e he
def zY(w:CP ok lt t M)(hf:find t.nodes i=some n){e:Ent}(he:e∈n.jF):n.kind=2:=by
 rcases w.kind _ _ hf with hk | hk
 .rw[(w.file _ _ hf hk).1]at he;cases he
 .exact hk
def vG(w:ym t.nodes)(n:Node)(i:Int):find (kG t n).nodes i=if i=n.ino then some n else find t.nodes i:=MG w i
def BJ(w:ym t.nodes){m:Node}(h:find t.nodes n.ino=some m)(i:Int):cnt (kG t n).nodes i+cN m i=cnt t.nodes i+cN n i:=by
 have:=JE (n:=n) i w;rw[h]at this;exact this
def Bb(w:ym t.nodes){m:Node}(h:find t.nodes n.ino=some m):(kG t n).nodes.length=t.nodes.length:=by
 have:=Qi (n:=n) w;rw[h]at this;unfold kG
 simpa using this
def mh(h:find t.nodes i=some n):kI t i=n:=by unfold kI;rw[h];rfl
def ur.mono{l:List Ent}(h:ur ok lt t l){t':Tree}(hc:t.jC<=t'.jC)(hf:∀i,(find t.nodes i).isSome=true->(find t'.nodes i).isSome=true):ur ok lt t' l :=
 ⟨h.nm,λe he=>by have:=h.ck e he;omega,λe he=>hf _ (h.to e he),h.oe,h.dis,h.len⟩
def ur.drop{l:List Ent}(h:ur ok lt t l)(s:au):ur ok lt t (tg s l) :=
 ⟨λe he=>h.nm e (ya.1 he).1,λe he=>h.ck e (ya.1 he).1,λe he=>h.to e (ya.1 he).1,h.oe.filter _,h.dis.filter _,cQ (cr ..) h.len⟩
def CP.left(o:Ord lt)(w:CP ok lt t M){p:Node}(hp:find t.nodes i=some p)(hd:p.kind=2){s:au}{e:Ent}(he:mU p s=some e):CP ok lt (left t i s) (inc M e.ino):=by
 have hpi:=kN hp;have lJ:=(w.dir _ _ hp hd).2;obtain⟨n,hn⟩:∃n,n={p with fe:=false,jF:=tg s p.jF}:=⟨_,rfl⟩
 have hni:n.ino=i:=by rw[hn];exact hpi
 have hl:Tr.left t i s=kG t n:=by unfold Tr.left;rw[mh hp,hn];rfl
 have NB:find t.nodes n.ino=some p:=by rw[hni];exact hp
 have hf:=λj=>vG w.oe n j
 have hc:=λj=>BJ w.oe NB j
 have Mo:∀j,cN n j+(if e.ino=j then 1 else 0)=cN p j:=λj=>by rw[hn];exact aaQ o lJ.oe he false j
 have hme:=qL he
 have hsome:∀j,(find t.nodes j).isSome=true->(find (kG t n).nodes j).isSome=true:=λj h=>by
  rw[hf];split
  .rfl
  .exact h
 rw[hl];have hnk:n.kind=p.kind:=by rw[hn]
 have Jb:n.up=p.up:=by rw[hn]
 have hnl:n.links=p.links:=by rw[hn]
 have C5:n.data=p.data:=by rw[hn]
 have hne:n.jF=tg s p.jF:=by rw[hn]
 have hcm:∀j,cnt (kG t n).nodes j+(if e.ino=j then 1 else 0)=cnt t.nodes j:=λj=>by have:=hc j;have:=Mo j;omega
 have hie:e.ino≠1:=λh1=>by
  have h2:0<cN p 1:=uj.2 ⟨e,hme.1,h1⟩;have h3:=HU (jY hp).1 1;have:=w.JF;omega
 refine⟨xX w.oe,λj m hj=>?_,w.nxt,w.ck1,w.ck2,by rw[Bb w.oe NB];exact w.len,?_,?_,λj m hj hk=>?_,λj m hj hk=>?_,λj m hj hk h1=>?_,λj m hj hk h1 hM=>?_,λj m hj=>?_⟩
 .rw[hf]at hj;split at hj
  .rename_i h;subst h;rw[hni];exact w.pos _ _ hp
  .exact w.pos _ _ hj
 .let⟨r,h1,h2,h3,h4⟩:=w.root;rw[hf]
  by_cases h:1=n.ino
  .rw[if_pos h];rw[hni]at h;subst h;rw[hp]at h1;cases h1;exact⟨n,rfl,by rw[hnk];exact h2,by rw[Jb];exact h3,by rw[hnl];exact h4⟩
  .rw[if_neg h];exact⟨r,h1,h2,h3,h4⟩
 .have:=hcm 1;have:=w.JF;omega
 .rw[hf]at hj;have:=hcm j;split at hj
  .cases hj;omega
  .let⟨g1,g2,g3,g4⟩:=w.file _ _ hj hk;refine⟨g1,g2,g3,?_⟩;rw[g4];unfold inc
   by_cases wC:j=e.ino
   .subst wC;simp at this⊢;omega
   .rw[if_neg (λh=>wC h.symm)]at this;rw[if_neg wC];omega
 .rw[hf]at hj;split at hj
  .cases hj;refine⟨by rw[C5];exact(w.dir _ _ hp hd).1,?_⟩
   rw[hne];exact(lJ.drop s).mono (fG _) hsome
  .let⟨g1,g2⟩:=w.dir _ _ hj hk;exact⟨g1,g2.mono (fG _) hsome⟩
 .have hcj:=hcm j;have key:cnt t.nodes j+M j=1/\m.links=1:=by
   rw[hf]at hj;split at hj
   .rename_i h;cases hj;rw[hni]at h;subst h;have:=w.KP _ _ hp hd h1;rw[hnl];exact this
   .exact w.KP _ _ hj hk h1
  refine⟨?_,key.2⟩;unfold inc
  by_cases wC:j=e.ino
  .subst wC;simp at hcj⊢;omega
  .rw[if_neg (λh=>wC h.symm)]at hcj;rw[if_neg wC];omega
 .have wC:j≠e.ino:=λh=>by unfold inc at hM;rw[if_pos h]at hM;omega
  have Jn:M j=0:=by unfold inc at hM;rw[if_neg wC]at hM;exact hM
  have key:∃q,find t.nodes m.up=some q/\cN q j=1:=by
   rw[hf]at hj;split at hj
   .rename_i h;cases hj;rw[hni]at h;subst h;rw[Jb];exact w.par _ _ hp hd h1 Jn
   .exact w.par _ _ hj hk h1 Jn
  let⟨q,q1,q2⟩:=key;rw[hf]
  by_cases h:m.up=n.ino
  .rw[if_pos h];rw[h,NB]at q1;cases q1;refine⟨n,rfl,?_⟩;have:=Mo j;rw[if_neg (λh=>wC h.symm)]at this
   omega
  .rw[if_neg h];exact⟨q,q1,q2⟩
 .rw[hf]at hj;split at hj
  .cases hj;rw[hnk];exact .inr hd
  .exact w.kind _ _ hj
def CP.kJ(o:Ord lt)(w:CP ok lt t M){p:Node}(hp:find t.nodes i=some p)(hd:p.kind=2){s:au}(hs:ok s=true)(hno:∀e∈p.jF,e.name≠s)(hlen:p.jF.length<64)(oV:t.jC<1099511627776)
  {of:Int} {m:Node} (hm:find t.nodes of=some m) (hM:1<=M of) (ho1:of≠1) (F9:m.kind=2->m.up=i):CP ok lt (kJ lt t i s of) (dec M of):=by
 have hpi:=kN hp;have lJ:=(w.dir _ _ hp hd).2;obtain⟨e,he⟩:∃e:Ent,e=⟨s,of,t.jC⟩:=⟨_,rfl⟩;obtain⟨n,hn⟩:∃n,n={p with fe:=false,jF:=wm lt e p.jF}:=⟨_,rfl⟩
 obtain⟨u,hu⟩:∃u:Tree,u=⟨t.fn,t.nodes,t.next,t.jC+1⟩:=⟨_,rfl⟩;have hun:u.nodes=t.nodes:=by rw[hu]
 have hni:n.ino=i:=by rw[hn];exact hpi
 have hl:Tr.kJ lt t i s of=kG u n:=by unfold Tr.kJ;rw[mh hp,hn,he,hu]
 have NB:find u.nodes n.ino=some p:=by rw[hni,hun];exact hp
 have wu:ym u.nodes:=by rw[hun];exact w.oe
 have hf:=λj=>vG wu n j
 have hc:=λj=>BJ wu NB j
 have Mo:∀j,cN n j=cN p j+(if e.ino=j then 1 else 0):=λj=>by rw[hn];exact afH p e false j
 have heo:e.ino=of:=by rw[he]
 rw[hun]at hc;simp only[hun]at hf
 have hsome:∀j,(find t.nodes j).isSome=true->(find (kG u n).nodes j).isSome=true:=λj h=>by
  rw[hf];split
  .rfl
  .exact h
 rw[hl];have hnk:n.kind=p.kind:=by rw[hn]
 have Jb:n.up=p.up:=by rw[hn]
 have hnl:n.links=p.links:=by rw[hn]
 have C5:n.data=p.data:=by rw[hn]
 have hne:n.jF=wm lt e p.jF:=by rw[hn]
 have hcm:∀j,cnt (kG u n).nodes j=cnt t.nodes j+(if of=j then 1 else 0):=λj=>by have:=hc j;have:=Mo j;rw[heo]at this;omega
 have aaf:(kG u n).jC=t.jC+1:=by unfold kG;rw[hu]
 have YF:(kG u n).next=t.next:=by unfold kG;rw[hu]
 refine⟨xX wu,λj m hj=>?_,by rw[YF];exact w.nxt,by rw[aaf];have:=w.ck1;omega,by rw[aaf];omega,by rw[Bb wu NB,hun];exact w.len,?_,?_,λj m hj hk=>?_,λj m hj hk=>?_,λj m hj hk h1=>?_,λj q hj hk h1 hM'=>?_,λj m hj=>?_⟩
 .rw[hf]at hj;rw[YF];split at hj
  .rename_i h;subst h;rw[hni];exact w.pos _ _ hp
  .exact w.pos _ _ hj
 .let⟨r,h1,h2,h3,h4⟩:=w.root;rw[hf]
  by_cases h:1=n.ino
  .rw[if_pos h];rw[hni]at h;subst h;rw[hp]at h1;cases h1;exact⟨n,rfl,by rw[hnk];exact h2,by rw[Jb];exact h3,by rw[hnl];exact h4⟩
  .rw[if_neg h];exact⟨r,h1,h2,h3,h4⟩
 .have:=hcm 1;rw[if_neg ho1]at this;have:=w.JF;omega
 .rw[hf]at hj;have:=hcm j;split at hj
  .cases hj;omega
  .let⟨g1,g2,g3,g4⟩:=w.file _ _ hj hk;refine⟨g1,g2,g3,?_⟩;rw[g4];unfold dec
   by_cases wC:j=of
   .subst wC;simp at this⊢;omega
   .rw[if_neg (λh=>wC h.symm)]at this;rw[if_neg wC];omega
 .rw[hf]at hj;split at hj
  .cases hj;refine⟨by rw[C5];exact(w.dir _ _ hp hd).1,?_⟩
   rw[hne];have hen:∀x∈p.jF,x.name≠e.name:=λx hx=>by rw[he];exact hno x hx
   refine⟨λx hx=>?_,λx hx=>?_,λx hx=>?_,Ma o lJ.oe hen,?_,by rw[VZ];omega⟩
   .rcases zS.1 hx with rfl | hx
    .rw[he];exact hs
    .exact lJ.nm x hx
   .rw[aaf]
    rcases zS.1 hx with rfl | hx
    .rw[he];have:=w.ck1;simp only;omega
    .have:=lJ.ck x hx;omega
   .refine hsome _ ?_
    rcases zS.1 hx with rfl | hx
    .rw[heo,hm];rfl
    .exact lJ.to x hx
   .refine((xY (lt:=lt) e p.jF).pairwise_iff λh=>h.symm).2 (bh.2 ⟨λx hx=>?_,lJ.dis⟩)
    have:=lJ.ck x hx;rw[he];simp only;omega
  .let⟨g1,g2⟩:=w.dir _ _ hj hk;exact⟨g1,g2.mono (by rw[aaf];omega) hsome⟩
 .have hcj:=hcm j;have key:cnt t.nodes j+M j=1/\m.links=1:=by
   rw[hf]at hj;split at hj
   .rename_i h;cases hj;rw[hni]at h;subst h;have:=w.KP _ _ hp hd h1;rw[hnl];exact this
   .exact w.KP _ _ hj hk h1
  refine⟨?_,key.2⟩;unfold dec
  by_cases wC:j=of
  .subst wC;simp at hcj⊢;omega
  .rw[if_neg (λh=>wC h.symm)]at hcj;rw[if_neg wC];omega
 .have hqm:find t.nodes j=some q\/(j=i/\q=n):=by
   rw[hf]at hj;split at hj
   .rename_i h;cases hj;exact .inr ⟨by rw[h,hni],rfl⟩
   .exact .inl hj
  by_cases wC:j=of
  .subst wC;have hqu:q.up=i/\cnt t.nodes j+M j=1:=by
    rcases hqm with h | ⟨h,rfl⟩
    .rw[hm]at h;cases h;exact⟨F9 hk,(w.KP _ _ hm hk h1).1⟩
    .subst h;rw[hp]at hm;cases hm;exact⟨by rw[Jb];exact F9 hd,(w.KP _ _ hp hd h1).1⟩
   refine⟨n,by rw[hf,hqu.1,if_pos hni.symm],?_⟩
   have g1:=Mo j;rw[heo,if_pos rfl]at g1;have g2:=HU (jY hp).1 j;omega
  .have Jn:M j=0:=by unfold dec at hM';rw[if_neg wC]at hM';omega
   have key:∃r,find t.nodes q.up=some r/\cN r j=1:=by
    rcases hqm with h | ⟨h,rfl⟩
    .exact w.par _ _ h hk h1 Jn
    .subst h;rw[Jb];exact w.par _ _ hp hd h1 Jn
   let⟨r,q1,q2⟩:=key;rw[hf]
   by_cases h:q.up=n.ino
   .rw[if_pos h];rw[h,hni,hp]at q1;cases q1;refine⟨n,rfl,?_⟩;have:=Mo j;rw[heo,if_neg (λh=>wC h.symm)]at this
    omega
   .rw[if_neg h];exact⟨r,q1,q2⟩
 .rw[hf]at hj;split at hj
  .cases hj;rw[hnk];exact .inr hd
  .exact w.kind _ _ hj
def CP.set(w:CP ok lt t M){p:Node}(hp:find t.nodes i=some p)(hni:n.ino=i)(hkp:n.kind=p.kind)(he:n.jF=p.jF)(M':Int->Nat)(hM:∀j,j≠i->M' j=M j)
  (akJ:n.kind=1->n.up=0/\n.data.length<=4096/\n.links=(cnt t.nodes i+M' i:Nat))
  (OL:n.kind=2->n.data=[]/\n.links=p.links/\M' i=M i/\(n.up=p.up\/(i≠1/\M i≠0))):CP ok lt (kG t n) M':=by
 have NB:find t.nodes n.ino=some p:=by rw[hni];exact hp
 have hf:=λj=>vG w.oe n j
 have hc:=λj=>BJ w.oe NB j
 have Mo:∀j,cN n j=cN p j:=λj=>by unfold cN;rw[he]
 have hsome:∀j,(find t.nodes j).isSome=true->(find (kG t n).nodes j).isSome=true:=λj h=>by
  rw[hf];split
  .rfl
  .exact h
 have hcm:∀j,cnt (kG t n).nodes j=cnt t.nodes j:=λj=>by have:=hc j;have:=Mo j;omega
 have nc:∀j m,find (kG t n).nodes j=some m->(j=i/\m=n)\/(j≠i/\find t.nodes j=some m):=λj m hj=>by
  rw[hf,hni]at hj;split at hj
  .rename_i h;cases hj;exact .inl ⟨h,rfl⟩
  .rename_i h;exact .inr ⟨h,hj⟩
 refine⟨xX w.oe,λj m hj=>?_,w.nxt,w.ck1,w.ck2,by rw[Bb w.oe NB];exact w.len,?_,by rw[hcm];exact w.JF,λj m hj hk=>?_,λj m hj hk=>?_,λj m hj hk h1=>?_,λj m hj hk h1 Jn=>?_,λj m hj=>?_⟩
 .rcases nc j m hj with⟨rfl,rfl⟩ | ⟨_,hj⟩
  .exact w.pos _ _ hp
  .exact w.pos _ _ hj
 .let⟨r,h1,h2,h3,h4⟩:=w.root;rw[hf,hni]
  by_cases h:1=i
  .rw[if_pos h];subst h;rw[hp]at h1;cases h1;let⟨_,g2,_,g4⟩:=OL (by rw[hkp];exact h2)
   refine⟨n,rfl,by rw[hkp];exact h2,?_,by rw[g2];exact h4⟩
   rcases g4 with g4 | g4
   .rw[g4];exact h3
   .exact absurd rfl g4.1
  .rw[if_neg h];exact⟨r,h1,h2,h3,h4⟩
 .rw[hcm]
  rcases nc j m hj with⟨rfl,rfl⟩ | ⟨hji,hj⟩
  .refine⟨?_,akJ hk⟩;rw[he];exact(w.file _ _ hp (hkp.symm.trans hk)).1
  .let⟨g1,g2,g3,g4⟩:=w.file _ _ hj hk;exact⟨g1,g2,g3,by rw[hM j hji];exact g4⟩
 .rcases nc j m hj with⟨rfl,rfl⟩ | ⟨hji,hj⟩
  .refine⟨(OL hk).1,?_⟩;rw[he];exact(w.dir _ _ hp (hkp.symm.trans hk)).2.mono (fG _) hsome
  .let⟨g1,g2⟩:=w.dir _ _ hj hk;exact⟨g1,g2.mono (fG _) hsome⟩
 .rw[hcm]
  rcases nc j m hj with⟨rfl,rfl⟩ | ⟨hji,hj⟩
  .let⟨g1,g2,g3,g4⟩:=OL hk;rw[g3,g2];exact w.KP _ _ hp (hkp.symm.trans hk) h1
  .rw[hM j hji];exact w.KP _ _ hj hk h1
 .have key:∃q,find t.nodes m.up=some q/\cN q j=1:=by
   rcases nc j m hj with⟨rfl,rfl⟩ | ⟨hji,hj⟩
   .let⟨g1,g2,g3,g4⟩:=OL hk;rw[g3]at Jn
    rcases g4 with g4 | g4
    .rw[g4];exact w.par _ _ hp (hkp.symm.trans hk) h1 Jn
    .exact absurd Jn g4.2
   .rw[hM j hji]at Jn;exact w.par _ _ hj hk h1 Jn
  let⟨q,q1,q2⟩:=key;rw[hf,hni]
  by_cases h:m.up=i
  .rw[if_pos h];rw[h,hp]at q1;cases q1;exact⟨n,rfl,by rw[Mo];exact q2⟩
  .rw[if_neg h];exact⟨q,q1,q2⟩
 .rcases nc j m hj with⟨rfl,rfl⟩ | ⟨hji,hj⟩
  .rw[hkp];exact w.kind _ _ hp
  .exact w.kind _ _ hj
abbrev Ar:=Int×List Node
def nO(mM:Node->Int)(l:List Node)(g:Int):List Node:=l.filter λn=>decide (mM n=g)
def lg(mM:Node->Int)(l:List Node):ax->List Ar
 | []=>[]
 |g::gs=>if nO mM l g=[]then lg mM l gs else((g:Int),nO mM l g)::lg mM l gs
def uN(f:List Ar)(g:Int):Option Ar:=f.find? λx=>decide (x.1=g)
def CL(did:aB)(f n:List Ar):ax->List Ar
 | []=>[]
 |g::gs=>match uN (if did g=true then n else f) g with
  |some x=>x::CL did f n gs
  |none=>CL did f n gs
variable{mM GB:Node->Int}{l:List Node}
def w8:∀ {gs:ax} {x:Ar},x∈lg mM l gs->∃g∈gs,x=((g:Int),nO mM l g)/\nO mM l g≠[]
 | [],x,h=>by cases h
 |g::gs,x,h=>by
  rw[lg]at h;split at h
  .let⟨a,h1,h2⟩:=w8 h;exact⟨a,bt _ h1,h2⟩
  .rename_i hne
   rcases aP.1 h with rfl | h
   .exact⟨g,bu,rfl,hne⟩
   .let⟨a,h1,h2⟩:=w8 h;exact⟨a,bt _ h1,h2⟩
def vp:∀ {gs:ax},gs.Nodup->∀g∈gs,uN (lg mM l gs) g=if nO mM l g=[]then none else some ((g:Int),nO mM l g)
 | [],_,g,h=>by cases h
 |a::gs,hn,g,h=>by
  rw[dg]at hn;rw[lg]
  by_cases ha:g=a
  .subst ha;split
   .unfold uN;rw[dy];intro x hx;obtain⟨b,h1,rfl,_⟩:=w8 hx;simp only[decide_eq_true_eq];intro e;have:b=g:=by omega
    exact hn.1 (this▸h1)
   .simp[uN]
  .have hg:g∈gs:=by
    rcases aP.1 h with h | h
    .exact absurd h ha
    .exact h
   have ih:=vp hn.2 g hg;split
   .exact ih
   .have:¬((a:Int)=(g:Int)):=λe=>ha aa
    unfold uN at ih⊢;rw[iU (an this)]
    exact ih
def On{gs hs:ax}(h:∀g∈hs,nO mM l g=[]):lg mM l (gs++hs)=lg mM l gs:=by
 induction gs with
 |nil =>
  induction hs with
  |nil=>rfl
  |cons g hs ih =>
   rw[bB,lg.eq_2 mM l g hs,if_pos (h g bu)];exact ih λg hg=>h g (bt _ hg)
 |cons g gs ih=>rw[bK,lg.eq_2 mM l g (gs++hs),lg.eq_2 mM l g gs,ih]
def Cf(h:∀n∈l,mM n<4):lg mM l [0,1,2,3,4,5,6,7]=lg mM l [0,1,2,3] :=
 On (gs:=[0,1,2,3]) (hs:=[4,5,6,7]) λg hg=>by
  unfold nO;rw[iW];intro n hn;have:=h n hn;simp only[aP,gV,or_false]at hg;simp only[decide_eq_true_eq]
  rcases hg with rfl | rfl | rfl | rfl<;>omega
def LN{did:aB}:∀ {gs:ax},(∀g∈gs,g<4)->(∀g∈gs,did g=false->nO GB l g=nO mM l g)->CL did (lg mM l [0,1,2,3]) (lg GB l [0,1,2,3]) gs=lg GB l gs
 | [],_,_=>rfl
 |g::gs,h4,h=>by
  rw[CL,lg.eq_2 GB l g gs,LN (λg hg=>h4 g (bt _ hg)) λg hg=>h g (bt _ hg)]
  have hm:g∈[0,1,2,3]:=by
   have:=h4 g bu;simp only[aP,gV,or_false];omega
  have e:uN (if did g=true then lg GB l [0,1,2,3]else lg mM l [0,1,2,3]) g=if nO GB l g=[]then none else some ((g:Int),nO GB l g):=by
   split
   .exact vp af g hm
   .rename_i hd;rw[vp af g hm,h g bu (an hd)]
  rw[e];split<;>rename_i hx
  .split at hx
   .cases hx
   .rename_i hne;cases hx;rw[if_neg hne]
  .split at hx
   .rename_i hne;rw[if_pos hne]
   .cases hx
def VC{did:aB}(hd:∀g,g<4->did g=false)(gs:ax)(h4:∀g∈gs,g<4)(n:List Ar):CL did (lg mM l [0,1,2,3]) n gs=lg mM l gs:=by
 induction gs with
 |nil=>rfl
 |cons g gs ih =>
  have hg:=h4 g bu
  have e:uN (if did g=true then n else lg mM l [0,1,2,3]) g=if nO mM l g=[]then none else some ((g:Int),nO mM l g):=by
   have hm:g∈[0,1,2,3]:=by
    simp only[aP,gV,or_false];omega
   rw[hd g hg,<-vp af g hm]
   rfl
  rw[CL,lg.eq_2 mM l g gs,ih λg hg=>h4 g (bt _ hg),e]
  split<;>rename_i hx
  .split at hx
   .cases hx
   .rename_i hne;cases hx;rw[if_neg hne]
  .split at hx
   .rename_i hne;rw[if_pos hne]
   .cases hx
def Vd{a b g:Int}(hag:g≠a)(hbg:g≠b)(h:∀n∈l,GB n=mM n\/mM n=a/\GB n=b):nO GB l g=nO mM l g:=by
 unfold nO;apply List.filter_congr;intro n hn
 rcases h n hn with h | ⟨h1,h2⟩
 .rw[h]
 .rw[h1,h2,decide_eq_false (λe=>hbg e.symm),decide_eq_false (λe=>hag e.symm)]
def qQ(l:List Node):Prop:=l.Pairwise λa b=>a.ino<b.ino
def n9:List Ar->List Node
 | []=>[]
 |x::f=>x.2++n9 f
def IC(p q:Node->Bool)(h:∀n∈l,p n=true->q n=false):(l.filter p++l.filter q).Perm (l.filter λn=>p n||q n):=by
 induction l with
 |nil=>simp
 |cons n l ih =>
  have ih:=ih λn hn=>h n (bt _ hn)
  cases hp:p n with
  |true =>
   have hq:=h n bu hp
   simpa[hp,hq]using ih
  |false =>
   cases hq:q n with
   |true =>
    simp only[dD,hp,hq,iw];exact(List.perm_middle).trans (an ih)
   |false=>simpa[hp,hq]using ih
def Hg:∀ {gs:ax},gs.Nodup->(n9 (lg mM l gs)).Perm (l.filter λn=>gs.any λg=>decide (mM n=(g:Int)))
 | [],_=>by simp[lg,n9]
 |g::gs,hn=>by
  rw[dg]at hn;have ih:=Hg (gs:=gs) hn.2
  have e:n9 (lg mM l (g::gs))=nO mM l g++n9 (lg mM l gs):=by
   rw[lg];split
   .rename_i h;rw[h];rfl
   .rfl
  rw[e];refine((List.Perm.refl _).append ih).trans ?_
  have:=IC (l:=l) (λn=>decide (mM n=(g:Int))) (λn=>gs.any λg=>decide (mM n=(g:Int))) λn _ h=>by
   rw[List.any_eq_false];intro b hb;simp only[decide_eq_true_eq]at h⊢;intro e;have:b=g:=aa
   exact hn.1 (this▸hb)
  simpa[nO]using this
def GR:∀ {a b:List Node},a.Perm b->qQ a->qQ b->a=b
 | [],b,h,_,_=>(List.Perm.nil_eq h)
 |x::a,[],h,_,_=>by simp at h
 |x::a,y::b,h,ha,hb=>by
  have hxy:x=y:=by
   have hx:x∈y::b:=h.subset bu;have hy:y∈x::a:=h.symm.subset bu
   rcases aP.1 hx with e | hx
   .exact e
   .rcases aP.1 hy with e | hy
    .exact e.symm
    .have h1:=(bh.1 ha).1 y hy;have h2:=(bh.1 hb).1 x hx;omega
  subst hxy;rw[GR ((List.perm_cons x).1 h) (bh.1 ha).2 (bh.1 hb).2]
end Go.Tr
