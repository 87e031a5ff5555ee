/- Part of the proof that TopStepsCard holds. -/
import Derived.Test.YtghgbehknhmnaaaGreatDoorHoC
set_option linter.all false
namespace Go.Tr
def Q0(t:Tree)(i j:Int):Prop:=∃e∈(iS t i).b7,e.ino=j
inductive Ru(t:Tree)(i:Int):Int->Prop
 |one {j:Int}:Q0 t i j->Ru t i j
 |more {j k:Int}:Ru t i j->Q0 t j k->Ru t i k
def Ru.trans{t:Tree}{i j k:Int}(h:Ru t i j)(h':Ru t j k):Ru t i k:=by
 induction h' with
 |one h1=>exact .more h h1
 |more _ h2 b=>exact .more b h2
def IA(t:Tree)(s:ay):Nat:=(t.nodes.filter λq=>!s.contains q.ino).length
def xG(t:Tree):Nat->Int->ay×Int->ay×Int
 |0,_,s=>s
 |k+1,i,s=>(iS t i).b7.foldl (λs e=>if s.1.contains e.ino=true then s else xG t k e.ino (s.1++[e.ino],s.2)) (s.1,s.2+((iS t i).data.length:Int))
def ri(t:Tree)(k:Nat)(s:ay×Int)(e:Ent):ay×Int:=if s.1.contains e.ino=true then s else xG t k e.ino (s.1++[e.ino],s.2)
theorem CQ(t:Tree)(k:Nat)(i:Int)(s:ay×Int):xG t (k+1) i s=(iS t i).b7.foldl (ri t k) (s.1,s.2+((iS t i).data.length:Int)):=rfl
def EI{t:Tree}{s s':ay}(h:∀x∈s,x∈s'):IA t s'<=IA t s:=by
 unfold IA;refine List.Sublist.length_le ?_
 have:(t.nodes.filter λq=>!s'.contains q.ino)=(t.nodes.filter λq=>!s.contains q.ino).filter λq=>!s'.contains q.ino:=by
  rw[dN];refine dm λq _=>?_
  by_cases b:q.ino∈s'
  .simp[b]
  .have:q.ino∉s:=λh'=>b (h _ h')
   simp[b,this]
 grind[List.filter_sublist]
def EH{t:Tree}{s:ay}{x:Int}(y:(find t.nodes x).isSome=true)(r:x∉s):IA t (s++[x])<IA t s:=by
 let⟨q,v⟩:=bL.1 y;let⟨i,n⟩:=fk v;unfold IA
 have h1:(t.nodes.filter λq=>!(s++[x]).contains q.ino)=(t.nodes.filter λq=>!s.contains q.ino).filter λq=>!decide (q.ino=x):=by
  rw[dN];refine dm λp _=>?_
  by_cases h:p.ino=x
  .simp[h]
  .by_cases b:p.ino∈s<;>simp[h,b]
 rw[h1];have h2:q∈t.nodes.filter λq=>!s.contains q.ino:=bY.2 ⟨i,by rw[n];simpa using r⟩
 generalize(t.nodes.filter λq=>!s.contains q.ino)=l at *
 clear h1 i
 induction l with
 |nil=>cases h2
 |cons p l o =>
  rw[bN,aQ]
  rcases bw.1 h2 with rfl | h2
  .have:=bt (λq:Node=>!decide (q.ino=x)) l
   simp only[n,decide_true,eE,aX,if_false];omega
  .have:=o h2;split
   .rw[aQ];omega
   .omega
def dat(t:Tree)(i:Int):Int:=((iS t i).data.length:Int)
def tq(t:Tree)(l:ay):Int:=(l.map (dat t)).sum
def Gm(t:Tree)(a b:ay):tq t (a++b)=tq t a+tq t b:=by
 unfold tq;rw[List.map_append,List.sum_append]
theorem pM(t:Tree)(x:Int)(l:ay):tq t (x::l)=dat t x+tq t l:=rfl
section
variable{ok:au->Bool}{lt:au->au->Bool}{t:Tree}
def rZ(w:WF ok lt t){i:Int}{e:Ent}(b:e∈(iS t i).b7):(find t.nodes e.ino).isSome=true:=by
 unfold iS at b;cases h:find t.nodes i with
 |none=>rw[h]at b;cases b
 |some q =>
  rw[h]at b;have b:e∈q.b7:=b;exact(w.wf.dir _ _ h (D6 w.wf h b)).2.to e b
structure Post(t:Tree)(s:ay×Int)(r:ay×Int)(new:ay)(P:Int->Prop):Prop where
 eq:r.1=s.1++new
 nd:r.1.Nodup
 node:∀x∈r.1,(find t.nodes x).isSome=true
 from_:∀x∈new,P x
 cl:∀x∈new,∀j,Q0 t x j->j∈r.1
 sum:r.2=s.2+tq t new
def af9(t:Tree)(k:Nat):Prop:=∀(i:Int)(s:ay×Int),IA t s.1<k->s.1.Nodup->(∀x∈s.1,(find t.nodes x).isSome=true)->∃new,Post t (s.1,s.2+dat t i) (xG t k i s) new (Ru t i)/\∀j,Q0 t i j->j∈(xG t k i s).1
def Bf(k:Nat)(one:af9 t k):∀(l:List Ent)(s:ay×Int),(∀e∈l,(find t.nodes e.ino).isSome=true)->IA t s.1<k+1->s.1.Nodup->(∀x∈s.1,(find t.nodes x).isSome=true)->
   ∃new,Post t s (l.foldl (ri t k) s) new (λx=>∃e∈l,x=e.ino\/Ru t e.ino x)/\∀e∈l,e.ino∈(l.foldl (ri t k) s).1:=by
 intro l
 induction l with
 |nil =>
  intro s _ _ h2 h3;exact⟨[],⟨ai,h2,h3,(λx h=>by cases h),(λx h=>by cases h),by simp[tq]⟩,(λe r=>by cases r)⟩
 |cons e l G =>
  intro s hl h1 h2 h3;rw[bI];have y:∀e∈l,(find t.nodes e.ino).isSome=true:=λe' r=>hl e' (bX _ r)
  have r:=hl e cL
  by_cases z:e.ino∈s.1
  .have hs:ri t k s e=s:=by unfold ri;rw[if_pos (an z)]
   rw[hs];let⟨new,p,q⟩:=G s y h1 h2 h3;refine⟨new,⟨p.eq,p.nd,p.node,λx h=>?_,p.cl,p.sum⟩,λe' i=>?_⟩
   .let⟨e',h4,h5⟩:=p.from_ x h;exact⟨e',bX _ h4,h5⟩
   .rcases bw.1 i with rfl | i
    .rw[p.eq];exact dO _ z
    .exact q e' i
  .have hs:ri t k s e=xG t k e.ino (s.1++[e.ino],s.2):=by unfold ri;rw[if_neg (an z)]
   rw[hs];have N:=EH r z
   have E:(s.1++[e.ino]).Nodup:=by
    rw[gu];exact⟨h2,ai,λa M b H=>by simp at H;subst H;exact λe'=>z (e'▸M)⟩
   have A:∀x∈s.1++[e.ino],(find t.nodes x).isSome=true:=λx h=>by
    rcases bh.1 h with h | h
    .exact h3 x h
    .simp at h;subst h;exact r
   let⟨n1,n,q1⟩:=one e.ino (s.1++[e.ino],s.2) (by simp only;omega) E A
   generalize xG t k e.ino (s.1++[e.ino],s.2)=m at *
   have v:∀x∈s.1,x∈m.1:=λx h=>by rw[n.eq];exact dO _ (dO _ h)
   let⟨L,p2,K⟩:=G m y (eY (EI v) h1) n.nd n.node;have o:∀x∈m.1,x∈(l.foldl (ri t k) m).1:=λx h=>by rw[p2.eq];exact dO _ h
   refine⟨e.ino::n1++L,⟨?_,p2.nd,p2.node,λx h=>?_,λx h j F=>?_,?_⟩,λe' i=>?_⟩
   .rw[p2.eq,n.eq];simp
   .rcases bh.1 h with h | h
    .rcases bw.1 h with rfl | h
     .exact⟨e,cL,.inl rfl⟩
     .exact⟨e,cL,.inr (n.from_ x h)⟩
    .let⟨e',h4,h5⟩:=p2.from_ x h;exact⟨e',bX _ h4,h5⟩
   .rcases bh.1 h with h | h
    .rcases bw.1 h with rfl | h
     .exact o _ (q1 j F)
     .exact o _ (n.cl x h j F)
    .exact p2.cl x h j F
   .rw[p2.sum,n.sum,Gm,pM];simp only;omega
   .rcases bw.1 i with rfl | i
    .refine o _ ?_;rw[n.eq];simp
    .exact K e' i
def xF(w:WF ok lt t):∀k:Nat,af9 t k
 |0=>λi s h=>absurd h af
 |k+1=>by
  have l:=xF w k;intro i s h1 h2 h3;rw[CQ];let⟨new,p,q⟩:=Bf k l (iS t i).b7 (s.1,s.2+dat t i) (λe b=>rZ w b) h1 h2 h3
  refine⟨new,⟨p.eq,p.nd,p.node,λx n=>?_,p.cl,p.sum⟩,λj o=>?_⟩
  .let⟨e,b,h4⟩:=p.from_ x n
   rcases h4 with rfl | h4
   .exact .one ⟨e,b,rfl⟩
   .exact(Ru.one ⟨e,b,rfl⟩).trans h4
  .obtain⟨e,b,rfl⟩:=o;exact q e b
def B5(t:Tree)(d:Int):ay:=(xG t 301 d ([],0)).1
theorem AJ(w:WF ok lt t)(d:Int):(B5 t d).Nodup/\(∀x,x∈B5 t d↔Ru t d x)/\(xG t 301 d ([],0)).2=dat t d+tq t (B5 t d):=by
 have n:IA t []<301:=by
  have hl:=w.wf.len;have:=bt (λq:Node=>!([]:ay).contains q.ino) t.nodes
  unfold IA;omega
 let⟨new,p,q⟩:=xF w 301 d ([],0) n iu (λx b=>by cases b)
 have i:B5 t d=new:=by unfold B5;rw[p.eq];rfl
 refine⟨p.nd,λx=>⟨λb=>?_,λb=>?_⟩,?_⟩
 .rw[i]at b;exact p.from_ x b
 .induction b with
  |one h=>exact q _ h
  |more h1 h2 l =>
   rw[i]at l;exact p.cl _ l _ h2
 .rw[p.sum,i];simp
end
section
variable{ok:au->Bool}{lt:au->au->Bool}{t:Tree}
def q8{i j:Int}(h:Q0 t i j):∃p,find t.nodes i=some p/\∃e∈p.b7,e.ino=j:=by
 let⟨e,b,n⟩:=h;unfold iS at b;cases l:find t.nodes i with
 |none=>rw[l]at b;cases b
 |some p =>
  grind
def WA{i j:Int}{p:Node}(l:find t.nodes i=some p)(h:0<cN p j):Q0 t i j:=by
 let⟨e,n,b⟩:=xK.1 h;exact⟨e,by grind[iX],b⟩
def Ou(w:WF ok lt t){i j:Int}(h:Q0 t i j){n:Node}(r:find t.nodes j=some n)(hk:n.kind=2):n.up=i/\j≠1:=by
 obtain⟨p,o,e,v,rfl⟩:=q8 h;let⟨_,b,_⟩:=mV w o v;refine⟨?_,b⟩;have x:0<cN p e.ino:=xK.2 ⟨e,v,rfl⟩;have l:=(w.wf.FH _ _ r hk b).1;let⟨q,q1,y⟩:=w.wf.par _ _ r hk b rfl;have:=JG w.wf.jL (an l) (fk o).1 (fk q1).1 x af
 subst this;exact(jI q1).symm.trans (jI o)
def Ip(w:WF ok lt t){d j:Int}:Ru t d j↔∃p e,JR t d p e/\Q0 t p j:=by
 constructor
 .intro h
  induction h with
  |one h=>exact⟨d,0,.here,h⟩
  |more h1 h2 i =>
   let⟨p,e,h3,h4⟩:=i;let⟨q,l,e',n,hk⟩:=q8 h2;have b:=D6 w.wf l n;let⟨h5,h6⟩:=Ou w h4 l b;exact⟨_,e+1,.up l b h6 (by rw[h5];exact h3),h2⟩
 .rintro⟨p,e,h1,h2⟩
  induction h1 generalizing j with
  |here=>exact .one h2
  |up h hk h1 r i =>
   let⟨q,q1,o⟩:=w.wf.par _ _ h hk h1 rfl;exact .more (i (WA q1 af)) h2
def kR(t:Tree)(d:Int):Int:=if jF t d=0 then((B5 t d).length:Int)else 0
def kS(t:Tree)(d:Int):Int:=if jF t d=0 then tq t (B5 t d)else 0
end
open Go.Am
structure Qu where
 ino:Int
 nodes:Int
 bytes:Int
deriving DecidableEq
def mE(l:List Qu):Prop:=l.Pairwise λa b=>a.ino<b.ino
def kH(l:List Qu)(i:Int):Option Qu:=l.find? λq=>decide (q.ino=i)
def jZ(l:List Qu)(i:Int):Nat:=kg (λq=>decide (q.ino<i)) l
theorem JF(l:List Qu)(i:Int):jZ l i<=l.length:=lK _ _
variable{l:List Qu}{i:Int}{q x:Qu}
theorem qc(hs:mE l)(i:Int){k:Nat}(h:k<l.length):k<jZ l i↔l[k].ino<i:=by
 have:=tu (p:=λn:Qu=>decide (n.ino<i)) (l:=l) (λa b q o r=>by
  have:=(aW.1 hs) a b af q o
  grind) h
 rw[decide_eq_true_eq]at this;exact this
def rm(h:kH l i=some q):q∈l/\q.ino=i :=
 ⟨bH h,by have:=cK h;grind⟩
def Mf(hs:mE l){a b:Qu}(r:a∈l)(q:b∈l)(h:a.ino=b.ino):a=b:=by
 obtain⟨i,o,rfl⟩:=bn.1 r;obtain⟨j,n,rfl⟩:=bn.1 q
 rcases dR i j with h1 | h1 | h1
 .have:=(aW.1 hs) _ _ o n h1;omega
 .subst h1;rfl
 .have:=(aW.1 hs) _ _ n o h1;omega
theorem Og(hs:mE l)(h:q∈l):kH l q.ino=some q:=by
 cases b:kH l q.ino with
 |none =>
  unfold kH at b
  grind
 |some p=>rw[Mf hs (rm b).1 h (rm b).2]
def CX(hs:mE l)(i:Int):(∃(h:jZ l i<l.length),l[jZ l i].ino=i/\kH l i=some l[jZ l i])\/(kH l i=none/\∀(h:jZ l i<l.length),l[jZ l i].ino≠i):=by
 by_cases h:jZ l i<l.length
 .by_cases r : l[jZ l i].ino = i
  .grind[Og,List.getElem_mem]
  .refine .inr ⟨?_,λ_=>r⟩
   cases o:kH l i with
   |none=>rfl
   |some q =>
    exfalso;let⟨n,b⟩:=rm o;obtain⟨k,hk,rfl⟩:=bn.1 n;have h1:=(qc hs i h);have h2:=(qc hs i hk)
    rcases dR k (jZ l i)with h3 | h3 | h3
    .have:=h2.1 h3;omega
    .subst h3;exact r b
    .have:=(aW.1 hs) _ _ h hk h3
     grind
 .refine .inr ⟨?_,λh'=>absurd h' h⟩
  cases o:kH l i with
  |none=>rfl
  |some q =>
   exfalso;let⟨n,b⟩:=rm o;obtain⟨k,hk,rfl⟩:=bn.1 n
   grind[qc,JF]
def qy(l:List Qu)(i:Int):List Qu:=l.filter λq=>decide (q.ino≠i)
def rN(l:List Qu)(x:Qu):List Qu:=l.take (jZ l x.ino)++x::(l.drop (jZ l x.ino)).filter λq=>decide (q.ino≠x.ino)
theorem Ds(hs:mE l)(i:Int):(l.take (jZ l i)).filter (λm=>decide (m.ino≠i))=l.take (jZ l i):=by
 rw[bO];intro m b;obtain⟨k,hk,rfl⟩:=bn.1 b;rw[bE]at hk;rw[ef];have:=(qc hs i (k:=k) af).1 af
 grind
theorem Jz(hs:mE l)(h:jZ l i<l.length)(o:l[jZ l i].ino=i):(l.drop (jZ l i)).filter (λm=>decide (m.ino≠i))=l.drop (jZ l i+1):=by
 have b:l.drop (jZ l i)=l[jZ l i]::l.drop (jZ l i+1):=cv h
 have h2:(l.drop (jZ l i+1)).filter (λm=>decide (m.ino≠i))=l.drop (jZ l i+1):=by
  rw[bO];intro m n;obtain⟨k,hk,rfl⟩:=bn.1 n;rw[bS]at hk;rw[ei];have:=(aW.1 hs) (jZ l i) (jZ l i+1+k) h af af
  grind
 grind
theorem S6(h:kH l i=none):∀q∈l,q.ino≠i:=by
 grind[kH,List.find?_eq_none]
def YV(h:kH l i=none):l.filter (λm=>decide (m.ino≠i))=l:=by
 grind[List.filter_eq_self,decide_eq_true,S6]
def Kn(h:kH l i=none):qy l i=l:=YV h
def MH(hs:mE l)(h:jZ l i<l.length)(b:l[jZ l i].ino=i):qy l i=l.take (jZ l i)++l.drop (jZ l i+1):=by
 grind[Jz,qy,List.take_append_drop,jZ,Ds]
def Ko(h:kH l x.ino=none):rN l x=l.take (jZ l x.ino)++x::l.drop (jZ l x.ino):=by
 unfold rN
 congr 2
 grind[List.filter_eq_self,decide_eq_true,S6,List.mem_of_mem_drop]
def MN(hs:mE l)(h:jZ l x.ino<l.length)(b:l[jZ l x.ino].ino=x.ino):rN l x=l.set (jZ l x.ino) x:=by
 unfold rN;rw[Jz hs h b,e9,if_pos h]
section
variable(t:Tree)
def pass(q:Qu)(n b:Int):Bool:=decide (q.nodes<kR t q.ino+n\/q.bytes<kS t q.ino+b)
def Cb(l:List Qu):Nat->Int->Int
 |0,_=>0
 |k+1,d=>if (kH l d).isSome=true then d else if d=1 then 0 else Cb l k (BT t d)
def dom(l:List Qu)(d:Int):Int:=Cb t l (t.nodes.length+1) d
def rI(l:List Qu)(i n b:Int):List Qu×Int :=
 if jF t i≠0 then(l,jF t i)else if n<0 then(qy l i,0)else if n<kR t i\/b<kS t i then(l,90)else if kH l i=none/\16<=l.length then(l,76)else(rN l ⟨i,n,b⟩,0)
end
structure Pj(t:Tree)(l:List Qu):Prop where
 jL:mE l
 len:l.length<=16
 dir:∀q∈l,jF t q.ino=0
 ok:∀q∈l,pass t q 0 0=false
section
variable{ok:au->Bool}{lt:au->au->Bool}{t:Tree}
def RC(w:WF ok lt t){d:Int}(h:jF t d=0):∃k,uA t d k:=by
 unfold jF at h;cases b:find t.nodes d with
 |none=>rw[b]at h;cases h
 |some q =>
  rw[b]at h;simp only at h
  by_cases hk:q.kind=2
  .let⟨k,h1,_⟩:=w.dep _ _ b hk;exact⟨k,h1⟩
  grind
def RB{d:Int}{k:Nat}(h:uA t d k):∀ {f g:Nat},k<f->k<g->Cb t l f d=Cb t l g d:=by
 induction h with
 |root =>
  intro f g b hg;obtain⟨f,rfl⟩:∃j,f=j+1:=⟨f-1,af⟩
  obtain⟨g,rfl⟩:∃j,g=j+1:=⟨g-1,af⟩
  simp[Cb]
 | @up i n d h hk h1 r o =>
  intro f g b hg;obtain⟨f,rfl⟩:∃j,f=j+1:=⟨f-1,af⟩
  obtain⟨g,rfl⟩:∃j,g=j+1:=⟨g-1,af⟩
  have q:BT t i=n.up:=by unfold BT;rw[h];rfl
  grind[Cb]
def XG(w:WF ok lt t){d:Int}{k:Nat}(h:uA t d k){f:Nat}(b:k<f):Cb t l f d=dom t l d :=
 RB h b (by have:=r6 w h;omega)
end
def KB(s:ay×Bool)(e:Ent):ay×Bool:=if s.1.contains e.ino=true then s else(s.1++[e.ino],true)
def BX(i:Int)(s:ay×Bool)(q:Node):ay×Bool:=if q.ino≠i/\s.1.contains q.ino=false then s else q.b7.foldl KB s
def uC(t:Tree)(i:Int)(M:ay):ay×Bool:=t.nodes.foldl (BX i) (M,false)
def zg(t:Tree)(i:Int):Nat->ay->ay
 |0,M=>M
 |k+1,M=>if (uC t i M).2=true then zg t i k (uC t i M).1 else(uC t i M).1
def qK(t:Tree)(i:Int):ay:=zg t i t.nodes.length []
def HZ(M:ay)(s:Int×Int)(q:Node):Int×Int:=if M.contains q.ino=true then(s.1+1,s.2+(q.data.length:Int))else s
structure Ext(P:Int->Prop)(s r:ay×Bool)(new:ay):Prop where
 eq:r.1=s.1++new
 more:r.2=(s.2 || !new.isEmpty)
 nd:s.1.Nodup->r.1.Nodup
 is:∀x∈new,P x
def Ext.nil(P:Int->Prop)(s:ay×Bool):Ext P s s []:=⟨ai,ai,id,ai⟩
def Ext.trans{P:Int->Prop}{s r u:ay×Bool}{a b:ay}(h:Ext P s r a)(h':Ext P r u b):Ext P s u (a++b) :=
 ⟨by rw[h'.eq,h.eq,cB],by rw[h'.more,h.more];cases a<;>simp,λg=>h'.nd (h.nd g),λx i=>(bh.1 i).elim (h.is x) (h'.is x)⟩
def QG{P:Int->Prop}(s:ay×Bool)(e:Ent)(h:P e.ino):∃new,Ext P s (KB s e) new/\e.ino∈(KB s e).1:=by
 unfold KB
 by_cases b:s.1.contains e.ino=true
 .rw[if_pos b];exact⟨[],.nil P s,an b⟩
 .rw[if_neg b];refine⟨[e.ino],⟨rfl,ai,λi=>?_,an h⟩,ai⟩
  grind
def FD{P:Int->Prop}:∀(l:List Ent)(s:ay×Bool),(∀e∈l,P e.ino)->∃new,Ext P s (l.foldl KB s) new/\∀e∈l,e.ino∈(l.foldl KB s).1
 | [],s,_=>⟨[],.nil P s,ai⟩
 |e::l,s,h=>by
  let⟨a,r,q⟩:=QG (P:=P) s e (h e cL);let⟨b,o,n⟩:=FD l (KB s e) λx i=>h x (bX _ i)
  rw[bI];refine⟨a++b,r.trans o,λx i=>?_⟩
  rcases bw.1 i with rfl | i
  .rw[o.eq];grind
  .exact n x i
def Fa{t:Tree}{i:Int}(hs:∀q∈t.nodes,iS t q.ino=q):∀(l:List Node)(s:ay×Bool),(∀q∈l,q∈t.nodes)->(∀x∈s.1,Ru t i x)->
  ∃new,Ext (Ru t i) s (l.foldl (BX i) s) new/\(new=[]->∀q∈l,(q.ino=i\/q.ino∈s.1)->∀e∈q.b7,e.ino∈s.1)
 | [],s,_,_=>⟨[],.nil _ s,λ_ q n=>by cases n⟩
 |q::l,s,hl,h=>by
  rw[bI]
  have v:∃new,Ext (Ru t i) s (BX i s q) new/\(new=[]->(q.ino=i\/q.ino∈s.1)->∀e∈q.b7,e.ino∈s.1):=by
   unfold BX
   by_cases E:q.ino≠i/\s.1.contains q.ino=false
   .rw[if_pos E]
    exact⟨[],.nil _ s,λ_ h'=>by
     grind⟩
   .rw[if_neg E];have n:q.ino=i\/q.ino∈s.1:=by
     grind
    have y:∀e∈q.b7,Q0 t q.ino e.ino:=λe o=>⟨e,by grind,rfl⟩
    obtain⟨new,h1,h2⟩:=FD (P:=Ru t i) q.b7 s λe o=>by
     rcases n with n | n
     .rw[<-n];exact .one (y e o)
     .exact .more (h _ n) (y e o)
    refine⟨new,h1,λA _ e o=>?_⟩
    have:=h2 e o;rw[h1.eq,A,cF]at this;exact this
  obtain⟨a,z,K⟩:=v
  obtain⟨b,H,G⟩:=Fa hs l (BX i s q) (λx r=>hl x (bX _ r)) λx r=>by
   rw[z.eq]at r;exact(bh.1 r).elim (h x) (z.is x)
  refine⟨a++b,z.trans H,λA x r F=>?_⟩
  obtain⟨rfl,rfl⟩:=List.append_eq_nil_iff.1 A;have o:(BX i s q).1=s.1:=by rw[z.eq,cF]
  grind
section
variable{ok:au->Bool}{lt:au->au->Bool}{t:Tree}
def JQ(w:WF ok lt t){i j:Int}(h:Ru t i j):(find t.nodes j).isSome=true:=by
 let⟨p,e,_,h⟩:=(Ip w).1 h;obtain⟨e,b,rfl⟩:=h;exact rZ w b
def Cj(w:WF ok lt t){i:Int}:∀(k:Nat)(M:ay),M.Nodup->(∀x∈M,Ru t i x)->
  (zg t i k M).Nodup/\(∀x∈zg t i k M,Ru t i x)/\((∀q∈t.nodes,(q.ino=i\/q.ino∈zg t i k M)->∀e∈q.b7,e.ino∈zg t i k M)\/M.length+k<=(zg t i k M).length)
 |0,M,h1,h2=>⟨h1,h2,.inr (aU _)⟩
 |k+1,M,h1,h2=>by
  let⟨new,h3,h4⟩:=Fa (t:=t) (i:=i) (λq o=>iX (jN w.wf.jL o)) t.nodes (M,false) (λ_ h=>h) h2
  change Ext (Ru t i) (M,false) (uC t i M) new at h3
  have h5:∀x∈(uC t i M).1,Ru t i x:=λx b=>by
   rw[h3.eq]at b;exact(bh.1 b).elim (h2 x) (h3.is x)
  have n:=h3.more;simp only[fL]at n;unfold zg
  by_cases l:new=[]
  .subst l;have r:(uC t i M).1=M:=by rw[h3.eq,cF]
   grind
  .have hl:M.length+1<=(uC t i M).1.length:=by
    rw[h3.eq,aT]
    grind
   rw[if_pos (by rw[n];simp[l])]
   let⟨z,y,v⟩:=Cj w k (uC t i M).1 (h3.nd h1) h5
   grind
def QA{l:ay}(h:l.Nodup)(r:∀x∈l,(find t.nodes x).isSome=true)(hl:t.nodes.length<=l.length){x:Int}(o:(find t.nodes x).isSome=true):x∈l:=by
 by_cases n:x∈l
 .exact n
 .exfalso
  have v:∀y∈x::l,y∈t.nodes.map Node.ino:=λy b=>by
   have:(find t.nodes y).isSome=true:=by
    rcases bw.1 b with rfl | b
    .exact o
    .exact r y b
   let⟨q,i⟩:=bL.1 this;exact cS.2 ⟨q,(fk i).1,(fk i).2⟩
  have:=BM (dS.2 ⟨n,h⟩) v;rw[aQ,ct]at this;omega
theorem EJ(w:WF ok lt t)(i:Int):(qK t i).Nodup/\∀x,x∈qK t i↔Ru t i x:=by
 let⟨h1,h2,h3⟩:=Cj w (i:=i) t.nodes.length [] iu ai
 change (qK t i).Nodup at h1
 change ∀x∈qK t i,Ru t i x at h2
 refine⟨h1,λx=>⟨h2 x,λb=>?_⟩⟩
 have h4:(∀q∈t.nodes,(q.ino=i\/q.ino∈qK t i)->∀e∈q.b7,e.ino∈qK t i):=by
  rcases h3 with h3 | h3
  .exact h3
  .intro q n _ e l;refine QA h1 (λx b=>JQ w (h2 x b)) ?_ (rZ w (i:=q.ino) (by rw[iX (jN w.wf.jL n)];exact l))
   grind[qK]
 induction b with
 |one h =>
  obtain⟨p,o,e,l,rfl⟩:=q8 h
  grind[fk]
 |more h1 h2 r =>
  obtain⟨p,o,e,l,rfl⟩:=q8 h2
  grind[fk]
def K7{a b:ay}(h:a.Perm b):tq t a=tq t b:=by
 induction h with
 |nil=>rfl
 |cons x _ i=>rw[pM,pM,i]
 |swap x y l=>simp only[pM];omega
 |trans _ _ h1 h2=>exact h1.trans h2
def J2(w:WF ok lt t)(i:Int):(qK t i).Perm (B5 t i):=by
 grind[EJ,AJ,List.perm_ext_iff_of_nodup]
def CY(M:ay):∀(l:List Node)(s:Int×Int),(∀q∈l,dat t q.ino=(q.data.length:Int))->l.foldl (HZ M) s=(s.1+(((l.filter λq=>M.contains q.ino).map Node.ino).length:Int),s.2+tq t ((l.filter λq=>M.contains q.ino).map Node.ino))
 | [],s,_=>by simp[tq]
 |q::l,s,h=>by
  rw[bI,CY M l _ λx b=>h x (bX _ b),bN]
  unfold HZ;cases i:M.contains q.ino with
  |true =>
   simp only[if_true,bM,aQ]
   grind[pM,List.mem_cons_self,Prod.ext]
  |false=>simp
def Kc{l:List Node}(hs:lC l):(l.map Node.ino).Nodup:=by
 rw[List.nodup_iff_pairwise_ne,fA];exact hs.imp λh=>af
def La(w:WF ok lt t){d:Int}(h:jF t d=0):t.nodes.foldl (HZ (qK t d)) (0,0)=(kR t d,kS t d):=by
 have h1:=EJ w d
 have h2:((t.nodes.filter λq=>(qK t d).contains q.ino).map Node.ino).Perm (qK t d):=by
  refine(gj ?_ h1.1).2 λx=>?_
  .exact List.Sublist.nodup (List.Sublist.map _ fV) (Kc w.wf.jL)
  .constructor
   .grind
   .intro i;let⟨q,b⟩:=bL.1 (JQ w ((h1.2 x).1 i));let⟨l,n⟩:=fk b
    grind
 rw[CY (t:=t) _ _ _ λq b=>by unfold dat;rw[iX (jN w.wf.jL b)]]
 have h3:=h2.trans (J2 w d);unfold kR kS;rw[if_pos h,if_pos h,h3.length_eq,K7 h3];simp
end
variable{l:List Qu}
def Ff{i:Int}{q:Qu}:q∈qy l i↔q∈l/\q.ino≠i:=by
 unfold qy
 grind
def Fk(hs:mE l){x q:Qu}:q∈rN l x↔q=x\/(q∈l/\q.ino≠x.ino):=by
 unfold rN;rw[bh,bw,bY,decide_eq_true_eq]
 have h1:∀q∈l.take (jZ l x.ino),q.ino≠x.ino:=λq b=>by
  have:=Ds hs x.ino;rw[<-this]at b;exact of_decide_eq_true (bY.1 b).2
 constructor
 .rintro(h | rfl | ⟨h,h2⟩)
  .exact .inr ⟨dY h,h1 q h⟩
  .exact .inl rfl
  .exact .inr ⟨cC h,h2⟩
 .rintro(rfl | ⟨h,h2⟩)
  .exact .inr (.inl rfl)
  .rw[<-dg (jZ l x.ino) l,bh]at h;exact h.imp id λh=>.inr ⟨h,h2⟩
def Fe(hs:mE l)(i:Int):mE (qy l i):=hs.filter _
def Fj(hs:mE l)(x:Qu):mE (rN l x):=by
 have h1:∀q∈l.take (jZ l x.ino),q.ino<x.ino:=λq h=>by
  obtain⟨k,hk,rfl⟩:=bn.1 h;rw[bE]at hk;rw[ef];exact(qc hs x.ino (k:=k) af).1 af
 have h2:∀q∈l.drop (jZ l x.ino),x.ino<=q.ino:=λq h=>by
  obtain⟨k,hk,rfl⟩:=bn.1 h;rw[bS]at hk;rw[ei];have:=(qc hs x.ino (k:=jZ l x.ino+k) af)
  grind
 unfold mE rN;rw[iy,bJ];refine⟨gU (List.take_sublist _ _) hs,⟨λq h=>?_,ig _ (gU (List.drop_sublist _ _) hs)⟩,λa n b i=>?_⟩
 .grind
 grind
def Qn(hs:mE l)(x:Qu):qy (rN l x) x.ino=qy l x.ino:=by
 unfold rN qy
 conv=>rhs;rw[<-dg (jZ l x.ino) l]
 rw[dw,dw,bN];simp only[ne_eq,not_true_eq_false,decide_false,aX,if_false,dN,Bool.and_self]
def IW(hs:mE l)(x:Qu):(rN l x).length=(qy l x.ino).length+1:=by
 have h:=Qn hs x;rw[<-h];unfold rN qy;have h1:=Ds hs x.ino;rw[dw,bN,h1,dN]
 grind
def zy(l:List Qu)(i:Int):(qy l i).length<=l.length:=bt _ _
def IQ{i:Int}(h:(kH l i).isSome=true):(qy l i).length<l.length:=by
 let⟨q,b⟩:=bL.1 h;let⟨h1,h2⟩:=rm b
 grind[Nat.lt_or_ge,qy,List.Sublist.eq_of_length_le,List.filter_sublist,absurd]
section
variable{ok:au->Bool}{lt:au->au->Bool}{t:Tree}
def zY(t:Tree)(i a b:Int):((rI t l i a b).2≠0/\(rI t l i a b).1=l/\(jF t i=0->((rI t l i a b).2=90\/((rI t l i a b).2=76/\16<=l.length))))\/
  (jF t i=0/\a<0/\rI t l i a b=(qy l i,0))\/(jF t i=0/\0<=a/\kR t i<=a/\kS t i<=b/\((kH l i).isSome=true\/l.length<16)/\rI t l i a b=(rN l ⟨i,a,b⟩,0)):=by
 unfold rI
 by_cases h1:jF t i=0
 .rw[if_neg (an h1)]
  by_cases h2:a<0
  .rw[if_pos h2];exact .inr (.inl ⟨h1,h2,rfl⟩)
  .rw[if_neg h2]
   by_cases h3:a<kR t i\/b<kS t i
   .rw[if_pos h3];exact .inl ⟨ai,rfl,λ_=>.inl rfl⟩
   .rw[if_neg h3]
    by_cases h4:kH l i=none/\16<=l.length
    .rw[if_pos h4];exact .inl ⟨ai,rfl,λ_=>.inr ⟨rfl,h4.2⟩⟩
    .rw[if_neg h4];refine .inr (.inr ⟨h1,af,af,af,?_,rfl⟩)
     cases n:kH l i with
     |none=>exact .inr (Nat.lt_of_not_le λh=>h4 ⟨n,h⟩)
     |some q=>exact .inl rfl
 .rw[if_pos h1];exact .inl ⟨h1,rfl,λh=>absurd h h1⟩
def Pj.set(h:Pj t l)(i a b:Int):Pj t (rI t l i a b).1:=by
 rcases zY t (l:=l) i a b with⟨_,h1,_⟩ | ⟨h1,h2,h3⟩ | ⟨h1,h2,h3,h4,h5,h6⟩
 .rw[h1];exact h
 .rw[h3];exact⟨Fe h.jL i,bF (zy l i) h.len,λq n=>h.dir q (Ff.1 n).1,λq n=>h.ok q (Ff.1 n).1⟩
 .rw[h6];refine⟨Fj h.jL _,?_,λq n=>?_,λq n=>?_⟩
  .rw[IW h.jL]
   rcases h5 with h5 | h5
   .have:=IQ h5;have:=h.len;simp only;omega
   .have:=zy l i;simp only;omega
  .rcases(Fk h.jL).1 n with rfl | ⟨n,_⟩
   .exact h1
   .exact h.dir q n
  .rcases(Fk h.jL).1 n with rfl | ⟨n,_⟩
   .exact decide_eq_false (by simp only;omega)
   .exact h.ok q n
def Pj.nil(t:Tree):Pj t []:=⟨List.Pairwise.nil,ai,ai,ai⟩
end
end Go.Tr
