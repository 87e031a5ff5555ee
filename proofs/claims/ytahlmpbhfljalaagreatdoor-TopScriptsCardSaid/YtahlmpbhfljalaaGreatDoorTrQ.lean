/- Part of the proof that TopScriptsCard holds. -/
import Derived.Test.YtahlmpbhfljalaaGreatDoorTrW
set_option linter.all false
namespace Go.Tr
section
variable(ok:aq->Bool)(lt:aq->aq->Bool)
def aeL(t:Tree)(l:List Ent)(i:Nat):Bool:=match l[i]? with
 |none=>false
 |some x=>ok x.name&&(decide (1<=x.gr)&&(decide (x.gr<t.gr)&&((find t.nodes x.ino).isSome&&((decide (i=0)||((l[i-1]?).elim false λy=>lt y.name x.name))&&(l.take i).all λy=>!decide (y.gr=x.gr)))))
def N6(t:Tree)(l:List Ent):Bool:=decide (l.length<=64)&&(List.range l.length).all (aeL ok lt t l)
def P7(l:List Node)(i up:Int):Nat:=((l.filter λn=>decide (n.ino=up)).map λn=>cN n i).sum
def MW(t:Tree)(n:Node):Bool :=
 if n.kind=1 then decide (n.ek.length=0)&&(decide (n.up=0)&&(decide (n.data.length<=4096)&&decide (n.links=(cnt t.nodes n.ino:Nat))))
 else if n.kind≠2\/0<n.data.length\/N6 ok lt t n.ek=false then false
 else if n.ino=1 then decide (n.up=1)&&(decide (n.links=0)&&decide (cnt t.nodes n.ino=0))
 else decide (cnt t.nodes n.ino=1)&&(decide (P7 t.nodes n.ino n.up=1)&&decide (n.links=1))
def abL(t:Tree)(i:Nat):Bool:=match t.nodes[i]? with
 |none=>false
 |some n=>(decide (i=0)||((t.nodes[i-1]?).elim false λm=>decide (m.ino<n.ino)))&&(decide (n.ino<t.next)&&(decide (n.ek.length<=64)&&MW ok lt t n))
def aeS(t:Tree)(n:Node):Bool:=if n.kind≠2 then true else below t n.ino 1&&(decide (depth t n.ino<=12)&&(!decide (depth t n.ino=12)||decide (n.ek.length=0)))
def GY(t:Tree):Bool :=
 (decide (1<=t.nodes.length/\t.nodes.length<=200)&&((t.nodes[0]?).elim false λn=>decide (n.ino=1/\n.kind=2)))&&(decide (t.next<=1099511627776/\1<=t.gr/\t.gr<=1099511627776) &&
 ((List.range t.nodes.length).all (abL ok lt t)&&t.nodes.all (aeS t)))
end
variable{ok:aq->Bool}{lt:aq->aq->Bool}{t:Tree}
theorem N5{l:List Ent}(h:pg ok lt t l):N6 ok lt t l=true:=by
 unfold N6;rw[aC,decide_eq_true_eq,aJ];refine⟨h.len,λi b=>?_⟩
 have b:=eV.1 b;unfold aeL;rw[aF b];have n:=aU b;have o:=h.ck _ n;simp only[aC,decide_eq_true_eq,bP,aJ];refine⟨h.nm _ n,o.1,o.2,h.to _ n,?_,λy q=>?_⟩
 .rcases dx i with h0 | h0
  .exact .inl h0
  .right;rw[aF (show i-1<l.length by omega)]
   exact(aW.1 h.jh) (i-1) i aa b aa
 .obtain⟨j,r,rfl⟩:=bn.1 q;rw[bI]at r;rw[dV];have:=(aW.1 h.dis) j i aa b aa
  simpa using this
def IP{l:List Node}(hs:kI l){up:Int}{p:Node}(h:find l up=some p)(i:Int):P7 l i up=cN p i:=by
 let⟨b,r⟩:=gZ h
 have:(l.filter λn=>decide (n.ino=up))=[p]:=by
  clear h
  induction l with
  |nil=>cases b
  |cons q l o =>
   let⟨h1,h2⟩:=bC.1 hs;rw[bX]
   rcases aY.1 b with rfl | b
   .rw[if_pos (ak r)]
    congr 1
    grind[List.filter_eq_nil_iff]
   .have:=h1 p b;rw[if_neg aj]
    exact o h2 b
 grind[P7]
def MV(w:WF ok lt t){i:Int}{n:Node}(h:find t.nodes i=some n):MW ok lt t n=true:=by
 have o:=iI h;unfold MW;rw[o]
 rcases w.wf.kind _ _ h with hk | hk
 .rw[if_pos hk];let⟨f1,y,x,v⟩:=w.wf.file _ _ h hk
  grind
 .rw[if_neg aa]
  let⟨A,z⟩:=w.wf.dir _ _ h hk;rw[if_neg (by grind[N5])]
  by_cases h1:i=1
  .subst h1;rw[if_pos rfl];let⟨r,b,q,r3,r4⟩:=w.wf.root;rw[h]at b;cases b;simp only[aC,decide_eq_true_eq];exact⟨r3,r4,w.wf.Dx⟩
  .rw[if_neg h1];have hl:=w.wf.CZ _ _ h hk h1;let⟨p,l,p2⟩:=w.wf.par _ _ h hk h1 rfl;simp only[aC,decide_eq_true_eq];exact⟨ak hl.1,by rw[IP w.wf.jh l];exact p2,hl.2⟩
def G3{t:Tree}{i:Int}{d:Nat}(h:rK t i d):∃e,Cr t 1 i e:=by
 induction h with
 |root=>exact⟨0,.here⟩
 |up h hk h1 n b =>
  let⟨e,l⟩:=b;exact⟨e+1,.up h hk h1 l⟩
def WF.right(w:WF ok lt t):GY ok lt t=true:=by
 let⟨r,q,F,_⟩:=w.wf.root;have b:0<t.nodes.length:=gh (gZ q).1;unfold GY;simp only[aC,decide_eq_true_eq,aJ];refine⟨⟨⟨b,w.wf.len⟩,?_⟩,⟨w.wf.ZK,w.wf.KS,w.wf.XK⟩,λi o=>?_,λn z=>?_⟩
 .rw[aF b];simp only[cG,decide_eq_true_eq];have h0:=jt w.wf.jh (aU b);have x:=w.wf.pos _ _ h0;let⟨k,hk,A⟩:=bn.1 (gZ q).1;have y:=iI q
  rcases dx k with l | l
  .grind
  .have:=(aW.1 w.wf.jh) 0 k b hk l
   grind
 .have o:=eV.1 o;unfold abL;rw[aF o];have h:=jt w.wf.jh (aU o);simp only[aC,decide_eq_true_eq,bP];refine⟨?_,(w.wf.pos _ _ h).2,?_,MV w h⟩
  .rcases dx i with h0 | h0
   .exact .inl h0
   .right;rw[aF (show i-1<t.nodes.length by omega)]
    simp only[cG,decide_eq_true_eq];exact(aW.1 w.wf.jh) (i-1) i aa o aa
  .rcases w.wf.kind _ _ h with hk | hk
   .rw[(w.wf.file _ _ h hk).1];simp
   .exact(w.wf.dir _ _ h hk).2.len
 .have h:=jt w.wf.jh z;unfold aeS;split
  .rfl
  .rename_i hk;let⟨d,v,E,G⟩:=w.dep _ _ h (cQ.1 hk);rw[j9 v aa]
   simp only[aC,decide_eq_true_eq,bP];refine⟨(vP w v).2 (G3 v),E,?_⟩
   grind
open Go.Am
def v8:∀a:aq,ij a a=false
 | []=>rfl
 |a::x=>by
  simp only[ij,v8 x];simp
def Bm:∀a b:aq,ij a b=true\/a=b\/ij b a=true
 | [],[]=>.inr (.inl rfl)
 | [],_::_=>.inl rfl
 |_::_,[]=>.inr (.inr rfl)
 |a::x,b::y=>by
  simp only[ij,bP,decide_eq_true_eq,aC,beq_iff_eq,fF,eB]
  rcases dL a.toNat b.toNat with h | h | h
  .exact .inl (.inl h)
  .have i:a=b:=UInt8.toNat.inj h;subst i
   rcases Bm x y with h | h | h
   .exact .inl (.inr ⟨rfl,h⟩)
   .exact .inr (.inl ⟨rfl,h⟩)
   .exact .inr (.inr (.inr ⟨rfl,h⟩))
  .exact .inr (.inr (.inl h))
def Ek:∀a b c:aq,ij a b=true->ij b c=true->ij a c=true
 |_,_,[],_,h=>by simp[ij]at h
 |_,[],_::_,h,_=>by simp[ij]at h
 | [],_::_,_::_,_,_=>rfl
 |a::x,b::y,c::z,h1,h2=>by
  simp only[ij,bP,decide_eq_true_eq,aC,beq_iff_eq,eB]at h1 h2⊢
  rcases h1 with h1 | ⟨rfl,h1⟩
  .rcases h2 with h2 | ⟨rfl,h2⟩
   .exact .inl aa
   .exact .inl h1
  .rcases h2 with h2 | ⟨rfl,h2⟩
   .exact .inl h2
   .exact .inr ⟨rfl,Ek x y z h1 h2⟩
def jI:Ord ij:=⟨v8,Ek,Bm⟩
structure Bg(k:Nat)(t:Tree):Prop where
 len:t.nodes.length<=200+k
 ek:∀n∈t.nodes,n.ek.length<=64+k
 ck0:0<=t.gr
 ck:t.gr<=1099511627776+(k:Int)
 nx0:0<=t.next
 nx:t.next<=1099511627776+(k:Int)
 lk:∀n∈t.nodes,-(k:Int)<=n.links/\n.links<=1099511627776+(k:Int)
theorem XV(n:Node)(i:Int):cN n i<=n.ek.length:=bG ..
def XE{l:List Node}{b:Nat}(h:∀n∈l,n.ek.length<=b)(i:Int):cnt l i<=l.length*b:=by
 unfold cnt
 induction l with
 |nil=>simp
 |cons n l o =>
  grind[List.length_cons,Nat.succ_mul,List.mem_cons_of_mem,List.mem_cons_self,XV]
def WF.bg{ok:aq->Bool}{lt:aq->aq->Bool}{t:Tree}(w:WF ok lt t):Bg 0 t:=by
 have l:∀n∈t.nodes,n.ek.length<=64:=λn i=>by
  have b:=jt w.wf.jh i
  rcases w.wf.kind _ _ b with h | h
  .rw[(w.wf.file _ _ b h).1];simp
  .exact(w.wf.dir _ _ b h).2.len
 let⟨r,o,hk,_,hl⟩:=w.wf.root;have q:=w.wf.pos _ _ o;refine⟨w.wf.len,l,by have:=w.wf.KS;omega,by have:=w.wf.XK;omega,aa,by have:=w.wf.ZK;omega,λn i=>?_⟩
 have b:=jt w.wf.jh i
 rcases w.wf.kind _ _ b with h | h
 .have h1:=(w.wf.file _ _ b h).2.2.2;have h2:=XE l n.ino;have h3:=w.wf.len
  grind
 .by_cases h1:n.ino=1
  .grind
  .have:=(w.wf.CZ _ _ b h h1).2;omega
variable{k:Nat}{t:Tree}
def Bg.mono(h:Bg k t){j:Nat}(i:k<=j):Bg j t :=
 ⟨by have:=h.len;omega,λn b=>by have:=h.ek n b;omega,h.ck0,by have:=h.ck;omega,h.nx0,by have:=h.nx;omega,λn b=>by have:=h.lk n b;omega⟩
def zy{n m:Node}{l:List Node}(h:m∈ins n l):m=n\/m∈l:=by
 grind[ins,List.takeWhile_sublist,List.dropWhile_sublist]
def Wf(n:Node)(l:List Node):(ins n l).length<=l.length+1:=by
 unfold ins;rw[aG,aK];have h1:=bG (λm:Node=>decide (m.ino≠n.ino)) (l.dropWhile λm=>decide (m.ino<n.ino))
 have h2:=congrArg List.length (eX (p:=λm:Node=>decide (m.ino<n.ino)) (l:=l))
 grind
theorem Bg.iD(h:Bg k t){n:Node}(i:n.ek.length<=64+k+1)(hl : -(k:Int)-1<=n.links/\n.links<=1099511627776+(k:Int)+1):Bg (k+1) (iD t n):=by
 refine⟨?_,λm b=>?_,h.ck0,?_,h.nx0,?_,λm b=>?_⟩
 .have:=Wf n t.nodes;have:=h.len;show (ins n t.nodes).length<=_;omega
 .rcases zy (show m∈ins n t.nodes from b)with rfl | b
  .omega
  .have:=h.ek m b;omega
 .have:=h.ck;show t.gr<=_;omega
 .have:=h.nx;show t.next<=_;omega
 .rcases zy (show m∈ins n t.nodes from b)with rfl | b
  .omega
  .have:=h.lk m b;omega
def Bg.iq(h:Bg k t)(i:Int):(iq t i).ek.length<=64+k/\-(k:Int)<=(iq t i).links/\(iq t i).links<=1099511627776+(k:Int):=by
 unfold Tr.iq;cases b:find t.nodes i with
 |none=>simp[jb];omega
 |some n=>exact⟨h.ek n (gZ b).1,h.lk n (gZ b).1⟩
def Bg.left(h:Bg k t)(i:Int)(s:aq):Bg (k+1) (left t i s):=by
 have hg:=h.iq i;unfold Tr.left;refine h.iD ?_ ?_
 .grind
 grind
def Jf{i j:Nat}:bin .shr (.int .u64 ((i:Int)+j)) (.int .u64 1)=some (.int .u64 (((i+j) / 2:Nat):Int)):=by
 have h:((i:Int)+j).fdiv 2=(((i+j) / 2:Nat):Int):=by
  grind
 simp only[bin];rw[<-h];rfl
def jZ{α:Type}(p:α->Bool)(l:List α):Nat:=l.findIdx λx=>!p x
theorem lB{α:Type}(p:α->Bool)(l:List α):jZ p l<=l.length:=List.findIdx_le_length
def sX{α:Type}{p:α->Bool}{l:List α}(r:∀i j (h:j<l.length) (o:i<j),p l[j]=true->p l[i]=true){i:Nat}(h:i<l.length):i<jZ p l↔p l[i]=true:=by
 constructor
 .intro n;have:=gm n
  simpa using this
 .intro n
  rcases dA i (jZ p l)with h' | h'
  .exact h'
  .exfalso;have b:jZ p l<l.length:=by omega
   have q:=gK (w:=b)
   grind[jZ,Bool.not_eq_true',Nat.lt_or_ge]
def wK{α:Type}{p:α->Bool}{l:List α}:l.take (jZ p l)=l.takeWhile p:=by
 unfold jZ
 induction l with
 |nil=>rfl
 |cons x l b =>
  grind[List.takeWhile_cons]
def wL{α:Type}{p:α->Bool}{l:List α}:l.drop (jZ p l)=l.dropWhile p:=by
 unfold jZ
 induction l with
 |nil=>rfl
 |cons x l b =>
  grind[List.dropWhile_cons]
def jf(l:List Node)(i:Int):Nat:=jZ (λn=>decide (n.ino<i)) l
theorem vJ{l:List Node}(hs:kI l)(i:Int){k:Nat}(h:k<l.length):k<jf l i↔l[k].ino<i:=by
 have:=sX (p:=λn:Node=>decide (n.ino<i)) (l:=l) (λa b q o r=>by
  have:=(aW.1 hs) a b aa q o
  grind) h
 rw[decide_eq_true_eq]at this;exact this
def oD{l:List Node}(hs:kI l)(i:Int):(∃(h:jf l i<l.length),l[jf l i].ino=i/\find l i=some l[jf l i])\/(find l i=none/\∀(h:jf l i<l.length),l[jf l i].ino≠i):=by
 by_cases h:jf l i<l.length
 .by_cases r : l[jf l i].ino = i
  .grind[jt,List.getElem_mem]
  .refine .inr ⟨?_,λ_=>r⟩
   cases o:find l i with
   |none=>rfl
   |some q =>
    exfalso;let⟨n,b⟩:=gZ o;obtain⟨k,hk,rfl⟩:=bn.1 n;have h1:=(vJ hs i h);have h2:=(vJ hs i hk);have:¬jf l i<jf l i:=Nat.lt_irrefl _
    rcases dL k (jf l i)with h3 | h3 | h3
    .have:=h2.1 h3;omega
    .subst h3;exact r b
    .have:=(aW.1 hs) _ _ h hk h3
     grind
 .refine .inr ⟨?_,λh'=>absurd h' h⟩
  cases o:find l i with
  |none=>rfl
  |some q =>
   exfalso;let⟨n,b⟩:=gZ o;obtain⟨k,hk,rfl⟩:=bn.1 n
   grind[vJ,lB,jf]
def xL{l:List Node}(hs:kI l){i:Int}(h:jf l i<l.length)(o:l[jf l i].ino=i):(l.filter λm=>decide (m.ino≠i))=l.take (jf l i)++l.drop (jf l i+1):=by
 have n:l=l.take (jf l i)++(l[jf l i]::l.drop (jf l i+1)):=by simp_all
 have h1:(l.take (jf l i)).filter (λm=>decide (m.ino≠i))=l.take (jf l i):=by
  rw[bJ];intro m b;obtain⟨k,hk,rfl⟩:=bn.1 b
  grind[List.length_take,vJ,decide_eq_true]
 have h2:(l.drop (jf l i+1)).filter (λm=>decide (m.ino≠i))=l.drop (jf l i+1):=by
  rw[bJ];intro m b;obtain⟨k,hk,rfl⟩:=bn.1 b;rw[bW]at hk;rw[dW];have:=(aW.1 hs) (jf l i) (jf l i+1+k) h aa aa
  grind
 grind
variable{ok:aq->Bool}{lt:aq->aq->Bool}{t:Tree}
def WF.yj(w:WF ok lt t){q:Node}(l:q∈t.nodes):(q.kind=1/\q.ek=[]/\q.up=0/\q.data.length<=4096/\q.links=(cnt t.nodes q.ino:Nat))\/
  (q.kind=2/\q.data=[]/\pg ok lt t q.ek/\(q.ino=1->q.up=1/\q.links=0/\cnt t.nodes q.ino=0)/\(q.ino≠1->cnt t.nodes q.ino=1/\P7 t.nodes q.ino q.up=1/\q.links=1)):=by
 have b:=jt w.wf.jh l
 rcases w.wf.kind _ _ b with h | h
 .let⟨h1,h2,h3,h4⟩:=w.wf.file _ _ b h;exact .inl ⟨h,h1,h2,h3,ak h4⟩
 .let⟨h1,h2⟩:=w.wf.dir _ _ b h;refine .inr ⟨h,h1,h2,λh3=>?_,λh3=>?_⟩
  .let⟨r,i,v,r3,r4⟩:=w.wf.root;rw[h3,i]at b;obtain rfl:=bB b;exact⟨r3,r4,by rw[h3];exact w.wf.Dx⟩
  .let⟨h4,h5⟩:=w.wf.CZ _ _ b h h3;let⟨p,o,n⟩:=w.wf.par _ _ b h h3 rfl;exact⟨ak h4,by rw[IP w.wf.jh o];exact n,h5⟩
def WF.first(w:WF ok lt t):∃(h:0<t.nodes.length),t.nodes[0].ino=1/\t.nodes[0].kind=2:=by
 have h:=w.right;unfold GY at h;simp only[aC,decide_eq_true_eq]at h;have h0:0<t.nodes.length:=aa
 refine⟨h0,?_⟩;have:=h.1.2;rw[aF h0]at this;exact of_decide_eq_true this
def SQ(t:Tree)(i j:Int):Prop:=∃e∈(iq t i).ek,e.ino=j
inductive Ru(t:Tree)(i:Int):Int->Prop
 |one {j:Int}:SQ t i j->Ru t i j
 |more {j k:Int}:Ru t i j->SQ t j k->Ru t i k
def Ru.trans{t:Tree}{i j k:Int}(h:Ru t i j)(h':Ru t j k):Ru t i k:=by
 induction h' with
 |one h1=>exact .more h h1
 |more _ h2 b=>exact .more b h2
def It(t:Tree)(s:ax):Nat:=(t.nodes.filter λq=>!s.contains q.ino).length
def wG(t:Tree):Nat->Int->ax×Int->ax×Int
 |0,_,s=>s
 |k+1,i,s=>(iq t i).ek.foldl (λs e=>if s.1.contains e.ino=true then s else wG t k e.ino (s.1++[e.ino],s.2)) (s.1,s.2+((iq t i).data.length:Int))
def qv(t:Tree)(k:Nat)(s:ax×Int)(e:Ent):ax×Int:=if s.1.contains e.ino=true then s else wG t k e.ino (s.1++[e.ino],s.2)
theorem BU(t:Tree)(k:Nat)(i:Int)(s:ax×Int):wG t (k+1) i s=(iq t i).ek.foldl (qv t k) (s.1,s.2+((iq t i).data.length:Int)):=rfl
def DZ{t:Tree}{s s':ax}(h:∀x∈s,x∈s'):It t s'<=It t s:=by
 unfold It;refine List.Sublist.length_le ?_
 have:(t.nodes.filter λq=>!s'.contains q.ino)=(t.nodes.filter λq=>!s.contains q.ino).filter λq=>!s'.contains q.ino:=by
  rw[dJ];refine dn λq _=>?_
  by_cases b:q.ino∈s'
  .simp[b]
  .have:q.ino∉s:=λh'=>b (h _ h')
   simp[b,this]
 grind[List.filter_sublist]
def DY{t:Tree}{s:ax}{x:Int}(v:(find t.nodes x).isSome=true)(hx:x∉s):It t (s++[x])<It t s:=by
 let⟨q,r⟩:=cC.1 v;let⟨i,n⟩:=gZ r;unfold It
 have h1:(t.nodes.filter λq=>!(s++[x]).contains q.ino)=(t.nodes.filter λq=>!s.contains q.ino).filter λq=>!decide (q.ino=x):=by
  rw[dJ];refine dn λp _=>?_
  by_cases h:p.ino=x
  .simp[h]
  .by_cases b:p.ino∈s<;>simp[h,b]
 rw[h1];have h2:q∈t.nodes.filter λq=>!s.contains q.ino:=bU.2 ⟨i,by rw[n];simpa using hx⟩
 generalize(t.nodes.filter λq=>!s.contains q.ino)=l at *
 clear h1 i
 induction l with
 |nil=>cases h2
 |cons p l o =>
  rw[bX,aK]
  rcases aY.1 h2 with rfl | h2
  .have:=bG (λq:Node=>!decide (q.ino=x)) l
   simp only[n,decide_true,eA,bq,if_false];omega
  .have:=o h2;split
   .rw[aK];omega
   .omega
def dat(t:Tree)(i:Int):Int:=((iq t i).data.length:Int)
def wJ(t:Tree)(l:ax):Int:=(l.map (dat t)).sum
def FQ(t:Tree)(a b:ax):wJ t (a++b)=wJ t a+wJ t b:=by
 unfold wJ;rw[dS,List.sum_append]
theorem B9(t:Tree)(x:Int)(l:ax):wJ t (x::l)=dat t x+wJ t l:=rfl
section
variable{ok:aq->Bool}{lt:aq->aq->Bool}{t:Tree}
def yw(w:WF ok lt t){i:Int}{e:Ent}(b:e∈(iq t i).ek):(find t.nodes e.ino).isSome=true:=by
 unfold iq at b;cases h:find t.nodes i with
 |none=>rw[h]at b;cases b
 |some q =>
  rw[h]at b;have b:e∈q.ek:=b;exact(w.wf.dir _ _ h (qY w.wf h b)).2.to e b
structure Post(t:Tree)(s:ax×Int)(r:ax×Int)(new:ax)(P:Int->Prop):Prop where
 eq:r.1=s.1++new
 nd:r.1.Nodup
 node:∀x∈r.1,(find t.nodes x).isSome=true
 from_:∀x∈new,P x
 cl:∀x∈new,∀j,SQ t x j->j∈r.1
 sum:r.2=s.2+wJ t new
def afL(t:Tree)(k:Nat):Prop:=∀(i:Int)(s:ax×Int),It t s.1<k->s.1.Nodup->(∀x∈s.1,(find t.nodes x).isSome=true)->∃new,Post t (s.1,s.2+dat t i) (wG t k i s) new (Ru t i)/\∀j,SQ t i j->j∈(wG t k i s).1
def zO(k:Nat)(one:afL t k):∀(l:List Ent)(s:ax×Int),(∀e∈l,(find t.nodes e.ino).isSome=true)->It t s.1<k+1->s.1.Nodup->(∀x∈s.1,(find t.nodes x).isSome=true)->
   ∃new,Post t s (l.foldl (qv t k) s) new (λx=>∃e∈l,x=e.ino\/Ru t e.ino x)/\∀e∈l,e.ino∈(l.foldl (qv t k) s).1:=by
 intro l
 induction l with
 |nil =>
  intro s _ _ h2 h3;exact⟨[],⟨ah,h2,h3,(λx hx=>by cases hx),(λx hx=>by cases hx),by simp[wJ]⟩,(λe o=>by cases o)⟩
 |cons e l F =>
  intro s hl h1 h2 h3;rw[cE];have v:∀e∈l,(find t.nodes e.ino).isSome=true:=λe' o=>hl e' (bD _ o)
  have o:=hl e cr
  by_cases y:e.ino∈s.1
  .have hs:qv t k s e=s:=by unfold qv;rw[if_pos (ak y)]
   rw[hs];let⟨new,p,q⟩:=F s v h1 h2 h3;refine⟨new,⟨p.eq,p.nd,p.node,λx hx=>?_,p.cl,p.sum⟩,λe' h=>?_⟩
   .let⟨e',h4,h5⟩:=p.from_ x hx;exact⟨e',bD _ h4,h5⟩
   .rcases aY.1 h with rfl | h
    .rw[p.eq];exact dY _ y
    .exact q e' h
  .have hs:qv t k s e=wG t k e.ino (s.1++[e.ino],s.2):=by unfold qv;rw[if_neg (ak y)]
   rw[hs];have M:=DY o y
   have A:(s.1++[e.ino]).Nodup:=by
    rw[fT];exact⟨h2,ah,λa L b G=>by simp at G;subst G;exact λe'=>y (e'▸L)⟩
   have z:∀x∈s.1++[e.ino],(find t.nodes x).isSome=true:=λx hx=>by
    rcases aZ.1 hx with hx | hx
    .exact h3 x hx
    .simp at hx;subst hx;exact o
   let⟨n1,i,q1⟩:=one e.ino (s.1++[e.ino],s.2) (by simp only;omega) A z
   generalize wG t k e.ino (s.1++[e.ino],s.2)=m at *
   have r:∀x∈s.1,x∈m.1:=λx hx=>by rw[i.eq];exact dY _ (dY _ hx)
   let⟨K,p2,H⟩:=F m v (fM (DZ r) h1) i.nd i.node;have n:∀x∈m.1,x∈(l.foldl (qv t k) m).1:=λx hx=>by rw[p2.eq];exact dY _ hx
   refine⟨e.ino::n1++K,⟨?_,p2.nd,p2.node,λx hx=>?_,λx hx j E=>?_,?_⟩,λe' h=>?_⟩
   .rw[p2.eq,i.eq];simp
   .rcases aZ.1 hx with hx | hx
    .rcases aY.1 hx with rfl | hx
     .exact⟨e,cr,.inl rfl⟩
     .exact⟨e,cr,.inr (i.from_ x hx)⟩
    .let⟨e',h4,h5⟩:=p2.from_ x hx;exact⟨e',bD _ h4,h5⟩
   .rcases aZ.1 hx with hx | hx
    .rcases aY.1 hx with rfl | hx
     .exact n _ (q1 j E)
     .exact n _ (i.cl x hx j E)
    .exact p2.cl x hx j E
   .rw[p2.sum,i.sum,FQ,B9];simp only;omega
   .rcases aY.1 h with rfl | h
    .refine n _ ?_;rw[i.eq];simp
    .exact H e' h
def wF(w:WF ok lt t):∀k:Nat,afL t k
 |0=>λi s h=>absurd h aa
 |k+1=>by
  have l:=wF w k;intro i s h1 h2 h3;rw[BU];let⟨new,p,q⟩:=zO k l (iq t i).ek (s.1,s.2+dat t i) (λe b=>yw w b) h1 h2 h3
  refine⟨new,⟨p.eq,p.nd,p.node,λx hx=>?_,p.cl,p.sum⟩,λj n=>?_⟩
  .let⟨e,b,h4⟩:=p.from_ x hx
   rcases h4 with rfl | h4
   .exact .one ⟨e,b,rfl⟩
   .exact(Ru.one ⟨e,b,rfl⟩).trans h4
  .obtain⟨e,b,rfl⟩:=n;exact q e b
def CX(t:Tree)(d:Int):ax:=(wG t 301 d ([],0)).1
def EV(w:WF ok lt t)(d:Int):(CX t d).Nodup/\(∀x,x∈CX t d↔Ru t d x)/\(wG t 301 d ([],0)).2=dat t d+wJ t (CX t d):=by
 have l:It t []<301:=by
  have hl:=w.wf.len;have:=bG (λq:Node=>!([]:ax).contains q.ino) t.nodes
  unfold It;omega
 let⟨new,p,q⟩:=wF w 301 d ([],0) l List.nodup_nil (λx hx=>by cases hx)
 have b:CX t d=new:=by unfold CX;rw[p.eq];rfl
 refine⟨p.nd,λx=>⟨λhx=>?_,λhx=>?_⟩,?_⟩
 .rw[b]at hx;exact p.from_ x hx
 .induction hx with
  |one h=>exact q _ h
  |more h1 h2 i =>
   rw[b]at i;exact p.cl _ i _ h2
 .rw[p.sum,b];simp
end
section
variable{ok:aq->Bool}{lt:aq->aq->Bool}{t:Tree}
def vB{i j:Int}(h:SQ t i j):∃p,find t.nodes i=some p/\∃e∈p.ek,e.ino=j:=by
 let⟨e,b,n⟩:=h;unfold iq at b;cases l:find t.nodes i with
 |none=>rw[l]at b;cases b
 |some p =>
  grind
def Wg{i j:Int}{p:Node}(l:find t.nodes i=some p)(h:0<cN p j):SQ t i j:=by
 let⟨e,n,b⟩:=uQ.1 h;exact⟨e,by grind[iy],b⟩
def N7(w:WF ok lt t){i j:Int}(h:SQ t i j){n:Node}(r:find t.nodes j=some n)(hk:n.kind=2):n.up=i/\j≠1:=by
 obtain⟨p,o,e,v,rfl⟩:=vB h;let⟨_,b,_⟩:=kW w o v;refine⟨?_,b⟩;have x:0<cN p e.ino:=uQ.2 ⟨e,v,rfl⟩;have l:=(w.wf.CZ _ _ r hk b).1;let⟨q,q1,y⟩:=w.wf.par _ _ r hk b rfl;have:=Dv w.wf.jh (ak l) (gZ o).1 (gZ q1).1 x aa
 subst this;exact(iI q1).symm.trans (iI o)
def OW(w:WF ok lt t){d j:Int}:Ru t d j↔∃p e,Cr t d p e/\SQ t p j:=by
 constructor
 .intro h
  induction h with
  |one h=>exact⟨d,0,.here,h⟩
  |more h1 h2 i =>
   let⟨p,e,h3,h4⟩:=i;let⟨q,l,e',n,hk⟩:=vB h2;have b:=qY w.wf l n;let⟨h5,o⟩:=N7 w h4 l b;exact⟨_,e+1,.up l b o (by rw[h5];exact h3),h2⟩
 .rintro⟨p,e,h1,h2⟩
  induction h1 generalizing j with
  |here=>exact .one h2
  |up h hk h1 v i =>
   let⟨q,q1,r⟩:=w.wf.par _ _ h hk h1 rfl;exact .more (i (Wg q1 aa)) h2
def mO(t:Tree)(d:Int):Int:=if jK t d=0 then((CX t d).length:Int)else 0
def mP(t:Tree)(d:Int):Int:=if jK t d=0 then wJ t (CX t d)else 0
end
structure Qu where
 ino:Int
 nodes:Int
 bytes:Int
deriving DecidableEq
def mh(l:List Qu):Prop:=l.Pairwise λa b=>a.ino<b.ino
def kD(l:List Qu)(i:Int):Option Qu:=l.find? λq=>decide (q.ino=i)
def jG(l:List Qu)(i:Int):Nat:=jZ (λq=>decide (q.ino<i)) l
theorem Jw(l:List Qu)(i:Int):jG l i<=l.length:=lB _ _
variable{l:List Qu}{i:Int}{q x:Qu}
theorem oW(hs:mh l)(i:Int){k:Nat}(h:k<l.length):k<jG l i↔l[k].ino<i:=by
 have:=sX (p:=λn:Qu=>decide (n.ino<i)) (l:=l) (λa b q o r=>by
  have:=(aW.1 hs) a b aa q o
  grind) h
 rw[decide_eq_true_eq]at this;exact this
def qy(h:kD l i=some q):q∈l/\q.ino=i :=
 ⟨bN h,by have:=cW h;grind⟩
def LZ(hs:mh l){a b:Qu}(r:a∈l)(q:b∈l)(h:a.ino=b.ino):a=b:=by
 obtain⟨i,o,rfl⟩:=bn.1 r;obtain⟨j,n,rfl⟩:=bn.1 q
 rcases dL i j with h1 | h1 | h1
 .have:=(aW.1 hs) _ _ o n h1;omega
 .subst h1;rfl
 .have:=(aW.1 hs) _ _ n o h1;omega
theorem NT(hs:mh l)(h:q∈l):kD l q.ino=some q:=by
 cases b:kD l q.ino with
 |none =>
  unfold kD at b
  grind
 |some p=>rw[LZ hs (qy b).1 h (qy b).2]
def Ca(hs:mh l)(i:Int):(∃(h:jG l i<l.length),l[jG l i].ino=i/\kD l i=some l[jG l i])\/(kD l i=none/\∀(h:jG l i<l.length),l[jG l i].ino≠i):=by
 by_cases h:jG l i<l.length
 .by_cases r : l[jG l i].ino = i
  .grind[NT,List.getElem_mem]
  .refine .inr ⟨?_,λ_=>r⟩
   cases o:kD l i with
   |none=>rfl
   |some q =>
    exfalso;let⟨n,b⟩:=qy o;obtain⟨k,hk,rfl⟩:=bn.1 n;have h1:=(oW hs i h);have h2:=(oW hs i hk)
    rcases dL k (jG l i)with h3 | h3 | h3
    .have:=h2.1 h3;omega
    .subst h3;exact r b
    .have:=(aW.1 hs) _ _ h hk h3
     grind
 .refine .inr ⟨?_,λh'=>absurd h' h⟩
  cases o:kD l i with
  |none=>rfl
  |some q =>
   exfalso;let⟨n,b⟩:=qy o;obtain⟨k,hk,rfl⟩:=bn.1 n
   grind[oW,Jw]
def tZ(l:List Qu)(i:Int):List Qu:=l.filter λq=>decide (q.ino≠i)
def vm(l:List Qu)(x:Qu):List Qu:=l.take (jG l x.ino)++x::(l.drop (jG l x.ino)).filter λq=>decide (q.ino≠x.ino)
theorem CB(hs:mh l)(i:Int):(l.take (jG l i)).filter (λm=>decide (m.ino≠i))=l.take (jG l i):=by
 rw[bJ];intro m b;obtain⟨k,hk,rfl⟩:=bn.1 b;rw[bI]at hk;rw[dV];have:=(oW hs i (k:=k) aa).1 aa
 grind
theorem Jr(hs:mh l)(h:jG l i<l.length)(o:l[jG l i].ino=i):(l.drop (jG l i)).filter (λm=>decide (m.ino≠i))=l.drop (jG l i+1):=by
 have b:l.drop (jG l i)=l[jG l i]::l.drop (jG l i+1):=bz h
 have h2:(l.drop (jG l i+1)).filter (λm=>decide (m.ino≠i))=l.drop (jG l i+1):=by
  rw[bJ];intro m n;obtain⟨k,hk,rfl⟩:=bn.1 n;rw[bW]at hk;rw[dW];have:=(aW.1 hs) (jG l i) (jG l i+1+k) h aa aa
  grind
 grind
theorem SI(h:kD l i=none):∀q∈l,q.ino≠i:=by
 grind[kD,List.find?_eq_none]
def YN(h:kD l i=none):l.filter (λm=>decide (m.ino≠i))=l:=by
 grind[List.filter_eq_self,decide_eq_true,SI]
def JV(h:kD l i=none):tZ l i=l:=YN h
def Mr(hs:mh l)(h:jG l i<l.length)(b:l[jG l i].ino=i):tZ l i=l.take (jG l i)++l.drop (jG l i+1):=by
 grind[Jr,tZ,List.take_append_drop,jG,CB]
def JW(h:kD l x.ino=none):vm l x=l.take (jG l x.ino)++x::l.drop (jG l x.ino):=by
 unfold vm
 congr 2
 grind[List.filter_eq_self,decide_eq_true,SI,List.mem_of_mem_drop]
def Mx(hs:mh l)(h:jG l x.ino<l.length)(b:l[jG l x.ino].ino=x.ino):vm l x=l.set (jG l x.ino) x:=by
 unfold vm;rw[Jr hs h b,dR,if_pos h]
section
variable(t:Tree)
def pass(q:Qu)(n b:Int):Bool:=decide (q.nodes<mO t q.ino+n\/q.bytes<mP t q.ino+b)
def AQ(l:List Qu):Nat->Int->Int
 |0,_=>0
 |k+1,d=>if (kD l d).isSome=true then d else if d=1 then 0 else AQ l k (Is t d)
def dom(l:List Qu)(d:Int):Int:=AQ t l (t.nodes.length+1) d
def tY(l:List Qu)(i n b:Int):List Qu×Int :=
 if jK t i≠0 then(l,jK t i)else if n<0 then(tZ l i,0)else if n<mO t i\/b<mP t i then(l,90)else if kD l i=none/\16<=l.length then(l,76)else(vm l ⟨i,n,b⟩,0)
end
structure OX(t:Tree)(l:List Qu):Prop where
 jh:mh l
 len:l.length<=16
 dir:∀q∈l,jK t q.ino=0
 ok:∀q∈l,pass t q 0 0=false
section
variable{ok:aq->Bool}{lt:aq->aq->Bool}{t:Tree}
def Rg(w:WF ok lt t){d:Int}(h:jK t d=0):∃k,rK t d k:=by
 unfold jK at h;cases b:find t.nodes d with
 |none=>rw[b]at h;cases h
 |some q =>
  rw[b]at h;simp only at h
  by_cases hk:q.kind=2
  .let⟨k,h1,_⟩:=w.dep _ _ b hk;exact⟨k,h1⟩
  grind
def Rc{d:Int}{k:Nat}(h:rK t d k):∀ {f g:Nat},k<f->k<g->AQ t l f d=AQ t l g d:=by
 induction h with
 |root =>
  intro f g b hg;obtain⟨f,rfl⟩:∃j,f=j+1:=⟨f-1,aa⟩
  obtain⟨g,rfl⟩:∃j,g=j+1:=⟨g-1,aa⟩
  simp[AQ]
 | @up i n d h hk h1 r o =>
  intro f g b hg;obtain⟨f,rfl⟩:∃j,f=j+1:=⟨f-1,aa⟩
  obtain⟨g,rfl⟩:∃j,g=j+1:=⟨g-1,aa⟩
  have q:Is t i=n.up:=by unfold Is;rw[h];rfl
  grind[AQ]
def XC(w:WF ok lt t){d:Int}{k:Nat}(h:rK t d k){f:Nat}(b:k<f):AQ t l f d=dom t l d :=
 Rc h b (by have:=ri w h;omega)
end
structure Ext(P:Int->Prop)(s r:ax×Bool)(new:ax):Prop where
 eq:r.1=s.1++new
 more:r.2=(s.2 || !new.isEmpty)
 nd:s.1.Nodup->r.1.Nodup
 is:∀x∈new,P x
def Ext.nil(P:Int->Prop)(s:ax×Bool):Ext P s s []:=⟨ah,ah,id,ah⟩
def Ext.trans{P:Int->Prop}{s r u:ax×Bool}{a b:ax}(h:Ext P s r a)(h':Ext P r u b):Ext P s u (a++b) :=
 ⟨by rw[h'.eq,h.eq,bV],by rw[h'.more,h.more];cases a<;>simp,λg=>h'.nd (h.nd g),λx hx=>(aZ.1 hx).elim (h.is x) (h'.is x)⟩
section
variable{ok:aq->Bool}{lt:aq->aq->Bool}{t:Tree}
end
def QB{l:List Node}(hs:kI l){n:Node}(h:jf l n.ino<l.length)(i:l[jf l n.ino].ino=n.ino):ins n l=l.set (jf l n.ino) n:=by
 unfold ins;rw[<-wK,<-wL];show l.take (jf l n.ino)++n::(l.drop (jf l n.ino)).filter _=_
 have h2:(l.drop (jf l n.ino)).filter (λm=>decide (m.ino≠n.ino))=l.drop (jf l n.ino+1):=by
  rw[bz h,bX,if_neg (by simp[i]),bJ]
  intro m b;obtain⟨k,hk,rfl⟩:=bn.1 b;rw[bW]at hk;rw[dW];have:=(aW.1 hs) (jf l n.ino) (jf l n.ino+1+k) h aa aa
  exact decide_eq_true aa
 rw[h2];rw[dR,if_pos h]
def QC{l:List Node}(hs:kI l){n:Node}(b:find l n.ino=none):ins n l=l.take (jf l n.ino)++n::l.drop (jf l n.ino):=by
 unfold ins;rw[<-wK,<-wL];show l.take (jf l n.ino)++n::(l.drop (jf l n.ino)).filter _=_
 have h2:(l.drop (jf l n.ino)).filter (λm=>decide (m.ino≠n.ino))=l.drop (jf l n.ino):=by
  rw[bJ];intro m h;unfold find at b;rw[cv]at b;have:=b m (cA h)
  simpa using this
 rw[h2]
def DW{t:Tree}(hs:kI t.nodes){i:Int}{n:Node}(h:jf t.nodes i<t.nodes.length)(l:t.nodes[jf t.nodes i].ino=i)(b:n.ino=i):iD t n=⟨false,t.nodes.set (jf t.nodes i) n,t.next,t.gr⟩:=by
 subst b;unfold iD;rw[QB hs h l]
def Bb{t:Tree}(hs:kI t.nodes){i:Int}{n:Node}(h:find t.nodes i=none)(b:n.ino=i):iD t n=⟨false,t.nodes.take (jf t.nodes i)++n::t.nodes.drop (jf t.nodes i),t.next,t.gr⟩:=by
 subst b;unfold iD;rw[QC hs h]
variable{lt:aq->aq->Bool}
def kX(lt:aq->aq->Bool)(l:List Ent)(s:aq):Nat:=jZ (λe=>lt e.name s) l
def vK(o:Ord lt){l:List Ent}(hs:rA lt l)(s:aq){k:Nat}(h:k<l.length):k<kX lt l s↔lt l[k].name s=true :=
 sX (p:=λe:Ent=>lt e.name s) (l:=l) (λa b q i n=>o.tr _ _ _ ((aW.1 hs) a b aa q i) n) h
def tP(o:Ord lt){l:List Ent}(hs:rA lt l)(s:aq):(∃(h:kX lt l s<l.length),l[kX lt l s].name=s/\l.find? (λe=>decide (e.name=s))=some l[kX lt l s])\/
  (l.find? (λe=>decide (e.name=s))=none/\∀(h:kX lt l s<l.length),l[kX lt l s].name≠s):=by
 have one:∀ {i j:Nat} (q:i<l.length) (n:j<l.length),l[i].name=l[j].name->i=j:=λ{i j} q n v=>by
  rcases dL i j with h | h | h
  .have:=(aW.1 hs) i j q n h;rw[v,o.QA]at this;cases this
  .exact h
  .have:=(aW.1 hs) j i n q h;rw[v,o.QA]at this;cases this
 cases z:l.find? (λe=>decide (e.name=s))with
 |none =>
  grind
 |some e =>
  have x:=bN z;have r:e.name=s:=by grind
  let⟨k,hk,b⟩:=bn.1 x;have y:kX lt l s=k:=by
   rcases dL (kX lt l s) k with h | h | h
   .have h1:=(aW.1 hs) _ _ aa hk h
    rw[b,r]at h1;have:=(vK o hs s aa).2 h1
    omega
   .exact h
   .have h1:=(vK o hs s hk).1 h;rw[b,r,o.QA]at h1;cases h1
  grind
def Nn(o:Ord lt){l:List Ent}(hs:rA lt l){e:Ent}(i:l.find? (λx=>decide (x.name=e.name))=none):sH lt e l=l.take (kX lt l e.name)++e::l.drop (kX lt l e.name):=by
 unfold sH kX;rw[wK,wL]
 have n:∀x∈l,(!lt e.name x.name)=lt x.name e.name:=λx hx=>by
  rw[cv]at i;have b:x.name≠e.name:=by simpa using i x hx
  rcases o.tot x.name e.name with h | h | h
  .rw[h];cases h2:lt e.name x.name with
   |false=>rfl
   |true =>
    have:=o.tr _ _ _ h h2;rw[o.QA]at this;cases this
  .exact absurd h b
  .rw[h];cases h2:lt x.name e.name with
   |false=>rfl
   |true =>
    have:=o.tr _ _ _ h h2;rw[o.QA]at this;cases this
 clear i hs
 induction l with
 |nil=>rfl
 |cons x l q =>
  rw[ec,ec,dF,dF,n x cr];cases lt x.name e.name with
  |true =>
   simp only[if_true,aM];rw[q λy r=>n y (bD _ r)]
  |false=>simp
def KL(o:Ord lt){l:List Ent}(hs:rA lt l){s:aq}(h:kX lt l s<l.length)(q:l[kX lt l s].name=s):mI s l=l.take (kX lt l s)++l.drop (kX lt l s+1):=by
 unfold mI;have b:l=l.take (kX lt l s)++(l[kX lt l s]::l.drop (kX lt l s+1)):=by rw[<-bz h,cF]
 have h1:(l.take (kX lt l s)).filter (λm=>decide (m.name≠s))=l.take (kX lt l s):=by
  rw[bJ];intro m i;obtain⟨k,hk,rfl⟩:=bn.1 i;rw[bI]at hk;rw[dV];have:=(vK o hs s (k:=k) aa).1 aa
  refine decide_eq_true λn=>?_
  rw[n,o.QA]at this;cases this
 have h2:(l.drop (kX lt l s+1)).filter (λm=>decide (m.name≠s))=l.drop (kX lt l s+1):=by
  rw[bJ];intro m i;obtain⟨k,hk,rfl⟩:=bn.1 i;rw[bW]at hk;rw[dW];have:=(aW.1 hs) (kX lt l s) (kX lt l s+1+k) h aa aa
  rw[q]at this;refine decide_eq_true λn=>?_
  rw[n,o.QA]at this;cases this
 have h3:=congrArg (List.filter λm=>decide (m.name≠s)) b
 rw[cV,bX,h1,h2]at h3;rw[h3];simp[q]
structure Ho where
 c:Int
 h:Int
 ino:Int
deriving DecidableEq
def jc(c h:Int)(x:Ho):Bool:=decide (x.c<c\/(x.c=c/\x.h<h))
def pW(c h:Int)(x:Ho):Bool:=decide (x.c=c/\x.h=h)
def sP(l:List Ho)(i:Int):Bool:=l.any λx=>decide (x.ino=i)
def nH(q:Node):Bool:=decide (q.kind=1/\q.links=0)
def Qx(t:Tree)(i:Int):Bool:=(find t.nodes i).elim false nH
def Vs(c h:Int):Bool:=decide (0<=c/\c<16/\0<=h/\h<=99)
def zG(l:List Ho)(x:Ho):List Ho:=l.take (jZ (jc x.c x.h) l)++x::l.drop (jZ (jc x.c x.h) l)
def rY(t:Tree)(l:List Ho)(c h i:Int):List Ho×Int :=
 if Vs c h=false then(l,1)else match find t.nodes i with
 |none=>(l,70)
 |some q=>if nH q=true then(l,70)else if q.kind=2 then(l,72)else if l.any (pW c h)=true then(l,71)else if 64<=l.length then(l,76)else(zG l ⟨c,h,i⟩,0)
def rS(l:List Ho)(c h:Int):List Ho:=l.take (l.findIdx (pW c h))++l.drop (l.findIdx (pW c h)+1)
def ajg(t:Tree)(l:List Ho)(c h:Int):Tree×List Ho×Int:=match l.find? (pW c h)with
 |none=>(t,l,80)
 |some x=>(if Qx t x.ino=true/\sP (rS l c h) x.ino=false then(free t x.ino).1 else t,rS l c h,0)
def sQ(c:Int)(b:ax)(t:Tree)(l:List Ho):Tree×List Ho:=b.foldl (λs h=>((ajg s.1 s.2 c h).1,(ajg s.1 s.2 c h).2.1)) (t,l)
def zj(l:List Ho)(c:Int):ax:=(l.filter λx=>decide (x.c=c)).map Ho.h
def qj(t:Tree):ax:=(t.nodes.filter nH).map Node.ino
def Ea(t:Tree)(l:List Ho):Tree:=(qj t).foldl (λt i=>if sP l i=false then(free t i).1 else t) t
def Ks(l:List Ho)(c h:Int):Int×Int:=match l.find? (pW c h)with
 |none=>(0,80)
 |some x=>(x.ino,0)
structure Act where
 d:Nat
 c:Nat
 h:Nat
 n:Nat
 m:Nat
section
variable(ok:aq->Bool)
def LI(t:Tree)(l:List Ho)(a:Act):Tree:=Ea (un ok t (nodeAt t a.n) (nameOf a.m)).1 l
end
def pU(l:List Ho):Prop:=l.Pairwise λx y=>jc y.c y.h x=true
def sY{l:List Ho}(hs:pU l)(c h:Int){k:Nat}(hk:k<l.length):k<jZ (jc c h) l↔jc c h l[k]=true :=
 sX (λa b o i n=>by
  have:=(aW.1 hs) a b aa o i
  unfold jc at this n⊢
  grind) hk
def KN{l:List Ho}(hs:pU l)(c h:Int):(∃(hk:jZ (jc c h) l<l.length),pW c h l[jZ (jc c h) l]=true/\l.any (pW c h)=true)\/(l.any (pW c h)=false/\∀(hk:jZ (jc c h) l<l.length),pW c h l[jZ (jc c h) l]=false):=by
 have o:∀k (hk:k<l.length),pW c h l[k]=true->k=jZ (jc c h) l:=λk hk n=>by
  have h2:=sY hs c h hk;unfold pW at n;rw[decide_eq_true_eq]at n
  rcases dL k (jZ (jc c h) l)with h3 | h3 | h3
  .have:=h2.1 h3;unfold jc at this;rw[decide_eq_true_eq]at this;omega
  .exact h3
  .exfalso;have h4:=(aW.1 hs) _ _ aa hk h3
   have h5:=sY hs c h (k:=jZ (jc c h) l) aa
   have q:¬jc c h l[jZ (jc c h) l]=true:=λh=>Nat.lt_irrefl _ (h5.2 h)
   unfold jc at h4;rw[decide_eq_true_eq]at h4;apply q;unfold jc;rw[decide_eq_true_eq];omega
 by_cases hk:jZ (jc c h) l<l.length
 .cases n:pW c h l[jZ (jc c h) l]with
  |true=>exact .inl ⟨hk,n,ct.2 ⟨_,aU hk,n⟩⟩
  |false =>
   refine .inr ⟨?_,λ_=>n⟩
   rw[<-fm,ct]
   rintro⟨x,hx,b⟩
   obtain⟨k,i,rfl⟩:=bn.1 hx;have e:=o k i b;subst e;rw[n]at b;cases b
 .refine .inr ⟨?_,λh=>absurd h hk⟩
  rw[<-fm,ct]
  rintro⟨x,hx,b⟩
  obtain⟨k,i,rfl⟩:=bn.1 hx;have e:=o k i b;omega
def Gs(u v:Tree):Prop:=u.nodes=v.nodes/\u.next=v.next/\u.gr=v.gr
def Gs.trans{a b c:Tree}(h:Gs a b)(h':Gs b c):Gs a c:=⟨h.1.trans h'.1,h.2.1.trans h'.2.1,h.2.2.trans h'.2.2⟩
def Gs.symm{a b:Tree}(h:Gs a b):Gs b a:=⟨h.1.symm,h.2.1.symm,h.2.2.symm⟩
def oP(l:List Ho)(q:Node):Bool:=!(nH q && !sP l q.ino)
def swp(t:Tree)(l:List Ho):Tree:=⟨false,t.nodes.filter (oP l),t.next,t.gr⟩
def xF{l:List Node}(hs:kI l)(p:Node->Bool)(i:Int):find (l.filter p) i=(find l i).bind λq=>if p q=true then some q else none:=by
 cases n:find l i with
 |none =>
  cases h:find (l.filter p) i with
  |none=>rfl
  |some q =>
   let⟨h1,h2⟩:=gZ h;have:=jt hs (bU.1 h1).1;rw[h2,n]at this;cases this
 |some q =>
  let⟨h1,h2⟩:=gZ n;show _=if p q=true then some q else none
  by_cases b:p q=true
  .rw[if_pos b];have:=jt (hs.filter p) (bU.2 ⟨h1,b⟩)
   rwa [h2]at this
  .rw[if_neg b];cases h:find (l.filter p) i with
   |none=>rfl
   |some m =>
    let⟨h3,h4⟩:=gZ h;have h5:=jt hs (bU.1 h3).1;rw[h4,n]at h5;obtain rfl:=bB h5;exact absurd (bU.1 h3).2 b
def BS{u:Tree}{i:Int}{q:Node}(h:find u.nodes i=some q)(b:nH q=true):(free u i).1=kN u i:=by
 unfold nH at b;rw[decide_eq_true_eq]at b;unfold free;rw[h];simp only;rw[if_neg aa,if_neg aa]
def KA{u:Tree}{i:Int}(h:find u.nodes i=none):(free u i).1=u:=by
 unfold free;rw[h]
def Ua(l:List Ho)(t:Tree)(i:Int):Tree:=if sP l i=false then(free t i).1 else t
def aa8(l:List Ho)(os:ax):∀ {u:Tree},kI u.nodes->(∀i∈os,∀q,find u.nodes i=some q->nH q=true)->
  Gs (os.foldl (Ua l) u) ⟨false,u.nodes.filter (λq=>!(os.contains q.ino && !sP l q.ino)),u.next,u.gr⟩:=by
 induction os with
 |nil =>
  intro u _ _;refine⟨?_,rfl,rfl⟩;exact(bJ.2 λ_ _=>ah).symm
 |cons i os z =>
  intro u hs x;rw[cE]
  by_cases n:sP l i=true
  .have e:Ua l u i=u:=by unfold Ua;rw[n];rfl
   rw[e];refine(z hs λj r=>x j (bD _ r)).trans ⟨?_,rfl,rfl⟩
   refine dn λq b=>?_
   by_cases h:q.ino=i
   .rw[h,n];simp
   .have v:(q.ino==i)=false:=by simpa using h
    rw[ew,v];simp
  .have n:sP l i=false:=by simpa using n
   cases y:find u.nodes i with
   |none =>
    have e:Ua l u i=u:=by unfold Ua;rw[n,if_pos rfl,KA y]
    rw[e];refine(z hs λj r=>x j (bD _ r)).trans ⟨?_,rfl,rfl⟩
    refine dn λq b=>?_
    have h:q.ino≠i:=λh=>by
     have:=jt hs b;rw[h,y]at this;cases this
    have v:(q.ino==i)=false:=by simpa using h
    rw[ew,v];simp
   |some E =>
    have e:Ua l u i=kN u i:=by unfold Ua;rw[n,if_pos rfl,BS y (x i cr E y)]
    rw[e];have A:kI (kN u i).nodes:=hs.filter _;refine(z A λj r q b=>?_).trans ⟨?_,rfl,rfl⟩
    .have:=xF hs (λm=>decide (m.ino≠i)) j
     rw[show find (kN u i).nodes j=find (u.nodes.filter λm=>decide (m.ino≠i)) j from rfl,this]at b
     cases o:find u.nodes j with
     |none=>rw[o]at b;cases b
     |some m =>
      rw[o]at b;have b:(if decide (m.ino≠i)=true then some m else none)=some q:=b
      split at b
      .obtain rfl:=bB b;exact x j (bD _ r) _ o
      .cases b
    .show (u.nodes.filter _).filter _=_;rw[dJ];refine dn λq b=>?_
     rw[ew]
     by_cases h:q.ino=i
     .rw[h,n];simp
     .have v:(q.ino==i)=false:=by simpa using h
      rw[v];simp[h]
def J2{t:Tree}(hs:kI t.nodes){q:Node}(i:q∈t.nodes):(qj t).contains q.ino=nH q:=by
 rw[ez,gu];unfold qj;rw[b7]
 constructor
 .rintro⟨m,l,n⟩
  let⟨h1,h2⟩:=bU.1 l;have a:=jt hs h1;have b:=jt hs i;rw[n,b]at a;obtain rfl:=bB a;exact h2
 .intro h;exact⟨q,bU.2 ⟨i,h⟩,rfl⟩
def JI{t:Tree}(hs:kI t.nodes)(l:List Ho):Gs (Ea t l) (swp t l):=by
 have h:=aa8 l (qj t) hs (λi n q b=>by
  unfold qj at n;obtain⟨m,o,rfl⟩:=b7.1 n;let⟨h1,h2⟩:=bU.1 o;have a:=jt hs h1;rw[b]at a;obtain rfl:=bB a;exact h2)
 refine Gs.trans h ⟨?_,rfl,rfl⟩;refine dn λq b=>?_
 rw[J2 hs b];rfl
def xw:∀ {l:List Ho} {c h:Int},pU l->(l.find? (pW c h)).isSome=true->rS l c h=l.filter λx=>!pW c h x
 | [],c,h,_,b=>by cases b
 |y::l,c,h,hs,b=>by
  let⟨h1,h2⟩:=bC.1 hs;unfold rS;rw[eC,bX];cases i:pW c h y with
  |true =>
   have:(l.filter λx=>!pW c h x)=l:=by
    rw[bJ];intro x hx;have:=h1 x hx;unfold jc at this;unfold pW at i⊢;rw[decide_eq_true_eq]at this i;rw[cD,decide_eq_false_iff_not];omega
   simp[this]
  |false =>
   rw[dD (by rw[i];simp)]at b
   have:=xw h2 b;unfold rS at this;simp only[cond_false,ef,if_true,List.take_succ_cons,List.drop_succ_cons,aM];rw[this]
def nX{l:List Ho}(hs:pU l)(t:Tree)(c h:Int):(ajg t l c h).2.1=l.filter λx=>!pW c h x:=by
 unfold ajg;cases b:l.find? (pW c h)with
 |none =>
  show l=_
  symm
  rw[bJ];intro x hx;have:=cv.1 b x hx
  simpa using this
 |some x =>
  exact xw hs (by rw[b];rfl)
def Hx(l:List Ho)(p:Ho->Bool)(i:Int):sP (l.filter p) i=true->sP l i=true:=by
 unfold sP;rw[ct,ct]
 rintro⟨x,hx,b⟩
 exact⟨x,(bU.1 hx).1,b⟩
def Cb{t:Tree}(Z:kI t.nodes){u:Tree}{n:List Ho}(P:pU n)(v:Gs u (swp t n))(c h:Int):Gs (ajg u n c h).1 (swp t (ajg u n c h).2.1):=by
 have hl:=nX P u c h;unfold ajg at hl⊢;cases Q:n.find? (pW c h)with
 |none=>exact v
 |some x =>
  rw[Q]at hl;have hl:rS n c h=n.filter λx=>!pW c h x:=hl
  show Gs (if Qx u x.ino=true/\sP (rS n c h) x.ino=false then(free u x.ino).1 else u) (swp t (rS n c h))
  rw[hl];have G:=bN Q;have H:=cW Q
  have o:∀i,i≠x.ino->sP (n.filter λx=>!pW c h x) i=sP n i:=λi r=>by
   rw[ez];refine⟨Hx _ _ _,λh1=>?_⟩
   unfold sP at h1⊢;rw[ct]at h1⊢;let⟨y,U,A⟩:=h1;rw[decide_eq_true_eq]at A;refine⟨y,bU.2 ⟨U,?_⟩,by rw[decide_eq_true_eq];exact A⟩
   rw[cD,<-fm];intro E;have N:x≠y:=λe=>r (by rw[<-A,e])
   obtain⟨a,X,rfl⟩:=bn.1 G;obtain⟨b,W,rfl⟩:=bn.1 U;have hab:a≠b:=λe=>N (by subst e;rfl)
   unfold pW at H E;rw[decide_eq_true_eq]at H E
   rcases dA a b with h2 | h2
   .have:=(aW.1 P) a b X W h2;unfold jc at this;rw[decide_eq_true_eq]at this;omega
   .have:=(aW.1 P) b a W X aa
    unfold jc at this;rw[decide_eq_true_eq]at this;omega
  have F:sP n x.ino=true:=by
   unfold sP;rw[ct];exact⟨x,G,ah⟩
  have O:kI u.nodes:=by rw[v.1];exact Z.filter _
  have L:∀q∈t.nodes,oP n q=true->find u.nodes q.ino=some q:=λq K hk=>by
   have:=jt (v.1▸O:kI (swp t n).nodes) (bU.2 ⟨K,hk⟩);rw[v.1];exact this
  generalize(n.filter λx=>!pW c h x)=T at *
  by_cases M:Qx u x.ino=true/\sP T x.ino=false
  .rw[if_pos M];let⟨l,S⟩:=M;unfold Qx at l;cases z:find u.nodes x.ino with
   |none=>rw[z]at l;cases l
   |some Y =>
    rw[z]at l;have l:nH Y=true:=l;rw[BS z l];refine⟨?_,v.2.1,v.2.2⟩;show u.nodes.filter _=t.nodes.filter _;rw[v.1];show (t.nodes.filter _).filter _=_;rw[dJ];refine dn λq K=>?_
    by_cases r:q.ino=x.ino
    .have hk:oP n q=true:=by unfold oP;rw[r,F];simp
     have e:=L q K hk;rw[r,z]at e;obtain rfl:=bB e;unfold oP;rw[r,l,S];simp
    .unfold oP;rw[o _ r];simp[r]
  .rw[if_neg M];refine⟨?_,v.2.1,v.2.2⟩;rw[v.1];refine dn λq K=>?_
   by_cases r:q.ino=x.ino
   .have hk:oP n q=true:=by unfold oP;rw[r,F];simp
    rw[hk]
    symm
    unfold oP;rw[r];cases h1:sP T x.ino with
    |true=>simp
    |false =>
     have h2:¬Qx u x.ino=true:=λh2=>M ⟨h2,h1⟩
     have e:=L q K hk;unfold Qx at h2;rw[<-r,e]at h2;have h2:¬nH q=true:=h2;simp[h2]
   .unfold oP;rw[o _ r]
def NJ{t:Tree}(r:kI t.nodes)(c:Int)(b:ax):∀ {u:Tree} {n:List Ho},pU n->Gs u (swp t n)->Gs (sQ c b u n).1 (swp t (sQ c b u n).2)/\(sQ c b u n).2=n.filter λx=>!(decide (x.c=c)&&b.contains x.h):=by
 induction b with
 |nil =>
  intro u n i l;refine⟨l,?_⟩;show n=_;exact(bJ.2 λ_ _=>ah).symm
 |cons k b q =>
  intro u n i l;have e:sQ c (k::b) u n=sQ c b (ajg u n c k).1 (ajg u n c k).2.1:=rfl;rw[e];have hl:=nX i u c k;have h1:=Cb r i l c k;have h2:pU (ajg u n c k).2.1:=by rw[hl];exact i.filter _
  let⟨h3,h4⟩:=q h2 h1;refine⟨h3,?_⟩;rw[h4,hl,dJ];refine dn λx hx=>?_
  rw[ew];unfold pW
  by_cases h5:x.c=c
  .by_cases o:x.h=k
   .simp[h5,o]
   .simp[h5,o]
  .simp[h5]
def D7{t:Tree}{l:List Ho}(h:∀q∈t.nodes,nH q=true->sP l q.ino=true):Gs t (swp t l):=by
 refine⟨?_,rfl,rfl⟩;show t.nodes=t.nodes.filter _
 symm
 rw[bJ];intro q b;unfold oP;cases i:nH q with
 |false=>rfl
 |true=>rw[h q b i];rfl
structure rC(t:Tree)(l:List Ho):Prop where
 jh:pU l
 len:l.length<=64
 key:∀x∈l,Vs x.c x.h=true
 file:∀x∈l,∃q,find t.nodes x.ino=some q/\q.kind=1
 orp:∀q∈t.nodes,nH q=true->sP l q.ino=true
variable{l:List Ho}
def QH{x:Ho}(h:x∈l):sP l x.ino=true:=by
 grind[sP,List.any_eq_true]
def rC.teq{t u:Tree}(h:rC t l)(e:Gs u t):rC u l :=
 ⟨h.jh,h.len,h.key,λx hx=>by rw[e.1];exact h.file x hx,λq b=>by rw[e.1]at b;exact h.orp q b⟩
def rC.swp{t:Tree}(hs:kI t.nodes)(h1:pU l)(h2:l.length<=64)(h3:∀x∈l,Vs x.c x.h=true)(h4:∀x∈l,∃q,find t.nodes x.ino=some q/\q.kind=1):rC (swp t l) l:=by
 refine⟨h1,h2,h3,λx hx=>?_,λq b i=>?_⟩
 .let⟨q,b,hk⟩:=h4 x hx;refine⟨q,?_,hk⟩;show find (t.nodes.filter (oP l)) x.ino=some q;rw[xF hs,b];show (if oP l q=true then some q else none)=some q
  rw[if_pos];unfold oP;rw[(gZ b).2,QH hx];simp
 .have:=(bU.1 b).2;unfold oP at this
  grind
def rC.sub{t:Tree}(hs:kI t.nodes)(h:rC t l)(p:Ho->Bool):rC (Tr.swp t (l.filter p)) (l.filter p) :=
 rC.swp hs (h.jh.filter p) (bQ (bG ..) h.len) (λx hx=>h.key x (bU.1 hx).1) (λx hx=>h.file x (bU.1 hx).1)
def rC.close{t:Tree}(hs:kI t.nodes)(h:rC t l)(c k:Int):rC (ajg t l c k).1 (ajg t l c k).2.1:=by
 have h1:=Cb hs h.jh (D7 h.orp) c k;have h2:=nX h.jh t c k;rw[h2]at h1⊢;exact(h.sub hs _).teq h1
def rC.gone{t:Tree}(hs:kI t.nodes)(h:rC t l)(c:Int)(b:ax):rC (sQ c b t l).1 (sQ c b t l).2:=by
 let⟨h1,h2⟩:=NJ hs c b h.jh (D7 h.orp);rw[h2]at h1⊢;exact(h.sub hs _).teq h1
def Nj(l:List Ho)(x:Ho):(zG l x).length=l.length+1:=by
 grind[zG,lB,jc,List.length_append,List.length_cons,List.length_take,List.length_drop]
def Ni{x:Ho}(hs:pU l)(q:l.any (pW x.c x.h)=false):pU (zG l x):=by
 unfold zG pU
 have n:∀y∈l.take (jZ (jc x.c x.h) l),jc x.c x.h y=true:=λy b=>by
  obtain⟨k,hk,rfl⟩:=bn.1 b;rw[bI]at hk;rw[dV];exact(sY hs x.c x.h aa).1 aa
 have o:∀y∈l.drop (jZ (jc x.c x.h) l),jc y.c y.h x=true:=λy b=>by
  obtain⟨k,hk,rfl⟩:=bn.1 b;rw[bW]at hk;rw[dW];have h1:=sY hs x.c x.h (k:=jZ (jc x.c x.h) l+k) aa
  have h2:¬jc x.c x.h l[jZ (jc x.c x.h) l+k]=true:=λh=>by have:=h1.2 h;omega
  have h3:¬pW x.c x.h l[jZ (jc x.c x.h) l+k]=true:=λh=>by
   grind
  unfold jc pW at *
  grind
 rw[gL];refine⟨hs.sublist (List.take_sublist _ _),bC.2 ⟨o,hs.sublist (List.drop_sublist _ _)⟩,λy b z i=>?_⟩
 rcases aY.1 i with rfl | i
 .exact n y b
 .have h1:=n y b;have h2:=o z i;unfold jc at *
  grind
section
variable{ok:aq->Bool}{lt:aq->aq->Bool}
def EL(t:Tree)(l:List Ho)(c h i:Int):((rY t l c h i).1=l/\(rY t l c h i).2≠0)\/∃q,Vs c h=true/\find t.nodes i=some q/\nH q=false/\q.kind≠2/\l.any (pW c h)=false/\l.length<64/\rY t l c h i=(zG l ⟨c,h,i⟩,0):=by
 unfold rY;split
 .grind
 grind
def Px{t:Tree}(w:WF ok lt t)(i:Int)(s:aq){j:Int}{q:Node}(v:find t.nodes j=some q)(hk:q.kind=1):∃l,find (un ok t i s).1.nodes j=some l/\l.kind=1/\l.data=q.data:=by
 unfold Tr.un;split
 .grind
 .rename_i h1;split
  .grind
  .have h0:(look ok t i s).2=0:=cQ.1 h1;have z:∃p,find t.nodes i=some p/\p.kind=2:=by
    unfold Tr.look at h0;split at h0
    .grind
    .rename_i h2;have h2:=cQ.1 h2;unfold jK at h2
     grind
   let⟨p,r,y⟩:=z;have o:j≠i:=λe=>by grind
   have n:find (left t i s).nodes j=some q:=by
    unfold Tr.left;rw[jM w.wf.jh,if_neg]
    .exact v
    .show ¬j=(iq t i).ino;rw[iy r,(gZ r).2];exact o
   have h:kI (left t i s).nodes:=mZ w.wf.jh;generalize(look ok t i s).1=x at *
   show ∃l,find (unnamed (left t i s) x).nodes j=some l/\_;unfold unnamed;split
   .rename_i h2;have b:j≠x:=λe=>by grind[iy]
    refine⟨q,?_,hk,rfl⟩;show find ((left t i s).nodes.filter _) j=_;rw[q7 h,if_neg b];exact n
   .by_cases b : j = x
    .subst b;rw[iy n];refine⟨{q with links:=q.links-1},?_,hk,rfl⟩
     rw[jM h,if_pos];exact(gZ n).2.symm
    .cases hx:find (left t i s).nodes x with
     |none =>
      refine⟨q,?_,hk,rfl⟩;rw[jM h,if_neg]
      .exact n
      .show ¬j=(iq (left t i s) x).ino;unfold iq;rw[hx];show ¬j=0;have:=(w.wf.pos _ _ v).1;omega
     |some m =>
      refine⟨q,?_,hk,rfl⟩;rw[jM h,if_neg]
      .exact n
      .show ¬j=(iq (left t i s) x).ino;rw[iy hx,(gZ hx).2];exact b
def WF.close{t:Tree}(w:WF ok lt t)(l:List Ho)(c h:Int):WF ok lt (ajg t l c h).1:=by
 unfold ajg;split
 .exact w
 .simp only;split
  .exact w.free _
  .exact w
def WF.gone(c:Int)(b:ax):∀ {t:Tree} (l:List Ho),WF ok lt t->WF ok lt (sQ c b t l).1:=by
 induction b with
 |nil=>intro t l w;exact w
 |cons k b h =>
  intro t l w;exact h (ajg t l c k).2.1 (w.close l c k)
def WF.Ea{t:Tree}(w:WF ok lt t)(l:List Ho):WF ok lt (Ea t l):=by
 have:∀(os:ax)(t:Tree),WF ok lt t->WF ok lt (os.foldl (λt i=>if sP l i=false then(Tr.free t i).1 else t) t):=by
  intro os
  induction os with
  |nil=>intro t w;exact w
  |cons i os b =>
   intro t w;rw[cE];apply b;split
   .exact w.free _
   .exact w
 exact this _ _ w
def WF.taken(o:Ord lt){t:Tree}(w:WF ok lt t)(l:List Ho)(a:Act):WF ok lt (LI ok t l a):=(w.un o _ _).Ea l
def rC.taken(o:Ord lt){t:Tree}(w:WF ok lt t)(h:rC t l)(a:Act):rC (LI ok t l a) l:=by
 have hs:=(w.un o (nodeAt t a.n) (nameOf a.m)).wf.jh;refine(rC.swp hs h.jh h.len h.key λx hx=>?_).teq (JI hs l)
 let⟨q,i,hk⟩:=h.file x hx;let⟨b,h1,h2,_⟩:=Px w (nodeAt t a.n) (nameOf a.m) i hk;exact⟨b,h1,h2⟩
end
variable{l:List Qu}
def Ey{i:Int}{q:Qu}:q∈tZ l i↔q∈l/\q.ino≠i:=by
 unfold tZ
 grind
def EB(hs:mh l){x q:Qu}:q∈vm l x↔q=x\/(q∈l/\q.ino≠x.ino):=by
 unfold vm;rw[aZ,aY,bU,decide_eq_true_eq]
 have h1:∀q∈l.take (jG l x.ino),q.ino≠x.ino:=λq b=>by
  have:=CB hs x.ino;rw[<-this]at b;exact of_decide_eq_true (bU.1 b).2
 constructor
 .rintro(h | rfl | ⟨h,h2⟩)
  .exact .inr ⟨dK h,h1 q h⟩
  .exact .inl rfl
  .exact .inr ⟨cA h,h2⟩
 .rintro(rfl | ⟨h,h2⟩)
  .exact .inr (.inl rfl)
  .rw[<-cF (jG l x.ino) l,aZ]at h;exact h.imp id λh=>.inr ⟨h,h2⟩
def Ex(hs:mh l)(i:Int):mh (tZ l i):=hs.filter _
def EA(hs:mh l)(x:Qu):mh (vm l x):=by
 have h1:∀q∈l.take (jG l x.ino),q.ino<x.ino:=λq h=>by
  obtain⟨k,hk,rfl⟩:=bn.1 h;rw[bI]at hk;rw[dV];exact(oW hs x.ino (k:=k) aa).1 aa
 have h2:∀q∈l.drop (jG l x.ino),x.ino<=q.ino:=λq h=>by
  obtain⟨k,hk,rfl⟩:=bn.1 h;rw[bW]at hk;rw[dW];have:=(oW hs x.ino (k:=jG l x.ino+k) aa)
  grind
 unfold mh vm;rw[gL,bC];refine⟨gA (List.take_sublist _ _) hs,⟨λq h=>?_,gI _ (gA (List.drop_sublist _ _) hs)⟩,λa n b i=>?_⟩
 .grind
 grind
def PY(hs:mh l)(x:Qu):tZ (vm l x) x.ino=tZ l x.ino:=by
 unfold vm tZ
 conv=>rhs;rw[<-cF (jG l x.ino) l]
 rw[cV,cV,bX];simp only[ne_eq,not_true_eq_false,decide_false,bq,if_false,dJ,Bool.and_self]
def IL(hs:mh l)(x:Qu):(vm l x).length=(tZ l x.ino).length+1:=by
 have h:=PY hs x;rw[<-h];unfold vm tZ;have h1:=CB hs x.ino;rw[cV,bX,h1,dJ]
 grind
def yg(l:List Qu)(i:Int):(tZ l i).length<=l.length:=bG _ _
def IG{i:Int}(h:(kD l i).isSome=true):(tZ l i).length<l.length:=by
 let⟨q,b⟩:=cC.1 h;let⟨h1,h2⟩:=qy b
 grind[Nat.lt_or_ge,tZ,List.Sublist.eq_of_length_le,List.filter_sublist,absurd]
section
variable{ok:aq->Bool}{lt:aq->aq->Bool}{t:Tree}
def yT(t:Tree)(i a b:Int):((tY t l i a b).2≠0/\(tY t l i a b).1=l/\(jK t i=0->((tY t l i a b).2=90\/((tY t l i a b).2=76/\16<=l.length))))\/
  (jK t i=0/\a<0/\tY t l i a b=(tZ l i,0))\/(jK t i=0/\0<=a/\mO t i<=a/\mP t i<=b/\((kD l i).isSome=true\/l.length<16)/\tY t l i a b=(vm l ⟨i,a,b⟩,0)):=by
 unfold tY
 by_cases h1:jK t i=0
 .rw[if_neg (ak h1)]
  by_cases h2:a<0
  .rw[if_pos h2];exact .inr (.inl ⟨h1,h2,rfl⟩)
  .rw[if_neg h2]
   by_cases h3:a<mO t i\/b<mP t i
   .rw[if_pos h3];exact .inl ⟨ah,rfl,λ_=>.inl rfl⟩
   .rw[if_neg h3]
    by_cases h4:kD l i=none/\16<=l.length
    .rw[if_pos h4];exact .inl ⟨ah,rfl,λ_=>.inr ⟨rfl,h4.2⟩⟩
    .rw[if_neg h4];refine .inr (.inr ⟨h1,aa,aa,aa,?_,rfl⟩)
     cases n:kD l i with
     |none=>exact .inr (Nat.lt_of_not_le λh=>h4 ⟨n,h⟩)
     |some q=>exact .inl rfl
 .rw[if_pos h1];exact .inl ⟨h1,rfl,λh=>absurd h h1⟩
def OX.set(h:OX t l)(i a b:Int):OX t (tY t l i a b).1:=by
 rcases yT t (l:=l) i a b with⟨_,h1,_⟩ | ⟨h1,h2,h3⟩ | ⟨h1,h2,h3,h4,h5,o⟩
 .rw[h1];exact h
 .rw[h3];exact⟨Ex h.jh i,bQ (yg l i) h.len,λq n=>h.dir q (Ey.1 n).1,λq n=>h.ok q (Ey.1 n).1⟩
 .rw[o];refine⟨EA h.jh _,?_,λq n=>?_,λq n=>?_⟩
  .rw[IL h.jh]
   rcases h5 with h5 | h5
   .have:=IG h5;have:=h.len;simp only;omega
   .have:=yg l i;simp only;omega
  .rcases(EB h.jh).1 n with rfl | ⟨n,_⟩
   .exact h1
   .exact h.dir q n
  .rcases(EB h.jh).1 n with rfl | ⟨n,_⟩
   .exact decide_eq_false (by simp only;omega)
   .exact h.ok q n
def OX.nil(t:Tree):OX t []:=⟨List.Pairwise.nil,ah,ah,ah⟩
end
end Go.Tr
