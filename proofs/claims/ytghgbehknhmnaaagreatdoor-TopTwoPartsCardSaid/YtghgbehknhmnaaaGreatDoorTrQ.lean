/- Part of the proof that TopTwoPartsCard holds. -/
import Derived.Test.YtghgbehknhmnaaaGreatDoorTrW
set_option linter.all false
namespace Go.Tr
section
variable(ok:au->Bool)(lt:au->au->Bool)
def aeF(t:Tree)(l:List Ent)(i:Nat):Bool:=match l[i]? with
 |none=>false
 |some x=>ok x.name&&(decide (1<=x.ek)&&(decide (x.ek<t.ek)&&((find t.nodes x.ino).isSome&&((decide (i=0)||((l[i-1]?).elim false λy=>lt y.name x.name))&&(l.take i).all λy=>!decide (y.ek=x.ek)))))
def Ot(t:Tree)(l:List Ent):Bool:=decide (l.length<=64)&&(List.range l.length).all (aeF ok lt t l)
def Qw(l:List Node)(i up:Int):Nat:=((l.filter λn=>decide (n.ino=up)).map λn=>cN n i).sum
def Ni(t:Tree)(n:Node):Bool :=
 if n.kind=1 then decide (n.b7.length=0)&&(decide (n.up=0)&&(decide (n.data.length<=4096)&&decide (n.links=(cnt t.nodes n.ino:Nat))))
 else if n.kind≠2\/0<n.data.length\/Ot ok lt t n.b7=false then false
 else if n.ino=1 then decide (n.up=1)&&(decide (n.links=0)&&decide (cnt t.nodes n.ino=0))
 else decide (cnt t.nodes n.ino=1)&&(decide (Qw t.nodes n.ino n.up=1)&&decide (n.links=1))
def ab0(t:Tree)(i:Nat):Bool:=match t.nodes[i]? with
 |none=>false
 |some n=>(decide (i=0)||((t.nodes[i-1]?).elim false λm=>decide (m.ino<n.ino)))&&(decide (n.ino<t.next)&&(decide (n.b7.length<=64)&&Ni ok lt t n))
def aeK(t:Tree)(n:Node):Bool:=if n.kind≠2 then true else below t n.ino 1&&(decide (depth t n.ino<=12)&&(!decide (depth t n.ino=12)||decide (n.b7.length=0)))
def Hi(t:Tree):Bool :=
 (decide (1<=t.nodes.length/\t.nodes.length<=200)&&((t.nodes[0]?).elim false λn=>decide (n.ino=1/\n.kind=2)))&&(decide (t.next<=1099511627776/\1<=t.ek/\t.ek<=1099511627776) &&
 ((List.range t.nodes.length).all (ab0 ok lt t)&&t.nodes.all (aeK t)))
end
variable{ok:au->Bool}{lt:au->au->Bool}{t:Tree}
theorem Oq{l:List Ent}(h:qg ok lt t l):Ot ok lt t l=true:=by
 unfold Ot;rw[aF,decide_eq_true_eq,aM];refine⟨h.len,λi b=>?_⟩
 have b:=fB.1 b;unfold aeF;rw[aH b];have n:=aP b;have o:=h.ck _ n;simp only[aF,decide_eq_true_eq,bR,aM];refine⟨h.nm _ n,o.1,o.2,h.to _ n,?_,λy q=>?_⟩
 .rcases dH i with h0 | h0
  .exact .inl h0
  .right;rw[aH (show i-1<l.length by omega)]
   exact(aX.1 h.jL) (i-1) i af b af
 .obtain⟨j,r,rfl⟩:=bp.1 q;rw[bF]at r;rw[eu];have:=(aX.1 h.SJ) j i af b af
  simpa using this
def I1{l:List Node}(hs:lC l){up:Int}{p:Node}(h:find l up=some p)(i:Int):Qw l i up=cN p i:=by
 let⟨b,r⟩:=fk h
 have:(l.filter λn=>decide (n.ino=up))=[p]:=by
  clear h
  induction l with
  |nil=>cases b
  |cons q l o =>
   let⟨h1,h2⟩:=bK.1 hs;rw[bO]
   rcases bw.1 b with rfl | b
   .rw[if_pos (an r)]
    congr 1
    grind[List.filter_eq_nil_iff]
   .have:=h1 p b;rw[if_neg ak]
    exact o h2 b
 grind[Qw]
def Nh(w:WF ok lt t){i:Int}{n:Node}(h:find t.nodes i=some n):Ni ok lt t n=true:=by
 have o:=jI h;unfold Ni;rw[o]
 rcases w.wf.kind _ _ h with hk | hk
 .rw[if_pos hk];let⟨f1,y,x,v⟩:=w.wf.file _ _ h hk
  grind
 .rw[if_neg af]
  let⟨A,z⟩:=w.wf.dir _ _ h hk;rw[if_neg (by grind[Oq])]
  by_cases h1:i=1
  .subst h1;rw[if_pos rfl];let⟨r,b,q,r3,r4⟩:=w.wf.root;rw[h]at b;cases b;simp only[aF,decide_eq_true_eq];exact⟨r3,r4,w.wf.Eh⟩
  .rw[if_neg h1];have hl:=w.wf.FH _ _ h hk h1;let⟨p,l,p2⟩:=w.wf.par _ _ h hk h1 rfl;simp only[aF,decide_eq_true_eq];exact⟨an hl.1,by rw[I1 w.wf.jL l];exact p2,hl.2⟩
def Hj{t:Tree}{i:Int}{d:Nat}(h:uA t i d):∃e,JR t 1 i e:=by
 induction h with
 |root=>exact⟨0,.here⟩
 |up h hk h1 n b =>
  let⟨e,l⟩:=b;exact⟨e+1,.up h hk h1 l⟩
def WF.right(w:WF ok lt t):Hi ok lt t=true:=by
 let⟨r,q,F,_⟩:=w.wf.root;have b:0<t.nodes.length:=gP (fk q).1;unfold Hi;simp only[aF,decide_eq_true_eq,aM];refine⟨⟨⟨b,w.wf.len⟩,?_⟩,⟨w.wf.ZV,w.wf.Ld,w.wf.XN⟩,λi o=>?_,λn z=>?_⟩
 .rw[aH b];simp only[bC,decide_eq_true_eq];have h0:=jN w.wf.jL (aP b);have x:=w.wf.pos _ _ h0;let⟨k,hk,A⟩:=bp.1 (fk q).1;have y:=jI q
  rcases dH k with l | l
  .grind
  .have:=(aX.1 w.wf.jL) 0 k b hk l
   grind
 .have o:=fB.1 o;unfold ab0;rw[aH o];have h:=jN w.wf.jL (aP o);simp only[aF,decide_eq_true_eq,bR];refine⟨?_,(w.wf.pos _ _ h).2,?_,Nh w h⟩
  .rcases dH i with h0 | h0
   .exact .inl h0
   .right;rw[aH (show i-1<t.nodes.length by omega)]
    simp only[bC,decide_eq_true_eq];exact(aX.1 w.wf.jL) (i-1) i af o af
  .rcases w.wf.kind _ _ h with hk | hk
   .rw[(w.wf.file _ _ h hk).1];simp
   .exact(w.wf.dir _ _ h hk).2.len
 .have h:=jN w.wf.jL z;unfold aeK;split
  .rfl
  .rename_i hk;let⟨d,v,E,G⟩:=w.dep _ _ h (cW.1 hk);rw[k8 v af]
   simp only[aF,decide_eq_true_eq,bR];refine⟨(wT w v).2 (Hj v),E,?_⟩
   grind
open Go.Am
def ov:∀a:au,gr a a=false
 | []=>rfl
 |a::x=>by
  simp only[gr,ov x];simp
def xd:∀a b:au,gr a b=true\/a=b\/gr b a=true
 | [],[]=>.inr (.inl rfl)
 | [],_::_=>.inl rfl
 |_::_,[]=>.inr (.inr rfl)
 |a::x,b::y=>by
  simp only[gr,bR,decide_eq_true_eq,aF,beq_iff_eq,dM,eN]
  rcases dQ a.toNat b.toNat with h | h | h
  .exact .inl (.inl h)
  .have i:a=b:=UInt8.toNat.inj h;subst i
   rcases xd x y with h | h | h
   .exact .inl (.inr ⟨rfl,h⟩)
   .exact .inr (.inl ⟨rfl,h⟩)
   .exact .inr (.inr (.inr ⟨rfl,h⟩))
  .exact .inr (.inr (.inl h))
def Aa:∀a b c:au,gr a b=true->gr b c=true->gr a c=true
 |_,_,[],_,h=>by simp[gr]at h
 |_,[],_::_,h,_=>by simp[gr]at h
 | [],_::_,_::_,_,_=>rfl
 |a::x,b::y,c::z,h1,h2=>by
  simp only[gr,bR,decide_eq_true_eq,aF,beq_iff_eq,eN]at h1 h2⊢
  rcases h1 with h1 | ⟨rfl,h1⟩
  .rcases h2 with h2 | ⟨rfl,h2⟩
   .exact .inl af
   .exact .inl h1
  .rcases h2 with h2 | ⟨rfl,h2⟩
   .exact .inl h2
   .exact .inr ⟨rfl,Aa x y z h1 h2⟩
def jM:Ord gr:=⟨ov,Aa,xd⟩
def Ab{a b:au}(h:gr a b=true):gr b a=false:=by
 cases h':gr b a with
 |false=>rfl
 |true=>have:=Aa _ _ _ h h';rw[ov]at this;cases this
def Mr{a b:au}(h:gr a b=true):a≠b:=λe=>by rw[e,ov]at h;cases h
structure Bg(k:Nat)(t:Tree):Prop where
 len:t.nodes.length<=200+k
 b7:∀n∈t.nodes,n.b7.length<=64+k
 ON:0<=t.ek
 ck:t.ek<=1099511627776+(k:Int)
 Qz:0<=t.next
 nx:t.next<=1099511627776+(k:Int)
 lk:∀n∈t.nodes,-(k:Int)<=n.links/\n.links<=1099511627776+(k:Int)
theorem XY(n:Node)(i:Int):cN n i<=n.b7.length:=bz ..
def XH{l:List Node}{b:Nat}(h:∀n∈l,n.b7.length<=b)(i:Int):cnt l i<=l.length*b:=by
 unfold cnt
 induction l with
 |nil=>simp
 |cons n l o =>
  grind[List.length_cons,Nat.succ_mul,List.mem_cons_of_mem,List.mem_cons_self,XY]
def WF.bg{ok:au->Bool}{lt:au->au->Bool}{t:Tree}(w:WF ok lt t):Bg 0 t:=by
 have l:∀n∈t.nodes,n.b7.length<=64:=λn i=>by
  have b:=jN w.wf.jL i
  rcases w.wf.kind _ _ b with h | h
  .rw[(w.wf.file _ _ b h).1];simp
  .exact(w.wf.dir _ _ b h).2.len
 let⟨r,o,hk,_,hl⟩:=w.wf.root;have q:=w.wf.pos _ _ o;refine⟨w.wf.len,l,by have:=w.wf.Ld;omega,by have:=w.wf.XN;omega,af,by have:=w.wf.ZV;omega,λn i=>?_⟩
 have b:=jN w.wf.jL i
 rcases w.wf.kind _ _ b with h | h
 .have h1:=(w.wf.file _ _ b h).2.2.2;have h2:=XH l n.ino;have h3:=w.wf.len
  grind
 .by_cases h1:n.ino=1
  .grind
  .have:=(w.wf.FH _ _ b h h1).2;omega
variable{k:Nat}{t:Tree}
def Bg.mono(h:Bg k t){j:Nat}(i:k<=j):Bg j t :=
 ⟨by have:=h.len;omega,λn b=>by have:=h.b7 n b;omega,h.ON,by have:=h.ck;omega,h.Qz,by have:=h.nx;omega,λn b=>by have:=h.lk n b;omega⟩
def AK{n m:Node}{l:List Node}(h:m∈ins n l):m=n\/m∈l:=by
 grind[ins,List.takeWhile_sublist,List.dropWhile_sublist]
def Wz(n:Node)(l:List Node):(ins n l).length<=l.length+1:=by
 unfold ins;rw[aU,aS];have h1:=bz (λm:Node=>decide (m.ino≠n.ino)) (l.dropWhile λm=>decide (m.ino<n.ino))
 have h2:=congrArg List.length (fJ (p:=λm:Node=>decide (m.ino<n.ino)) (l:=l))
 grind
theorem Bg.iP(h:Bg k t){n:Node}(i:n.b7.length<=64+k+1)(hl : -(k:Int)-1<=n.links/\n.links<=1099511627776+(k:Int)+1):Bg (k+1) (iP t n):=by
 refine⟨?_,λm b=>?_,h.ON,?_,h.Qz,?_,λm b=>?_⟩
 .have:=Wz n t.nodes;have:=h.len;show (ins n t.nodes).length<=_;omega
 .rcases AK (show m∈ins n t.nodes from b)with rfl | b
  .omega
  .have:=h.b7 m b;omega
 .have:=h.ck;show t.ek<=_;omega
 .have:=h.nx;show t.next<=_;omega
 .rcases AK (show m∈ins n t.nodes from b)with rfl | b
  .omega
  .have:=h.lk m b;omega
def Bg.kj(h:Bg k t)(i:Int):Bg k (kj t i) :=
 ⟨bJ (bz ..) h.len,λn b=>h.b7 n (bZ.1 b).1,h.ON,h.ck,h.Qz,h.nx,λn b=>h.lk n (bZ.1 b).1⟩
def Bg.iS(h:Bg k t)(i:Int):(iS t i).b7.length<=64+k/\-(k:Int)<=(iS t i).links/\(iS t i).links<=1099511627776+(k:Int):=by
 unfold Tr.iS;cases b:find t.nodes i with
 |none=>simp[jo];omega
 |some n=>exact⟨h.b7 n (fk b).1,h.lk n (fk b).1⟩
theorem Bg.left(h:Bg k t)(i:Int)(s:au):Bg (k+1) (left t i s):=by
 have hg:=h.iS i;unfold Tr.left;refine h.iP ?_ ?_
 .grind
 grind
def Bg.unnamed(h:Bg k t)(i:Int):Bg (k+1) (unnamed t i):=by
 have hg:=h.iS i;unfold Tr.unnamed;split
 .exact(h.kj i).mono (Nat.le_succ _)
 .refine h.iP (by grind) ?_
  grind
def Bg.nC(h:Bg k t)(kind up:Int):Bg (k+2) (nC t kind up):=by
 have h1:Bg (k+1) ⟨t.fn,t.nodes,t.next+1,t.ek⟩:=⟨by have:=h.len;simp only;omega,λn b=>by have:=h.b7 n b;omega,h.ON,by have:=h.ck;simp only;omega,by have:=h.Qz;simp only;omega,by have:=h.nx;simp only;omega,λn b=>by have:=h.lk n b;omega⟩
 refine h1.iP ?_ ?_
 .show 0<=_;omega
 .show _<=(1:Int)/\(1:Int)<=_;omega
def Jk{i j:Nat}:bin .shr (.int .u64 ((i:Int)+j)) (.int .u64 1)=some (.int .u64 (((i+j) / 2:Nat):Int)):=by
 have h:((i:Int)+j).fdiv 2=(((i+j) / 2:Nat):Int):=by
  grind
 simp only[bin];rw[<-h];rfl
def kg{α:Type}(p:α->Bool)(l:List α):Nat:=l.findIdx λx=>!p x
theorem lK{α:Type}(p:α->Bool)(l:List α):kg p l<=l.length:=List.findIdx_le_length
def tu{α:Type}{p:α->Bool}{l:List α}(r:∀i j (h:j<l.length) (o:i<j),p l[j]=true->p l[i]=true){i:Nat}(h:i<l.length):i<kg p l↔p l[i]=true:=by
 constructor
 .intro n;have:=gQ n
  simpa using this
 .intro n
  rcases dK i (kg p l)with h' | h'
  .exact h'
  .exfalso;have b:kg p l<l.length:=by omega
   have q:=iC (w:=b)
   grind[kg,Bool.not_eq_true',Nat.lt_or_ge]
def uo{α:Type}{p:α->Bool}{l:List α}:l.take (kg p l)=l.takeWhile p:=by
 unfold kg
 induction l with
 |nil=>rfl
 |cons x l b =>
  grind[List.takeWhile_cons]
def uq{α:Type}{p:α->Bool}{l:List α}:l.drop (kg p l)=l.dropWhile p:=by
 unfold kg
 induction l with
 |nil=>rfl
 |cons x l b =>
  grind[List.dropWhile_cons]
def jK(l:List Node)(i:Int):Nat:=kg (λn=>decide (n.ino<i)) l
theorem wM{l:List Node}(hs:lC l)(i:Int){k:Nat}(h:k<l.length):k<jK l i↔l[k].ino<i:=by
 have:=tu (p:=λn:Node=>decide (n.ino<i)) (l:=l) (λa b q o r=>by
  have:=(aX.1 hs) a b af q o
  grind) h
 rw[decide_eq_true_eq]at this;exact this
def pN{l:List Node}(hs:lC l)(i:Int):(∃(h:jK l i<l.length),l[jK l i].ino=i/\find l i=some l[jK l i])\/(find l i=none/\∀(h:jK l i<l.length),l[jK l i].ino≠i):=by
 by_cases h:jK l i<l.length
 .by_cases r : l[jK l i].ino = i
  .grind[jN,List.getElem_mem]
  .refine .inr ⟨?_,λ_=>r⟩
   cases o:find l i with
   |none=>rfl
   |some q =>
    exfalso;let⟨n,b⟩:=fk o;obtain⟨k,hk,rfl⟩:=bp.1 n;have h1:=(wM hs i h);have h2:=(wM hs i hk);have:¬jK l i<jK l i:=Nat.lt_irrefl _
    rcases dQ k (jK l i)with h3 | h3 | h3
    .have:=h2.1 h3;omega
    .subst h3;exact r b
    .have:=(aX.1 hs) _ _ h hk h3
     grind
 .refine .inr ⟨?_,λh'=>absurd h' h⟩
  cases o:find l i with
  |none=>rfl
  |some q =>
   exfalso;let⟨n,b⟩:=fk o;obtain⟨k,hk,rfl⟩:=bp.1 n
   grind[wM,lK,jK]
def yZ{l:List Node}(hs:lC l){i:Int}(h:jK l i<l.length)(o:l[jK l i].ino=i):(l.filter λm=>decide (m.ino≠i))=l.take (jK l i)++l.drop (jK l i+1):=by
 have n:l=l.take (jK l i)++(l[jK l i]::l.drop (jK l i+1)):=by simp_all
 have h1:(l.take (jK l i)).filter (λm=>decide (m.ino≠i))=l.take (jK l i):=by
  rw[bQ];intro m b;obtain⟨k,hk,rfl⟩:=bp.1 b
  grind[List.length_take,wM,decide_eq_true]
 have h2:(l.drop (jK l i+1)).filter (λm=>decide (m.ino≠i))=l.drop (jK l i+1):=by
  rw[bQ];intro m b;obtain⟨k,hk,rfl⟩:=bp.1 b;rw[bU]at hk;rw[ew];have:=(aX.1 hs) (jK l i) (jK l i+1+k) h af af
  grind
 grind
variable{ok:au->Bool}{lt:au->au->Bool}{t:Tree}
def WF.zB(w:WF ok lt t){q:Node}(l:q∈t.nodes):(q.kind=1/\q.b7=[]/\q.up=0/\q.data.length<=4096/\q.links=(cnt t.nodes q.ino:Nat))\/
  (q.kind=2/\q.data=[]/\qg ok lt t q.b7/\(q.ino=1->q.up=1/\q.links=0/\cnt t.nodes q.ino=0)/\(q.ino≠1->cnt t.nodes q.ino=1/\Qw t.nodes q.ino q.up=1/\q.links=1)):=by
 have b:=jN w.wf.jL l
 rcases w.wf.kind _ _ b with h | h
 .let⟨h1,h2,h3,h4⟩:=w.wf.file _ _ b h;exact .inl ⟨h,h1,h2,h3,an h4⟩
 .let⟨h1,h2⟩:=w.wf.dir _ _ b h;refine .inr ⟨h,h1,h2,λh3=>?_,λh3=>?_⟩
  .let⟨r,i,o,r3,r4⟩:=w.wf.root;rw[h3,i]at b;obtain rfl:=bB b;exact⟨r3,r4,by rw[h3];exact w.wf.Eh⟩
  .let⟨h4,h5⟩:=w.wf.FH _ _ b h h3;let⟨p,h6,n⟩:=w.wf.par _ _ b h h3 rfl;exact⟨an h4,by rw[I1 w.wf.jL h6];exact n,h5⟩
def WF.first(w:WF ok lt t):∃(h:0<t.nodes.length),t.nodes[0].ino=1/\t.nodes[0].kind=2:=by
 have h:=w.right;unfold Hi at h;simp only[aF,decide_eq_true_eq]at h;have h0:0<t.nodes.length:=af
 refine⟨h0,?_⟩;have:=h.1.2;rw[aH h0]at this;exact of_decide_eq_true this
def Q0(t:Tree)(i j:Int):Prop:=∃e∈(iS t i).b7,e.ino=j
inductive Ru(t:Tree)(i:Int):Int->Prop
 |one {j:Int}:Q0 t i j->Ru t i j
 |more {j k:Int}:Ru t i j->Q0 t j k->Ru t i k
def Ru.trans{t:Tree}{i j k:Int}(h:Ru t i j)(h':Ru t j k):Ru t i k:=by
 induction h' with
 |one h1=>exact .more h h1
 |more _ h2 b=>exact .more b h2
def IA(t:Tree)(s:ay):Nat:=(t.nodes.filter λq=>!s.contains q.ino).length
def xG(t:Tree):Nat->Int->ay×Int->ay×Int
 |0,_,s=>s
 |k+1,i,s=>(iS t i).b7.foldl (λs e=>if s.1.contains e.ino=true then s else xG t k e.ino (s.1++[e.ino],s.2)) (s.1,s.2+((iS t i).data.length:Int))
def ri(t:Tree)(k:Nat)(s:ay×Int)(e:Ent):ay×Int:=if s.1.contains e.ino=true then s else xG t k e.ino (s.1++[e.ino],s.2)
theorem CQ(t:Tree)(k:Nat)(i:Int)(s:ay×Int):xG t (k+1) i s=(iS t i).b7.foldl (ri t k) (s.1,s.2+((iS t i).data.length:Int)):=rfl
def EI{t:Tree}{s s':ay}(h:∀x∈s,x∈s'):IA t s'<=IA t s:=by
 unfold IA;refine List.Sublist.length_le ?_
 have:(t.nodes.filter λq=>!s'.contains q.ino)=(t.nodes.filter λq=>!s.contains q.ino).filter λq=>!s'.contains q.ino:=by
  rw[dP];refine dr λq _=>?_
  by_cases b:q.ino∈s'
  .simp[b]
  .have:q.ino∉s:=λh'=>b (h _ h')
   simp[b,this]
 grind[List.filter_sublist]
def EH{t:Tree}{s:ay}{x:Int}(y:(find t.nodes x).isSome=true)(r:x∉s):IA t (s++[x])<IA t s:=by
 let⟨q,v⟩:=bM.1 y;let⟨i,n⟩:=fk v;unfold IA
 have h1:(t.nodes.filter λq=>!(s++[x]).contains q.ino)=(t.nodes.filter λq=>!s.contains q.ino).filter λq=>!decide (q.ino=x):=by
  rw[dP];refine dr λp _=>?_
  by_cases h:p.ino=x
  .simp[h]
  .by_cases b:p.ino∈s<;>simp[h,b]
 rw[h1];have h2:q∈t.nodes.filter λq=>!s.contains q.ino:=bZ.2 ⟨i,by rw[n];simpa using r⟩
 generalize(t.nodes.filter λq=>!s.contains q.ino)=l at *
 clear h1 i
 induction l with
 |nil=>cases h2
 |cons p l o =>
  rw[bO,aS]
  rcases bw.1 h2 with rfl | h2
  .have:=bz (λq:Node=>!decide (q.ino=x)) l
   simp only[n,decide_true,eM,aZ,if_false];omega
  .have:=o h2;split
   .rw[aS];omega
   .omega
def dat(t:Tree)(i:Int):Int:=((iS t i).data.length:Int)
def tq(t:Tree)(l:ay):Int:=(l.map (dat t)).sum
def Gm(t:Tree)(a b:ay):tq t (a++b)=tq t a+tq t b:=by
 unfold tq;rw[List.map_append,List.sum_append]
theorem pM(t:Tree)(x:Int)(l:ay):tq t (x::l)=dat t x+tq t l:=rfl
section
variable{ok:au->Bool}{lt:au->au->Bool}{t:Tree}
def rZ(w:WF ok lt t){i:Int}{e:Ent}(b:e∈(iS t i).b7):(find t.nodes e.ino).isSome=true:=by
 unfold iS at b;cases h:find t.nodes i with
 |none=>rw[h]at b;cases b
 |some q =>
  rw[h]at b;have b:e∈q.b7:=b;exact(w.wf.dir _ _ h (D6 w.wf h b)).2.to e b
structure Post(t:Tree)(s:ay×Int)(r:ay×Int)(new:ay)(P:Int->Prop):Prop where
 eq:r.1=s.1++new
 nd:r.1.Nodup
 node:∀x∈r.1,(find t.nodes x).isSome=true
 from_:∀x∈new,P x
 cl:∀x∈new,∀j,Q0 t x j->j∈r.1
 sum:r.2=s.2+tq t new
def af9(t:Tree)(k:Nat):Prop:=∀(i:Int)(s:ay×Int),IA t s.1<k->s.1.Nodup->(∀x∈s.1,(find t.nodes x).isSome=true)->∃new,Post t (s.1,s.2+dat t i) (xG t k i s) new (Ru t i)/\∀j,Q0 t i j->j∈(xG t k i s).1
def Bf(k:Nat)(one:af9 t k):∀(l:List Ent)(s:ay×Int),(∀e∈l,(find t.nodes e.ino).isSome=true)->IA t s.1<k+1->s.1.Nodup->(∀x∈s.1,(find t.nodes x).isSome=true)->
   ∃new,Post t s (l.foldl (ri t k) s) new (λx=>∃e∈l,x=e.ino\/Ru t e.ino x)/\∀e∈l,e.ino∈(l.foldl (ri t k) s).1:=by
 intro l
 induction l with
 |nil =>
  intro s _ _ h2 h3;exact⟨[],⟨ai,h2,h3,(λx h=>by cases h),(λx h=>by cases h),by simp[tq]⟩,(λe r=>by cases r)⟩
 |cons e l G =>
  intro s hl h1 h2 h3;rw[bG];have y:∀e∈l,(find t.nodes e.ino).isSome=true:=λe' r=>hl e' (cB _ r)
  have r:=hl e cU
  by_cases z:e.ino∈s.1
  .have hs:ri t k s e=s:=by unfold ri;rw[if_pos (an z)]
   rw[hs];let⟨new,p,q⟩:=G s y h1 h2 h3;refine⟨new,⟨p.eq,p.nd,p.node,λx h=>?_,p.cl,p.sum⟩,λe' i=>?_⟩
   .let⟨e',h4,h5⟩:=p.from_ x h;exact⟨e',cB _ h4,h5⟩
   .rcases bw.1 i with rfl | i
    .rw[p.eq];exact ez _ z
    .exact q e' i
  .have hs:ri t k s e=xG t k e.ino (s.1++[e.ino],s.2):=by unfold ri;rw[if_neg (an z)]
   rw[hs];have N:=EH r z
   have E:(s.1++[e.ino]).Nodup:=by
    rw[gD];exact⟨h2,ai,λa M b H=>by simp at H;subst H;exact λe'=>z (e'▸M)⟩
   have A:∀x∈s.1++[e.ino],(find t.nodes x).isSome=true:=λx h=>by
    rcases aY.1 h with h | h
    .exact h3 x h
    .simp at h;subst h;exact r
   let⟨n1,n,q1⟩:=one e.ino (s.1++[e.ino],s.2) (by simp only;omega) E A
   generalize xG t k e.ino (s.1++[e.ino],s.2)=m at *
   have v:∀x∈s.1,x∈m.1:=λx h=>by rw[n.eq];exact ez _ (ez _ h)
   let⟨L,p2,K⟩:=G m y (fu (EI v) h1) n.nd n.node;have o:∀x∈m.1,x∈(l.foldl (ri t k) m).1:=λx h=>by rw[p2.eq];exact ez _ h
   refine⟨e.ino::n1++L,⟨?_,p2.nd,p2.node,λx h=>?_,λx h j F=>?_,?_⟩,λe' i=>?_⟩
   .rw[p2.eq,n.eq];simp
   .rcases aY.1 h with h | h
    .rcases bw.1 h with rfl | h
     .exact⟨e,cU,.inl rfl⟩
     .exact⟨e,cU,.inr (n.from_ x h)⟩
    .let⟨e',h4,h5⟩:=p2.from_ x h;exact⟨e',cB _ h4,h5⟩
   .rcases aY.1 h with h | h
    .rcases bw.1 h with rfl | h
     .exact o _ (q1 j F)
     .exact o _ (n.cl x h j F)
    .exact p2.cl x h j F
   .rw[p2.sum,n.sum,Gm,pM];simp only;omega
   .rcases bw.1 i with rfl | i
    .refine o _ ?_;rw[n.eq];simp
    .exact K e' i
def xF(w:WF ok lt t):∀k:Nat,af9 t k
 |0=>λi s h=>absurd h af
 |k+1=>by
  have l:=xF w k;intro i s h1 h2 h3;rw[CQ];let⟨new,p,q⟩:=Bf k l (iS t i).b7 (s.1,s.2+dat t i) (λe b=>rZ w b) h1 h2 h3
  refine⟨new,⟨p.eq,p.nd,p.node,λx n=>?_,p.cl,p.sum⟩,λj o=>?_⟩
  .let⟨e,b,h4⟩:=p.from_ x n
   rcases h4 with rfl | h4
   .exact .one ⟨e,b,rfl⟩
   .exact(Ru.one ⟨e,b,rfl⟩).trans h4
  .obtain⟨e,b,rfl⟩:=o;exact q e b
def B5(t:Tree)(d:Int):ay:=(xG t 301 d ([],0)).1
theorem AJ(w:WF ok lt t)(d:Int):(B5 t d).Nodup/\(∀x,x∈B5 t d↔Ru t d x)/\(xG t 301 d ([],0)).2=dat t d+tq t (B5 t d):=by
 have n:IA t []<301:=by
  have hl:=w.wf.len;have:=bz (λq:Node=>!([]:ay).contains q.ino) t.nodes
  unfold IA;omega
 let⟨new,p,q⟩:=xF w 301 d ([],0) n iE (λx b=>by cases b)
 have i:B5 t d=new:=by unfold B5;rw[p.eq];rfl
 refine⟨p.nd,λx=>⟨λb=>?_,λb=>?_⟩,?_⟩
 .rw[i]at b;exact p.from_ x b
 .induction b with
  |one h=>exact q _ h
  |more h1 h2 l =>
   rw[i]at l;exact p.cl _ l _ h2
 .rw[p.sum,i];simp
end
section
variable{ok:au->Bool}{lt:au->au->Bool}{t:Tree}
def q8{i j:Int}(h:Q0 t i j):∃p,find t.nodes i=some p/\∃e∈p.b7,e.ino=j:=by
 let⟨e,b,n⟩:=h;unfold iS at b;cases l:find t.nodes i with
 |none=>rw[l]at b;cases b
 |some p =>
  grind
def WA{i j:Int}{p:Node}(l:find t.nodes i=some p)(h:0<cN p j):Q0 t i j:=by
 let⟨e,n,b⟩:=xK.1 h;exact⟨e,by grind[iX],b⟩
def Ou(w:WF ok lt t){i j:Int}(h:Q0 t i j){n:Node}(r:find t.nodes j=some n)(hk:n.kind=2):n.up=i/\j≠1:=by
 obtain⟨p,o,e,v,rfl⟩:=q8 h;let⟨_,b,_⟩:=mV w o v;refine⟨?_,b⟩;have x:0<cN p e.ino:=xK.2 ⟨e,v,rfl⟩;have l:=(w.wf.FH _ _ r hk b).1;let⟨q,q1,y⟩:=w.wf.par _ _ r hk b rfl;have:=JG w.wf.jL (an l) (fk o).1 (fk q1).1 x af
 subst this;exact(jI q1).symm.trans (jI o)
def Ip(w:WF ok lt t){d j:Int}:Ru t d j↔∃p e,JR t d p e/\Q0 t p j:=by
 constructor
 .intro h
  induction h with
  |one h=>exact⟨d,0,.here,h⟩
  |more h1 h2 i =>
   let⟨p,e,h3,h4⟩:=i;let⟨q,l,e',n,hk⟩:=q8 h2;have b:=D6 w.wf l n;let⟨h5,h6⟩:=Ou w h4 l b;exact⟨_,e+1,.up l b h6 (by rw[h5];exact h3),h2⟩
 .rintro⟨p,e,h1,h2⟩
  induction h1 generalizing j with
  |here=>exact .one h2
  |up h hk h1 r i =>
   let⟨q,q1,o⟩:=w.wf.par _ _ h hk h1 rfl;exact .more (i (WA q1 af)) h2
def kR(t:Tree)(d:Int):Int:=if jF t d=0 then((B5 t d).length:Int)else 0
def kS(t:Tree)(d:Int):Int:=if jF t d=0 then tq t (B5 t d)else 0
end
structure Qu where
 ino:Int
 nodes:Int
 bytes:Int
deriving DecidableEq
def mE(l:List Qu):Prop:=l.Pairwise λa b=>a.ino<b.ino
def kH(l:List Qu)(i:Int):Option Qu:=l.find? λq=>decide (q.ino=i)
def jZ(l:List Qu)(i:Int):Nat:=kg (λq=>decide (q.ino<i)) l
theorem JF(l:List Qu)(i:Int):jZ l i<=l.length:=lK _ _
variable{l:List Qu}{i:Int}{q x:Qu}
theorem qc(hs:mE l)(i:Int){k:Nat}(h:k<l.length):k<jZ l i↔l[k].ino<i:=by
 have:=tu (p:=λn:Qu=>decide (n.ino<i)) (l:=l) (λa b q o r=>by
  have:=(aX.1 hs) a b af q o
  grind) h
 rw[decide_eq_true_eq]at this;exact this
def rm(h:kH l i=some q):q∈l/\q.ino=i :=
 ⟨bI h,by have:=cL h;grind⟩
def Mf(hs:mE l){a b:Qu}(r:a∈l)(q:b∈l)(h:a.ino=b.ino):a=b:=by
 obtain⟨i,o,rfl⟩:=bp.1 r;obtain⟨j,n,rfl⟩:=bp.1 q
 rcases dQ i j with h1 | h1 | h1
 .have:=(aX.1 hs) _ _ o n h1;omega
 .subst h1;rfl
 .have:=(aX.1 hs) _ _ n o h1;omega
theorem Og(hs:mE l)(h:q∈l):kH l q.ino=some q:=by
 cases b:kH l q.ino with
 |none =>
  unfold kH at b
  grind
 |some p=>rw[Mf hs (rm b).1 h (rm b).2]
def CX(hs:mE l)(i:Int):(∃(h:jZ l i<l.length),l[jZ l i].ino=i/\kH l i=some l[jZ l i])\/(kH l i=none/\∀(h:jZ l i<l.length),l[jZ l i].ino≠i):=by
 by_cases h:jZ l i<l.length
 .by_cases r : l[jZ l i].ino = i
  .grind[Og,List.getElem_mem]
  .refine .inr ⟨?_,λ_=>r⟩
   cases o:kH l i with
   |none=>rfl
   |some q =>
    exfalso;let⟨n,b⟩:=rm o;obtain⟨k,hk,rfl⟩:=bp.1 n;have h1:=(qc hs i h);have h2:=(qc hs i hk)
    rcases dQ k (jZ l i)with h3 | h3 | h3
    .have:=h2.1 h3;omega
    .subst h3;exact r b
    .have:=(aX.1 hs) _ _ h hk h3
     grind
 .refine .inr ⟨?_,λh'=>absurd h' h⟩
  cases o:kH l i with
  |none=>rfl
  |some q =>
   exfalso;let⟨n,b⟩:=rm o;obtain⟨k,hk,rfl⟩:=bp.1 n
   grind[qc,JF]
def qy(l:List Qu)(i:Int):List Qu:=l.filter λq=>decide (q.ino≠i)
def rN(l:List Qu)(x:Qu):List Qu:=l.take (jZ l x.ino)++x::(l.drop (jZ l x.ino)).filter λq=>decide (q.ino≠x.ino)
theorem Ds(hs:mE l)(i:Int):(l.take (jZ l i)).filter (λm=>decide (m.ino≠i))=l.take (jZ l i):=by
 rw[bQ];intro m b;obtain⟨k,hk,rfl⟩:=bp.1 b;rw[bF]at hk;rw[eu];have:=(qc hs i (k:=k) af).1 af
 grind
theorem Jz(hs:mE l)(h:jZ l i<l.length)(o:l[jZ l i].ino=i):(l.drop (jZ l i)).filter (λm=>decide (m.ino≠i))=l.drop (jZ l i+1):=by
 have b:l.drop (jZ l i)=l[jZ l i]::l.drop (jZ l i+1):=cm h
 have h2:(l.drop (jZ l i+1)).filter (λm=>decide (m.ino≠i))=l.drop (jZ l i+1):=by
  rw[bQ];intro m n;obtain⟨k,hk,rfl⟩:=bp.1 n;rw[bU]at hk;rw[ew];have:=(aX.1 hs) (jZ l i) (jZ l i+1+k) h af af
  grind
 grind
theorem S6(h:kH l i=none):∀q∈l,q.ino≠i:=by
 grind[kH,List.find?_eq_none]
def YV(h:kH l i=none):l.filter (λm=>decide (m.ino≠i))=l:=by
 grind[List.filter_eq_self,decide_eq_true,S6]
def Kn(h:kH l i=none):qy l i=l:=YV h
def MH(hs:mE l)(h:jZ l i<l.length)(b:l[jZ l i].ino=i):qy l i=l.take (jZ l i)++l.drop (jZ l i+1):=by
 grind[Jz,qy,List.take_append_drop,jZ,Ds]
def Ko(h:kH l x.ino=none):rN l x=l.take (jZ l x.ino)++x::l.drop (jZ l x.ino):=by
 unfold rN
 congr 2
 grind[List.filter_eq_self,decide_eq_true,S6,List.mem_of_mem_drop]
def MN(hs:mE l)(h:jZ l x.ino<l.length)(b:l[jZ l x.ino].ino=x.ino):rN l x=l.set (jZ l x.ino) x:=by
 unfold rN;rw[Jz hs h b,ec,if_pos h]
section
variable(t:Tree)
def pass(q:Qu)(n b:Int):Bool:=decide (q.nodes<kR t q.ino+n\/q.bytes<kS t q.ino+b)
def Cb(l:List Qu):Nat->Int->Int
 |0,_=>0
 |k+1,d=>if (kH l d).isSome=true then d else if d=1 then 0 else Cb l k (BT t d)
def dom(l:List Qu)(d:Int):Int:=Cb t l (t.nodes.length+1) d
def rI(l:List Qu)(i n b:Int):List Qu×Int :=
 if jF t i≠0 then(l,jF t i)else if n<0 then(qy l i,0)else if n<kR t i\/b<kS t i then(l,90)else if kH l i=none/\16<=l.length then(l,76)else(rN l ⟨i,n,b⟩,0)
end
structure Pj(t:Tree)(l:List Qu):Prop where
 jL:mE l
 len:l.length<=16
 dir:∀q∈l,jF t q.ino=0
 ok:∀q∈l,pass t q 0 0=false
section
variable{ok:au->Bool}{lt:au->au->Bool}{t:Tree}
def RC(w:WF ok lt t){d:Int}(h:jF t d=0):∃k,uA t d k:=by
 unfold jF at h;cases b:find t.nodes d with
 |none=>rw[b]at h;cases h
 |some q =>
  rw[b]at h;simp only at h
  by_cases hk:q.kind=2
  .let⟨k,h1,_⟩:=w.dep _ _ b hk;exact⟨k,h1⟩
  grind
def RB{d:Int}{k:Nat}(h:uA t d k):∀ {f g:Nat},k<f->k<g->Cb t l f d=Cb t l g d:=by
 induction h with
 |root =>
  intro f g b hg;obtain⟨f,rfl⟩:∃j,f=j+1:=⟨f-1,af⟩
  obtain⟨g,rfl⟩:∃j,g=j+1:=⟨g-1,af⟩
  simp[Cb]
 | @up i n d h hk h1 r o =>
  intro f g b hg;obtain⟨f,rfl⟩:∃j,f=j+1:=⟨f-1,af⟩
  obtain⟨g,rfl⟩:∃j,g=j+1:=⟨g-1,af⟩
  have q:BT t i=n.up:=by unfold BT;rw[h];rfl
  grind[Cb]
def XG(w:WF ok lt t){d:Int}{k:Nat}(h:uA t d k){f:Nat}(b:k<f):Cb t l f d=dom t l d :=
 RB h b (by have:=r6 w h;omega)
end
def KB(s:ay×Bool)(e:Ent):ay×Bool:=if s.1.contains e.ino=true then s else(s.1++[e.ino],true)
def BX(i:Int)(s:ay×Bool)(q:Node):ay×Bool:=if q.ino≠i/\s.1.contains q.ino=false then s else q.b7.foldl KB s
def uC(t:Tree)(i:Int)(M:ay):ay×Bool:=t.nodes.foldl (BX i) (M,false)
def zg(t:Tree)(i:Int):Nat->ay->ay
 |0,M=>M
 |k+1,M=>if (uC t i M).2=true then zg t i k (uC t i M).1 else(uC t i M).1
def qK(t:Tree)(i:Int):ay:=zg t i t.nodes.length []
def HZ(M:ay)(s:Int×Int)(q:Node):Int×Int:=if M.contains q.ino=true then(s.1+1,s.2+(q.data.length:Int))else s
structure Ext(P:Int->Prop)(s r:ay×Bool)(new:ay):Prop where
 eq:r.1=s.1++new
 more:r.2=(s.2 || !new.isEmpty)
 nd:s.1.Nodup->r.1.Nodup
 is:∀x∈new,P x
def Ext.nil(P:Int->Prop)(s:ay×Bool):Ext P s s []:=⟨ai,ai,id,ai⟩
def Ext.trans{P:Int->Prop}{s r u:ay×Bool}{a b:ay}(h:Ext P s r a)(h':Ext P r u b):Ext P s u (a++b) :=
 ⟨by rw[h'.eq,h.eq,cM],by rw[h'.more,h.more];cases a<;>simp,λg=>h'.nd (h.nd g),λx i=>(aY.1 i).elim (h.is x) (h'.is x)⟩
def QG{P:Int->Prop}(s:ay×Bool)(e:Ent)(h:P e.ino):∃new,Ext P s (KB s e) new/\e.ino∈(KB s e).1:=by
 unfold KB
 by_cases b:s.1.contains e.ino=true
 .rw[if_pos b];exact⟨[],.nil P s,an b⟩
 .rw[if_neg b];refine⟨[e.ino],⟨rfl,ai,λi=>?_,an h⟩,ai⟩
  grind
def FD{P:Int->Prop}:∀(l:List Ent)(s:ay×Bool),(∀e∈l,P e.ino)->∃new,Ext P s (l.foldl KB s) new/\∀e∈l,e.ino∈(l.foldl KB s).1
 | [],s,_=>⟨[],.nil P s,ai⟩
 |e::l,s,h=>by
  let⟨a,r,q⟩:=QG (P:=P) s e (h e cU);let⟨b,o,n⟩:=FD l (KB s e) λx i=>h x (cB _ i)
  rw[bG];refine⟨a++b,r.trans o,λx i=>?_⟩
  rcases bw.1 i with rfl | i
  .rw[o.eq];grind
  .exact n x i
def Fa{t:Tree}{i:Int}(hs:∀q∈t.nodes,iS t q.ino=q):∀(l:List Node)(s:ay×Bool),(∀q∈l,q∈t.nodes)->(∀x∈s.1,Ru t i x)->
  ∃new,Ext (Ru t i) s (l.foldl (BX i) s) new/\(new=[]->∀q∈l,(q.ino=i\/q.ino∈s.1)->∀e∈q.b7,e.ino∈s.1)
 | [],s,_,_=>⟨[],.nil _ s,λ_ q n=>by cases n⟩
 |q::l,s,hl,h=>by
  rw[bG]
  have v:∃new,Ext (Ru t i) s (BX i s q) new/\(new=[]->(q.ino=i\/q.ino∈s.1)->∀e∈q.b7,e.ino∈s.1):=by
   unfold BX
   by_cases E:q.ino≠i/\s.1.contains q.ino=false
   .rw[if_pos E]
    exact⟨[],.nil _ s,λ_ h'=>by
     grind⟩
   .rw[if_neg E];have n:q.ino=i\/q.ino∈s.1:=by
     grind
    have y:∀e∈q.b7,Q0 t q.ino e.ino:=λe o=>⟨e,by grind,rfl⟩
    obtain⟨new,h1,h2⟩:=FD (P:=Ru t i) q.b7 s λe o=>by
     rcases n with n | n
     .rw[<-n];exact .one (y e o)
     .exact .more (h _ n) (y e o)
    refine⟨new,h1,λA _ e o=>?_⟩
    have:=h2 e o;rw[h1.eq,A,cC]at this;exact this
  obtain⟨a,z,K⟩:=v
  obtain⟨b,H,G⟩:=Fa hs l (BX i s q) (λx r=>hl x (cB _ r)) λx r=>by
   rw[z.eq]at r;exact(aY.1 r).elim (h x) (z.is x)
  refine⟨a++b,z.trans H,λA x r F=>?_⟩
  obtain⟨rfl,rfl⟩:=List.append_eq_nil_iff.1 A;have o:(BX i s q).1=s.1:=by rw[z.eq,cC]
  grind
section
variable{ok:au->Bool}{lt:au->au->Bool}{t:Tree}
def JQ(w:WF ok lt t){i j:Int}(h:Ru t i j):(find t.nodes j).isSome=true:=by
 let⟨p,e,_,h⟩:=(Ip w).1 h;obtain⟨e,b,rfl⟩:=h;exact rZ w b
def Cj(w:WF ok lt t){i:Int}:∀(k:Nat)(M:ay),M.Nodup->(∀x∈M,Ru t i x)->
  (zg t i k M).Nodup/\(∀x∈zg t i k M,Ru t i x)/\((∀q∈t.nodes,(q.ino=i\/q.ino∈zg t i k M)->∀e∈q.b7,e.ino∈zg t i k M)\/M.length+k<=(zg t i k M).length)
 |0,M,h1,h2=>⟨h1,h2,.inr (aV _)⟩
 |k+1,M,h1,h2=>by
  let⟨new,h3,h4⟩:=Fa (t:=t) (i:=i) (λq o=>iX (jN w.wf.jL o)) t.nodes (M,false) (λ_ h=>h) h2
  change Ext (Ru t i) (M,false) (uC t i M) new at h3
  have h5:∀x∈(uC t i M).1,Ru t i x:=λx b=>by
   rw[h3.eq]at b;exact(aY.1 b).elim (h2 x) (h3.is x)
  have n:=h3.more;simp only[fU]at n;unfold zg
  by_cases l:new=[]
  .subst l;have r:(uC t i M).1=M:=by rw[h3.eq,cC]
   grind
  .have hl:M.length+1<=(uC t i M).1.length:=by
    rw[h3.eq,aU]
    grind
   rw[if_pos (by rw[n];simp[l])]
   let⟨z,y,v⟩:=Cj w k (uC t i M).1 (h3.nd h1) h5
   grind
def QA{l:ay}(h:l.Nodup)(r:∀x∈l,(find t.nodes x).isSome=true)(hl:t.nodes.length<=l.length){x:Int}(o:(find t.nodes x).isSome=true):x∈l:=by
 by_cases n:x∈l
 .exact n
 .exfalso
  have v:∀y∈x::l,y∈t.nodes.map Node.ino:=λy b=>by
   have:(find t.nodes y).isSome=true:=by
    rcases bw.1 b with rfl | b
    .exact o
    .exact r y b
   let⟨q,i⟩:=bM.1 this;exact cQ.2 ⟨q,(fk i).1,(fk i).2⟩
  have:=BM (dR.2 ⟨n,h⟩) v;rw[aS,cv]at this;omega
theorem EJ(w:WF ok lt t)(i:Int):(qK t i).Nodup/\∀x,x∈qK t i↔Ru t i x:=by
 let⟨h1,h2,h3⟩:=Cj w (i:=i) t.nodes.length [] iE ai
 change (qK t i).Nodup at h1
 change ∀x∈qK t i,Ru t i x at h2
 refine⟨h1,λx=>⟨h2 x,λb=>?_⟩⟩
 have h4:(∀q∈t.nodes,(q.ino=i\/q.ino∈qK t i)->∀e∈q.b7,e.ino∈qK t i):=by
  rcases h3 with h3 | h3
  .exact h3
  .intro q n _ e l;refine QA h1 (λx b=>JQ w (h2 x b)) ?_ (rZ w (i:=q.ino) (by rw[iX (jN w.wf.jL n)];exact l))
   grind[qK]
 induction b with
 |one h =>
  obtain⟨p,o,e,l,rfl⟩:=q8 h
  grind[fk]
 |more h1 h2 r =>
  obtain⟨p,o,e,l,rfl⟩:=q8 h2
  grind[fk]
def K7{a b:ay}(h:a.Perm b):tq t a=tq t b:=by
 induction h with
 |nil=>rfl
 |cons x _ i=>rw[pM,pM,i]
 |swap x y l=>simp only[pM];omega
 |trans _ _ h1 h2=>exact h1.trans h2
def J2(w:WF ok lt t)(i:Int):(qK t i).Perm (B5 t i):=by
 grind[EJ,AJ,List.perm_ext_iff_of_nodup]
def CY(M:ay):∀(l:List Node)(s:Int×Int),(∀q∈l,dat t q.ino=(q.data.length:Int))->l.foldl (HZ M) s=(s.1+(((l.filter λq=>M.contains q.ino).map Node.ino).length:Int),s.2+tq t ((l.filter λq=>M.contains q.ino).map Node.ino))
 | [],s,_=>by simp[tq]
 |q::l,s,h=>by
  rw[bG,CY M l _ λx b=>h x (cB _ b),bO]
  unfold HZ;cases i:M.contains q.ino with
  |true =>
   simp only[if_true,bN,aS]
   grind[pM,List.mem_cons_self,Prod.ext]
  |false=>simp
def Kc{l:List Node}(hs:lC l):(l.map Node.ino).Nodup:=by
 rw[List.nodup_iff_pairwise_ne,fG];exact hs.imp λh=>af
def La(w:WF ok lt t){d:Int}(h:jF t d=0):t.nodes.foldl (HZ (qK t d)) (0,0)=(kR t d,kS t d):=by
 have h1:=EJ w d
 have h2:((t.nodes.filter λq=>(qK t d).contains q.ino).map Node.ino).Perm (qK t d):=by
  refine(gA ?_ h1.1).2 λx=>?_
  .exact List.Sublist.nodup (List.Sublist.map _ gm) (Kc w.wf.jL)
  .constructor
   .grind
   .intro i;let⟨q,b⟩:=bM.1 (JQ w ((h1.2 x).1 i));let⟨l,n⟩:=fk b
    grind
 rw[CY (t:=t) _ _ _ λq b=>by unfold dat;rw[iX (jN w.wf.jL b)]]
 have h3:=h2.trans (J2 w d);unfold kR kS;rw[if_pos h,if_pos h,h3.length_eq,K7 h3];simp
end
def QX{l:List Node}(hs:lC l){n:Node}(h:jK l n.ino<l.length)(i:l[jK l n.ino].ino=n.ino):ins n l=l.set (jK l n.ino) n:=by
 unfold ins;rw[<-uo,<-uq];show l.take (jK l n.ino)++n::(l.drop (jK l n.ino)).filter _=_
 have h2:(l.drop (jK l n.ino)).filter (λm=>decide (m.ino≠n.ino))=l.drop (jK l n.ino+1):=by
  rw[cm h,bO,if_neg (by simp[i]),bQ]
  intro m b;obtain⟨k,hk,rfl⟩:=bp.1 b;rw[bU]at hk;rw[ew];have:=(aX.1 hs) (jK l n.ino) (jK l n.ino+1+k) h af af
  exact decide_eq_true af
 rw[h2];rw[ec,if_pos h]
def QY{l:List Node}(hs:lC l){n:Node}(b:find l n.ino=none):ins n l=l.take (jK l n.ino)++n::l.drop (jK l n.ino):=by
 unfold ins;rw[<-uo,<-uq];show l.take (jK l n.ino)++n::(l.drop (jK l n.ino)).filter _=_
 have h2:(l.drop (jK l n.ino)).filter (λm=>decide (m.ino≠n.ino))=l.drop (jK l n.ino):=by
  rw[bQ];intro m h;unfold find at b;rw[cD]at b;have:=b m (cE h)
  simpa using this
 rw[h2]
def EG{t:Tree}(hs:lC t.nodes){i:Int}{n:Node}(h:jK t.nodes i<t.nodes.length)(l:t.nodes[jK t.nodes i].ino=i)(b:n.ino=i):iP t n=⟨false,t.nodes.set (jK t.nodes i) n,t.next,t.ek⟩:=by
 subst b;unfold iP;rw[QX hs h l]
def Cg{t:Tree}(hs:lC t.nodes){i:Int}{n:Node}(h:find t.nodes i=none)(b:n.ino=i):iP t n=⟨false,t.nodes.take (jK t.nodes i)++n::t.nodes.drop (jK t.nodes i),t.next,t.ek⟩:=by
 subst b;unfold iP;rw[QY hs h]
variable{lt:au->au->Bool}
def lP(lt:au->au->Bool)(l:List Ent)(s:au):Nat:=kg (λe=>lt e.name s) l
def wN(o:Ord lt){l:List Ent}(hs:sr lt l)(s:au){k:Nat}(h:k<l.length):k<lP lt l s↔lt l[k].name s=true :=
 tu (p:=λe:Ent=>lt e.name s) (l:=l) (λa b q i n=>o.tr _ _ _ ((aX.1 hs) a b af q i) n) h
def ur(o:Ord lt){l:List Ent}(hs:sr lt l)(s:au):(∃(h:lP lt l s<l.length),l[lP lt l s].name=s/\l.find? (λe=>decide (e.name=s))=some l[lP lt l s])\/
  (l.find? (λe=>decide (e.name=s))=none/\∀(h:lP lt l s<l.length),l[lP lt l s].name≠s):=by
 have one:∀ {i j:Nat} (q:i<l.length) (n:j<l.length),l[i].name=l[j].name->i=j:=λ{i j} q n v=>by
  rcases dQ i j with h | h | h
  .have:=(aX.1 hs) i j q n h;rw[v,o.QW]at this;cases this
  .exact h
  .have:=(aX.1 hs) j i n q h;rw[v,o.QW]at this;cases this
 cases z:l.find? (λe=>decide (e.name=s))with
 |none =>
  grind
 |some e =>
  have x:=bI z;have r:e.name=s:=by grind
  let⟨k,hk,b⟩:=bp.1 x;have y:lP lt l s=k:=by
   rcases dQ (lP lt l s) k with h | h | h
   .have h1:=(aX.1 hs) _ _ af hk h
    rw[b,r]at h1;have:=(wN o hs s af).2 h1
    omega
   .exact h
   .have h1:=(wN o hs s hk).1 h;rw[b,r,o.QW]at h1;cases h1
  grind
def NI(o:Ord lt){l:List Ent}(hs:sr lt l){e:Ent}(i:l.find? (λx=>decide (x.name=e.name))=none):q7 lt e l=l.take (lP lt l e.name)++e::l.drop (lP lt l e.name):=by
 unfold q7 lP;rw[uo,uq]
 have n:∀x∈l,(!lt e.name x.name)=lt x.name e.name:=λx v=>by
  rw[cD]at i;have b:x.name≠e.name:=by simpa using i x v
  rcases o.tot x.name e.name with h | h | h
  .rw[h];cases h2:lt e.name x.name with
   |false=>rfl
   |true =>
    have:=o.tr _ _ _ h h2;rw[o.QW]at this;cases this
  .exact absurd h b
  .rw[h];cases h2:lt x.name e.name with
   |false=>rfl
   |true =>
    have:=o.tr _ _ _ h h2;rw[o.QW]at this;cases this
 clear i hs
 induction l with
 |nil=>rfl
 |cons x l q =>
  rw[dA,dA,cV,cV,n x cU];cases lt x.name e.name with
  |true =>
   simp only[if_true,aK];rw[q λy r=>n y (cB _ r)]
  |false=>simp
def K5(o:Ord lt){l:List Ent}(hs:sr lt l){s:au}(h:lP lt l s<l.length)(q:l[lP lt l s].name=s):nF s l=l.take (lP lt l s)++l.drop (lP lt l s+1):=by
 unfold nF;have b:l=l.take (lP lt l s)++(l[lP lt l s]::l.drop (lP lt l s+1)):=by rw[<-cm h,dm]
 have h1:(l.take (lP lt l s)).filter (λm=>decide (m.name≠s))=l.take (lP lt l s):=by
  rw[bQ];intro m i;obtain⟨k,hk,rfl⟩:=bp.1 i;rw[bF]at hk;rw[eu];have:=(wN o hs s (k:=k) af).1 af
  refine decide_eq_true λn=>?_
  rw[n,o.QW]at this;cases this
 have h2:(l.drop (lP lt l s+1)).filter (λm=>decide (m.name≠s))=l.drop (lP lt l s+1):=by
  rw[bQ];intro m i;obtain⟨k,hk,rfl⟩:=bp.1 i;rw[bU]at hk;rw[ew];have:=(aX.1 hs) (lP lt l s) (lP lt l s+1+k) h af af
  rw[q]at this;refine decide_eq_true λn=>?_
  rw[n,o.QW]at this;cases this
 have h3:=congrArg (List.filter λm=>decide (m.name≠s)) b
 rw[dz,bO,h1,h2]at h3;rw[h3];simp[q]
structure Ho where
 c:Int
 h:Int
 ino:Int
deriving DecidableEq
def jx(c h:Int)(x:Ho):Bool:=decide (x.c<c\/(x.c=c/\x.h<h))
def nZ(c h:Int)(x:Ho):Bool:=decide (x.c=c/\x.h=h)
def rU(l:List Ho)(i:Int):Bool:=l.any λx=>decide (x.ino=i)
def mS(q:Node):Bool:=decide (q.kind=1/\q.links=0)
def Jh(t:Tree)(i:Int):Bool:=(find t.nodes i).elim false mS
def Kx(c h:Int):Bool:=decide (0<=c/\c<16/\0<=h/\h<=99)
def uF(l:List Ho)(x:Ho):List Ho:=l.take (kg (jx x.c x.h) l)++x::l.drop (kg (jx x.c x.h) l)
def qm(t:Tree)(l:List Ho)(c h i:Int):List Ho×Int :=
 if Kx c h=false then(l,1)else match find t.nodes i with
 |none=>(l,70)
 |some q=>if mS q=true then(l,70)else if q.kind=2 then(l,72)else if l.any (nZ c h)=true then(l,71)else if 64<=l.length then(l,76)else(uF l ⟨c,h,i⟩,0)
def pq(l:List Ho)(c h:Int):List Ho:=l.take (l.findIdx (nZ c h))++l.drop (l.findIdx (nZ c h)+1)
def js(t:Tree)(l:List Ho)(c h:Int):Tree×List Ho×Int:=match l.find? (nZ c h)with
 |none=>(t,l,80)
 |some x=>(if Jh t x.ino=true/\rU (pq l c h) x.ino=false then(free t x.ino).1 else t,pq l c h,0)
def p9(c:Int)(ks:ay)(t:Tree)(l:List Ho):Tree×List Ho:=ks.foldl (λs h=>((js s.1 s.2 c h).1,(js s.1 s.2 c h).2.1)) (t,l)
def As(l:List Ho)(c:Int):ay:=(l.filter λx=>decide (x.c=c)).map Ho.h
def vR:ay:=(List.range 100).map Int.ofNat
def qW(t:Tree):ay:=(t.nodes.filter mS).map Node.ino
def EO(t:Tree)(l:List Ho):Tree:=(qW t).foldl (λt i=>if rU l i=false then(free t i).1 else t) t
def FO(l:List Ho)(c h:Int):Int×Int:=match l.find? (nZ c h)with
 |none=>(0,80)
 |some x=>(x.ino,0)
structure Act where
 d:Nat
 c:Nat
 h:Nat
 n:Nat
 m:Nat
section
variable(ok:au->Bool)
def w6(t:Tree)(l:List Ho)(a:Act):Tree:=EO (un ok t (nodeAt t a.n) (nameOf a.m)).1 l
end
def qh(l:List Ho):Prop:=l.Pairwise λx y=>jx y.c y.h x=true
def tv{l:List Ho}(hs:qh l)(c h:Int){k:Nat}(hk:k<l.length):k<kg (jx c h) l↔jx c h l[k]=true :=
 tu (λa b o i n=>by
  have:=(aX.1 hs) a b af o i
  unfold jx at this n⊢
  grind) hk
def K8{l:List Ho}(hs:qh l)(c h:Int):(∃(hk:kg (jx c h) l<l.length),nZ c h l[kg (jx c h) l]=true/\l.any (nZ c h)=true)\/(l.any (nZ c h)=false/\∀(hk:kg (jx c h) l<l.length),nZ c h l[kg (jx c h) l]=false):=by
 have o:∀k (hk:k<l.length),nZ c h l[k]=true->k=kg (jx c h) l:=λk hk n=>by
  have h2:=tv hs c h hk;unfold nZ at n;rw[decide_eq_true_eq]at n
  rcases dQ k (kg (jx c h) l)with h3 | h3 | h3
  .have:=h2.1 h3;unfold jx at this;rw[decide_eq_true_eq]at this;omega
  .exact h3
  .exfalso;have h4:=(aX.1 hs) _ _ af hk h3
   have h5:=tv hs c h (k:=kg (jx c h) l) af
   have h6:¬jx c h l[kg (jx c h) l]=true:=λh=>Nat.lt_irrefl _ (h5.2 h)
   unfold jx at h4;rw[decide_eq_true_eq]at h4;apply h6;unfold jx;rw[decide_eq_true_eq];omega
 by_cases hk:kg (jx c h) l<l.length
 .cases n:nZ c h l[kg (jx c h) l]with
  |true=>exact .inl ⟨hk,n,ct.2 ⟨_,aP hk,n⟩⟩
  |false =>
   refine .inr ⟨?_,λ_=>n⟩
   rw[<-eD,ct]
   rintro⟨x,q,b⟩
   obtain⟨k,i,rfl⟩:=bp.1 q;have e:=o k i b;subst e;rw[n]at b;cases b
 .refine .inr ⟨?_,λh=>absurd h hk⟩
  rw[<-eD,ct]
  rintro⟨x,q,b⟩
  obtain⟨k,i,rfl⟩:=bp.1 q;have e:=o k i b;omega
def GQ(u v:Tree):Prop:=u.nodes=v.nodes/\u.next=v.next/\u.ek=v.ek
def GQ.trans{a b c:Tree}(h:GQ a b)(h':GQ b c):GQ a c:=⟨h.1.trans h'.1,h.2.1.trans h'.2.1,h.2.2.trans h'.2.2⟩
def GQ.symm{a b:Tree}(h:GQ a b):GQ b a:=⟨h.1.symm,h.2.1.symm,h.2.2.symm⟩
def p0(l:List Ho)(q:Node):Bool:=!(mS q && !rU l q.ino)
def swp(t:Tree)(l:List Ho):Tree:=⟨false,t.nodes.filter (p0 l),t.next,t.ek⟩
def yU{l:List Node}(hs:lC l)(p:Node->Bool)(i:Int):find (l.filter p) i=(find l i).bind λq=>if p q=true then some q else none:=by
 cases n:find l i with
 |none =>
  cases h:find (l.filter p) i with
  |none=>rfl
  |some q =>
   let⟨h1,h2⟩:=fk h;have:=jN hs (bZ.1 h1).1;rw[h2,n]at this;cases this
 |some q =>
  let⟨h1,h2⟩:=fk n;show _=if p q=true then some q else none
  by_cases b:p q=true
  .rw[if_pos b];have:=jN (hs.filter p) (bZ.2 ⟨h1,b⟩)
   rwa [h2]at this
  .rw[if_neg b];cases h:find (l.filter p) i with
   |none=>rfl
   |some m =>
    let⟨h3,h4⟩:=fk h;have h5:=jN hs (bZ.1 h3).1;rw[h4,n]at h5;obtain rfl:=bB h5;exact absurd (bZ.1 h3).2 b
def CO{u:Tree}{i:Int}{q:Node}(h:find u.nodes i=some q)(b:mS q=true):(free u i).1=kj u i:=by
 unfold mS at b;rw[decide_eq_true_eq]at b;unfold free;rw[h];simp only;rw[if_neg af,if_neg af]
def KW{u:Tree}{i:Int}(h:find u.nodes i=none):(free u i).1=u:=by
 unfold free;rw[h]
def Ue(l:List Ho)(t:Tree)(i:Int):Tree:=if rU l i=false then(free t i).1 else t
def abc(l:List Ho)(os:ay):∀ {u:Tree},lC u.nodes->(∀i∈os,∀q,find u.nodes i=some q->mS q=true)->
  GQ (os.foldl (Ue l) u) ⟨false,u.nodes.filter (λq=>!(os.contains q.ino && !rU l q.ino)),u.next,u.ek⟩:=by
 induction os with
 |nil =>
  intro u _ _;refine⟨?_,rfl,rfl⟩;exact(bQ.2 λ_ _=>ai).symm
 |cons i os z =>
  intro u hs x;rw[bG]
  by_cases n:rU l i=true
  .have e:Ue l u i=u:=by unfold Ue;rw[n];rfl
   rw[e];refine(z hs λj r=>x j (cB _ r)).trans ⟨?_,rfl,rfl⟩
   refine dr λq b=>?_
   by_cases h:q.ino=i
   .rw[h,n];simp
   .have v:(q.ino==i)=false:=by simpa using h
    rw[eH,v];simp
  .have n:rU l i=false:=by simpa using n
   cases y:find u.nodes i with
   |none =>
    have e:Ue l u i=u:=by unfold Ue;rw[n,if_pos rfl,KW y]
    rw[e];refine(z hs λj r=>x j (cB _ r)).trans ⟨?_,rfl,rfl⟩
    refine dr λq b=>?_
    have h:q.ino≠i:=λh=>by
     have:=jN hs b;rw[h,y]at this;cases this
    have v:(q.ino==i)=false:=by simpa using h
    rw[eH,v];simp
   |some E =>
    have e:Ue l u i=kj u i:=by unfold Ue;rw[n,if_pos rfl,CO y (x i cU E y)]
    rw[e];have A:lC (kj u i).nodes:=hs.filter _;refine(z A λj r q b=>?_).trans ⟨?_,rfl,rfl⟩
    .have:=yU hs (λm=>decide (m.ino≠i)) j
     rw[show find (kj u i).nodes j=find (u.nodes.filter λm=>decide (m.ino≠i)) j from rfl,this]at b
     cases o:find u.nodes j with
     |none=>rw[o]at b;cases b
     |some m =>
      rw[o]at b;have b:(if decide (m.ino≠i)=true then some m else none)=some q:=b
      split at b
      .obtain rfl:=bB b;exact x j (cB _ r) _ o
      .cases b
    .show (u.nodes.filter _).filter _=_;rw[dP];refine dr λq b=>?_
     rw[eH]
     by_cases h:q.ino=i
     .rw[h,n];simp
     .have v:(q.ino==i)=false:=by simpa using h
      rw[v];simp[h]
def Kv{t:Tree}(hs:lC t.nodes){q:Node}(i:q∈t.nodes):(qW t).contains q.ino=mS q:=by
 rw[ef,gV];unfold qW;rw[cQ]
 constructor
 .rintro⟨m,l,n⟩
  let⟨h1,h2⟩:=bZ.1 l;have a:=jN hs h1;have b:=jN hs i;rw[n,b]at a;obtain rfl:=bB a;exact h2
 .intro h;exact⟨q,bZ.2 ⟨i,h⟩,rfl⟩
def J4{t:Tree}(hs:lC t.nodes)(l:List Ho):GQ (EO t l) (swp t l):=by
 have h:=abc l (qW t) hs (λi n q b=>by
  unfold qW at n;obtain⟨m,o,rfl⟩:=cQ.1 n;let⟨h1,h2⟩:=bZ.1 o;have a:=jN hs h1;rw[b]at a;obtain rfl:=bB a;exact h2)
 refine GQ.trans h ⟨?_,rfl,rfl⟩;refine dr λq b=>?_
 rw[Kv hs b];rfl
def yL:∀ {l:List Ho} {c h:Int},qh l->(l.find? (nZ c h)).isSome=true->pq l c h=l.filter λx=>!nZ c h x
 | [],c,h,_,b=>by cases b
 |y::l,c,h,hs,b=>by
  let⟨h1,h2⟩:=bK.1 hs;unfold pq;rw[eP,bO];cases i:nZ c h y with
  |true =>
   have:(l.filter λx=>!nZ c h x)=l:=by
    rw[bQ];intro x n;have:=h1 x n;unfold jx at this;unfold nZ at i⊢;rw[decide_eq_true_eq]at this i;rw[cK,decide_eq_false_iff_not];omega
   simp[this]
  |false =>
   rw[gM (by rw[i];simp)]at b
   have:=yL h2 b;unfold pq at this;simp only[cond_false,eA,if_true,List.take_succ_cons,List.drop_succ_cons,aK];rw[this]
def nG{l:List Ho}(hs:qh l)(t:Tree)(c h:Int):(js t l c h).2.1=l.filter λx=>!nZ c h x:=by
 unfold js;cases b:l.find? (nZ c h)with
 |none =>
  show l=_
  symm
  rw[bQ];intro x i;have:=cD.1 b x i
  simpa using this
 |some x =>
  exact yL hs (by rw[b];rfl)
def HJ(l:List Ho)(p:Ho->Bool)(i:Int):rU (l.filter p) i=true->rU l i=true:=by
 unfold rU;rw[ct,ct]
 rintro⟨x,b,h⟩
 exact⟨x,(bZ.1 b).1,h⟩
def CZ{t:Tree}(Z:lC t.nodes){u:Tree}{n:List Ho}(P:qh n)(v:GQ u (swp t n))(c h:Int):GQ (js u n c h).1 (swp t (js u n c h).2.1):=by
 have hl:=nG P u c h;unfold js at hl⊢;cases Q:n.find? (nZ c h)with
 |none=>exact v
 |some x =>
  rw[Q]at hl;have hl:pq n c h=n.filter λx=>!nZ c h x:=hl
  show GQ (if Jh u x.ino=true/\rU (pq n c h) x.ino=false then(free u x.ino).1 else u) (swp t (pq n c h))
  rw[hl];have G:=bI Q;have H:=cL Q
  have o:∀i,i≠x.ino->rU (n.filter λx=>!nZ c h x) i=rU n i:=λi r=>by
   rw[ef];refine⟨HJ _ _ _,λh1=>?_⟩
   unfold rU at h1⊢;rw[ct]at h1⊢;let⟨y,U,A⟩:=h1;rw[decide_eq_true_eq]at A;refine⟨y,bZ.2 ⟨U,?_⟩,by rw[decide_eq_true_eq];exact A⟩
   rw[cK,<-eD];intro E;have N:x≠y:=λe=>r (by rw[<-A,e])
   obtain⟨a,X,rfl⟩:=bp.1 G;obtain⟨b,W,rfl⟩:=bp.1 U;have hab:a≠b:=λe=>N (by subst e;rfl)
   unfold nZ at H E;rw[decide_eq_true_eq]at H E
   rcases dK a b with h2 | h2
   .have:=(aX.1 P) a b X W h2;unfold jx at this;rw[decide_eq_true_eq]at this;omega
   .have:=(aX.1 P) b a W X af
    unfold jx at this;rw[decide_eq_true_eq]at this;omega
  have F:rU n x.ino=true:=by
   unfold rU;rw[ct];exact⟨x,G,ai⟩
  have O:lC u.nodes:=by rw[v.1];exact Z.filter _
  have L:∀q∈t.nodes,p0 n q=true->find u.nodes q.ino=some q:=λq K hk=>by
   have:=jN (v.1▸O:lC (swp t n).nodes) (bZ.2 ⟨K,hk⟩);rw[v.1];exact this
  generalize(n.filter λx=>!nZ c h x)=T at *
  by_cases M:Jh u x.ino=true/\rU T x.ino=false
  .rw[if_pos M];let⟨l,S⟩:=M;unfold Jh at l;cases z:find u.nodes x.ino with
   |none=>rw[z]at l;cases l
   |some Y =>
    rw[z]at l;have l:mS Y=true:=l;rw[CO z l];refine⟨?_,v.2.1,v.2.2⟩;show u.nodes.filter _=t.nodes.filter _;rw[v.1];show (t.nodes.filter _).filter _=_;rw[dP];refine dr λq K=>?_
    by_cases r:q.ino=x.ino
    .have hk:p0 n q=true:=by unfold p0;rw[r,F];simp
     have e:=L q K hk;rw[r,z]at e;obtain rfl:=bB e;unfold p0;rw[r,l,S];simp
    .unfold p0;rw[o _ r];simp[r]
  .rw[if_neg M];refine⟨?_,v.2.1,v.2.2⟩;rw[v.1];refine dr λq K=>?_
   by_cases r:q.ino=x.ino
   .have hk:p0 n q=true:=by unfold p0;rw[r,F];simp
    rw[hk]
    symm
    unfold p0;rw[r];cases h1:rU T x.ino with
    |true=>simp
    |false =>
     have h2:¬Jh u x.ino=true:=λh2=>M ⟨h2,h1⟩
     have e:=L q K hk;unfold Jh at h2;rw[<-r,e]at h2;have h2:¬mS q=true:=h2;simp[h2]
   .unfold p0;rw[o _ r]
def N5{t:Tree}(o:lC t.nodes)(c:Int)(ks:ay):∀ {u:Tree} {n:List Ho},qh n->GQ u (swp t n)->GQ (p9 c ks u n).1 (swp t (p9 c ks u n).2)/\(p9 c ks u n).2=n.filter λx=>!(decide (x.c=c)&&ks.contains x.h):=by
 induction ks with
 |nil =>
  intro u n b i;refine⟨i,?_⟩;show n=_;exact(bQ.2 λ_ _=>ai).symm
 |cons k ks l =>
  intro u n b i;have e:p9 c (k::ks) u n=p9 c ks (js u n c k).1 (js u n c k).2.1:=rfl;rw[e];have hl:=nG b u c k;have h1:=CZ o b i c k;have h2:qh (js u n c k).2.1:=by rw[hl];exact b.filter _
  let⟨h3,h4⟩:=l h2 h1;refine⟨h3,?_⟩;rw[h4,hl,dP];refine dr λx q=>?_
  rw[eH];unfold nZ
  by_cases h5:x.c=c
  .by_cases h6:x.h=k
   .simp[h5,h6]
   .simp[h5,h6]
  .simp[h5]
def EK{t:Tree}{l:List Ho}(h:∀q∈t.nodes,mS q=true->rU l q.ino=true):GQ t (swp t l):=by
 refine⟨?_,rfl,rfl⟩;show t.nodes=t.nodes.filter _
 symm
 rw[bQ];intro q b;unfold p0;cases i:mS q with
 |false=>rfl
 |true=>rw[h q b i];rfl
structure su(t:Tree)(l:List Ho):Prop where
 jL:qh l
 len:l.length<=64
 key:∀x∈l,Kx x.c x.h=true
 file:∀x∈l,∃q,find t.nodes x.ino=some q/\q.kind=1
 orp:∀q∈t.nodes,mS q=true->rU l q.ino=true
variable{l:List Ho}
def Q7{x:Ho}(h:x∈l):rU l x.ino=true:=by
 grind[rU,List.any_eq_true]
def su.teq{t u:Tree}(h:su t l)(e:GQ u t):su u l :=
 ⟨h.jL,h.len,h.key,λx i=>by rw[e.1];exact h.file x i,λq b=>by rw[e.1]at b;exact h.orp q b⟩
def su.swp{t:Tree}(hs:lC t.nodes)(h1:qh l)(h2:l.length<=64)(h3:∀x∈l,Kx x.c x.h=true)(h4:∀x∈l,∃q,find t.nodes x.ino=some q/\q.kind=1):su (swp t l) l:=by
 refine⟨h1,h2,h3,λx i=>?_,λq b n=>?_⟩
 .let⟨q,b,hk⟩:=h4 x i;refine⟨q,?_,hk⟩;show find (t.nodes.filter (p0 l)) x.ino=some q;rw[yU hs,b];show (if p0 l q=true then some q else none)=some q
  rw[if_pos];unfold p0;rw[(fk b).2,Q7 i];simp
 .have:=(bZ.1 b).2;unfold p0 at this
  grind
def su.sub{t:Tree}(hs:lC t.nodes)(h:su t l)(p:Ho->Bool):su (Tr.swp t (l.filter p)) (l.filter p) :=
 su.swp hs (h.jL.filter p) (bJ (bz ..) h.len) (λx b=>h.key x (bZ.1 b).1) (λx b=>h.file x (bZ.1 b).1)
def su.close{t:Tree}(hs:lC t.nodes)(h:su t l)(c k:Int):su (js t l c k).1 (js t l c k).2.1:=by
 have h1:=CZ hs h.jL (EK h.orp) c k;have h2:=nG h.jL t c k;rw[h2]at h1⊢;exact(h.sub hs _).teq h1
def su.gone{t:Tree}(hs:lC t.nodes)(h:su t l)(c:Int)(ks:ay):su (p9 c ks t l).1 (p9 c ks t l).2:=by
 let⟨h1,h2⟩:=N5 hs c ks h.jL (EK h.orp);rw[h2]at h1⊢;exact(h.sub hs _).teq h1
def FM(l:List Ho)(x:Ho):(uF l x).length=l.length+1:=by
 grind[uF,lK,jx,List.length_append,List.length_cons,List.length_take,List.length_drop]
def FL{x:Ho}(hs:qh l)(q:l.any (nZ x.c x.h)=false):qh (uF l x):=by
 unfold uF qh
 have n:∀y∈l.take (kg (jx x.c x.h) l),jx x.c x.h y=true:=λy b=>by
  obtain⟨k,hk,rfl⟩:=bp.1 b;rw[bF]at hk;rw[eu];exact(tv hs x.c x.h af).1 af
 have o:∀y∈l.drop (kg (jx x.c x.h) l),jx y.c y.h x=true:=λy b=>by
  obtain⟨k,hk,rfl⟩:=bp.1 b;rw[bU]at hk;rw[ew];have h1:=tv hs x.c x.h (k:=kg (jx x.c x.h) l+k) af
  have h2:¬jx x.c x.h l[kg (jx x.c x.h) l+k]=true:=λh=>by have:=h1.2 h;omega
  have h3:¬nZ x.c x.h l[kg (jx x.c x.h) l+k]=true:=λh=>by
   grind
  unfold jx nZ at *
  grind
 rw[iG];refine⟨hs.sublist (List.take_sublist _ _),bK.2 ⟨o,hs.sublist (List.drop_sublist _ _)⟩,λy b z i=>?_⟩
 rcases bw.1 i with rfl | i
 .exact n y b
 .have h1:=n y b;have h2:=o z i;unfold jx at *
  grind
section
variable{ok:au->Bool}{lt:au->au->Bool}
def yN(t:Tree)(l:List Ho)(c h i:Int):((qm t l c h i).1=l/\(qm t l c h i).2≠0)\/∃q,Kx c h=true/\find t.nodes i=some q/\mS q=false/\q.kind≠2/\l.any (nZ c h)=false/\l.length<64/\qm t l c h i=(uF l ⟨c,h,i⟩,0):=by
 unfold qm;split
 .grind
 grind
def P0{t:Tree}(w:WF ok lt t)(i:Int)(s:au){j:Int}{q:Node}(y:find t.nodes j=some q)(hk:q.kind=1):∃l,find (un ok t i s).1.nodes j=some l/\l.kind=1/\l.data=q.data:=by
 unfold Tr.un;split
 .grind
 .rename_i h1;split
  .grind
  .have h0:(look ok t i s).2=0:=cW.1 h1;have A:∃p,find t.nodes i=some p/\p.kind=2:=by
    unfold Tr.look at h0;split at h0
    .grind
    .rename_i h2;have h2:=cW.1 h2;unfold jF at h2
     grind
   let⟨p,v,z⟩:=A;have r:j≠i:=λe=>by grind
   have n:find (left t i s).nodes j=some q:=by
    unfold Tr.left;rw[kr w.wf.jL,if_neg]
    .exact y
    .show ¬j=(iS t i).ino;rw[iX v,(fk v).2];exact r
   have h:lC (left t i s).nodes:=nO w.wf.jL;generalize(look ok t i s).1=x at *
   show ∃l,find (unnamed (left t i s) x).nodes j=some l/\_;unfold unnamed;split
   .rename_i h2;have b:j≠x:=λe=>by grind[iX]
    refine⟨q,?_,hk,rfl⟩;show find ((left t i s).nodes.filter _) j=_;rw[rX h,if_neg b];exact n
   .by_cases b : j = x
    .subst b;rw[iX n];refine⟨{q with links:=q.links-1},?_,hk,rfl⟩
     rw[kr h,if_pos];exact(fk n).2.symm
    .cases o:find (left t i s).nodes x with
     |none =>
      refine⟨q,?_,hk,rfl⟩;rw[kr h,if_neg]
      .exact n
      .show ¬j=(iS (left t i s) x).ino;unfold iS;rw[o];show ¬j=0;have:=(w.wf.pos _ _ y).1;omega
     |some m =>
      refine⟨q,?_,hk,rfl⟩;rw[kr h,if_neg]
      .exact n
      .show ¬j=(iS (left t i s) x).ino;rw[iX o,(fk o).2];exact b
def WF.close{t:Tree}(w:WF ok lt t)(l:List Ho)(c h:Int):WF ok lt (js t l c h).1:=by
 unfold js;split
 .exact w
 .simp only;split
  .exact w.free _
  .exact w
def WF.gone(c:Int)(ks:ay):∀ {t:Tree} (l:List Ho),WF ok lt t->WF ok lt (p9 c ks t l).1:=by
 induction ks with
 |nil=>intro t l w;exact w
 |cons k ks b =>
  intro t l w;exact b (js t l c k).2.1 (w.close l c k)
def WF.EO{t:Tree}(w:WF ok lt t)(l:List Ho):WF ok lt (EO t l):=by
 have:∀(os:ay)(t:Tree),WF ok lt t->WF ok lt (os.foldl (λt i=>if rU l i=false then(Tr.free t i).1 else t) t):=by
  intro os
  induction os with
  |nil=>intro t w;exact w
  |cons i os b =>
   intro t w;rw[bG];apply b;split
   .exact w.free _
   .exact w
 exact this _ _ w
def WF.taken(o:Ord lt){t:Tree}(w:WF ok lt t)(l:List Ho)(a:Act):WF ok lt (w6 ok t l a):=(w.un o _ _).EO l
def su.taken(o:Ord lt){t:Tree}(w:WF ok lt t)(h:su t l)(a:Act):su (w6 ok t l a) l:=by
 have hs:=(w.un o (nodeAt t a.n) (nameOf a.m)).wf.jL;refine(su.swp hs h.jL h.len h.key λx i=>?_).teq (J4 hs l)
 let⟨q,r,hk⟩:=h.file x i;let⟨b,h1,h2,_⟩:=P0 w (nodeAt t a.n) (nameOf a.m) r hk;exact⟨b,h1,h2⟩
end
variable{l:List Qu}
def Ff{i:Int}{q:Qu}:q∈qy l i↔q∈l/\q.ino≠i:=by
 unfold qy
 grind
def Fk(hs:mE l){x q:Qu}:q∈rN l x↔q=x\/(q∈l/\q.ino≠x.ino):=by
 unfold rN;rw[aY,bw,bZ,decide_eq_true_eq]
 have h1:∀q∈l.take (jZ l x.ino),q.ino≠x.ino:=λq b=>by
  have:=Ds hs x.ino;rw[<-this]at b;exact of_decide_eq_true (bZ.1 b).2
 constructor
 .rintro(h | rfl | ⟨h,h2⟩)
  .exact .inr ⟨ei h,h1 q h⟩
  .exact .inl rfl
  .exact .inr ⟨cE h,h2⟩
 .rintro(rfl | ⟨h,h2⟩)
  .exact .inr (.inl rfl)
  .rw[<-dm (jZ l x.ino) l,aY]at h;exact h.imp id λh=>.inr ⟨h,h2⟩
def Fe(hs:mE l)(i:Int):mE (qy l i):=hs.filter _
def Fj(hs:mE l)(x:Qu):mE (rN l x):=by
 have h1:∀q∈l.take (jZ l x.ino),q.ino<x.ino:=λq h=>by
  obtain⟨k,hk,rfl⟩:=bp.1 h;rw[bF]at hk;rw[eu];exact(qc hs x.ino (k:=k) af).1 af
 have h2:∀q∈l.drop (jZ l x.ino),x.ino<=q.ino:=λq h=>by
  obtain⟨k,hk,rfl⟩:=bp.1 h;rw[bU]at hk;rw[ew];have:=(qc hs x.ino (k:=jZ l x.ino+k) af)
  grind
 unfold mE rN;rw[iG,bK];refine⟨gY (List.take_sublist _ _) hs,⟨λq h=>?_,iw _ (gY (List.drop_sublist _ _) hs)⟩,λa n b i=>?_⟩
 .grind
 grind
def Qn(hs:mE l)(x:Qu):qy (rN l x) x.ino=qy l x.ino:=by
 unfold rN qy
 conv=>rhs;rw[<-dm (jZ l x.ino) l]
 rw[dz,dz,bO];simp only[ne_eq,not_true_eq_false,decide_false,aZ,if_false,dP,Bool.and_self]
def IW(hs:mE l)(x:Qu):(rN l x).length=(qy l x.ino).length+1:=by
 have h:=Qn hs x;rw[<-h];unfold rN qy;have h1:=Ds hs x.ino;rw[dz,bO,h1,dP]
 grind
def zy(l:List Qu)(i:Int):(qy l i).length<=l.length:=bz _ _
def IQ{i:Int}(h:(kH l i).isSome=true):(qy l i).length<l.length:=by
 let⟨q,b⟩:=bM.1 h;let⟨h1,h2⟩:=rm b
 grind[Nat.lt_or_ge,qy,List.Sublist.eq_of_length_le,List.filter_sublist,absurd]
section
variable{ok:au->Bool}{lt:au->au->Bool}{t:Tree}
def zY(t:Tree)(i a b:Int):((rI t l i a b).2≠0/\(rI t l i a b).1=l/\(jF t i=0->((rI t l i a b).2=90\/((rI t l i a b).2=76/\16<=l.length))))\/
  (jF t i=0/\a<0/\rI t l i a b=(qy l i,0))\/(jF t i=0/\0<=a/\kR t i<=a/\kS t i<=b/\((kH l i).isSome=true\/l.length<16)/\rI t l i a b=(rN l ⟨i,a,b⟩,0)):=by
 unfold rI
 by_cases h1:jF t i=0
 .rw[if_neg (an h1)]
  by_cases h2:a<0
  .rw[if_pos h2];exact .inr (.inl ⟨h1,h2,rfl⟩)
  .rw[if_neg h2]
   by_cases h3:a<kR t i\/b<kS t i
   .rw[if_pos h3];exact .inl ⟨ai,rfl,λ_=>.inl rfl⟩
   .rw[if_neg h3]
    by_cases h4:kH l i=none/\16<=l.length
    .rw[if_pos h4];exact .inl ⟨ai,rfl,λ_=>.inr ⟨rfl,h4.2⟩⟩
    .rw[if_neg h4];refine .inr (.inr ⟨h1,af,af,af,?_,rfl⟩)
     cases n:kH l i with
     |none=>exact .inr (Nat.lt_of_not_le λh=>h4 ⟨n,h⟩)
     |some q=>exact .inl rfl
 .rw[if_pos h1];exact .inl ⟨h1,rfl,λh=>absurd h h1⟩
def Pj.set(h:Pj t l)(i a b:Int):Pj t (rI t l i a b).1:=by
 rcases zY t (l:=l) i a b with⟨_,h1,_⟩ | ⟨h1,h2,h3⟩ | ⟨h1,h2,h3,h4,h5,h6⟩
 .rw[h1];exact h
 .rw[h3];exact⟨Fe h.jL i,bJ (zy l i) h.len,λq n=>h.dir q (Ff.1 n).1,λq n=>h.ok q (Ff.1 n).1⟩
 .rw[h6];refine⟨Fj h.jL _,?_,λq n=>?_,λq n=>?_⟩
  .rw[IW h.jL]
   rcases h5 with h5 | h5
   .have:=IQ h5;have:=h.len;simp only;omega
   .have:=zy l i;simp only;omega
  .rcases(Fk h.jL).1 n with rfl | ⟨n,_⟩
   .exact h1
   .exact h.dir q n
  .rcases(Fk h.jL).1 n with rfl | ⟨n,_⟩
   .exact decide_eq_false (by simp only;omega)
   .exact h.ok q n
def Pj.nil(t:Tree):Pj t []:=⟨List.Pairwise.nil,ai,ai,ai⟩
end
end Go.Tr
