/- Part of the proof that TopPassedCard holds. -/
import Derived.Test.YtaepagegdgdlhaaGreatDoorTrG
set_option linter.all false
namespace Go.Tr
section
variable(ok:au->Bool)(lt:au->au->Bool)
def alK(t:Tree)(l:List Ent)(i:Nat):Bool:=match l[i]? with
 |none=>false
 |some x=>ok x.name&&(decide (1<=x.jC)&&(decide (x.jC<t.jC)&&((find t.nodes x.ino).isSome&&((decide (i=0)||((l[i-1]?).elim false λy=>lt y.name x.name))&&(l.take i).all λy=>!decide (y.jC=x.jC)))))
def Xo(t:Tree)(l:List Ent):Bool:=decide (l.length<=64)&&(List.range l.length).all (alK ok lt t l)
def ada(l:List Node)(i up:Int):Nat:=((l.filter λn=>decide (n.ino=up)).map λn=>cN n i).sum
def Vs(t:Tree)(n:Node):Bool :=
 if n.kind=1 then decide (n.jF.length=0)&&(decide (n.up=0)&&(decide (n.data.length<=4096)&&decide (n.links=(cnt t.nodes n.ino:Nat))))
 else if n.kind≠2\/0<n.data.length\/Xo ok lt t n.jF=false then false
 else if n.ino=1 then decide (n.up=1)&&(decide (n.links=0)&&decide (cnt t.nodes n.ino=0))
 else decide (cnt t.nodes n.ino=1)&&(decide (ada t.nodes n.ino n.up=1)&&decide (n.links=1))
def aiN(t:Tree)(i:Nat):Bool:=match t.nodes[i]? with
 |none=>false
 |some n=>(decide (i=0)||((t.nodes[i-1]?).elim false λm=>decide (m.ino<n.ino)))&&(decide (n.ino<t.next)&&(decide (n.jF.length<=64)&&Vs ok lt t n))
def afq(t:Tree)(n:Node):Bool:=if n.kind≠2 then true else below t n.ino 1&&(decide (depth t n.ino<=12)&&(!decide (depth t n.ino=12)||decide (n.jF.length=0)))
def N7(t:Tree):Bool :=
 (decide (1<=t.nodes.length/\t.nodes.length<=200)&&((t.nodes[0]?).elim false λn=>decide (n.ino=1/\n.kind=2)))&&(decide (t.next<=1099511627776/\1<=t.jC/\t.jC<=1099511627776) &&
 ((List.range t.nodes.length).all (aiN ok lt t)&&t.nodes.all (afq t)))
end
variable{ok:au->Bool}{lt:au->au->Bool}{t:Tree}
def Xn{l:List Ent}(h:ur ok lt t l):Xo ok lt t l=true:=by
 unfold Xo;rw[aH,decide_eq_true_eq,aO];refine⟨h.len,λi hi=>?_⟩
 have hi:=eT.1 hi;unfold alK;rw[aG hi];have hm:=aS hi;have hc:=h.ck _ hm;simp only[aH,decide_eq_true_eq,bS,aO];refine⟨h.nm _ hm,hc.1,hc.2,h.to _ hm,?_,λy hy=>?_⟩
 .rcases cM i with h0 | h0
  .exact .inl h0
  .right;rw[aG (show i-1<l.length by omega)]
   exact(bY.1 h.oe) (i-1) i aa hi aa
 .obtain⟨j,hj,rfl⟩:=cI.1 hy;rw[bM]at hj;rw[fW];have:=(bY.1 h.dis) j i aa hi aa
  simpa using this
def Zy{l:List Node}(hs:ym l){up:Int}{p:Node}(hp:find l up=some p)(i:Int):ada l i up=cN p i:=by
 let⟨hm,hi⟩:=jY hp
 have:(l.filter λn=>decide (n.ino=up))=[p]:=by
  clear hp
  induction l with
  |nil=>cases hm
  |cons q l ih =>
   let⟨h1,h2⟩:=bh.1 hs;rw[dD]
   rcases aP.1 hm with rfl | hm
   .rw[if_pos (an hi)]
    congr 1
    rw[iW];intro r hr;have:=h1 r hr;simp;omega
   .have:=h1 p hm;rw[if_neg aj]
    exact ih h2 hm
 unfold ada;rw[this];simp
def Vr(w:WF ok lt t){i:Int}{n:Node}(h:find t.nodes i=some n):Vs ok lt t n=true:=by
 have hi:=kN h;unfold Vs;rw[hi]
 rcases w.wf.kind _ _ h with hk | hk
 .rw[if_pos hk];let⟨f1,f2,f3,f4⟩:=w.wf.file _ _ h hk;simp only[aH,decide_eq_true_eq];exact⟨by rw[f1];rfl,f2,f3,an f4⟩
 .rw[if_neg aa]
  let⟨d1,d2⟩:=w.wf.dir _ _ h hk;rw[if_neg (by rw[Xn d2,d1];simp[hk])]
  by_cases h1:i=1
  .subst h1;rw[if_pos rfl];let⟨r,r1,r2,r3,r4⟩:=w.wf.root;rw[h]at r1;cases r1;simp only[aH,decide_eq_true_eq];exact⟨r3,r4,w.wf.JF⟩
  .rw[if_neg h1];have hl:=w.wf.KP _ _ h hk h1;let⟨p,p1,p2⟩:=w.wf.par _ _ h hk h1 rfl;simp only[aH,decide_eq_true_eq];exact⟨an hl.1,by rw[Zy w.wf.oe p1];exact p2,hl.2⟩
def N8{t:Tree}{i:Int}{d:Nat}(h:wj t i d):∃e,RU t 1 i e:=by
 induction h with
 |root=>exact⟨0,.here⟩
 |up h hk h1 hd ih =>
  let⟨e,he⟩:=ih;exact⟨e+1,.up h hk h1 he⟩
def WF.right(w:WF ok lt t):N7 ok lt t=true:=by
 let⟨r,r1,r2,_⟩:=w.wf.root;have hne:0<t.nodes.length:=fM (jY r1).1;unfold N7;simp only[aH,decide_eq_true_eq,aO];refine⟨⟨⟨hne,w.wf.len⟩,?_⟩,⟨w.wf.nxt,w.wf.ck1,w.wf.ck2⟩,λi hi=>?_,λn hn=>?_⟩
 .rw[aG hne];simp only[bw,decide_eq_true_eq];have h0:=mJ w.wf.oe (aS hne);have hpos:=w.wf.pos _ _ h0;let⟨k,hk,hkr⟩:=cI.1 (jY r1).1;have hr1:=kN r1
  rcases cM k with hk0 | hk0
  .subst hk0;rw[hkr];exact⟨hr1,r2⟩
  .have:=(bY.1 w.wf.oe) 0 k hne hk hk0;rw[hkr,hr1]at this;omega
 .have hi:=eT.1 hi;unfold aiN;rw[aG hi];have hf:=mJ w.wf.oe (aS hi);simp only[aH,decide_eq_true_eq,bS];refine⟨?_,(w.wf.pos _ _ hf).2,?_,Vr w hf⟩
  .rcases cM i with h0 | h0
   .exact .inl h0
   .right;rw[aG (show i-1<t.nodes.length by omega)]
    simp only[bw,decide_eq_true_eq];exact(bY.1 w.wf.oe) (i-1) i aa hi aa
  .rcases w.wf.kind _ _ hf with hk | hk
   .rw[(w.wf.file _ _ hf hk).1];simp
   .exact(w.wf.dir _ _ hf hk).2.len
 .have hf:=mJ w.wf.oe hn;unfold afq;split
  .rfl
  .rename_i hk;let⟨d,d1,d2,d3⟩:=w.dep _ _ hf (cL.1 hk);rw[oz d1 aa]
   simp only[aH,decide_eq_true_eq,bS];refine⟨(yb w d1).2 (N8 d1),d2,?_⟩
   by_cases h12:d=12
   .right;rw[d3 h12];rfl
   .left;simp[h12]
open Go.Am
def r9:∀a:au,jP a a=false
 | []=>rfl
 |a::x=>by
  simp only[jP,r9 x];simp
def AJ:∀a b:au,jP a b=true\/a=b\/jP b a=true
 | [],[]=>.inr (.inl rfl)
 | [],_::_=>.inl rfl
 |_::_,[]=>.inr (.inr rfl)
 |a::x,b::y=>by
  simp only[jP,bS,decide_eq_true_eq,aH,beq_iff_eq,dm,eX]
  rcases fZ a.toNat b.toNat with h | h | h
  .exact .inl (.inl h)
  .have hab:a=b:=UInt8.toNat.inj h;subst hab
   rcases AJ x y with h | h | h
   .exact .inl (.inr ⟨rfl,h⟩)
   .exact .inr (.inl ⟨rfl,h⟩)
   .exact .inr (.inr (.inr ⟨rfl,h⟩))
  .exact .inr (.inr (.inl h))
def DH:∀a b c:au,jP a b=true->jP b c=true->jP a c=true
 |_,_,[],_,h=>by simp[jP]at h
 |_,[],_::_,h,_=>by simp[jP]at h
 | [],_::_,_::_,_,_=>rfl
 |a::x,b::y,c::z,h1,h2=>by
  simp only[jP,bS,decide_eq_true_eq,aH,beq_iff_eq,eX]at h1 h2⊢
  rcases h1 with h1 | ⟨rfl,h1⟩
  .rcases h2 with h2 | ⟨rfl,h2⟩
   .exact .inl aa
   .exact .inl h1
  .rcases h2 with h2 | ⟨rfl,h2⟩
   .exact .inl h2
   .exact .inr ⟨rfl,DH x y z h1 h2⟩
def xS:Ord jP:=⟨r9,DH,AJ⟩
def DI{a b:au}(h:jP a b=true):jP b a=false:=by
 cases h':jP b a with
 |false=>rfl
 |true=>have:=DH _ _ _ h h';rw[r9]at this;cases this
def UB{a b:au}(h:jP a b=true):a≠b:=λe=>by rw[e,r9]at h;cases h
structure Bg(k:Nat)(t:Tree):Prop where
 len:t.nodes.length<=200+k
 jF:∀n∈t.nodes,n.jF.length<=64+k
 YT:0<=t.jC
 ck:t.jC<=1099511627776+(k:Int)
 nx0:0<=t.next
 nx:t.next<=1099511627776+(k:Int)
 lk:∀n∈t.nodes,-(k:Int)<=n.links/\n.links<=1099511627776+(k:Int)
def afG(n:Node)(i:Int):cN n i<=n.jF.length:=cr ..
def xE{l:List Node}{b:Nat}(h:∀n∈l,n.jF.length<=b)(i:Int):cnt l i<=l.length*b:=by
 unfold cnt
 induction l with
 |nil=>simp
 |cons n l ih =>
  rw[bF,List.sum_cons,aQ,Nat.succ_mul];have h1:=ih λm hm=>h m (bt _ hm)
  have h2:=h n bu;have h3:=afG n i;omega
def WF.bg{ok:au->Bool}{lt:au->au->Bool}{t:Tree}(w:WF ok lt t):Bg 0 t:=by
 have he:∀n∈t.nodes,n.jF.length<=64:=λn hn=>by
  have hf:=mJ w.wf.oe hn
  rcases w.wf.kind _ _ hf with h | h
  .rw[(w.wf.file _ _ hf h).1];simp
  .exact(w.wf.dir _ _ hf h).2.len
 let⟨r,hr,hk,_,hl⟩:=w.wf.root;have hp:=w.wf.pos _ _ hr;refine⟨w.wf.len,he,by have:=w.wf.ck1;omega,by have:=w.wf.ck2;omega,aa,by have:=w.wf.nxt;omega,λn hn=>?_⟩
 have hf:=mJ w.wf.oe hn
 rcases w.wf.kind _ _ hf with h | h
 .have h1:=(w.wf.file _ _ hf h).2.2.2;have h2:=xE he n.ino;have h3:=w.wf.len;have h4:t.nodes.length*64<=200*64:=bD _ h3;omega
 .by_cases h1:n.ino=1
  .rw[h1,hr]at hf;obtain rfl:=cu hf;omega
  .have:=(w.wf.KP _ _ hf h h1).2;omega
variable{k:Nat}{t:Tree}
def Bg.mono(h:Bg k t){j:Nat}(hj:k<=j):Bg j t :=
 ⟨by have:=h.len;omega,λn hn=>by have:=h.jF n hn;omega,h.YT,by have:=h.ck;omega,h.nx0,by have:=h.nx;omega,λn hn=>by have:=h.lk n hn;omega⟩
def Ej{n m:Node}{l:List Node}(h:m∈ins n l):m=n\/m∈l:=by
 unfold ins at h
 rcases aX.1 h with h | h
 .exact .inr ((gJ _).subset h)
 .rcases aP.1 h with h | h
  .exact .inl h
  .exact .inr ((iV _).subset (cg.1 h).1)
def aec(n:Node)(l:List Node):(ins n l).length<=l.length+1:=by
 unfold ins;rw[aL,aQ];have h1:=cr (λm:Node=>decide (m.ino≠n.ino)) (l.dropWhile λm=>decide (m.ino<n.ino))
 have h2:=congrArg List.length (gQ (p:=λm:Node=>decide (m.ino<n.ino)) (l:=l))
 rw[aL]at h2;omega
def Bg.kG(h:Bg k t){n:Node}(he:n.jF.length<=64+k+1)(hl : -(k:Int)-1<=n.links/\n.links<=1099511627776+(k:Int)+1):Bg (k+1) (kG t n):=by
 refine⟨?_,λm hm=>?_,h.YT,?_,h.nx0,?_,λm hm=>?_⟩
 .have:=aec n t.nodes;have:=h.len;show (ins n t.nodes).length<=_;omega
 .rcases Ej (show m∈ins n t.nodes from hm)with rfl | hm
  .omega
  .have:=h.jF m hm;omega
 .have:=h.ck;show t.jC<=_;omega
 .have:=h.nx;show t.next<=_;omega
 .rcases Ej (show m∈ins n t.nodes from hm)with rfl | hm
  .omega
  .have:=h.lk m hm;omega
def Bg.oC(h:Bg k t)(i:Int):Bg k (oC t i) :=
 ⟨cQ (cr ..) h.len,λn hn=>h.jF n (cg.1 hn).1,h.YT,h.ck,h.nx0,h.nx,λn hn=>h.lk n (cg.1 hn).1⟩
def Bg.kI(h:Bg k t)(i:Int):(kI t i).jF.length<=64+k/\-(k:Int)<=(kI t i).links/\(kI t i).links<=1099511627776+(k:Int):=by
 unfold Tr.kI;cases hf:find t.nodes i with
 |none=>simp[mq];omega
 |some n=>exact⟨h.jF n (jY hf).1,h.lk n (jY hf).1⟩
def Bg.left(h:Bg k t)(i:Int)(s:au):Bg (k+1) (left t i s):=by
 have hg:=h.kI i;unfold Tr.left;refine h.kG ?_ ?_
 .have:=cr (λe:Ent=>decide (e.name≠s)) (Tr.kI t i).jF
  show (List.filter _ _).length<=_;omega
 .show _<=(Tr.kI t i).links/\(Tr.kI t i).links<=_;omega
def Bg.unnamed(h:Bg k t)(i:Int):Bg (k+1) (unnamed t i):=by
 have hg:=h.kI i;unfold Tr.unnamed;split
 .exact(h.oC i).mono (fH _)
 .refine h.kG (by show (Tr.kI t i).jF.length<=_;omega) ?_
  show _<=(Tr.kI t i).links-1/\(Tr.kI t i).links-1<=_;omega
def Bg.pP(h:Bg k t)(kind up:Int):Bg (k+2) (pP t kind up):=by
 have h1:Bg (k+1) ⟨t.fn,t.nodes,t.next+1,t.jC⟩:=⟨by have:=h.len;simp only;omega,λn hn=>by have:=h.jF n hn;omega,h.YT,by have:=h.ck;simp only;omega,by have:=h.nx0;simp only;omega,by have:=h.nx;simp only;omega,λn hn=>by have:=h.lk n hn;omega⟩
 refine h1.kG ?_ ?_
 .show 0<=_;omega
 .show _<=(1:Int)/\(1:Int)<=_;omega
open Go.Am
def ak0{i j:Nat}:bin .shr (.int .u64 ((i:Int)+j)) (.int .u64 1)=some (.int .u64 (((i+j) / 2:Nat):Int)):=by
 have h:((i:Int)+j).fdiv 2=(((i+j) / 2:Nat):Int):=by
  rw[gj _ aa]
  omega
 simp only[bin];rw[<-h];rfl
def rI{α:Type}(p:α->Bool)(l:List α):Nat:=l.findIdx λx=>!p x
def JD{α:Type}(p:α->Bool)(l:List α):rI p l<=l.length:=gM
def MO{α:Type}{p:α->Bool}{l:List α}(hm:∀i j (h:j<l.length) (hij:i<j),p l[j]=true->p l[i]=true){i:Nat}(h:i<l.length):i<rI p l↔p l[i]=true:=by
 constructor
 .intro hc;have:=fN hc
  simpa using this
 .intro hc
  rcases cG i (rI p l)with h' | h'
  .exact h'
  .exfalso;have oZ:rI p l<l.length:=by omega
   have hn:=gm (w:=oZ);have hn':p l[rI p l]=false:=by
    have h3:(!p l[rI p l])=true:=hn
    rwa [cv]at h3
   rcases cG (rI p l) i with h2 | h2
   .have:=hm _ _ h h2 hc;rw[this]at hn';cases hn'
   .have e:rI p l=i:=by omega
    simp only[e]at hn';rw[hc]at hn';cases hn'
def tj(l:List Node)(i:Int):Nat:=rI (λn=>decide (n.ino<i)) l
def Ao{l:List Node}(hs:ym l)(i:Int){k:Nat}(h:k<l.length):k<tj l i↔l[k].ino<i:=by
 have:=MO (p:=λn:Node=>decide (n.ino<i)) (l:=l) (λa b hb hab hp=>by
  have:=(bY.1 hs) a b aa hb hab
  have hp:=of_decide_eq_true hp;exact decide_eq_true aa) h
 rw[decide_eq_true_eq]at this;exact this
def HR{l:List Node}(hs:ym l)(i:Int):(∃(h:tj l i<l.length),l[tj l i].ino=i/\find l i=some l[tj l i])\/(find l i=none/\∀(h:tj l i<l.length),l[tj l i].ino≠i):=by
 by_cases h:tj l i<l.length
 .by_cases hi : l[tj l i].ino = i
  .refine .inl ⟨h,hi,?_⟩;have:=mJ hs (aS h)
   rwa [hi]at this
  .refine .inr ⟨?_,λ_=>hi⟩
   cases hf:find l i with
   |none=>rfl
   |some q =>
    exfalso;let⟨hq,hqi⟩:=jY hf;obtain⟨k,hk,rfl⟩:=cI.1 hq;have h1:=(Ao hs i h);have h2:=(Ao hs i hk);have:¬tj l i<tj l i:=iM _
    rcases fZ k (tj l i)with h3 | h3 | h3
    .have:=h2.1 h3;omega
    .subst h3;exact hi hqi
    .have:=(bY.1 hs) _ _ h hk h3;have:¬l[tj l i].ino<i:=λh=>iM _ (h1.2 h)
     omega
 .refine .inr ⟨?_,λh'=>absurd h' h⟩
  cases hf:find l i with
  |none=>rfl
  |some q =>
   exfalso;let⟨hq,hqi⟩:=jY hf;obtain⟨k,hk,rfl⟩:=cI.1 hq;have:=(Ao hs i hk).1 (by have:=JD (λn:Node=>decide (n.ino<i)) l;unfold tj at h⊢;omega)
   omega
variable{ok:au->Bool}{lt:au->au->Bool}{t:Tree}
def WF.afo(w:WF ok lt t){q:Node}(hq:q∈t.nodes)(hk:q.kind=2):below t q.ino 1=true/\depth t q.ino<=12/\(depth t q.ino=12->q.jF=[]):=by
 have h:=w.right;unfold N7 at h;simp only[aH]at h;have h2:=aO.1 h.2.2.2 q hq;unfold afq at h2;rw[if_neg (an hk)]at h2
 simp only[aH,bS,cv,decide_eq_true_eq,decide_eq_false_iff_not]at h2;refine⟨h2.1,h2.2.1,λh3=>?_⟩
 rcases h2.2.2 with h4 | h4
 .exact absurd h3 h4
 .exact eH.1 h4
def inE(t:Tree)(i j:Int):Prop:=∃e∈(kI t i).jF,e.ino=j
inductive Ru(t:Tree)(i:Int):Int->Prop
 |one {j:Int}:inE t i j->Ru t i j
 |more {j k:Int}:Ru t i j->inE t j k->Ru t i k
def Ru.trans{t:Tree}{i j k:Int}(h:Ru t i j)(h':Ru t j k):Ru t i k:=by
 induction h' with
 |one h1=>exact .more h h1
 |more _ h2 ih=>exact .more ih h2
def alb(t:Tree):Nat->Int->ay×Int->ay×Int
 |0,_,s=>s
 |k+1,i,s=>(kI t i).jF.foldl (λs e=>if s.1.contains e.ino=true then s else alb t k e.ino (s.1++[e.ino],s.2)) (s.1,s.2+((kI t i).data.length:Int))
def dat(t:Tree)(i:Int):Int:=((kI t i).data.length:Int)
def aq9(t:Tree)(l:ay):Int:=(l.map (dat t)).sum
section
variable{ok:au->Bool}{lt:au->au->Bool}{t:Tree}
def ajy(t:Tree)(d:Int):ay:=(alb t 301 d ([],0)).1
end
section
variable{ok:au->Bool}{lt:au->au->Bool}{t:Tree}
def xg{i j:Int}(h:inE t i j):∃p,find t.nodes i=some p/\∃e∈p.jF,e.ino=j:=by
 let⟨e,he,hj⟩:=h;unfold kI at he;cases hf:find t.nodes i with
 |none=>rw[hf]at he;cases he
 |some p =>
  rw[hf]at he;exact⟨p,rfl,e,he,hj⟩
def V6{i j:Int}{p:Node}(hp:find t.nodes i=some p)(h:0<cN p j):inE t i j:=by
 let⟨e,he,hj⟩:=uj.1 h;exact⟨e,by rw[mh hp];exact he,hj⟩
def Ai(w:WF ok lt t){i j:Int}(h:inE t i j){n:Node}(hj:find t.nodes j=some n)(hk:n.kind=2):n.up=i/\j≠1:=by
 obtain⟨p,hp,e,he,rfl⟩:=xg h;let⟨_,hne,_⟩:=tf w hp he;refine⟨?_,hne⟩;have hc:0<cN p e.ino:=uj.2 ⟨e,he,rfl⟩;have hone:=(w.wf.KP _ _ hj hk hne).1;let⟨q,q1,q2⟩:=w.wf.par _ _ hj hk hne rfl;have:=QV w.wf.oe (an hone) (jY hp).1 (jY q1).1 hc aa
 subst this;exact(kN q1).symm.trans (kN hp)
def ago(w:WF ok lt t){d j:Int}:Ru t d j↔∃p e,RU t d p e/\inE t p j:=by
 constructor
 .intro h
  induction h with
  |one h=>exact⟨d,0,.here,h⟩
  |more h1 h2 ih =>
   let⟨p,e,h3,h4⟩:=ih;let⟨q,hq,e',he',hk⟩:=xg h2;have OI:=zY w.wf hq he';let⟨h5,h6⟩:=Ai w h4 hq OI;exact⟨_,e+1,.up hq OI h6 (by rw[h5];exact h3),h2⟩
 .rintro⟨p,e,h1,h2⟩
  induction h1 generalizing j with
  |here=>exact .one h2
  |up h hk h1 hr ih =>
   let⟨q,q1,q2⟩:=w.wf.par _ _ h hk h1 rfl;exact .more (ih (V6 q1 aa)) h2
def UM(w:WF ok lt t){j:Int}:Ru t 1 j↔0<cnt t.nodes j:=by
 rw[ago w]
 constructor
 .rintro⟨p,e,_,h⟩
  let⟨q,hq,e',he',hj⟩:=xg h;have h1:0<cN q j:=uj.2 ⟨e',he',hj⟩;have h2:=HU (jY hq).1 j;omega
 .intro h;let⟨q,hq,hc⟩:=Ap.1 h;have hf:=mJ w.wf.oe hq;let⟨e,he,hj⟩:=uj.1 hc;have hk:=zY w.wf hf he;let⟨d,hd,_⟩:=w.dep _ _ hf hk;have hb:=(w.afo hq hk).1;let⟨e',hr⟩:=(yb w hd).1 hb;exact⟨q.ino,e',hr,V6 hf hc⟩
def Pw(t:Tree)(d:Int):Int:=if oN t d=0 then((ajy t d).length:Int)else 0
def Px(t:Tree)(d:Int):Int:=if oN t d=0 then aq9 t (ajy t d)else 0
end
open Go.Am
structure Qu where
 ino:Int
 nodes:Int
 bytes:Int
deriving DecidableEq
def FY(l:List Qu):Prop:=l.Pairwise λa b=>a.ino<b.ino
def HH(l:List Qu)(i:Int):Option Qu:=l.find? λq=>decide (q.ino=i)
def BI(l:List Qu)(i:Int):Nat:=rI (λq=>decide (q.ino<i)) l
def E9{l:List Qu}(hs:FY l)(i:Int){k:Nat}(h:k<l.length):k<BI l i↔l[k].ino<i:=by
 have:=MO (p:=λn:Qu=>decide (n.ino<i)) (l:=l) (λa b hb hab hp=>by
  have:=(bY.1 hs) a b aa hb hab
  have hp:=of_decide_eq_true hp;exact decide_eq_true aa) h
 rw[decide_eq_true_eq]at this;exact this
def Tf{l:List Qu}{i:Int}{q:Qu}(h:HH l i=some q):q∈l/\q.ino=i :=
 ⟨dx h,by have:=ek h;exact of_decide_eq_true this⟩
def zy(l:List Qu)(i:Int):List Qu:=l.filter λq=>decide (q.ino≠i)
def Gp(l:List Qu)(x:Qu):List Qu:=l.take (BI l x.ino)++x::(l.drop (BI l x.ino)).filter λq=>decide (q.ino≠x.ino)
def PC{l:List Qu}(hs:FY l)(i:Int):(l.take (BI l i)).filter (λm=>decide (m.ino≠i))=l.take (BI l i):=by
 rw[dY];intro m hm;obtain⟨k,hk,rfl⟩:=cI.1 hm;rw[bM]at hk;rw[fW];have:=(E9 hs i (k:=k) aa).1 aa
 exact decide_eq_true aa
section
variable(t:Tree)
def pass(q:Qu)(n b:Int):Bool:=decide (q.nodes<Pw t q.ino+n\/q.bytes<Px t q.ino+b)
def La(l:List Qu)(i n b:Int):List Qu×Int :=
 if oN t i≠0 then(l,oN t i)else if n<0 then(zy l i,0)else if n<Pw t i\/b<Px t i then(l,90)else if HH l i=none/\16<=l.length then(l,76)else(Gp l ⟨i,n,b⟩,0)
end
structure Yo(t:Tree)(l:List Qu):Prop where
 oe:FY l
 len:l.length<=16
 dir:∀q∈l,oN t q.ino=0
 ok:∀q∈l,pass t q 0 0=false
section
variable{ok:au->Bool}{lt:au->au->Bool}{t:Tree}
end
structure Ext(P:Int->Prop)(s r:ay×Bool)(new:ay):Prop where
 eq:r.1=s.1++new
 more:r.2=(s.2 || !new.isEmpty)
 nd:s.1.Nodup->r.1.Nodup
 is:∀x∈new,P x
def Ext.nil(P:Int->Prop)(s:ay×Bool):Ext P s s []:=⟨ah,ah,id,ah⟩
def Ext.trans{P:Int->Prop}{s r u:ay×Bool}{a b:ay}(h:Ext P s r a)(h':Ext P r u b):Ext P s u (a++b) :=
 ⟨by rw[h'.eq,h.eq,cF],by rw[h'.more,h.more];cases a<;>simp,λg=>h'.nd (h.nd g),λx hx=>(aX.1 hx).elim (h.is x) (h'.is x)⟩
section
variable{ok:au->Bool}{lt:au->au->Bool}{t:Tree}
end
open Go.Am
variable{l:List Qu}
def DQ{i:Int}{q:Qu}:q∈zy l i↔q∈l/\q.ino≠i:=by
 unfold zy;rw[cg,decide_eq_true_eq]
def Lt(hs:FY l){x q:Qu}:q∈Gp l x↔q=x\/(q∈l/\q.ino≠x.ino):=by
 unfold Gp;rw[aX,aP,cg,decide_eq_true_eq]
 have h1:∀q∈l.take (BI l x.ino),q.ino≠x.ino:=λq hq=>by
  have:=PC hs x.ino;rw[<-this]at hq;exact of_decide_eq_true (cg.1 hq).2
 constructor
 .rintro(h | rfl | ⟨h,h2⟩)
  .exact .inr ⟨cm h,h1 q h⟩
  .exact .inl rfl
  .exact .inr ⟨cA h,h2⟩
 .rintro(rfl | ⟨h,h2⟩)
  .exact .inr (.inl rfl)
  .rw[<-dF (BI l x.ino) l,aX]at h;exact h.imp id λh=>.inr ⟨h,h2⟩
def UR(hs:FY l)(i:Int):FY (zy l i):=hs.filter _
def UZ(hs:FY l)(x:Qu):FY (Gp l x):=by
 have h1:∀q∈l.take (BI l x.ino),q.ino<x.ino:=λq hq=>by
  obtain⟨k,hk,rfl⟩:=cI.1 hq;rw[bM]at hk;rw[fW];exact(E9 hs x.ino (k:=k) aa).1 aa
 have h2:∀q∈l.drop (BI l x.ino),x.ino<=q.ino:=λq hq=>by
  obtain⟨k,hk,rfl⟩:=cI.1 hq;rw[cq]at hk;rw[iL];have:=(E9 hs x.ino (k:=BI l x.ino+k) aa)
  have h3:¬BI l x.ino+k<BI l x.ino:=aa
  have h4:=λh=>h3 (this.2 h)
  omega
 unfold FY Gp;rw[fm,bh];refine⟨jb (List.take_sublist _ _) hs,⟨λq hq=>?_,jm _ (jb (List.drop_sublist _ _) hs)⟩,λa ha b hb=>?_⟩
 .let⟨h3,h4⟩:=cg.1 hq;have:=h2 q h3;have:=of_decide_eq_true h4;omega
 .have ha:=h1 a ha
  rcases aP.1 hb with rfl | hb
  .exact ha
  .have:=h2 b (cg.1 hb).1;omega
def Zl(hs:FY l)(x:Qu):zy (Gp l x) x.ino=zy l x.ino:=by
 unfold Gp zy
 conv=>rhs;rw[<-dF (BI l x.ino) l]
 rw[eV,eV,dD];simp only[ne_eq,not_true_eq_false,decide_false,aU,if_false,List.filter_filter,fU]
def Zr(hs:FY l)(x:Qu):(Gp l x).length=(zy l x.ino).length+1:=by
 have h:=Zl hs x;rw[<-h];unfold Gp zy;have h1:=PC hs x.ino;rw[eV,dD,h1,List.filter_filter];simp only[ne_eq,not_true_eq_false,decide_false,aU,if_false,fU,aL,aQ];omega
def PN(l:List Qu)(i:Int):(zy l i).length<=l.length:=cr _ _
def Zm{i:Int}(h:(HH l i).isSome=true):(zy l i).length<l.length:=by
 let⟨q,hq⟩:=dA.1 h;let⟨h1,h2⟩:=Tf hq
 rcases cG (zy l i).length l.length with h3 | h3
 .exact h3
 .have h4:zy l i=l:=List.Sublist.eq_of_length_le List.filter_sublist h3;rw[<-h4]at h1;exact absurd h2 (DQ.1 h1).2
section
variable{ok:au->Bool}{lt:au->au->Bool}{t:Tree}
def NY(t:Tree)(i a b:Int):((La t l i a b).2≠0/\(La t l i a b).1=l/\(oN t i=0->((La t l i a b).2=90\/((La t l i a b).2=76/\16<=l.length))))\/
  (oN t i=0/\a<0/\La t l i a b=(zy l i,0))\/(oN t i=0/\0<=a/\Pw t i<=a/\Px t i<=b/\((HH l i).isSome=true\/l.length<16)/\La t l i a b=(Gp l ⟨i,a,b⟩,0)):=by
 unfold La
 by_cases h1:oN t i=0
 .rw[if_neg (an h1)]
  by_cases h2:a<0
  .rw[if_pos h2];exact .inr (.inl ⟨h1,h2,rfl⟩)
  .rw[if_neg h2]
   by_cases h3:a<Pw t i\/b<Px t i
   .rw[if_pos h3];exact .inl ⟨ah,rfl,λ_=>.inl rfl⟩
   .rw[if_neg h3]
    by_cases h4:HH l i=none/\16<=l.length
    .rw[if_pos h4];exact .inl ⟨ah,rfl,λ_=>.inr ⟨rfl,h4.2⟩⟩
    .rw[if_neg h4];refine .inr (.inr ⟨h1,aa,aa,aa,?_,rfl⟩)
     cases hf:HH l i with
     |none=>exact .inr (Nat.lt_of_not_le λh=>h4 ⟨hf,h⟩)
     |some q=>exact .inl rfl
 .rw[if_pos h1];exact .inl ⟨h1,rfl,λh=>absurd h h1⟩
def Yo.set(h:Yo t l)(i a b:Int):Yo t (La t l i a b).1:=by
 rcases NY t (l:=l) i a b with⟨_,h1,_⟩ | ⟨h1,h2,h3⟩ | ⟨h1,h2,h3,h4,h5,h6⟩
 .rw[h1];exact h
 .rw[h3];exact⟨UR h.oe i,cQ (PN l i) h.len,λq hq=>h.dir q (DQ.1 hq).1,λq hq=>h.ok q (DQ.1 hq).1⟩
 .rw[h6];refine⟨UZ h.oe _,?_,λq hq=>?_,λq hq=>?_⟩
  .rw[Zr h.oe]
   rcases h5 with h5 | h5
   .have:=Zm h5;have:=h.len;simp only;omega
   .have:=PN l i;simp only;omega
  .rcases(Lt h.oe).1 hq with rfl | ⟨hq,_⟩
   .exact h1
   .exact h.dir q hq
  .rcases(Lt h.oe).1 hq with rfl | ⟨hq,_⟩
   .exact decide_eq_false (by simp only;omega)
   .exact h.ok q hq
def Yo.nil(t:Tree):Yo t []:=⟨List.Pairwise.nil,ah,ah,ah⟩
end
section
variable{ok:au->Bool}{lt:au->au->Bool}{t:Tree}
end
def Tj(t:Tree)(i:Int):List au:=(((kI t (GM t i)).jF.filter λe=>decide (e.ino=i)).map Ent.name).reverse
def AQ(t:Tree):Nat->Int->List au
 |0,_=>[]
 |k+1,i=>if i=1 then[]else AQ t k (GM t i)++Tj t i
def nv(t:Tree)(i:Int):List au:=AQ t 201 i
variable{ok:au->Bool}{lt:au->au->Bool}{t:Tree}
variable{i:Int}
def Zu{d:Nat}(h:wj t i d):∀k k',d<k->d<k'->AQ t k i=AQ t k' i:=by
 induction h with
 |root =>
  intro k k' h1 h2;obtain⟨k,rfl⟩:∃j,k=j+1:=⟨k-1,aa⟩
  obtain⟨k',rfl⟩:∃j,k'=j+1:=⟨k'-1,aa⟩
  simp[AQ]
 |up h hk h1 hd ih =>
  intro k k' h2 h3;obtain⟨k,rfl⟩:∃j,k=j+1:=⟨k-1,aa⟩
  obtain⟨k',rfl⟩:∃j,k'=j+1:=⟨k'-1,aa⟩
  simp only[AQ];rw[if_neg h1,if_neg h1,u6 h,ih k k' aa aa]
def sE:nv t 1=[]:=by simp[nv,AQ]
def U2{d:Nat}(h:wj t i d)(hd:d<=200)(h1:i≠1):nv t i=nv t (GM t i)++Tj t i:=by
 cases h with
 |root=>exact absurd rfl h1
 |up hf hk _ hd' =>
  rename_i n d';unfold nv
  have aqc:AQ t 201 i=AQ t 200 (GM t i)++Tj t i:=by
   rw[show (201:Nat)=200+1 from rfl,AQ,if_neg h1]
  rw[aqc,u6 hf,Zu hd' 200 201 aa aa]
def WF.EZ(w:WF ok lt t){n:Node}(hf:find t.nodes i=some n)(hk:n.kind=2):∃d,wj t i d/\d<=12:=by
 let⟨d,h1,h2,_⟩:=w.dep i n hf hk;exact⟨d,h1,h2⟩
def aaz(w:WF ok lt t){p:Node}(hp:find t.nodes i=some p){e:Ent}(he:e∈p.jF){n:Node}(hn:find t.nodes e.ino=some n)(hk:n.kind=2):Tj t e.ino=[e.name]/\GM t e.ino=i/\e.ino≠1:=by
 have hin:inE t i e.ino:=⟨e,by rw[mh hp];exact he,rfl⟩
 let⟨hu,h1⟩:=Ai w hin hn hk;have F9:GM t e.ino=i:=by rw[u6 hn,hu]
 refine⟨?_,F9,h1⟩;let⟨q,hq,hc⟩:=w.wf.par _ _ hn hk h1 rfl;rw[hu,hp]at hq;cases hq;unfold Tj;rw[F9,mh hp];unfold cN at hc;let⟨x,hx⟩:=dS.1 hc;have hm:e∈p.jF.filter λx=>decide (x.ino=e.ino):=cg.2 ⟨he,ah⟩
 rw[hx]at hm⊢;simp only[aM]at hm;subst hm;rfl
def Iy(w:WF ok lt t){p:Node}(hp:find t.nodes i=some p){e:Ent}(he:e∈p.jF){n:Node}(hn:find t.nodes e.ino=some n)(hk:n.kind=2):nv t e.ino=nv t i++[e.name]:=by
 let⟨h1,h2,h3⟩:=aaz w hp he hn hk;let⟨d,hd,hl⟩:=w.EZ hn hk;rw[U2 hd aa h3,h1,h2]
def Zt(w:WF ok lt t){d:Nat}(h:wj t i d):d<=12->(nv t i).length=d/\∀s∈nv t i,ok s=true:=by
 induction h with
 |root=>intro _;simp[sE]
 |up hf hk h1 hd ih =>
  rename_i i n d;intro hle;let⟨p,hp,hc⟩:=w.wf.par _ _ hf hk h1 rfl;let⟨e,he,hei⟩:=uj.1 (by omega:0<cN p i)
  have hn:find t.nodes e.ino=some n:=by rw[hei];exact hf
  have hpe:=Iy w hp he hn hk;rw[hei]at hpe;let⟨g1,g2⟩:=ih aa
  have hpd:=zY w.wf hp he;have hok:=(w.wf.dir _ _ hp hpd).2.nm e he;rw[hpe,aL,g1];refine⟨rfl,λs hs=>?_⟩
  rcases aX.1 hs with hs | hs
  .exact g2 s hs
  .simp only[aM]at hs;rw[hs];exact hok
variable{ok:au->Bool}{lt:au->au->Bool}{t:Tree}
def q8(x o:Int):Int:=if x = -1 then o else if x=o then x else -2
def nA(j o x:Int)(e:Ent):Int:=if e.ino=j then q8 x o else x
def nS(oB:List au->Int)(t:Tree)(j x:Int)(d:Node):Int:=if d.kind=2 then d.jF.foldl (nA j (oB (nv t d.ino))) x else x
def yE(oB:List au->Int)(t:Tree)(j:Int):Int:=t.nodes.foldl (nS oB t j) (-1)
def sG(oB:List au->Int)(t:Tree)(n:Node):Int:=if n.kind=2 then oB (nv t n.ino)else yE oB t n.ino
theorem NR{x o:Int}(ho:0<=o)(h:0<=q8 x o):q8 x o=o/\(x = -1\/x=o):=by
 unfold q8 at h⊢;split
 .exact⟨rfl,.inl (by assumption)⟩
 .rename_i h1;rw[if_neg h1]at h;split
  .rename_i h2;exact⟨h2,.inr h2⟩
  .rename_i h2;rw[if_neg h2]at h;omega
theorem ER{j o:Int}(ho:0<=o):∀(l:List Ent)(x:Int),0<=l.foldl (nA j o) x->(x = -1\/x=l.foldl (nA j o) x)/\∀e∈l,e.ino=j->o=l.foldl (nA j o) x
 | [],x,_=>⟨.inr rfl,λe he=>by cases he⟩
 |e::l,x,h=>by
  rw[aT]at h⊢;let⟨h1,h2⟩:=ER ho l _ h
  by_cases hj:e.ino=j
  .have he:nA j o x e=q8 x o:=by simp[nA,hj]
   rw[he]at h h1 h2⊢;generalize hf:l.foldl (nA j o) (q8 x o)=f at h h1 h2⊢;have h3:0<=q8 x o:=by
    rcases h1 with h1 | h1
    .exfalso;unfold q8 at h1;split at h1
     .omega
     .split at h1
      .rename_i h4 h5;omega
      .omega
    .omega
   let⟨h4,h5⟩:=NR ho h3;have h6:o=f:=by
    rcases h1 with h1 | h1
    .omega
    .omega
   refine⟨by rcases h5 with h5 | h5<;>omega,λe' he' hj'=>h6⟩
  .have he:nA j o x e=x:=by simp[nA,hj]
   rw[he]at h h1 h2⊢;refine⟨h1,λe' he' hj'=>?_⟩
   rcases aP.1 he' with rfl | he'
   .exact absurd hj' hj
   .exact h2 e' he' hj'
section
variable{oB:List au->Int}(Ja:∀l,0<=oB l)
include Ja
theorem ES(t:Tree){j:Int}:∀(l:List Node)(x:Int),0<=l.foldl (nS oB t j) x->(x = -1\/x=l.foldl (nS oB t j) x)/\∀d∈l,d.kind=2->∀e∈d.jF,e.ino=j->oB (nv t d.ino)=l.foldl (nS oB t j) x
 | [],x,_=>⟨.inr rfl,λe he=>by cases he⟩
 |d::l,x,h=>by
  rw[aT]at h⊢;let⟨h1,h2⟩:=ES t l _ h
  by_cases hk:d.kind=2
  .have he:nS oB t j x d=d.jF.foldl (nA j (oB (nv t d.ino))) x:=by simp[nS,hk]
   rw[he]at h h1 h2⊢;generalize hf:l.foldl (nS oB t j) (d.jF.foldl (nA j (oB (nv t d.ino))) x)=f at h h1 h2⊢
   have key:∀(l:List Ent)(x:Int),l.foldl (nA j (oB (nv t d.ino))) x = -1->x = -1/\∀e∈l,e.ino≠j:=by
    intro l
    induction l with
    |nil=>intro x hx;exact⟨hx,λe he=>by cases he⟩
    |cons e l ih =>
     intro x hx;rw[aT]at hx;let⟨i1,i2⟩:=ih _ hx;have ho:=Ja (nv t d.ino)
     by_cases hj:e.ino=j
     .exfalso;have:nA j (oB (nv t d.ino)) x e=q8 x (oB (nv t d.ino)):=by simp[nA,hj]
      rw[this]at i1;unfold q8 at i1;split at i1
      .omega
      .split at i1<;>omega
     .have:nA j (oB (nv t d.ino)) x e=x:=by simp[nA,hj]
      rw[this]at i1;refine⟨i1,λe' he'=>?_⟩
      rcases aP.1 he' with rfl | he'
      .exact hj
      .exact i2 e' he'
   have all:(x = -1\/x=f)/\∀e∈d.jF,e.ino=j->oB (nv t d.ino)=f:=by
    rcases h1 with h1 | h1
    .let⟨k1,k2⟩:=key _ _ h1;exact⟨.inl k1,λe he hj=>absurd hj (k2 e he)⟩
    .let⟨k1,k2⟩:=ER (j:=j) (Ja (nv t d.ino)) d.jF x (by rw[h1];exact h)
     rw[h1]at k1 k2;exact⟨k1,k2⟩
   refine⟨all.1,λd' hd' hk' e hm hj=>?_⟩
   rcases aP.1 hd' with rfl | hd'
   .exact all.2 e hm hj
   .exact h2 d' hd' hk' e hm hj
  .have he:nS oB t j x d=x:=by simp[nS,hk]
   rw[he]at h h1 h2⊢;refine⟨h1,λd' hd' hk' e hm hj=>?_⟩
   rcases aP.1 hd' with rfl | hd'
   .exact absurd hk' hk
   .exact h2 d' hd' hk' e hm hj
theorem OZ(w:WF ok lt t){j:Int}(h:0<=yE oB t j){i:Int}{p:Node}(hp:find t.nodes i=some p){e:Ent}(he:e∈p.jF)(hj:e.ino=j):oB (nv t i)=yE oB t j:=by
 have h1:=(ES Ja t t.nodes (-1) h).2 p (jY hp).1 (zY w.wf hp he) e he hj;rw[kN hp]at h1;exact h1
omit Ja in
theorem MH{j:Int}(h:0<=yE oB t j):0<cnt t.nodes j:=by
 rcases cM (cnt t.nodes j)with h0 | h0
 .exfalso
  have:∀l:List Node,cnt l j=0->l.foldl (nS oB t j) (-1) = -1:=by
   intro l
   induction l with
   |nil=>intro _;rfl
   |cons d l ih =>
    intro hc;rw[nT]at hc
    have hd:nS oB t j (-1) d = -1:=by
     unfold nS;split
     .have:∀l':List Ent,(∀e∈l',e.ino≠j)->l'.foldl (nA j (oB (nv t d.ino))) (-1) = -1:=by
       intro l'
       induction l' with
       |nil=>intro _;rfl
       |cons e l' ih' =>
        intro he;rw[aT];have:nA j (oB (nv t d.ino)) (-1) e = -1:=by simp[nA,he e bu]
        rw[this];exact ih' λe' he'=>he e' (bt _ he')
      refine this _ λe he hj=>?_
      have:0<cN d j:=uj.2 ⟨e,he,hj⟩;omega
     .rfl
    rw[aT,hd];exact ih aa
  have:=this t.nodes h0;unfold yE at h;omega
 .exact h0
end
def uh(m:List (Int×Int))(k:Int):Int:=(m.find? λp=>decide (p.1=k)).elim 0 λp=>p.2
def qz(m:List (Int×Int))(k:Int):Bool:=(m.find? λp=>decide (p.1=k)).isSome
def zz:List (Int×Int)->Int->Int->List (Int×Int)
 | [],k,v=>[(k,v)]
 |p::l,k,v=>if p.1=k then(k,v)::l else p::zz l k v
theorem ou(m:List (Int×Int))(a v k:Int):qz (zz m a v) k=(decide (k=a)||qz m k):=by
 induction m with
 |nil=>by_cases h:a=k<;>simp[qz,zz,h,eq_comm]
 |cons p m ih =>
  unfold qz at ih⊢;rw[zz]
  by_cases h:p.1=a
  .rw[if_pos h]
   by_cases hk:a=k
   .simp[hk]
   .simp[hk,Ne.symm hk,h]
  .rw[if_neg h]
   by_cases hk:p.1=k
   .simp[hk]
   .simp only[eO,decide_eq_false hk];exact ih
theorem zZ(m:List (Int×Int))(a v k:Int):uh (zz m a v) k=if k=a then v else uh m k:=by
 induction m with
 |nil=>by_cases h:a=k<;>simp[uh,zz,h,eq_comm]
 |cons p m ih =>
  unfold uh at ih⊢;rw[zz]
  by_cases h:p.1=a
  .rw[if_pos h]
   by_cases hk:a=k
   .simp[hk]
   .simp[hk,Ne.symm hk,h]
  .rw[if_neg h]
   by_cases hk:p.1=k
   .have:¬k=a:=by omega
    simp[hk,this]
   .simp only[eO,decide_eq_false hk];exact ih
structure HS where
 m:List (Int×Int)
 met:Int
 wh:Bool
def Jl(rt:List au->Option Int)(i:Int)(A:List au)(s:HS)(e:Ent):HS :=
 match rt (A++[e.name])with
 |some a=>⟨zz (zz s.m e.ino (uh s.m i)) e.ino a,IntKind.i64.wrap (s.met+1),s.wh⟩
 |none=>⟨zz s.m e.ino (uh s.m i),s.met,s.wh⟩
def hE(t:Tree)(rt:List au->Option Int)(go:Int->List au->HS->HS)(i:Int)(A:List au)(s:HS)(e:Ent):HS :=
 if (kI t e.ino).kind=1 then⟨zz s.m e.ino (uh s.m i),s.met,s.wh&&(!qz s.m e.ino||decide (uh s.m e.ino=uh s.m i))⟩
 else go e.ino (A++[e.name]) (Jl rt i A s e)
def hdn(t:Tree)(rt:List au->Option Int):Nat->Int->List au->HS->HS
 |0,_,_,s=>s
 |k+1,i,A,s=>(kI t i).jF.foldl (hE t rt (hdn t rt k) i A) s
theorem Mm(t:Tree)(rt:List au->Option Int)(k:Nat)(i:Int)(A:List au)(s:HS):hdn t rt (k+1) i A s=(kI t i).jF.foldl (hE t rt (hdn t rt k) i A) s:=rfl
section
variable{oB:List au->Int}{rt:List au->Option Int}(Ja:∀l,0<=oB l)(hrt:∀A s,oB (A++[s])=(rt (A++[s])).getD (oB A))
def BZ(oB:List au->Int)(t:Tree)(m:List (Int×Int)):Prop:=∀k n,find t.nodes k=some n->qz m k=true->uh m k=sG oB t n
include Ja hrt
theorem Mn(w : WF ok lt t)(hall : ∀ n ∈ t.nodes, 0 <= sG oB t n): ∀ (k : Nat) (i : Int) (p : Node) (d : Nat) (s : HS), find t.nodes i = some p -> p.kind = 2 -> wj t i d -> 13 <= k + d -> BZ oB t s.m -> qz s.m i = true ->
  BZ oB t (hdn t rt k i (nv t i) s).m/\(∀j,qz s.m j=true->qz (hdn t rt k i (nv t i) s).m j=true)/\∀j,Ru t i j->qz (hdn t rt k i (nv t i) s).m j=true
 |0,i,p,d,s,hp,hk,hd,OI,_,_=>by
  let⟨d',h1,h2⟩:=w.EZ hp hk;have:=hd.inj h1;omega
 |k+1,i,p,d,s,hp,hk,hd,OI,hR,hi=>by
  rw[Mm,mh hp];have hpi:sG oB t p=oB (nv t i):=by unfold sG;rw[if_pos hk,kN hp]
  have main:∀(l:List Ent)(s:HS),(∀e∈l,e∈p.jF)->BZ oB t s.m->qz s.m i=true->
    BZ oB t (l.foldl (hE t rt (hdn t rt k) i (nv t i)) s).m/\(∀j,qz s.m j=true->qz (l.foldl (hE t rt (hdn t rt k) i (nv t i)) s).m j=true)/\∀e∈l,qz (l.foldl (hE t rt (hdn t rt k) i (nv t i)) s).m e.ino=true/\∀j,Ru t e.ino j->qz (l.foldl (hE t rt (hdn t rt k) i (nv t i)) s).m j=true:=by
   intro l
   induction l with
   |nil=>intro s _ hR _;exact⟨hR,λj hj=>hj,λe he=>by cases he⟩
   |cons e l ih =>
    intro s hl hR hi;rw[aT];have he:e∈p.jF:=hl e bu;let⟨⟨c,hc⟩,asM,asL⟩:=tf w hp he;have hgi:uh s.m i=oB (nv t i):=by rw[<-hpi];exact hR i p hp hi
    -- one entry
    have one:BZ oB t (hE t rt (hdn t rt k) i (nv t i) s e).m/\(∀j,qz s.m j=true->qz (hE t rt (hdn t rt k) i (nv t i) s e).m j=true)/\qz (hE t rt (hdn t rt k) i (nv t i) s e).m e.ino=true/\∀j,Ru t e.ino j->qz (hE t rt (hdn t rt k) i (nv t i) s e).m j=true:=by
     unfold hE;rw[mh hc]
     by_cases oV:c.kind=1
     .rw[if_pos oV]
      have hpc:sG oB t c=oB (nv t i):=by
       have h0:=hall c (jY hc).1;unfold sG at h0⊢;rw[if_neg aa]at h0⊢
       rw[kN hc]at h0⊢;exact(OZ Ja w h0 hp he rfl).symm
      refine⟨λj n hj hh=>?_,λj hj=>?_,?_,λj hj=>?_⟩
      .dsimp only at hh⊢;rw[zZ];split
       .rename_i wC;rw[wC,hc]at hj;cases hj;rw[hgi,hpc]
       .rename_i wC;rw[ou,decide_eq_false wC,fS]at hh;exact hR j n hj hh
      .dsimp only;rw[ou,hj,iw]
      .dsimp only;rw[ou];simp
      .exfalso;have hfe:=(w.wf.file _ _ hc oV).1;have:∀x y,Ru t x y->x=e.ino->False:=by
        intro x y hxy
        induction hxy with
        |one h =>
         intro hx;rw[hx]at h;let⟨q,hq,e',he',_⟩:=xg h;rw[hc]at hq;cases hq;rw[hfe]at he';cases he'
        |more _ _ ih=>exact ih
       exact this _ _ hj rfl
     .rw[if_neg oV];have Wz:c.kind=2:=by
       rcases w.wf.kind _ _ hc with h | h
       .exact absurd h oV
       .exact h
      have hpe:=Iy w hp he hc Wz
      have hdc:wj t e.ino (d+1):=by
       have F9:=(Ai w (i:=i) ⟨e,by rw[mh hp];exact he,rfl⟩ hc Wz)
       exact .up hc Wz F9.2 (by rw[F9.1];exact hd)
      have hput:BZ oB t (Jl rt i (nv t i) s e).m/\(∀j,qz s.m j=true->qz (Jl rt i (nv t i) s e).m j=true)/\qz (Jl rt i (nv t i) s e).m e.ino=true:=by
       have hpc:sG oB t c=(rt (nv t i++[e.name])).getD (oB (nv t i)):=by
        unfold sG;rw[if_pos Wz,kN hc,hpe,hrt]
       unfold Jl;cases hr:rt (nv t i++[e.name])with
       |none =>
        rw[hr]at hpc;refine⟨λj n hj hh=>?_,λj hj=>?_,?_⟩
        .dsimp only at hh⊢;rw[zZ];split
         .rename_i wC;rw[wC,hc]at hj;cases hj;rw[hgi,hpc];rfl
         .rename_i wC;rw[ou,decide_eq_false wC,fS]at hh;exact hR j n hj hh
        .dsimp only;rw[ou,hj,iw]
        .dsimp only;rw[ou];simp
       |some a =>
        rw[hr]at hpc;refine⟨λj n hj hh=>?_,λj hj=>?_,?_⟩
        .dsimp only at hh⊢;rw[zZ,zZ];split
         .rename_i wC;rw[wC,hc]at hj;cases hj;rw[hpc];rfl
         .rename_i wC;rw[ou,ou,decide_eq_false wC,fS,fS]at hh;exact hR j n hj hh
        .dsimp only;rw[ou,ou,hj,iw,iw]
        .dsimp only;rw[ou];simp
      let⟨q1,q2,q3⟩:=hput;have ihk:=Mn w hall k e.ino c (d+1) (Jl rt i (nv t i) s e) hc Wz hdc aa q1 q3
      rw[hpe]at ihk;exact⟨ihk.1,λj hj=>ihk.2.1 j (q2 j hj),ihk.2.1 _ q3,ihk.2.2⟩
    let⟨o1,o2,o3,o4⟩:=one;let⟨i1,i2,i3⟩:=ih _ (λe' he'=>hl e' (bt _ he')) o1 (o2 _ hi)
    refine⟨i1,λj hj=>i2 j (o2 j hj),λe' he'=>?_⟩
    rcases aP.1 he' with rfl | he'
    .exact⟨i2 _ o3,λj hj=>i2 j (o4 j hj)⟩
    .exact i3 e' he'
  let⟨m1,m2,m3⟩:=main p.jF s (λe he=>he) hR hi
  refine⟨m1,m2,λj hj=>?_⟩
  have:∀x y,Ru t x y->x=i->∃e∈p.jF,y=e.ino\/Ru t e.ino y:=by
   intro x y hxy
   induction hxy with
   |one h =>
    intro hx;rw[hx]at h;let⟨q,hq,e',he',hj⟩:=xg h;rw[hp]at hq;cases hq;exact⟨e',he',.inl hj.symm⟩
   |more h1 h2 ih =>
    intro hx;let⟨e',he',h3⟩:=ih hx
    rcases h3 with h3 | h3
    .rw[h3]at h2;exact⟨e',he',.inr (.one h2)⟩
    .exact⟨e',he',.inr (.more h3 h2)⟩
  let⟨e',he',h3⟩:=this _ _ hj rfl
  rcases h3 with h3 | h3
  .rw[h3];exact(m3 e' he').1
  .exact(m3 e' he').2 j h3
theorem Wi(w:WF ok lt t)(hall:∀n∈t.nodes,0<=sG oB t n)(h0:oB []=0){n:Node}(hn:n∈t.nodes):uh (hdn t rt 14 1 [] ⟨[(1,0)],1,true⟩).m n.ino=sG oB t n:=by
 let⟨r,hr,hrk,_⟩:=w.wf.root
 have hp:=Mn Ja hrt w hall 14 1 r 0 ⟨[(1,0)],1,true⟩ hr hrk .root aa (λk n hk hh=>by
  have ND:k=1:=by
   by_cases h:k=1
   .exact h
   .simp[qz,Ne.symm h]at hh
  subst ND;rw[hr]at hk;cases hk;unfold sG;rw[if_pos hrk,kN hr,sE,h0];simp[uh]) (by simp[qz])
 rw[sE]at hp;have hf:=mJ w.wf.oe hn;refine hp.1 _ n hf ?_
 by_cases h1:n.ino=1
 .rw[h1];exact hp.2.1 1 (by simp[qz])
 .refine hp.2.2 _ ((UM w).2 ?_)
  rcases w.wf.kind _ _ hf with hk | hk
  .have h0:=hall n hn;unfold sG at h0;rw[if_neg aa]at h0
   exact MH h0
  .have:=(w.wf.KP _ _ hf hk h1).1;omega
end
end Go.Tr
