/- Part of the proof that TopTwoPartsCard holds. -/
import Derived.Test.YtghgbehknhmnaaaGreatDoorAmU
import Derived.Orders
set_option linter.all false
namespace Go.Am
def xo(P:Program)(n:Nat)(all:List Oper)(o:Oper)(x:AI):Bool :=
 decide (o.dst=x.dst)&&(nJ x.dst).all (λt=>decide (t<n))&&uD P o.op x.op &&
 (match o.guard,x.guard with
  |none,none=>true
  |some (j,h),some (t,b)=>decide (h=b)&&decide ((all[j]?).bind (·.dst)=some t)
  |_,_=>false)
def lY(P:Program)(n:Nat)(all:List Oper):List Oper->List AI->Bool
 | [],[]=>true
 |o::os,x::xs=>xo P n all o x&&lY P n all os xs
 |_,_=>false
section
variable{P:Program}{Z:az}{β:jO}{w:World}{Γ:jE}
def Dn{ops:Array Oper}{a:Act}{j t:Nat}{b:Bool}(i:(ops[j]?).bind (·.dst)=some t)(h:a.tmps.getD t Go.undef = .bool b):yielded ops a.tmps j=some b:=by
 unfold yielded;rw[i];simp only[cg];rw[bD]at h;cases l:a.tmps[t]? with
 |none=>rw[l]at h;cases h
 |some v=>grind
def BU{ops:Array Oper}{a:Act}{j t:Nat}(h:(ops[j]?).bind (·.dst)=some t)(b:a.tmps.getD t Go.undef=Go.undef):yielded ops a.tmps j=none:=by
 unfold yielded;rw[h];simp only[cg];rw[bD]at b;cases i:a.tmps[t]? with
 |none=>rfl
 |some v=>rw[i]at b;simp only[dh]at b;rw[b];rfl
def qM{s:St}{a:Act}{n:Nat}(R:Rel Z β s.h w)(G:j3 P Γ)(E:jt Z β s.h w s.e a n){ops:Array Oper}{o:Oper}{x:AI}(ok:xo P n ops.toList o x=true){v:AV}{h':AH}
  (i:ja Γ x s=some (v,h')) {K:Act->World->Prop} {Q:Exit->Act->World->Prop}
  (k:∀u w' β',Rel Z β' h' w'->Fr Z β s.h w β' h' w'->VR β' (Own Z β' h') w' v u->K (a.put x.dst u) w') :
  if Region.wanted o (yielded ops a.tmps)then o.wp P a w K Q\/(o.asks P a w/\LetsOut Q)else K (a.put o.dst Go.undef) w:=by
 unfold xo at ok;simp only[aF,decide_eq_true_eq]at ok;let⟨⟨⟨F,O⟩,EB⟩,Hw⟩:=ok;have go:exec Γ s.e s.h x.op=some (v,h')->o.wp P a w K Q:=λi=>HT R G E EB i λu w' β' r f y=>by grind
 have M:some (AV.undef,s.h)=some (v,h')->K (a.put o.dst Go.undef) w:=λi=>by
  cases i;rw[F];exact k Go.undef w β R (Fr.refl Z β s.h w) .undef
 unfold ja at i;cases hg:x.guard with
 |none =>
  rw[hg]at i Hw;cases l:o.guard with
  |some g=>grind
  |none =>
   rw[if_pos (by simp[Region.wanted,l])]
   exact .inl (go i)
 |some g =>
  let⟨t,L⟩:=g;rw[hg]at i Hw;cases l:o.guard with
  |none=>grind
  |some S =>
   let⟨j,A⟩:=S;rw[l]at Hw;simp only[aF,decide_eq_true_eq,dD]at Hw;obtain⟨rfl,N⟩:=Hw;simp only at i;have y:=E.2 t;split at i
   .rename_i b H;rw[H]at y;have z:=Dn N y.mY;split at i
    .rename_i q;subst q;rw[if_pos (by simp[Region.wanted,l,z])]
     exact .inl (go i)
    .rename_i q;rw[if_neg (by simp[Region.wanted,l,z];exact λe=>q e)]
     exact M i
   .rename_i H;rw[H]at y;have z:=BU N y.wY;rw[if_neg (by simp[Region.wanted,l,z])]
    exact M i
   .cases i
def jt.Kq{h:AH}{e:Env}{a:Act}{n:Nat}(E:jt Z β h w e a n){d:Option Nat}(l:(nJ d).all (λt=>decide (t<n))=true){b:AV}{v:Value}(i:VR β (Own Z β h) w b v):
  jt Z β h w (St.put ⟨e,h⟩ d b).e (a.put d v) n:=by
 cases d with
 |none=>exact E
 |some t=>exact E.put (by simpa[nJ]using l) i
theorem uK(e:Env)(h:AH)(d:Option Nat)(v:AV):(St.put ⟨e,h⟩ d v).h=h:=by cases d<;>rfl
def BQ(a:Act)(d:Option Tmp)(v:Value):(a.put d v).defers=a.defers:=by cases d<;>rfl
structure jA(W:aB)(a a':Act):Prop where
 defers:a'.defers=a.defers
 same:∀t,W t=false->a'.tmps.getD t Go.undef=a.tmps.getD t Go.undef
theorem jA.refl(W:aB)(a:Act):jA W a a:=⟨rfl,λ_ _=>rfl⟩
def jA.trans{W:aB}{a l b:Act}(h:jA W a l)(h':jA W l b):jA W a b:=⟨h'.defers.trans h.defers,λt i=>(h'.same t i).trans (h.same t i)⟩
theorem jA.put{W:aB}(a:Act)(d:Option Tmp)(v:Value)(i:∀t,d=some t->W t=true):jA W a (a.put d v):=by
 refine⟨BQ a d v,λt h=>?_⟩
 cases d with
 |none=>rfl
 |some q =>
  have b:q≠t:=by
   grind
  simp[Act.put,cH b]
def zJ(i:j3 P Γ){n:Nat}{W:aB}{ops:Array Oper}{Q:Exit->Act->World->Prop}:∀(os:List Oper)(xs:List AI)(s s':St)(a:Act)(w:World)(β:jO),lY P n ops.toList os xs=true->
  (∀x∈xs,∀t,x.dst=some t->W t=true)->flat Γ xs s=some s'->Rel Z β s.h w->jt Z β s.h w s.e a n->
  (∀A w' β',Rel Z β' s'.h w'->Fr Z β s.h w β' s'.h w'->jt Z β' s'.h w' s'.e A n->jA W a A->Q .normal A w')->wpList P ops Q os a w
 | [],[],s,s',a,w,β,_,_,b,R,E,k=>by
  simp only[flat]at b;cases b;exact k a w β R (Fr.refl Z β s.h w) E (jA.refl W a)
 | [],_::_,_,_,_,_,_,ok,_,_,_,_,_=>by simp[lY]at ok
 |_::_,[],_,_,_,_,_,ok,_,_,_,_,_=>by simp[lY]at ok
 |o::os,x::xs,s,s',a,w,β,ok,H,b,R,E,k=>by
  simp only[lY,aF]at ok;rw[mM]at b;simp only[aG]at b;let⟨⟨v,h'⟩,M,b⟩:=b
  have O:(nJ x.dst).all (λt=>decide (t<n))=true:=by
   have:=ok.1;unfold xo at this
   grind
  unfold wpList;refine qM R i E ok.1 M λu w' β' S K N=>?_
  refine zJ i os xs _ s' _ w' β' ok.2 (λy L=>H y (by simp[L])) b (by rw[uK];exact S) (by rw[uK];exact(E.fr K).Kq O N) λz r β'' F q G l=>?_
  rw[uK]at q;exact k z r β'' F (K.trans q) G ((jA.put a x.dst u (H x ai)).trans l)
def AI.reads(x:AI):ax:=(x.op.ops.filterMap λo=>match o with | .t i=>some i | .c _=>none)++(match x.guard with | some (g,_)=>[g] | none=>[])
def ordered(pre:ax)(i j:Nat):Bool:=if j<i then(pre.getD i 0).testBit j else(pre.getD j 0).testBit i
def qo(x y:kX):Bool:=match x,y with
 | .oc _ _ (.t _) q,.ot _ _ _ b=>decide (q=b)
 |_,_=>false
def Jp(i:Nat)(x:AI):Nat->List AI->Bool
 |_,[]=>true
 |k,y::l=>(decide (k<i)||(match y.dst with | some d=>!x.reads.contains d | none=>true))&&Jp i x (k+1) l
def FY{i:Nat}{x:AI}:∀(l:List AI)(k:Nat),Jp i x k l=true->∀(j:Nat)(y:AI),l[j]? = some y->k+j<i\/∀d,y.dst=some d->d∉x.reads
 | [],_,_,j,y,b=>by simp at b
 |z::l,k,h,j,y,b=>by
  simp only[Jp,aF]at h;cases j with
  |zero =>
   grind
  |succ j =>
   have:=FY l (k+1) h.2 j y (an b)
   grind
def kT(b:Bool)(i j:Nat)(x y:AI):Bool:=(match y.dst with | some d=>x.reads.contains d | none=>false)||(!y.op.qZ && !x.op.Wx && !(x.op.CH&&y.op.KL) && !(x.op.Td&&y.op.yR) && !(x.op.HD&&y.op.q6&&(decide (i<j)||x.op.FK)) && !(qo x.op y.op&&(b&&decide (i<j))))
def Dz(x y:AI):Bool:=match x.dst with | some d=>decide (y.dst=some d) | none=>false
def sR(pre:ax)(b:Bool)(i j:Nat)(x y:AI):Bool:=decide (i=j)||(!Dz x y&&(!kT b i j x y||ordered pre i j))
def I4(pre:ax)(b:Bool)(i:Nat)(x:AI):Nat->List AI->Bool
 |_,[]=>true
 |j,y::l=>sR pre b i j x y&&I4 pre b i x (j+1) l
def vn(pre:ax)(all:List AI):Nat->List AI->Bool
 |_,[]=>true
 |i,x::l=>I4 pre (Jp i x 0 all) i x 0 all&&vn pre all (i+1) l
def Ft(pre:ax)(o:Oper):Nat:=o.after.toList.foldl (λs e=>if Region.binds .any e then s ||| 2 ^ e.on ||| pre.getD e.on 0 else s) 0
def yO(pre:ax):Nat->List Oper->Bool
 |_,[]=>true
 |i,o::l=>decide (pre.getD i 0=Ft pre o)&&o.after.all (λe=>!Region.binds .any e||decide (e.on<i))&&yO pre (i+1) l
def pZ:ax->List Oper->ax
 |b,[]=>b
 |b,o::l=>pZ (b++[Ft b o]) l
def S5(ops:List Oper)(xs:List AI):Bool:=yO (pZ [] ops) 0 ops&&vn (pZ [] ops) xs 0 xs
def bitsOf(p:aB):Nat->Nat
 |0=>0
 |n+1=>if p n then bitsOf p n ||| 2 ^ n else bitsOf p n
def PV(xs:List AI)(j:Nat):Bool:=(xs[j]?).elim false λy=>!y.op.qZ
def MT(pre:ax)(xs:List AI)(q:Nat):ax:=pre.set q (pre.getD q 0 ||| bitsOf (PV xs) q)
def Hu(q:Nat)(ops:List Oper)(xs:List AI):Bool:=yO (pZ [] ops) 0 ops&&vn (MT (pZ [] ops) xs q) xs 0 xs&&match xs[q]? with
 |some ⟨some d,none,.alloc _⟩=>(List.range xs.length).all λi=>decide (i=q) || !((pZ [] ops).getD i 0).testBit q && !((xs[i]?).elim false λx=>x.reads.contains d)||(List.range q).all λj=>!PV xs j||((pZ [] ops).getD i 0).testBit j
 |_=>false
def DM(ops:List Oper)(xs:List AI):Bool:=S5 ops xs||(List.range xs.length).any λq=>Hu q ops xs
def Ax{pre:ax}{n:Bool}{i:Nat}{x:AI}:∀(l:List AI)(k:Nat),I4 pre n i x k l=true->∀(j:Nat)(y:AI),l[j]? = some y->sR pre n i (k+j) x y=true
 | [],_,_,j,y,b=>by simp at b
 |z::l,k,h,j,y,b=>by
  simp only[I4,aF]at h;cases j with
  |zero=>grind
  |succ j =>
   have:=Ax l (k+1) h.2 j y (an b)
   grind
def sQ{pre:ax}{all:List AI}:∀(l:List AI)(k:Nat),vn pre all k l=true->∀(i:Nat)(x:AI),l[i]? = some x->∀(j:Nat)(y:AI),all[j]? = some y->sR pre (Jp (k+i) x 0 all) (k+i) j x y=true
 | [],_,_,i,x,b=>by simp at b
 |z::l,k,h,i,x,b=>by
  simp only[vn,aF]at h;intro j y n;cases i with
  |zero =>
   simp at b;subst b;have:=Ax all 0 h.1 j y n
   simpa using this
  |succ i =>
   have:=sQ l (k+1) h.2 i x (an b) j y n
   grind
def Ay{pre:ax}:∀(l:List Oper)(k:Nat),yO pre k l=true->∀(i:Nat)(o:Oper),l[i]? = some o->pre.getD (k+i) 0=Ft pre o/\∀e∈o.after,Region.binds .any e=true->e.on<k+i
 | [],_,_,i,o,b=>by simp at b
 |z::l,k,h,i,o,b=>by
  simp only[yO,aF,decide_eq_true_eq]at h;cases i with
  |zero =>
   simp at b;subst b;refine⟨h.1.1,λe n q=>?_⟩
   have:=Array.all_eq_true_iff_forall_mem.1 h.1.2 e n
   grind
  |succ i =>
   have:=Ay l (k+1) h.2 i o (an b)
   grind
def Kr{pre:ax}{o:Oper}{i:Nat}(h:(Ft pre o).testBit i=true):∃e∈o.after,Region.binds .any e=true/\(i=e.on\/(pre.getD e.on 0).testBit i=true):=by
 unfold Ft at h
 have key:∀(l:List Edge)(s:Nat),(l.foldl (λs e=>if Region.binds .any e then s ||| 2 ^ e.on ||| pre.getD e.on 0 else s) s).testBit i=true->
   s.testBit i=true\/∃e∈l,Region.binds .any e=true/\(i=e.on\/(pre.getD e.on 0).testBit i=true):=by
  intro l
  induction l with
  |nil=>intro s h;exact .inl h
  |cons e l b =>
   grind
 grind
end
variable{x:AI}{v:AV}{h' h h2:AH}{f:Nat->St}{s:St}{i sz t0 n:Nat}
section
variable{P:Program}{Z:az}{Γ:jE}
def rQ{n:Nat}{all:List Oper}:∀(os:List Oper)(xs:List AI),lY P n all os xs=true->os.length=xs.length/\∀(i:Nat)(o:Oper)(x:AI),os[i]? = some o->xs[i]? = some x->xo P n all o x=true
 | [],[],_=>⟨rfl,λi o x h=>by simp at h⟩
 | [],_::_,h=>by simp[lY]at h
 |_::_,[],h=>by simp[lY]at h
 |o::os,x::xs,h=>by
  simp only[lY,aF]at h;let⟨h1,h2⟩:=rQ os xs h.2;refine⟨by simp[h1],λi o' q l b=>?_⟩
  cases i with
  |zero=>simp at l b;subst l;subst b;exact h.1
  |succ i=>exact h2 i o' q (an l) (an b)
def Jc:∀(xs:List AI)(s s':St),flat Γ xs s=some s'->∃(f:Nat->St) (val:Nat->AV),f 0=s/\f xs.length=s'/\
  ∀(k:Nat)(x:AI),xs[k]? = some x->ja Γ x (f k)=some (val k,(f (k+1)).h)/\(f (k+1)).e=(St.put ⟨(f k).e,(f (k+1)).h⟩ x.dst (val k)).e
 | [],s,s',h=>by
  simp only[flat]at h;cases h;exact⟨λ_=>s,λ_=>.dead,rfl,rfl,λk x b=>by simp at b⟩
 |x::xs,s,s',h=>by
  rw[mM]at h;simp only[aG]at h;let⟨⟨v,h'⟩,b,h⟩:=h;let⟨f,val,n,fn,l⟩:=Jc xs _ s' h;refine⟨λk=>match k with | 0=>s | k+1=>f k,λk=>match k with | 0=>v | k+1=>val k,rfl,fn,λk y i=>?_⟩
  grind[uK]
open Classical in
noncomputable def eS(xs:List AI)(val:Nat->AV)(e0:Env)(S:aB):Env:=λt =>
 if h:∃j,∃x,xs[j]? = some x/\x.dst=some t/\S j=true then val (Classical.choose h)else e0 t
def Lz(xs:List AI):Prop:=∀(i j:Nat)(x y:AI)(t:Nat),xs[i]? = some x->xs[j]? = some y->x.dst=some t->y.dst=some t->i=j
variable{xs:List AI}{val:Nat->AV}{e0:Env}{S S':aB}
theorem OC(D:Lz xs){j:Nat}{t:Nat}(i:xs[j]? = some x)(l:x.dst=some t)(o:S j=true):eS xs val e0 S t=val j:=by
 have h:∃j,∃x,xs[j]? = some x/\x.dst=some t/\S j=true:=⟨j,x,i,l,o⟩;unfold eS;rw[dif_pos h];let⟨y,n,b,_⟩:=dN h;rw[D _ j y x t n i b l]
theorem Ed{t:Nat}(h:∀(j:Nat)(x:AI),xs[j]? = some x->x.dst=some t->S j=false):eS xs val e0 S t=e0 t:=by
 unfold eS
 grind
theorem ru(D:Lz xs){t:Nat}(h:∀(j:Nat)(x:AI),xs[j]? = some x->x.dst=some t->S j=S' j):eS xs val e0 S t=eS xs val e0 S' t:=by
 by_cases b:∃j,∃x,xs[j]? = some x/\x.dst=some t/\S j=true
 .grind[OC]
 .have h0:∀(j:Nat)(x:AI),xs[j]? = some x->x.dst=some t->S j=false:=by
   grind
  grind[Ed]
def Bu(D:Lz xs)(o:xs[i]? = some x)(r:S' i=true)(l:∀j,j≠i->S' j=S j)(h:AH):eS xs val e0 S'=(St.put ⟨eS xs val e0 S,h⟩ x.dst (val i)).e:=by
 funext t
 cases v:x.dst with
 |none =>
  refine ru D λj y n b=>l j ?_
  grind
 |some d =>
  show _=if t=d then val i else _
  split
  .grind[OC]
  .rename_i q;refine ru D λj y n b=>l j ?_
   grind
theorem qi(b:x.op.qZ=true)(h:ja Γ x s=some (v,h')):h'=s.h:=by
 unfold ja at h;split at h
 .exact Om _ b h
 .split at h
  .split at h
   .exact Om _ b h
   .cases h;rfl
  .cases h;rfl
  .cases h
def P9{e:Env}(n:x.op.Wx=true)(b:ja Γ x ⟨e,h⟩=some (v,h'))(h2:AH):ja Γ x ⟨e,h2⟩=some (v,h2):=by
 have go:∀ {h'},exec Γ e h x.op=some (v,h')->exec Γ e h2 x.op=some (v,h2):=by
  intro h' i;rw[On _ n]at i⊢;cases l:exec Γ e [] x.op with
  |none=>rw[l]at i;cases i
  |some r=>grind
 unfold ja at b⊢;split at b
 .exact go b
 grind
def mu{e e':Env}(b:∀t∈x.reads,e t=e' t):ja Γ x ⟨e,h⟩=ja Γ x ⟨e',h⟩:=by
 have h1:exec Γ e h x.op=exec Γ e' h x.op:=Bl _ λo l=>by
  cases o with
  |c v=>rfl
  |t i=>exact b i (by unfold AI.reads;grind)
 grind[ja,AI.reads,List.mem_append_right]
def CI{s':St}(hk:∀(k:Nat)(x:AI),xs[k]? = some x->ja Γ x (f k)=some (val k,(f (k+1)).h)):∀(m k:Nat),m<=k->k<=xs.length->
  (∀(j:Nat)(x:AI),xs[j]? = some x->x.op.qZ=false->(j<m↔j<k))->(f m).h=(f k).h:=by
 intro m k b
 induction b with
 |refl=>intro _ _;rfl
 |step b n =>
  rename_i k;intro i q;have l:k<xs.length:=i;have o:xs[k]? = some xs[k]:=aH l;have r:xs[k].op.qZ=true:=by
   grind
  grind[qi]
def qa(hk:∀(k:Nat)(x:AI),xs[k]? = some x->ja Γ x (f k)=some (val k,(f (k+1)).h))(m k:Nat)(o:m<=xs.length)(b:k<=xs.length)
  (i:∀(j:Nat)(x:AI),xs[j]? = some x->x.op.qZ=false->(j<m↔j<k)):(f m).h=(f k).h:=by
 rcases gq m k with h | h
 .exact CI (s':=f 0) hk m k h b i
 .exact(CI (s':=f 0) hk k m h o λj x l n=>(i j x l n).symm).symm
def J5{e:Env}(o:x.op.CH=true)(i:ja Γ x ⟨e,h⟩=some (v,h'))(n:∀b u,jb h2 b u=jb h b u):ja Γ x ⟨e,h2⟩=some (v,h2):=by
 unfold ja at i⊢;split at i
 .grind[Gf]
 .dsimp only at i⊢;split at i
  .split at i
   .rename_i l;rw[if_pos l];grind[Gf]
   grind
  .cases i;rfl
  .cases i
theorem Md(i:x.op.KL=true)(h:ja Γ x s=some (v,h'))(b u:Nat):jb h' b u=jb s.h b u:=by
 unfold ja at h;split at h
 .grind[Jv]
 .split at h
  .split at h
   .grind[Jv]
   .cases h;rfl
  .cases h;rfl
  .cases h
def Mc{e:Env}(l:x.op.HD=true)(b:ja Γ x ⟨e,h⟩=some (v,h'))(bs:AH):ja Γ x ⟨e,h++bs⟩=some (v,h++bs):=by
 unfold ja at b⊢;split at b
 .grind[Ju]
 .dsimp only at b⊢;split at b
  .split at b
   .rename_i i;rw[if_pos i];grind[Ju]
   grind
  .cases b;rfl
  .cases b
def J8{e:Env}{bs:AH}{t:Nat}{agg:Bool}(n:x.op = .load sz agg (.t t))(y:∀b v i o,e t = .ptr b v i o->b<h.length)(l:ja Γ x ⟨e,h++bs⟩=some (v,h')):ja Γ x ⟨e,h⟩=some (v,h):=by
 have key:∀ {r},exec Γ e (h++bs) x.op=some r->exec Γ e h x.op=some (r.1,h):=λ{r} q=>by
  grind[Ol]
 unfold ja at l⊢;split at l
 .exact key l
 .dsimp only at l⊢;split at l
  .grind
  .cases l;rfl
  .cases l
theorem Cm(b:x.op.q6=true)(h:ja Γ x s=some (v,h')):∃bs,h'=s.h++bs:=by
 unfold ja at h;split at h
 .exact Bn _ b h
 .split at h
  .split at h
   .exact Bn _ b h
   simp_all
  .simp_all
  .cases h
def AW(hk:∀(k:Nat)(x:AI),xs[k]? = some x->ja Γ x (f k)=some (val k,(f (k+1)).h)):∀(m k:Nat),m<=k->k<=xs.length->
  (∀(j:Nat)(x:AI),xs[j]? = some x->m<=j->j<k->x.op.qZ=false->x.op.q6=true)->∃bs,(f k).h=(f m).h++bs:=by
 intro m k b
 induction b with
 |refl=>simp_all
 |step b v =>
  rename_i k;intro i r;have o:k<xs.length:=i;have q:xs[k]? = some xs[k]:=aH o;have h2:m<=k:=b;let⟨bs,z⟩:=v af λj x l h1 h3 n=>r j x l h1 af n
  cases n:xs[k].op.qZ with
  |true=>grind[qi]
  |false =>
   let⟨cs,y⟩:=Cm (r k _ q h2 (fN k) n) (hk k _ q)
   grind
def J6(b:x.op.yR=true)(h:ja Γ x s=some (v,h')):jS s.h h':=by
 grind[ja,Oi,jS.refl]
def J7{e:Env}{t:Nat}{agg:Bool}(n:x.op = .oU sz agg t)(q:∀(b:Nat)(cs:List AV),(∃v i o,e t = .ptr b v i o)->h[b]? = some (.var cs)->h2[b]? = some (.var cs))(l:ja Γ x ⟨e,h⟩=some (v,h')):ja Γ x ⟨e,h2⟩=some (v,h2):=by
 have key:∀ {r},exec Γ e h x.op=some r->exec Γ e h2 x.op=some (r.1,h2):=λ{r} y=>by
  grind[Oj]
 unfold ja at l⊢;split at l
 .exact key l
 grind
def Ci(hk:∀(k:Nat)(x:AI),xs[k]? = some x->ja Γ x (f k)=some (val k,(f (k+1)).h)):∀(m k:Nat),m<=k->k<=xs.length->
  (∀(j:Nat)(x:AI),xs[j]? = some x->m<=j->j<k->x.op.qZ=false->x.op.yR=true)->jS (f m).h (f k).h:=by
 intro m k b
 induction b with
 |refl=>grind[jS.refl]
 |step b v =>
  rename_i k;intro i r;have o:k<xs.length:=i;have q:xs[k]? = some xs[k]:=aH o;have h2:m<=k:=b;have h1:=v af λj x l h1 h3 n=>r j x l h1 af n
  cases n:xs[k].op.qZ with
  |true=>grind[qi]
  |false=>exact h1.trans (J6 (r k _ q h2 (fN k) n) (hk k _ q))
def G5{e:Env}{agg:Bool}(l:x.op = .oc sz agg (.t t0) i)(n:ja Γ x ⟨e,h⟩=some (v,h'))(q:lJ (e i) (e t0)=true->∀cs,jc h (e t0)=some cs->jc h2 (e t0)=some cs):ja Γ x ⟨e,h2⟩=some (v,h2):=by
 have key:∀ {r},exec Γ e h x.op=some r->exec Γ e h2 x.op=some (r.1,h2):=λ{r} b=>by
  rw[l]at b⊢;simp only[exec,kG]at b⊢
  by_cases o:lJ (e i) ((AO.t t0).get e)=true
  .rw[if_pos o]at b⊢;simp only[aG]at b⊢;let⟨cs,h1,y,h3,b⟩:=b;cases b;exact⟨cs,q o cs h1,_,h3,rfl⟩
  grind
 unfold ja at n⊢;split at n
 .exact key n
 grind
def KN{agg:Bool}{y:kX}(h:qo (.oc sz agg (.t t0) i) y=true):∃b a z,y = .ot b a z i:=by
 cases y<;>first | (simp[qo]at h;done) | skip
 simp[qo]at h
 simp_all
def Oh{a b p:AV}(h:lJ a p=true)(hs:Cp a b=true):lJ b p=true:=by
 cases a<;>cases b<;>cases p<;>simp_all[lJ,Cp]
theorem J9{y:AI}{l:Nat}{i:Bool}(F:qo (.oc l i (.t t0) n) y.op=true)(h:ja Γ y s=some (v,h')){p:AV}(E:lJ (s.e n) p=true){cs:List AV}(G:jc s.h p=some cs):jc h' p=some cs:=by
 have key:∀ {r},exec Γ s.e s.h y.op=some r->jc r.2 p=some cs:=λ{r} b=>by
  let⟨x,a,z,A⟩:=KN F;rw[A]at b;simp only[exec]at b
  by_cases o:oS s.h (a.get s.e)=true/\Cp (s.e n) (a.get s.e)=true
  .rw[if_pos o]at b;simp only[aG]at b;let⟨h1,q,b⟩:=b;cases b;exact Du o.1 q (Oh E o.2) G
  grind
 grind[ja]
def H7{x0:AI}{r v:Nat}{o:Bool}{p:AV}(hk:∀(k:Nat)(x:AI),xs[k]? = some x->ja Γ x (f k)=some (val k,(f (k+1)).h)/\(f (k+1)).e=(St.put ⟨(f k).e,(f (k+1)).h⟩ x.dst (val k)).e)
  (hfe:∀k,i<=k->k<=xs.length->Jp i x0 0 xs=true->(f k).e r=(f i).e r) (M:lJ ((f i).e r) p=true):∀(m:Nat),i<=m->m<=xs.length->
  (∀(q:Nat)(y:AI),xs[q]? = some y->i<=q->q<m->y.op.qZ=false->y.op.q6=true\/(qo (.oc v o (.t t0) r) y.op=true/\Jp i x0 0 xs=true))->∀cs,jc (f i).h p=some cs->jc (f m).h p=some cs:=by
 intro m b
 induction b with
 |refl=>grind
 |step b F =>
  rename_i m;intro l E cs L;have A:m<xs.length:=l;have G:xs[m]? = some xs[m]:=aH A;have n:i<=m:=b;have K:=F af (λq y H h1 h2 z=>E q y H h1 af z) cs L
  cases z:xs[m].op.qZ with
  |true=>grind[qi]
  |false =>
   rcases E m _ G n (fN m) z with h | ⟨h,h'⟩
   .grind[Cm,r9]
   grind[J9]
def Cr(hk:∀(k:Nat)(x:AI),xs[k]? = some x->ja Γ x (f k)=some (val k,(f (k+1)).h)):∀(m k:Nat),m<=k->k<=xs.length->
  (∀(j:Nat)(x:AI),xs[j]? = some x->x.op.qZ=false->x.op.KL=false->(j<m↔j<k))->∀b u,jb (f m).h b u=jb (f k).h b u:=by
 intro m k i
 induction i with
 |refl=>intro _ _ _ _;rfl
 |step i r =>
  rename_i k;intro l y b u;have o:k<xs.length:=l;have v:xs[k]? = some xs[k]:=aH o
  have n:jb (f (k+1)).h b u=jb (f k).h b u:=by
   cases z:xs[k].op.qZ with
   |true=>grind[qi]
   |false =>
    cases q:xs[k].op.KL with
    |true=>grind[Md]
    |false =>
     grind
  grind
def Hh(hk:∀(k:Nat)(x:AI),xs[k]? = some x->ja Γ x (f k)=some (val k,(f (k+1)).h))(m k:Nat)(r:m<=xs.length)(l:k<=xs.length)
  (n:∀(j:Nat)(x:AI),xs[j]? = some x->x.op.qZ=false->x.op.KL=false->(j<m↔j<k)) (b u:Nat):jb (f m).h b u=jb (f k).h b u:=by
 rcases gq m k with h | h
 .exact Cr hk m k h l n b u
 .exact(Cr hk k m h r (λj x o q i=>(n j x o q i).symm) b u).symm
def ue{ops:Array Oper}{listed:Array Bool}(h:listed.size=ops.size)(b:∀(i:Nat)(o:Oper),ops[i]? = some o->∀e∈o.after,Region.binds .any e=true->e.on<i)(h0:Region.ready .any ops listed=[]):
  ∀j,j<ops.size->listed.getD j false=true:=by
 intro j
 induction j using Nat.strongRecOn with
 |_ j q =>
  intro n;cases hl:listed.getD j false with
  |true=>rfl
  |false =>
   have:j∈Region.ready .any ops listed:=by
    rw[mem_ready];have l:j<listed.size:=af
    refine⟨?_,ops[j],cF n,λe r v=>?_⟩
    .grind
    grind
   grind
def Pf(ops:Array Oper)(pre:ax)(D:aB):Prop:=∀(i:Nat)(o:Oper)(L:aB),ops[i]? = some o->D i=false->(∀e∈o.after,Region.binds .any e=true->L e.on=true)->
 (∀j k,L j=true->(pre.getD j 0).testBit k=true->L k=true)->∀j,(pre.getD i 0).testBit j=true->L j=true
def oJ{ops:Array Oper}{pre:ax}(h:yO pre 0 ops.toList=true):Pf ops pre (λ_=>false)/\∀(i:Nat)(o:Oper),ops[i]? = some o->∀e∈o.after,Region.binds .any e=true->e.on<i:=by
 have b:=Ay ops.toList 0 h;refine⟨λi o L q _ r x j l=>?_,λi o q e v y=>?_⟩
 .have n:=(b i o (an q)).1
  rw[bW]at n;rw[n]at l;let⟨e,v,y,l⟩:=Kr l
  grind
 simp_all
def BP(D:Lz xs)(hk:∀(k:Nat)(x:AI),xs[k]? = some x->ja Γ x (f k)=some (val k,(f (k+1)).h)/\(f (k+1)).e=(St.put ⟨(f k).e,(f (k+1)).h⟩ x.dst (val k)).e)(f0:f 0=s)
  {L:aB} {m i:Nat} {x:AI} (F:xs[i]? = some x) (T:m<=xs.length) (HN:L i=false) (N:∀(j:Nat)(x:AI),xs[j]? = some x->x.op.qZ=false->(j<m↔L j=true))
  (E:∀(j:Nat)(y:AI),xs[j]? = some y->kT (Jp i x 0 xs) i j x y=true->L j=decide (j<i)) (adO:∀t∈x.reads,∀b v i o,eS xs val s.e L t = .ptr b v i o->b<(f m).h.length) :
  ∃m',ja Γ x ⟨eS xs val s.e L,(f m).h⟩=some (val i,(f m').h)/\m'<=xs.length/\(∀(j:Nat)(y:AI),xs[j]? = some y->y.op.qZ=false->(j<m'↔(j=i\/L j=true))):=by
 have Ti:i<xs.length:=(aD.1 F).1
 have hfe:∀i,i<=xs.length->(f i).e=eS xs val s.e λj=>decide (j<i):=by
  intro i
  induction i with
  |zero =>
   intro _;rw[f0]
   funext t
   exact(Ed λj x _ _=>ai).symm
  |succ i ih =>
   intro hi;have F:xs[i]? = some xs[i]:=aH af
   rw[(hk i _ F).2,ih af]
   refine(Bu D F ai (λj hj=>?_) _).symm
   simp only[decide_eq_decide];omega
 have A:∀t∈x.reads,eS xs val s.e L t=(f i).e t:=by
  intro t ht;rw[hfe i af]
  exact ru D λj y l Tf=>E j y l (by simp[kT,Tf,ht])
 let⟨Q,hfi⟩:=hk i x F
 by_cases Y:x.op.Wx=true
 .refine⟨m,?_,T,λj y l n=>?_⟩
  .have e1:ja Γ x ⟨eS xs val s.e L,(f i).h⟩=some (val i,(f (i+1)).h):=by rw[mu A];exact Q
   exact P9 Y e1 _
  .rw[N j y l n]
   constructor
   .exact .inr
   .rintro(rfl | h)
    .rw[F]at l;cases l;cases r:x.op<;>rw[r]at Y n<;>first | (cases Y;done) | (cases n;done)
    .exact h
 .by_cases hldv : ∃ sz agg t0, x.op = .oU sz agg t0
  .obtain⟨sz, agg, t0, r⟩ := hldv;have O : x.op.qZ = true := by rw[r]; rfl
   have e1:ja Γ x ⟨eS xs val s.e L,(f i).h⟩=some (val i,(f (i+1)).h):=by rw[mu A];exact Q
   have aj2:∀y,qo x.op y=false:=λy=>by rw[r];rfl
   have ad1:∀(j:Nat)(y:AI),xs[j]? = some y->y.op.qZ=false->y.op.yR=false->L j=decide (j<i):=λj y l n h0 =>
    E j y l (by
     have hc1:x.op.Wx=false:=by rw[r];rfl
     have NW:x.op.CH=false:=by rw[r];rfl
     have hc3:x.op.HD=false:=by rw[r];rfl
     simp[kT,n,hc1,NW,hc3,h0,aj2])
   have hpt:∀b,(∃v i o,eS xs val s.e L t0 = .ptr b v i o)->b<(f m).h.length:=λb ⟨v,i,o,he⟩=>adO t0 (by unfold AI.reads;rw[r];simp[kX.ops]) b v i o he
   have e3:ja Γ x ⟨eS xs val s.e L,(f m).h⟩=some (val i,(f m).h):=by
    refine J7 r (λb cs hb hc=>?_) e1
    rcases gq m i with G | G
    .have hv:=Ci (λk x F=>(hk k x F).1) m i G af λj y l h1 h2 n=>by
      cases ha:y.op.yR with
      |true=>rfl
      |false =>
       have:=ad1 j y l n ha;have h3:=(N j y l n).2 (by rw[this];simpa using h2)
       omega
     exact(hv.2 b cs (hpt b hb)).2 hc
    .have hv:=Ci (λk x F=>(hk k x F).1) i m G T λj y l h1 h2 n=>by
      cases ha:y.op.yR with
      |true=>rfl
      |false =>
       have:=ad1 j y l n ha;have h3:=(N j y l n).1 h2;rw[this]at h3;simp at h3;omega
     have PK:b<(f i).h.length:=(aD.1 hc).1;exact(hv.2 b cs PK).1 hc
   refine⟨m,e3,T,λj y l n=>?_⟩
   rw[N j y l n]
   constructor
   .exact .inr
   .rintro(rfl | h)
    .rw[F]at l;cases l;rw[O]at n;cases n
    .exact h
  have K:x.op.Td=false:=by
   cases r:x.op<;>first | rfl | exact absurd ⟨_,_,_,r⟩ hldv
  by_cases z:x.op.CH=true
  .have aj6:x.op.HD=false:=by
    cases r:x.op<;>rw[r]at z<;>first | (cases z;done) | rfl
   have aj3:∀y,qo x.op y=false:=λy=>by
    cases r:x.op<;>rw[r]at z<;>first | (cases z;done) | rfl
   have hh:∀b u,jb (f m).h b u=jb (f i).h b u:=Hh (λk x F=>(hk k x F).1) m i T af λj y l n PE=>by
    rw[N j y l n,E j y l (by simp[kT,n,Y,PE,aj6,aj3,K])];simp
   have e1:ja Γ x ⟨eS xs val s.e L,(f i).h⟩=some (val i,(f (i+1)).h):=by rw[mu A];exact Q
   refine⟨m,J5 z e1 hh,T,λj y l n=>?_⟩
   rw[N j y l n]
   constructor
   .exact .inr
   .rintro(rfl | h)
    .rw[F]at l;cases l;cases r:x.op<;>rw[r]at z n<;>first | (cases z;done) | (cases n;done)
    .exact h
  have z:x.op.CH=false:=by simpa using z
  by_cases hL:∃sz agg t0 q0,x.op = .oc sz agg (.t t0) q0
  .obtain⟨sz, agg, t0, q0, r⟩ := hL;have O : x.op.qZ = true := by rw[r]; rfl
   have e1:ja Γ x ⟨eS xs val s.e L,(f i).h⟩=some (val i,(f (i+1)).h):=by rw[mu A];exact Q
   have ht0:t0∈x.reads:=by unfold AI.reads;rw[r];simp[kX.ops]
   have hq0:q0∈x.reads:=by unfold AI.reads;rw[r];simp[kX.ops]
   have hlp:x.op.FK=false:=by rw[r];rfl
   have early:∀(j:Nat)(y:AI),xs[j]? = some y->y.op.qZ=false->j<i->j<m:=λj y l n U=>by
    rw[N j y l n,E j y l (by simp[kT,n,Y,K,z,hlp];omega)];simpa using U
   have W:∀(j:Nat)(y:AI),xs[j]? = some y->y.op.qZ=false->i<=j->j<m->y.op.q6=true\/(qo x.op y.op=true/\Jp i x 0 xs=true):=λj y l n hle h=>by
    apply Classical.byContradiction;intro hno;have aj1:y.op.q6=false:=by
     cases hq:y.op.q6 with
     |false=>rfl
     |true=>exact absurd (.inl hq) hno
    have aj0:(qo x.op y.op&&Jp i x 0 xs)=false:=by
     cases hq:(qo x.op y.op&&Jp i x 0 xs)with
     |false=>rfl
     |true=>rw[aF]at hq;exact absurd (.inr hq) hno
    rw[N j y l n,E j y l (by
     simp only[kT,n,Y,K,z,aj1,eA,gF,dx,Bool.and_false];rw[<-Bool.and_assoc,aj0];simp)]at h
    simp at h;omega
   have H:m<=i\/(lJ ((f i).e q0) ((f i).e t0)=true->∀cs,jc (f i).h ((f i).e t0)=some cs->jc (f m).h ((f i).e t0)=some cs):=by
    rcases gq m i with G | G
    .exact .inl G
    .right;intro M
     exact H7 (hk:=hk) (hfe:=λk hk1 hk2 hfz=>by
      rw[hfe k af,hfe i af]
      exact ru D λq y hq Tf=>by
       rcases FY xs 0 hfz q y hq with h | h
       .rw[bW]at h;simp only[decide_eq_decide];omega
       .exact absurd hq0 (h q0 Tf)) M m G T λj y l h1 h2 n=>by
      rcases W j y l n h1 h2 with h | ⟨h,h'⟩
      .exact .inl h
      .rw[r]at h;exact .inr ⟨h,h'⟩
   have e3:ja Γ x ⟨eS xs val s.e L,(f m).h⟩=some (val i,(f m).h):=by
    rcases H with G | H
    .have hh:(f m).h=(f i).h:=qa (λk x F=>(hk k x F).1) m i T af λj y l n=>⟨λh=>af,early j y l n⟩
     have e2:=qi O e1;rw[hh,e1,e2]
    .refine G5 r e1 λM cs hc=>?_
     rw[A t0 ht0]at hc M⊢;rw[A q0 hq0]at M;exact H M cs hc
   refine⟨m,e3,T,λj y l n=>?_⟩
   rw[N j y l n]
   constructor
   .exact .inr
   .rintro(rfl | h)
    .rw[F]at l;cases l;rw[O]at n;cases n
    .exact h
  have X:∀y,qo x.op y=false:=λy=>by
   cases hq:qo x.op y with
   |false=>rfl
   |true =>
    exfalso;apply hL;unfold qo at hq;split at hq
    .exact⟨_,_,_,_,by assumption⟩
    .cases hq
  by_cases rU:x.op.HD=true
  .have O:x.op.qZ=true:=by
    cases r:x.op<;>rw[r]at rU<;>first | (cases rU;done) | rfl
   have e1:ja Γ x ⟨eS xs val s.e L,(f i).h⟩=some (val i,(f (i+1)).h):=by rw[mu A];exact Q
   have early:x.op.FK=false->∀(j:Nat)(y:AI),xs[j]? = some y->y.op.qZ=false->j<i->j<m:=λhp j y l n U=>by
    rw[N j y l n,E j y l (by simp[kT,n,Y,K,z,X,hp];exact .inr (.inr (Nat.le_of_lt U)))];simpa using U
   have Xy:∀(j:Nat)(y:AI),xs[j]? = some y->y.op.qZ=false->y.op.q6=false->j<i->j<m:=λj y l n ha U=>by
    rw[N j y l n,E j y l (by simp[kT,n,Y,K,z,ha,X])];simpa using U
   have W:∀(j:Nat)(y:AI),xs[j]? = some y->y.op.qZ=false->y.op.q6=false->i<=j->¬j<m:=λj y l n ha hle h=>by
    rw[N j y l n,E j y l (by simp[kT,n,Y,K,z,ha,X])]at h
    simp at h;omega
   have e3:ja Γ x ⟨eS xs val s.e L,(f m).h⟩=some (val i,(f m).h):=by
    rcases gq m i with G | G
    .cases hp:x.op.FK with
     |false =>
      have hh:(f m).h=(f i).h:=qa (λk x F=>(hk k x F).1) m i T af λj y l n=>⟨λh=>af,early hp j y l n⟩
      have e2:=qi O e1;rw[hh,e1,e2]
     |true =>
      obtain⟨sz,agg,t0,r⟩:∃sz agg t0,x.op = .load sz agg (.t t0):=by
       unfold kX.FK at hp;split at hp
       .exact⟨_,_,_,by assumption⟩
       .cases hp
      let⟨bs,hb⟩:=AW (λk x F=>(hk k x F).1) m i G af λj y l h1 h2 n=>by
       cases ha:y.op.q6 with
       |true=>rfl
       |false=>have:=Xy j y l n ha h2;omega
      rw[hb]at e1;exact J8 r (λb v i o he=>adO t0 (by unfold AI.reads;rw[r];simp[kX.ops]) b v i o he) e1
    .let⟨bs,hb⟩:=AW (λk x F=>(hk k x F).1) i m G T λj y l h1 h2 n=>by
      cases ha:y.op.q6 with
      |true=>rfl
      |false=>exact absurd h2 (W j y l n ha h1)
     rw[hb];exact Mc rU e1 bs
   refine⟨m,e3,T,λj y l n=>?_⟩
   rw[N j y l n]
   constructor
   .exact .inr
   .rintro(rfl | h)
    .rw[F]at l;cases l;rw[O]at n;cases n
    .exact h
  have rU:x.op.HD=false:=by simpa using rU
  have hh:(f m).h=(f i).h:=qa (λk x F=>(hk k x F).1) m i T af λj y l n=>by
   rw[N j y l n,E j y l (by simp[kT,n,Y,K,z,rU,X])];simp
  have e1:ja Γ x ⟨eS xs val s.e L,(f m).h⟩=some (val i,(f (i+1)).h):=by rw[hh,mu A];exact Q
  by_cases hR:x.op.qZ=true
  .have e2:=qi hR e1;refine⟨m,by rw[e1,e2],T,λj y l n=>?_⟩
   rw[N j y l n]
   constructor
   .exact .inr
   .rintro(rfl | h)
    .rw[F]at l;cases l;rw[hR]at n;cases n
    .exact h
  .refine⟨i+1,e1,af,λj y l n=>?_⟩
   have h2:=E j y l (by simp[kT,n,Y,K,z,rU,X])
   rw[h2];simp only[decide_eq_true_eq];omega
def lup{A:Array Bool}{c:Nat}(h:i<A.size)(o:A.getD i false=false)(n:A.toList.count false=c+1):
  ∃B,B=A.setIfInBounds i true/\(∀j,B.getD j false=true↔(j=i\/A.getD j false=true))/\B.size=A.size/\B.toList.count false=c/\∀j,i≠j->B.getD j false=A.getD j false:=by
 refine⟨_,rfl,λj=>?_,ai,?_,λj l=>getD_set_ne false l⟩
 .by_cases b:j=i
  .subst b;simp[h]
  .rw[getD_set_ne false (λe=>b e.symm)];simp[b]
 .rw[eV,List.count_set (an h)]
  simp_all
def yT(hΓ:j3 P Γ){W:aB}(Cx:∀x∈xs,∀t,x.dst=some t->W t=true){ops:Array Oper}{Q:Exit->Act->World->Prop}(ok:lY P n ops.toList ops.toList xs=true){pre:ax}{D0:aB}(A:∀(i:Nat)(o:Oper),ops[i]? = some o->∀e∈o.after,Region.binds .any e=true->e.on<i)(ZT:Pf ops pre D0)(okr:vn pre xs 0 xs=true)
  {s s':St} {f:Nat->St} (f0:f 0=s) (fn:f xs.length=s') (hk:∀(k:Nat)(x:AI),xs[k]? = some x->ja Γ x (f k)=some (val k,(f (k+1)).h)/\(f (k+1)).e=(St.put ⟨(f k).e,(f (k+1)).h⟩ x.dst (val k)).e)
  {β0:jO} {w0:World} {a0:Act} (k:∀a' w' β',Rel Z β' s'.h w'->Fr Z β0 s.h w0 β' s'.h w'->jt Z β' s'.h w' s'.e a' n->jA W a0 a'->Q .normal a' w') :
  ∀(r:Nat)(listed:Array Bool)(a:Act)(w:World)(β:jO)(m:Nat),listed.size=ops.size->listed.toList.count false=r->m<=xs.length->
   (∀i,D0 i=true->listed.getD i false=true)->
   (∀j i,listed.getD j false=true->(pre.getD j 0).testBit i=true->listed.getD i false=true)->
   (∀(j:Nat)(x:AI),xs[j]? = some x->x.op.qZ=false->(j<m↔listed.getD j false=true))->
   Rel Z β (f m).h w->Fr Z β0 s.h w0 β (f m).h w->jt Z β (f m).h w (eS xs val s.e λj=>listed.getD j false) a n->jA W a0 a->wpAny P .any ops Q r listed a w:=by
 let⟨hlen,NQ⟩:=rQ _ _ ok;have hlen':ops.size=xs.length:=by simpa using hlen
 have H:=sQ xs 0 okr;have D:Lz xs:=by
  intro i j x y t l hy LH Tf;have:=H i x l j y hy;unfold sR at this;simp only[bR,aF,decide_eq_true_eq,bW]at this
  grind[Dz]
 have hfe:∀i,i<=xs.length->(f i).e=eS xs val s.e λj=>decide (j<i):=by
  intro i
  induction i with
  |zero =>
   intro _;rw[f0]
   funext t
   grind[Ed]
  |succ i ih =>
   intro hi;have l:xs[i]? = some xs[i]:=aH af
   rw[(hk i _ l).2,ih af]
   refine(Bu D l ai (λj hj=>?_) _).symm
   grind
 intro r
 have done:∀(listed:Array Bool)(a:Act)(w:World)(β:jO)(m:Nat),m<=xs.length->(∀j,j<ops.size->listed.getD j false=true)->
   (∀(j:Nat)(x:AI),xs[j]? = some x->x.op.qZ=false->(j<m↔listed.getD j false=true))->
   Rel Z β (f m).h w->Fr Z β0 s.h w0 β (f m).h w->jt Z β (f m).h w (eS xs val s.e λj=>listed.getD j false) a n->jA W a0 a->Q .normal a w:=by
  intro listed a w β m U q X R F E hd;have O:∀(j:Nat)(x:AI),xs[j]? = some x->j<xs.length:=λj x l=>(aD.1 l).1
  have hh:(f m).h=s'.h:=by
   rw[qa (λk x l=>(hk k x l).1) m xs.length U (aV _) λj x l hr=>by
    rw[X j x l hr];have:=O j x l;exact⟨λ_=>this,λ_=>q j af⟩,fn]
  have he:(eS xs val s.e λj=>listed.getD j false)=s'.e:=by
   rw[<-fn,hfe xs.length (aV _)]
   funext t
   grind[ru]
  grind
 induction r with
 |zero =>
  intro listed a w β m M z U hD0 vo X R F E hd;have q:∀j,j<ops.size->listed.getD j false=true:=by
   intro j hj;have hjl:j<listed.size:=af
   have h0:=fq.1 z;have hmem:listed[j]∈listed.toList:=ai
   cases hq:listed[j]with
   |true=>simp[hjl,hq]
   |false=>grind
  refine⟨?_,done listed a w β m U q X R F E hd⟩;apply fQ.2;intro i hi;let⟨h1,o,ho,_⟩:=mem_ready.1 hi
  grind
 |succ r ih =>
  intro listed a w β m M z U hD0 vo X R F E hd;refine⟨λh0=>done listed a w β m U (ue M A h0) X R F E hd,λi hi=>?_⟩
  let⟨h1,o,ho,q⟩:=mem_ready.1 hi;have hio:i<ops.size:=(aW.1 ho).1;have hil:i<listed.size:=af
  have Ti:i<xs.length:=af
  have l:xs[i]? = some xs[i]:=aH Ti;generalize hxi:xs[i]=x at l;have HN:listed.getD i false=false:=by grind
  have NL:∀j,(pre.getD i 0).testBit j=true->listed.getD j false=true :=
   ZT i o (λj=>listed.getD j false) (an ho) (by
    grind) q vo
  have NO:∀(j:Nat)(y:AI),xs[j]? = some y->kT (Jp i x 0 xs) i j x y=true->listed.getD j false=decide (j<i):=by
   intro j y hy hc;have:=H i x l j y hy;unfold sR at this;simp only[bR,aF,decide_eq_true_eq,bW]at this
   grind[ordered]
  let⟨m',N,hm',hW'⟩:=BP D hk f0 (L:=λj=>listed.getD j false) l U HN X NO λt _ b v i o he=>by
   have K:=E.2 t;rw[he]at K;generalize a.tmps.getD t Go.undef=u at K
   rcases dK b (f m).h.length with O | hge
   .exact O
   .cases K with
    |pure _ _ K=>cases K
    |ptr _ _ _ _ bd c h1 h2=>rw[R.fresh b v hge]at h1;cases h1
  have hok:=NQ i o x (an ho) l
  unfold wpOp;simp only[ho];refine qM (s:=⟨eS xs val s.e λj=>listed.getD j false,(f m).h⟩) R hΓ E hok N λu w' β' R' F' K=>?_
  let⟨B,hB,G,Y,T,hne⟩:=lup hil HN z;rw[<-hB];refine ih B (a.put x.dst u) w' β' m' (Y.trans M) T hm' (λj hj=>(G j).2 (.inr (hD0 j hj))) ?_ (λj y hy hr=>by grind) R' (F.trans F') ?_ (hd.trans (jA.put a x.dst u (Cx x (bL l))))
  .grind
  .have hd2:(nJ x.dst).all (λt=>decide (t<n))=true:=by
    unfold xo at hok
    grind
   have:=(E.fr F').Kq hd2 K;rw[<-Bu (S':=λj=>B.getD j false) D l ((G i).2 (.inl rfl)) (λj hj=>by rw[hne _ (λe=>hj e.symm)]) (f m').h]at this
   exact this
end
end Go.Am
