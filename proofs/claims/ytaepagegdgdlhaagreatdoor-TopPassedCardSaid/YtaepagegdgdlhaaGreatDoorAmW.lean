/- Part of the proof that TopPassedCard holds. -/
import Derived.Test.YtaepagegdgdlhaaGreatDoorAmU
import Derived.Orders
set_option linter.all false
namespace Go.Am
def IM(P:Program)(n:Nat)(all:List Oper)(o:Oper)(x:AI):Bool :=
 decide (o.dst=x.dst)&&(vl x.dst).all (λt=>decide (t<n))&&yd P o.op x.op &&
 (match o.guard,x.guard with
  |none,none=>true
  |some (j,want),some (t,want')=>decide (want=want')&&decide ((all[j]?).bind (·.dst)=some t)
  |_,_=>false)
def sI(P:Program)(n:Nat)(all:List Oper):List Oper->List AI->Bool
 | [],[]=>true
 |o::os,x::xs=>IM P n all o x&&sI P n all os xs
 |_,_=>false
section
variable{P:Program}{Z:az}{β:kW}{w:World}{Γ:kP}
def Ig{ops:Array Oper}{a:Act}{j t:Nat}{b:Bool}(ht:(ops[j]?).bind (·.dst)=some t)(hb:a.tmps.getD t Go.undef = .bool b):yielded ops a.tmps j=some b:=by
 unfold yielded;rw[ht];simp only[bX];rw[bP]at hb;cases hq:a.tmps[t]? with
 |none=>rw[hq]at hb;cases hb
 |some v=>rw[hq]at hb;simp only[bO]at hb;rw[hb]
def Gf{ops:Array Oper}{a:Act}{j t:Nat}(ht:(ops[j]?).bind (·.dst)=some t)(hb:a.tmps.getD t Go.undef=Go.undef):yielded ops a.tmps j=none:=by
 unfold yielded;rw[ht];simp only[bX];rw[bP]at hb;cases hq:a.tmps[t]? with
 |none=>rfl
 |some v=>rw[hq]at hb;simp only[bO]at hb;rw[hb];rfl
def zm{s:St}{a:Act}{n:Nat}(R:Rel Z β s.h w)(hΓ:mH P Γ)(E:kF Z β s.h w s.e a n){ops:Array Oper}{o:Oper}{x:AI}(ok:IM P n ops.toList o x=true){v:AV}{h':AH}
  (hx:j8 Γ x s=some (v,h')) {K:Act->World->Prop} {Q:Exit->Act->World->Prop}
  (k:∀u w' β',Rel Z β' h' w'->Fr Z β s.h w β' h' w'->VR β' (Own Z β' h') w' v u->K (a.put x.dst u) w') :
  if Region.wanted o (yielded ops a.tmps)then o.wp P a w K Q\/(o.asks P a w/\LetsOut Q)else K (a.put o.dst Go.undef) w:=by
 unfold IM at ok;simp only[aH,decide_eq_true_eq]at ok;let⟨⟨⟨Og,Of⟩,KO⟩,IP⟩:=ok;have go:exec Γ s.e s.h x.op=some (v,h')->o.wp P a w K Q:=λhx=>O0 R hΓ E KO hx λu w' β' r f hv=>by rw[Og];exact k u w' β' r f hv
 have sk:some (AV.undef,s.h)=some (v,h')->K (a.put o.dst Go.undef) w:=λhx=>by
  cases hx;rw[Og];exact k Go.undef w β R (Fr.refl Z β s.h w) .undef
 unfold j8 at hx;cases hg:x.guard with
 |none =>
  rw[hg]at hx IP;cases hg':o.guard with
  |some g=>rw[hg']at IP;cases IP
  |none =>
   rw[if_pos (by simp[Region.wanted,hg'])]
   exact .inl (go hx)
 |some g =>
  let⟨t,want⟩:=g;rw[hg]at hx IP;cases hg':o.guard with
  |none=>rw[hg']at IP;cases IP
  |some g' =>
   let⟨j,want'⟩:=g';rw[hg']at IP;simp only[aH,decide_eq_true_eq,ey]at IP;obtain⟨rfl,ht⟩:=IP;simp only at hx;have hv:=E.2 t;split at hx
   .rename_i b hb;rw[hb]at hv;have hy:=Ig ht hv.pF;split at hx
    .rename_i hbw;subst hbw;rw[if_pos (by simp[Region.wanted,hg',hy])]
     exact .inl (go hx)
    .rename_i hbw;rw[if_neg (by simp[Region.wanted,hg',hy];exact λe=>hbw e)]
     exact sk hx
   .rename_i hb;rw[hb]at hv;have hy:=Gf ht hv.Ax;rw[if_neg (by simp[Region.wanted,hg',hy])]
    exact sk hx
   .cases hx
def kF.Zs{h:AH}{e:Env}{a:Act}{n:Nat}(E:kF Z β h w e a n){d:Option Nat}(hd:(vl d).all (λt=>decide (t<n))=true){av:AV}{v:Value}(hv:VR β (Own Z β h) w av v):
  kF Z β h w (St.put ⟨e,h⟩ d av).e (a.put d v) n:=by
 cases d with
 |none=>exact E
 |some t=>exact E.put (by simpa[vl]using hd) hv
theorem PX(e:Env)(h:AH)(d:Option Nat)(v:AV):(St.put ⟨e,h⟩ d v).h=h:=by cases d<;>rfl
def FR(a:Act)(d:Option Tmp)(v:Value):(a.put d v).defers=a.defers:=by cases d<;>rfl
structure lz(W:aB)(a a':Act):Prop where
 defers:a'.defers=a.defers
 same:∀t,W t=false->a'.tmps.getD t Go.undef=a.tmps.getD t Go.undef
theorem lz.refl(W:aB)(a:Act):lz W a a:=⟨rfl,λ_ _=>rfl⟩
def lz.trans{W:aB}{a a' T3:Act}(h:lz W a a')(h':lz W a' T3):lz W a T3:=⟨h'.defers.trans h.defers,λt ht=>(h'.same t ht).trans (h.same t ht)⟩
def lz.put{W:aB}(a:Act)(d:Option Tmp)(v:Value)(hW:∀t,d=some t->W t=true):lz W a (a.put d v):=by
 refine⟨FR a d v,λt ht=>?_⟩
 cases d with
 |none=>rfl
 |some q =>
  have hne:q≠t:=by
   rintro rfl
   rw[hW q rfl]at ht;cases ht
  simp[Act.put,cD hne]
def C8(hΓ:mH P Γ){n:Nat}{W:aB}{ops:Array Oper}{Q:Exit->Act->World->Prop}:∀(os:List Oper)(xs:List AI)(s s':St)(a:Act)(w:World)(β:kW),sI P n ops.toList os xs=true->
  (∀x∈xs,∀t,x.dst=some t->W t=true)->flat Γ xs s=some s'->Rel Z β s.h w->kF Z β s.h w s.e a n->
  (∀a' w' β',Rel Z β' s'.h w'->Fr Z β s.h w β' s'.h w'->kF Z β' s'.h w' s'.e a' n->lz W a a'->Q .normal a' w')->wpList P ops Q os a w
 | [],[],s,s',a,w,β,_,_,hf,R,E,k=>by
  simp only[flat]at hf;cases hf;exact k a w β R (Fr.refl Z β s.h w) E (lz.refl W a)
 | [],_::_,_,_,_,_,_,ok,_,_,_,_,_=>by simp[sI]at ok
 |_::_,[],_,_,_,_,_,ok,_,_,_,_,_=>by simp[sI]at ok
 |o::os,x::xs,s,s',a,w,β,ok,hW,hf,R,E,k=>by
  simp only[sI,aH]at ok;rw[pR]at hf;simp only[aI]at hf;let⟨⟨v,h'⟩,hx,hf⟩:=hf
  have hd:(vl x.dst).all (λt=>decide (t<n))=true:=by
   have:=ok.1;unfold IM at this;simp only[aH]at this;exact this.1.1.2
  unfold wpList;refine zm R hΓ E ok.1 hx λu w' β' R' F' hv=>?_
  refine C8 hΓ os xs _ s' _ w' β' ok.2 (λy hy=>hW y (by simp[hy])) hf (by rw[PX];exact R') (by rw[PX];exact(E.fr F').Zs hd hv) λT3 w'' β'' R'' F'' E'' ap5=>?_
  rw[PX]at F'';exact k T3 w'' β'' R'' (F'.trans F'') E'' ((lz.put a x.dst u (hW x ah)).trans ap5)
def AI.reads(x:AI):ax:=(x.op.ops.filterMap λo=>match o with | .t i=>some i | .c _=>none)++(match x.guard with | some (g,_)=>[g] | none=>[])
def ordered(pre:ax)(i j:Nat):Bool:=if j<i then(pre.getD i 0).testBit j else(pre.getD j 0).testBit i
def sP(x y:ni):Bool:=match x,y with
 | .mS _ _ (.t _) q,.mC _ (.t q') _=>decide (q=q')
 |_,_=>false
def QC(i:Nat)(x:AI):Nat->List AI->Bool
 |_,[]=>true
 |k,y::l=>(decide (k<i)||(match y.dst with | some d=>!x.reads.contains d | none=>true))&&QC i x (k+1) l
def MB{i:Nat}{x:AI}:∀(l:List AI)(k:Nat),QC i x k l=true->∀(j:Nat)(y:AI),l[j]? = some y->k+j<i\/∀d,y.dst=some d->d∉x.reads
 | [],_,_,j,y,hy=>by simp at hy
 |z::l,k,h,j,y,hy=>by
  simp only[QC,aH]at h;cases j with
  |zero =>
   simp at hy;subst hy;have h1:=h.1;simp only[bS,decide_eq_true_eq]at h1
   rcases h1 with h1 | h1
   .exact .inl aa
   .right;intro d hd;rw[hd]at h1
    simpa using h1
  |succ j =>
   have:=MB l (k+1) h.2 j y (an hy)
   rcases this with h | h
   .exact .inl aa
   .exact .inr h
def jD(fx:Bool)(i j:Nat)(x y:AI):Bool:=(match y.dst with | some d=>x.reads.contains d | none=>false)||(!y.op.mX && !x.op.isN && !(x.op.Hp&&y.op.SP) && !(x.op.abK&&y.op.Ci) && !(x.op.Oz&&y.op.uO&&(decide (i<j)||x.op.L0)) && !(sP x.op y.op&&(fx&&decide (i<j))))
def It(x y:AI):Bool:=match x.dst with | some d=>decide (y.dst=some d) | none=>false
def wW(pre:ax)(fx:Bool)(i j:Nat)(x y:AI):Bool:=decide (i=j)||(!It x y&&(!jD fx i j x y||ordered pre i j))
def P3(pre:ax)(fx:Bool)(i:Nat)(x:AI):Nat->List AI->Bool
 |_,[]=>true
 |j,y::l=>wW pre fx i j x y&&P3 pre fx i x (j+1) l
def yO(pre:ax)(all:List AI):Nat->List AI->Bool
 |_,[]=>true
 |i,x::l=>P3 pre (QC i x 0 all) i x 0 all&&yO pre all (i+1) l
def LF(pre:ax)(o:Oper):Nat:=o.after.toList.foldl (λs e=>if Region.binds .any e then s ||| 2 ^ e.on ||| pre.getD e.on 0 else s) 0
def D7(pre:ax):Nat->List Oper->Bool
 |_,[]=>true
 |i,o::l=>decide (pre.getD i 0=LF pre o)&&o.after.all (λe=>!Region.binds .any e||decide (e.on<i))&&D7 pre (i+1) l
def wY:ax->List Oper->ax
 |acc,[]=>acc
 |acc,o::l=>wY (acc++[LF acc o]) l
def abA(ops:List Oper)(xs:List AI):Bool:=D7 (wY [] ops) 0 ops&&yO (wY [] ops) xs 0 xs
def bitsOf(p:aB):Nat->Nat
 |0=>0
 |n+1=>if p n then bitsOf p n ||| 2 ^ n else bitsOf p n
def YX(xs:List AI)(j:Nat):Bool:=(xs[j]?).elim false λy=>!y.op.mX
def U4(pre:ax)(xs:List AI)(q:Nat):ax:=pre.set q (pre.getD q 0 ||| bitsOf (YX xs) q)
def Oe(q:Nat)(ops:List Oper)(xs:List AI):Bool:=D7 (wY [] ops) 0 ops&&yO (U4 (wY [] ops) xs q) xs 0 xs&&match xs[q]? with
 |some ⟨some d,none,.alloc _⟩=>(List.range xs.length).all λi=>decide (i=q) || !((wY [] ops).getD i 0).testBit q && !((xs[i]?).elim false λx=>x.reads.contains d)||(List.range q).all λj=>!YX xs j||((wY [] ops).getD i 0).testBit j
 |_=>false
def Od(ops:List Oper)(xs:List AI):Bool:=abA ops xs||(List.range xs.length).any λq=>Oe q ops xs
def D5{pre:ax}{fx:Bool}{i:Nat}{x:AI}:∀(l:List AI)(k:Nat),P3 pre fx i x k l=true->∀(j:Nat)(y:AI),l[j]? = some y->wW pre fx i (k+j) x y=true
 | [],_,_,j,y,hy=>by simp at hy
 |z::l,k,h,j,y,hy=>by
  simp only[P3,aH]at h;cases j with
  |zero=>simp at hy;subst hy;exact h.1
  |succ j =>
   have:=D5 l (k+1) h.2 j y (an hy)
   rwa [show k+1+j=k+(j+1)from by omega]at this
def wV{pre:ax}{all:List AI}:∀(l:List AI)(k:Nat),yO pre all k l=true->∀(i:Nat)(x:AI),l[i]? = some x->∀(j:Nat)(y:AI),all[j]? = some y->wW pre (QC (k+i) x 0 all) (k+i) j x y=true
 | [],_,_,i,x,hx=>by simp at hx
 |z::l,k,h,i,x,hx=>by
  simp only[yO,aH]at h;intro j y hy;cases i with
  |zero =>
   simp at hx;subst hx;have:=D5 all 0 h.1 j y hy
   simpa using this
  |succ i =>
   have:=wV l (k+1) h.2 i x (an hx) j y hy
   rwa [show k+1+i=k+(i+1)from by omega]at this
def D6{pre:ax}:∀(l:List Oper)(k:Nat),D7 pre k l=true->∀(i:Nat)(o:Oper),l[i]? = some o->pre.getD (k+i) 0=LF pre o/\∀e∈o.after,Region.binds .any e=true->e.on<k+i
 | [],_,_,i,o,ho=>by simp at ho
 |z::l,k,h,i,o,ho=>by
  simp only[D7,aH,decide_eq_true_eq]at h;cases i with
  |zero =>
   simp at ho;subst ho;refine⟨h.1.1,λe he hb=>?_⟩
   have:=Array.all_eq_true_iff_forall_mem.1 h.1.2 e he;rw[hb]at this
   simpa using this
  |succ i =>
   have:=D6 l (k+1) h.2 i o (an ho)
   rwa [show k+1+i=k+(i+1)from by omega]at this
def Sy{pre:ax}{o:Oper}{i:Nat}(h:(LF pre o).testBit i=true):∃e∈o.after,Region.binds .any e=true/\(i=e.on\/(pre.getD e.on 0).testBit i=true):=by
 unfold LF at h
 have key:∀(l:List Edge)(s:Nat),(l.foldl (λs e=>if Region.binds .any e then s ||| 2 ^ e.on ||| pre.getD e.on 0 else s) s).testBit i=true->
   s.testBit i=true\/∃e∈l,Region.binds .any e=true/\(i=e.on\/(pre.getD e.on 0).testBit i=true):=by
  intro l
  induction l with
  |nil=>intro s h;exact .inl h
  |cons e l ih =>
   intro s h;rw[aT]at h
   rcases ih _ h with h | ⟨e',he',h⟩
   .split at h
    .rename_i hb;rw[gG,gG,bS,bS]at h
     rcases h with(h | h) | h
     .exact .inl h
     .refine .inr ⟨e,ah,hb,.inl ?_⟩
      rw[Nat.testBit_two_pow]at h;exact(by simpa using h:e.on=i).symm
     .exact .inr ⟨e,ah,hb,.inr h⟩
    .exact .inl h
   .exact .inr ⟨e',by simp[he'],h⟩
 rcases key _ 0 h with h | ⟨e,he,h⟩
 .simp at h
 .exact⟨e,Array.mem_toList_iff.1 he,h⟩
end
variable{x:AI}{v:AV}{h' h h2:AH}{f:Nat->St}{s:St}{sz t0 q0 i Uo:Nat}
section
variable{P:Program}{Z:az}{Γ:kP}
def vm{n:Nat}{all:List Oper}:∀(os:List Oper)(xs:List AI),sI P n all os xs=true->os.length=xs.length/\∀(i:Nat)(o:Oper)(x:AI),os[i]? = some o->xs[i]? = some x->IM P n all o x=true
 | [],[],_=>⟨rfl,λi o x h=>by simp at h⟩
 | [],_::_,h=>by simp[sI]at h
 |_::_,[],h=>by simp[sI]at h
 |o::os,x::xs,h=>by
  simp only[sI,aH]at h;let⟨h1,h2⟩:=vm os xs h.2;refine⟨by simp[h1],λi o' x' ho hx=>?_⟩
  cases i with
  |zero=>simp at ho hx;subst ho;subst hx;exact h.1
  |succ i=>exact h2 i o' x' (an ho) (an hx)
def Qd:∀(xs:List AI)(s s':St),flat Γ xs s=some s'->∃(f:Nat->St) (val:Nat->AV),f 0=s/\f xs.length=s'/\
  ∀(k:Nat)(x:AI),xs[k]? = some x->j8 Γ x (f k)=some (val k,(f (k+1)).h)/\(f (k+1)).e=(St.put ⟨(f k).e,(f (k+1)).h⟩ x.dst (val k)).e
 | [],s,s',h=>by
  simp only[flat]at h;cases h;exact⟨λ_=>s,λ_=>.dead,rfl,rfl,λk x hx=>by simp at hx⟩
 |x::xs,s,s',h=>by
  rw[pR]at h;simp only[aI]at h;let⟨⟨v,h'⟩,hx,h⟩:=h;let⟨f,val,f0,fn,fk⟩:=Qd xs _ s' h;refine⟨λk=>match k with | 0=>s | k+1=>f k,λk=>match k with | 0=>v | k+1=>val k,rfl,fn,λk y hy=>?_⟩
  grind[PX]
open Classical in
noncomputable def eS(xs:List AI)(val:Nat->AV)(e0:Env)(S:aB):Env:=λt =>
 if h:∃j,∃x,xs[j]? = some x/\x.dst=some t/\S j=true then val (Classical.choose h)else e0 t
def TR(xs:List AI):Prop:=∀(i j:Nat)(x y:AI)(t:Nat),xs[i]? = some x->xs[j]? = some y->x.dst=some t->y.dst=some t->i=j
variable{xs:List AI}{val:Nat->AV}{e0:Env}{S S':aB}
theorem Xs(D:TR xs){j:Nat}{t:Nat}(hx:xs[j]? = some x)(hd:x.dst=some t)(hS:S j=true):eS xs val e0 S t=val j:=by
 have h:∃j,∃x,xs[j]? = some x/\x.dst=some t/\S j=true:=⟨j,x,hx,hd,hS⟩;unfold eS;rw[dif_pos h];let⟨y,hy,hd',_⟩:=en h;rw[D _ j y x t hy hx hd' hd]
theorem Jw{t:Nat}(h:∀(j:Nat)(x:AI),xs[j]? = some x->x.dst=some t->S j=false):eS xs val e0 S t=e0 t:=by
 unfold eS
 grind
theorem uT(D:TR xs){t:Nat}(h:∀(j:Nat)(x:AI),xs[j]? = some x->x.dst=some t->S j=S' j):eS xs val e0 S t=eS xs val e0 S' t:=by
 by_cases hx:∃j,∃x,xs[j]? = some x/\x.dst=some t/\S j=true
 .grind[Xs]
 .have h0:∀(j:Nat)(x:AI),xs[j]? = some x->x.dst=some t->S j=false:=by
   grind
  grind[Jw]
def EX(D:TR xs)(hx:xs[i]? = some x)(hi:S' i=true)(hS:∀j,j≠i->S' j=S j)(h:AH):eS xs val e0 S'=(St.put ⟨eS xs val e0 S,h⟩ x.dst (val i)).e:=by
 funext t
 cases hd:x.dst with
 |none =>
  refine uT D λj y hy YB=>hS j ?_
  grind
 |some d =>
  show _=if t=d then val i else _
  split
  .grind[Xs]
  .rename_i ht;refine uT D λj y hy YB=>hS j ?_
   grind
theorem tG(hr:x.op.mX=true)(h:j8 Γ x s=some (v,h')):h'=s.h:=by
 unfold j8 at h;split at h
 .exact Xl _ hr h
 .split at h
  .split at h
   .exact Xl _ hr h
   .cases h;rfl
  .cases h;rfl
  .cases h
def Y6{e:Env}(hn:x.op.isN=true)(hx:j8 Γ x ⟨e,h⟩=some (v,h'))(h2:AH):j8 Γ x ⟨e,h2⟩=some (v,h2):=by
 have go:∀ {h'},exec Γ e h x.op=some (v,h')->exec Γ e h2 x.op=some (v,h2):=by
  intro h' hq;rw[Xm _ hn]at hq⊢;cases hz:exec Γ e [] x.op with
  |none=>rw[hz]at hq;cases hq
  |some r=>grind
 unfold j8 at hx⊢;split at hx
 .exact go hx
 grind
def om{e e':Env}(hr:∀t∈x.reads,e t=e' t):j8 Γ x ⟨e,h⟩=j8 Γ x ⟨e',h⟩:=by
 have h1:exec Γ e h x.op=exec Γ e' h x.op:=EU _ λo ho=>by
  cases o with
  |c v=>rfl
  |t i=>exact hr i (by unfold AI.reads;grind)
 grind[j8,AI.reads,List.mem_append_right]
def Ht{s':St}(hk:∀(k:Nat)(x:AI),xs[k]? = some x->j8 Γ x (f k)=some (val k,(f (k+1)).h)):∀(m k:Nat),m<=k->k<=xs.length->
  (∀(j:Nat)(x:AI),xs[j]? = some x->x.op.mX=false->(j<m↔j<k))->(f m).h=(f k).h:=by
 intro m k hmk
 induction hmk with
 |refl=>intro _ _;rfl
 |step hmk ih =>
  rename_i k;intro hlen hw;have hlt:k<xs.length:=hlen;have hx:xs[k]? = some xs[k]:=aG hlt;have hR:xs[k].op.mX=true:=by
   grind
  grind[tG]
def sQ(hk:∀(k:Nat)(x:AI),xs[k]? = some x->j8 Γ x (f k)=some (val k,(f (k+1)).h))(m k:Nat)(hm:m<=xs.length)(yS:k<=xs.length)
  (hw:∀(j:Nat)(x:AI),xs[j]? = some x->x.op.mX=false->(j<m↔j<k)):(f m).h=(f k).h:=by
 rcases gH m k with h | h
 .exact Ht (s':=f 0) hk m k h yS hw
 .exact(Ht (s':=f 0) hk k m h hm λj x hx hr=>(hw j x hx hr).symm).symm
def Sa{e:Env}(hn:x.op.Hp=true)(hx:j8 Γ x ⟨e,h⟩=some (v,h'))(hr:∀b u,kX h2 b u=kX h b u):j8 Γ x ⟨e,h2⟩=some (v,h2):=by
 unfold j8 at hx⊢;split at hx
 .grind[MJ]
 .dsimp only at hx⊢;split at hx
  .split at hx
   .rename_i hb;rw[if_pos hb];grind[MJ]
   grind
  .cases hx;rfl
  .cases hx
theorem Ut(hr:x.op.SP=true)(h:j8 Γ x s=some (v,h'))(b u:Nat):kX h' b u=kX s.h b u:=by
 unfold j8 at h;split at h
 .grind[QJ]
 .split at h
  .split at h
   .grind[QJ]
   .cases h;rfl
  .cases h;rfl
  .cases h
def Us{e:Env}(hn:x.op.Oz=true)(hx:j8 Γ x ⟨e,h⟩=some (v,h'))(bs:AH):j8 Γ x ⟨e,h++bs⟩=some (v,h++bs):=by
 unfold j8 at hx⊢;split at hx
 .grind[QI]
 .dsimp only at hx⊢;split at hx
  .split at hx
   .rename_i hb;rw[if_pos hb];grind[QI]
   grind
  .cases hx;rfl
  .cases hx
def Sd{e:Env}{bs:AH}{t:Nat}{agg:Bool}(vY:x.op = .load sz agg (.t t))(hp:∀b v i o,e t = .ptr b v i o->b<h.length)(hx:j8 Γ x ⟨e,h++bs⟩=some (v,h')):j8 Γ x ⟨e,h⟩=some (v,h):=by
 have key:∀ {r},exec Γ e (h++bs) x.op=some r->exec Γ e h x.op=some (r.1,h):=λ{r} hr=>by
  grind[Xk]
 unfold j8 at hx⊢;split at hx
 .exact key hx
 .dsimp only at hx⊢;split at hx
  .grind
  .cases hx;rfl
  .cases hx
theorem GQ(hr:x.op.uO=true)(h:j8 Γ x s=some (v,h')):∃bs,h'=s.h++bs:=by
 unfold j8 at h;split at h
 .exact EV _ hr h
 .split at h
  .split at h
   .exact EV _ hr h
   simp_all
  .simp_all
  .cases h
def EB(hk:∀(k:Nat)(x:AI),xs[k]? = some x->j8 Γ x (f k)=some (val k,(f (k+1)).h)):∀(m k:Nat),m<=k->k<=xs.length->
  (∀(j:Nat)(x:AI),xs[j]? = some x->m<=j->j<k->x.op.mX=false->x.op.uO=true)->∃bs,(f k).h=(f m).h++bs:=by
 intro m k hmk
 induction hmk with
 |refl=>simp_all
 |step hmk ih =>
  rename_i k;intro hlen hw;have hlt:k<xs.length:=hlen;have hx:xs[k]? = some xs[k]:=aG hlt;have h2:m<=k:=hmk;let⟨bs,hb⟩:=ih aa λj x hx' h1 h3 hr=>hw j x hx' h1 aa hr
  cases hr:xs[k].op.mX with
  |true=>grind[tG]
  |false =>
   let⟨cs,hc⟩:=GQ (hw k _ hx h2 (iN k) hr) (hk k _ hx)
   grind
def Sb(hr:x.op.Ci=true)(h:j8 Γ x s=some (v,h')):kV s.h h':=by
 grind[j8,Xi,kV.refl]
def Sc{e:Env}{t:Nat}{agg:Bool}(vY:x.op = .sN sz agg t)(hv:∀(b:Nat)(cs:List AV),(∃v i o,e t = .ptr b v i o)->h[b]? = some (.var cs)->h2[b]? = some (.var cs))(hx:j8 Γ x ⟨e,h⟩=some (v,h')):j8 Γ x ⟨e,h2⟩=some (v,h2):=by
 have key:∀ {r},exec Γ e h x.op=some r->exec Γ e h2 x.op=some (r.1,h2):=λ{r} hr=>by
  grind[Xj]
 unfold j8 at hx⊢;split at hx
 .exact key hx
 grind
def GL(hk:∀(k:Nat)(x:AI),xs[k]? = some x->j8 Γ x (f k)=some (val k,(f (k+1)).h)):∀(m k:Nat),m<=k->k<=xs.length->
  (∀(j:Nat)(x:AI),xs[j]? = some x->m<=j->j<k->x.op.mX=false->x.op.Ci=true)->kV (f m).h (f k).h:=by
 intro m k hmk
 induction hmk with
 |refl=>grind[kV.refl]
 |step hmk ih =>
  rename_i k;intro hlen hw;have hlt:k<xs.length:=hlen;have hx:xs[k]? = some xs[k]:=aG hlt;have h2:m<=k:=hmk;have h1:=ih aa λj x hx' h1 h3 hr=>hw j x hx' h1 aa hr
  cases hr:xs[k].op.mX with
  |true=>grind[tG]
  |false=>exact h1.trans (Sb (hw k _ hx h2 (iN k) hr) (hk k _ hx))
def NS{e:Env}{agg:Bool}(vY:x.op = .mS sz agg (.t t0) q0)(hx:j8 Γ x ⟨e,h⟩=some (v,h'))(hc:pK (e q0) (e t0)=true->∀cs,j7 h (e t0)=some cs->j7 h2 (e t0)=some cs):j8 Γ x ⟨e,h2⟩=some (v,h2):=by
 have key:∀ {r},exec Γ e h x.op=some r->exec Γ e h2 x.op=some (r.1,h2):=λ{r} hr=>by
  rw[vY]at hr⊢;simp only[exec,mc]at hr⊢
  by_cases hf:pK (e q0) ((AO.t t0).get e)=true
  .rw[if_pos hf]at hr⊢;simp only[aI]at hr⊢;let⟨cs,h1,r1,h3,hr⟩:=hr;cases hr;exact⟨cs,hc hf cs h1,_,h3,rfl⟩
  grind
 unfold j8 at hx⊢;split at hx
 .exact key hx
 grind
def SQ{agg:Bool}{y:ni}(h:sP (.mS sz agg (.t t0) q0) y=true):∃sz' z,y = .mC sz' (.t q0) z:=by
 cases y<;>first | (simp[sP]at h;done) | skip
 rename_i sz' a z;cases a with
 |t q =>
  simp[sP]at h
  simp_all
 |c v=>simp[sP]at h
theorem Se{y:AI}{agk:Bool}(hf:sP (.mS Uo agk (.t t0) q0) y.op=true)(h:j8 Γ y s=some (v,h')){p:AV}(hp:pK (s.e q0) p=true){cs:List AV}(hc:j7 s.h p=some cs):j7 h' p=some cs:=by
 have key:∀ {r},exec Γ s.e s.h y.op=some r->j7 r.2 p=some cs:=λ{r} hr=>by
  let⟨sz',z,hy⟩:=SQ hf;rw[hy]at hr;simp only[exec]at hr
  by_cases hv:rG s.h ((AO.t q0).get s.e)=true
  .rw[if_pos hv]at hr;simp only[aI]at hr;let⟨h1,hst,hr⟩:=hr;cases hr;exact Ir hv hst hp hc
  grind
 grind[j8]
def O7{x0:AI}{agk:Bool}{p:AV}(hk:∀(k:Nat)(x:AI),xs[k]? = some x->j8 Γ x (f k)=some (val k,(f (k+1)).h)/\(f (k+1)).e=(St.put ⟨(f k).e,(f (k+1)).h⟩ x.dst (val k)).e)
  (hfe:∀k,i<=k->k<=xs.length->QC i x0 0 xs=true->(f k).e q0=(f i).e q0) (hp:pK ((f i).e q0) p=true):∀(m:Nat),i<=m->m<=xs.length->
  (∀(q:Nat)(y:AI),xs[q]? = some y->i<=q->q<m->y.op.mX=false->y.op.uO=true\/(sP (.mS Uo agk (.t t0) q0) y.op=true/\QC i x0 0 xs=true))->∀cs,j7 (f i).h p=some cs->j7 (f m).h p=some cs:=by
 intro m hjm
 induction hjm with
 |refl=>grind
 |step hjm ih =>
  rename_i m;intro hlen hw cs hc;have hlt:m<xs.length:=hlen;have hx:xs[m]? = some xs[m]:=aG hlt;have apU:i<=m:=hjm;have CN:=ih aa (λq y hq h1 h2 hr=>hw q y hq h1 aa hr) cs hc
  cases hr:xs[m].op.mX with
  |true=>grind[tG]
  |false =>
   rcases hw m _ hx apU (iN m) hr with h | ⟨h,h'⟩
   .grind[GQ,vL]
   grind[Se]
def GZ(hk:∀(k:Nat)(x:AI),xs[k]? = some x->j8 Γ x (f k)=some (val k,(f (k+1)).h)):∀(m k:Nat),m<=k->k<=xs.length->
  (∀(j:Nat)(x:AI),xs[j]? = some x->x.op.mX=false->x.op.SP=false->(j<m↔j<k))->∀b u,kX (f m).h b u=kX (f k).h b u:=by
 intro m k hmk
 induction hmk with
 |refl=>intro _ _ _ _;rfl
 |step hmk ih =>
  rename_i k;intro hlen hw b u;have hlt:k<xs.length:=hlen;have hx:xs[k]? = some xs[k]:=aG hlt
  have hstep:kX (f (k+1)).h b u=kX (f k).h b u:=by
   cases hr:xs[k].op.mX with
   |true=>grind[tG]
   |false =>
    cases zV:xs[k].op.SP with
    |true=>grind[Ut]
    |false =>
     grind
  grind
def N5(hk:∀(k:Nat)(x:AI),xs[k]? = some x->j8 Γ x (f k)=some (val k,(f (k+1)).h))(m k:Nat)(hm:m<=xs.length)(yS:k<=xs.length)
  (hw:∀(j:Nat)(x:AI),xs[j]? = some x->x.op.mX=false->x.op.SP=false->(j<m↔j<k)) (b u:Nat):kX (f m).h b u=kX (f k).h b u:=by
 rcases gH m k with h | h
 .exact GZ hk m k h yS hw b u
 .exact(GZ hk k m h hm (λj x hx hr zV=>(hw j x hx hr zV).symm) b u).symm
def AP{ops:Array Oper}{listed:Array Bool}(hsz:listed.size=ops.size)(Bu:∀(i:Nat)(o:Oper),ops[i]? = some o->∀e∈o.after,Region.binds .any e=true->e.on<i)(h0:Region.ready .any ops listed=[]):
  ∀j,j<ops.size->listed.getD j false=true:=by
 intro j
 induction j using Nat.strongRecOn with
 |_ j ih =>
  intro hj;cases hl:listed.getD j false with
  |true=>rfl
  |false =>
   have:j∈Region.ready .any ops listed:=by
    rw[mem_ready];have hjl:j<listed.size:=aa
    refine⟨?_,ops[j],cE hj,λe he hb=>?_⟩
    .grind
    grind
   grind
def Yl(ops:Array Oper)(pre:ax)(D:aB):Prop:=∀(i:Nat)(o:Oper)(L:aB),ops[i]? = some o->D i=false->(∀e∈o.after,Region.binds .any e=true->L e.on=true)->
 (∀j k,L j=true->(pre.getD j 0).testBit k=true->L k=true)->∀j,(pre.getD i 0).testBit j=true->L j=true
def tK{ops:Array Oper}{pre:ax}(ZB:D7 pre 0 ops.toList=true):Yl ops pre (λ_=>false)/\∀(i:Nat)(o:Oper),ops[i]? = some o->∀e∈o.after,Region.binds .any e=true->e.on<i:=by
 have hpre:=D6 ops.toList 0 ZB;refine⟨λi o L ho _ hall oZ j hj=>?_,λi o ho e he hb=>?_⟩
 .have hp:=(hpre i o (an ho)).1
  rw[bE]at hp;rw[hp]at hj;let⟨e,he,hb,hj⟩:=Sy hj
  grind
 simp_all
def FO(D:TR xs)(hk:∀(k:Nat)(x:AI),xs[k]? = some x->j8 Γ x (f k)=some (val k,(f (k+1)).h)/\(f (k+1)).e=(St.put ⟨(f k).e,(f (k+1)).h⟩ x.dst (val k)).e)(f0:f 0=s)
  {L:aB} {m i:Nat} {x:AI} (hx:xs[i]? = some x) (hm:m<=xs.length) (OO:L i=false) (hW:∀(j:Nat)(x:AI),xs[j]? = some x->x.op.mX=false->(j<m↔L j=true))
  (ye:∀(j:Nat)(y:AI),xs[j]? = some y->jD (QC i x 0 xs) i j x y=true->L j=decide (j<i)) (aku:∀t∈x.reads,∀b v i o,eS xs val s.e L t = .ptr b v i o->b<(f m).h.length) :
  ∃m',j8 Γ x ⟨eS xs val s.e L,(f m).h⟩=some (val i,(f m').h)/\m'<=xs.length/\(∀(j:Nat)(y:AI),xs[j]? = some y->y.op.mX=false->(j<m'↔(j=i\/L j=true))):=by
 have Wp:i<xs.length:=(aF.1 hx).1
 have hfe:∀i,i<=xs.length->(f i).e=eS xs val s.e λj=>decide (j<i):=by
  intro i
  induction i with
  |zero =>
   intro _;rw[f0]
   funext t
   exact(Jw λj x _ _=>ah).symm
  |succ i ih =>
   intro hi;have hx:xs[i]? = some xs[i]:=aG aa
   rw[(hk i _ hx).2,ih aa]
   refine(EX D hx ah (λj hj=>?_) _).symm
   simp only[decide_eq_decide];omega
 have ug:∀t∈x.reads,eS xs val s.e L t=(f i).e t:=by
  intro t ht;rw[hfe i aa]
  exact uT D λj y hy YB=>ye j y hy (by simp[jD,YB,ht])
 let⟨hst,hfi⟩:=hk i x hx
 by_cases hn:x.op.isN=true
 .refine⟨m,?_,hm,λj y hy hr=>?_⟩
  .have e1:j8 Γ x ⟨eS xs val s.e L,(f i).h⟩=some (val i,(f (i+1)).h):=by rw[om ug];exact hst
   exact Y6 hn e1 _
  .rw[hW j y hy hr]
   constructor
   .exact .inr
   .rintro(rfl | h)
    .rw[hx]at hy;cases hy;cases vY:x.op<;>rw[vY]at hn hr<;>first | (cases hn;done) | (cases hr;done)
    .exact h
 .by_cases hldv : ∃ sz agg t0, x.op = .sN sz agg t0
  .obtain⟨sz, agg, t0, vY⟩ := hldv;have hRx : x.op.mX = true := by rw[vY]; rfl
   have e1:j8 Γ x ⟨eS xs val s.e L,(f i).h⟩=some (val i,(f (i+1)).h):=by rw[om ug];exact hst
   have apN:∀y,sP x.op y=false:=λy=>by rw[vY];rfl
   have aew:∀(j:Nat)(y:AI),xs[j]? = some y->y.op.mX=false->y.op.Ci=false->L j=decide (j<i):=λj y hy hr h0 =>
    ye j y hy (by
     have hc1:x.op.isN=false:=by rw[vY];rfl
     have yC:x.op.Hp=false:=by rw[vY];rfl
     have hc3:x.op.Oz=false:=by rw[vY];rfl
     simp[jD,hr,hc1,yC,hc3,h0,apN])
   have hpt:∀b,(∃v i o,eS xs val s.e L t0 = .ptr b v i o)->b<(f m).h.length:=λb ⟨v,i,o,he⟩=>aku t0 (by unfold AI.reads;rw[vY];simp[ni.ops]) b v i o he
   have e3:j8 Γ x ⟨eS xs val s.e L,(f m).h⟩=some (val i,(f m).h):=by
    refine Sc vY (λb cs hb hc=>?_) e1
    rcases gH m i with Qo | Qo
    .have hv:=GL (λk x hx=>(hk k x hx).1) m i Qo aa λj y hy h1 h2 hr=>by
      cases ha:y.op.Ci with
      |true=>rfl
      |false =>
       have:=aew j y hy hr ha;have h3:=(hW j y hy hr).2 (by rw[this];simpa using h2)
       omega
     exact(hv.2 b cs (hpt b hb)).2 hc
    .have hv:=GL (λk x hx=>(hk k x hx).1) i m Qo hm λj y hy h1 h2 hr=>by
      cases ha:y.op.Ci with
      |true=>rfl
      |false =>
       have:=aew j y hy hr ha;have h3:=(hW j y hy hr).1 h2;rw[this]at h3;simp at h3;omega
     have yU:b<(f i).h.length:=(aF.1 hc).1;exact(hv.2 b cs yU).1 hc
   refine⟨m,e3,hm,λj y hy hr=>?_⟩
   rw[hW j y hy hr]
   constructor
   .exact .inr
   .rintro(rfl | h)
    .rw[hx]at hy;cases hy;rw[hRx]at hr;cases hr
    .exact h
  have Wm:x.op.abK=false:=by
   cases vY:x.op<;>first | rfl | exact absurd ⟨_,_,_,vY⟩ hldv
  by_cases wo:x.op.Hp=true
  .have apR:x.op.Oz=false:=by
    cases vY:x.op<;>rw[vY]at wo<;>first | (cases wo;done) | rfl
   have apO:∀y,sP x.op y=false:=λy=>by
    cases vY:x.op<;>rw[vY]at wo<;>first | (cases wo;done) | rfl
   have hh:∀b u,kX (f m).h b u=kX (f i).h b u:=N5 (λk x hx=>(hk k x hx).1) m i hm aa λj y hy hr zV=>by
    rw[hW j y hy hr,ye j y hy (by simp[jD,hr,hn,zV,apR,apO,Wm])];simp
   have e1:j8 Γ x ⟨eS xs val s.e L,(f i).h⟩=some (val i,(f (i+1)).h):=by rw[om ug];exact hst
   refine⟨m,Sa wo e1 hh,hm,λj y hy hr=>?_⟩
   rw[hW j y hy hr]
   constructor
   .exact .inr
   .rintro(rfl | h)
    .rw[hx]at hy;cases hy;cases vY:x.op<;>rw[vY]at wo hr<;>first | (cases wo;done) | (cases hr;done)
    .exact h
  have wo:x.op.Hp=false:=by simpa using wo
  by_cases hL:∃sz agg t0 q0,x.op = .mS sz agg (.t t0) q0
  .obtain⟨sz, agg, t0, q0, vY⟩ := hL;have hRx : x.op.mX = true := by rw[vY]; rfl
   have e1:j8 Γ x ⟨eS xs val s.e L,(f i).h⟩=some (val i,(f (i+1)).h):=by rw[om ug];exact hst
   have ht0:t0∈x.reads:=by unfold AI.reads;rw[vY];simp[ni.ops]
   have hq0:q0∈x.reads:=by unfold AI.reads;rw[vY];simp[ni.ops]
   have hlp:x.op.L0=false:=by rw[vY];rfl
   have early:∀(j:Nat)(y:AI),xs[j]? = some y->y.op.mX=false->j<i->j<m:=λj y hy hr hlt=>by
    rw[hW j y hy hr,ye j y hy (by simp[jD,hr,hn,Wm,wo,hlp];omega)];simpa using hlt
   have late:∀(j:Nat)(y:AI),xs[j]? = some y->y.op.mX=false->i<=j->j<m->y.op.uO=true\/(sP x.op y.op=true/\QC i x 0 xs=true):=λj y hy hr hle h=>by
    apply cT;intro hno;have apM:y.op.uO=false:=by
     cases hq:y.op.uO with
     |false=>rfl
     |true=>exact absurd (.inl hq) hno
    have apL:(sP x.op y.op&&QC i x 0 xs)=false:=by
     cases hq:(sP x.op y.op&&QC i x 0 xs)with
     |false=>rfl
     |true=>rw[aH]at hq;exact absurd (.inr hq) hno
    rw[hW j y hy hr,ye j y hy (by
     simp only[jD,hr,hn,Wm,wo,apM,gh,eP,eR,Bool.and_false];rw[<-Bool.and_assoc,apL];simp)]at h
    simp at h;omega
   have hcells:m<=i\/(pK ((f i).e q0) ((f i).e t0)=true->∀cs,j7 (f i).h ((f i).e t0)=some cs->j7 (f m).h ((f i).e t0)=some cs):=by
    rcases gH m i with Qo | Qo
    .exact .inl Qo
    .right;intro Ws
     exact O7 (hk:=hk) (hfe:=λk ND hk2 hfz=>by
      rw[hfe k aa,hfe i aa]
      exact uT D λq y hq YB=>by
       rcases MB xs 0 hfz q y hq with h | h
       .rw[bE]at h;simp only[decide_eq_decide];omega
       .exact absurd hq0 (h q0 YB)) Ws m Qo hm λj y hy h1 h2 hr=>by
      rcases late j y hy hr h1 h2 with h | ⟨h,h'⟩
      .exact .inl h
      .rw[vY]at h;exact .inr ⟨h,h'⟩
   have e3:j8 Γ x ⟨eS xs val s.e L,(f m).h⟩=some (val i,(f m).h):=by
    rcases hcells with Qo | hcells
    .have hh:(f m).h=(f i).h:=sQ (λk x hx=>(hk k x hx).1) m i hm aa λj y hy hr=>⟨λh=>aa,early j y hy hr⟩
     have e2:=tG hRx e1;rw[hh,e1,e2]
    .refine NS vY e1 λWs cs hc=>?_
     rw[ug t0 ht0]at hc Ws⊢;rw[ug q0 hq0]at Ws;exact hcells Ws cs hc
   refine⟨m,e3,hm,λj y hy hr=>?_⟩
   rw[hW j y hy hr]
   constructor
   .exact .inr
   .rintro(rfl | h)
    .rw[hx]at hy;cases hy;rw[hRx]at hr;cases hr
    .exact h
  have hnf:∀y,sP x.op y=false:=λy=>by
   cases hq:sP x.op y with
   |false=>rfl
   |true =>
    exfalso;apply hL;unfold sP at hq;split at hq
    .exact⟨_,_,_,_,by assumption⟩
    .cases hq
  by_cases hld:x.op.Oz=true
  .have hRx:x.op.mX=true:=by
    cases vY:x.op<;>rw[vY]at hld<;>first | (cases hld;done) | rfl
   have e1:j8 Γ x ⟨eS xs val s.e L,(f i).h⟩=some (val i,(f (i+1)).h):=by rw[om ug];exact hst
   have early:x.op.L0=false->∀(j:Nat)(y:AI),xs[j]? = some y->y.op.mX=false->j<i->j<m:=λhp j y hy hr hlt=>by
    rw[hW j y hy hr,ye j y hy (by simp[jD,hr,hn,Wm,wo,hnf,hp];exact .inr (.inr (gI hlt)))];simpa using hlt
   have afc:∀(j:Nat)(y:AI),xs[j]? = some y->y.op.mX=false->y.op.uO=false->j<i->j<m:=λj y hy hr ha hlt=>by
    rw[hW j y hy hr,ye j y hy (by simp[jD,hr,hn,Wm,wo,ha,hnf])];simpa using hlt
   have late:∀(j:Nat)(y:AI),xs[j]? = some y->y.op.mX=false->y.op.uO=false->i<=j->¬j<m:=λj y hy hr ha hle h=>by
    rw[hW j y hy hr,ye j y hy (by simp[jD,hr,hn,Wm,wo,ha,hnf])]at h
    simp at h;omega
   have e3:j8 Γ x ⟨eS xs val s.e L,(f m).h⟩=some (val i,(f m).h):=by
    rcases gH m i with Qo | Qo
    .cases hp:x.op.L0 with
     |false =>
      have hh:(f m).h=(f i).h:=sQ (λk x hx=>(hk k x hx).1) m i hm aa λj y hy hr=>⟨λh=>aa,early hp j y hy hr⟩
      have e2:=tG hRx e1;rw[hh,e1,e2]
     |true =>
      obtain⟨sz,agg,t0,vY⟩:∃sz agg t0,x.op = .load sz agg (.t t0):=by
       unfold ni.L0 at hp;split at hp
       .exact⟨_,_,_,by assumption⟩
       .cases hp
      let⟨bs,hb⟩:=EB (λk x hx=>(hk k x hx).1) m i Qo aa λj y hy h1 h2 hr=>by
       cases ha:y.op.uO with
       |true=>rfl
       |false=>have:=afc j y hy hr ha h2;omega
      rw[hb]at e1;exact Sd vY (λb v i o he=>aku t0 (by unfold AI.reads;rw[vY];simp[ni.ops]) b v i o he) e1
    .let⟨bs,hb⟩:=EB (λk x hx=>(hk k x hx).1) i m Qo hm λj y hy h1 h2 hr=>by
      cases ha:y.op.uO with
      |true=>rfl
      |false=>exact absurd h2 (late j y hy hr ha h1)
     rw[hb];exact Us hld e1 bs
   refine⟨m,e3,hm,λj y hy hr=>?_⟩
   rw[hW j y hy hr]
   constructor
   .exact .inr
   .rintro(rfl | h)
    .rw[hx]at hy;cases hy;rw[hRx]at hr;cases hr
    .exact h
  have hld:x.op.Oz=false:=by simpa using hld
  have hh:(f m).h=(f i).h:=sQ (λk x hx=>(hk k x hx).1) m i hm aa λj y hy hr=>by
   rw[hW j y hy hr,ye j y hy (by simp[jD,hr,hn,Wm,wo,hld,hnf])];simp
  have e1:j8 Γ x ⟨eS xs val s.e L,(f m).h⟩=some (val i,(f (i+1)).h):=by rw[hh,om ug];exact hst
  by_cases hR:x.op.mX=true
  .have e2:=tG hR e1;refine⟨m,by rw[e1,e2],hm,λj y hy hr=>?_⟩
   rw[hW j y hy hr]
   constructor
   .exact .inr
   .rintro(rfl | h)
    .rw[hx]at hy;cases hy;rw[hR]at hr;cases hr
    .exact h
  .refine⟨i+1,e1,aa,λj y hy hr=>?_⟩
   have h2:=ye j y hy (by simp[jD,hr,hn,Wm,wo,hld,hnf])
   rw[h2];simp only[decide_eq_true_eq];omega
def lup{A:Array Bool}{c:Nat}(hi:i<A.size)(hA:A.getD i false=false)(hc:A.toList.count false=c+1):
  ∃B,B=A.setIfInBounds i true/\(∀j,B.getD j false=true↔(j=i\/A.getD j false=true))/\B.size=A.size/\B.toList.count false=c/\∀j,i≠j->B.getD j false=A.getD j false:=by
 refine⟨_,rfl,λj=>?_,ah,?_,λj hj=>getD_set_ne false hj⟩
 .by_cases hji:j=i
  .subst hji;simp[hi]
  .rw[getD_set_ne false (λe=>hji e.symm)];simp[hji]
 .rw[iy,List.count_set (an hi)]
  simp_all
def Cp(hΓ:mH P Γ){W:aB}(TX:∀x∈xs,∀t,x.dst=some t->W t=true){n:Nat}{ops:Array Oper}{Q:Exit->Act->World->Prop}(ok:sI P n ops.toList ops.toList xs=true){pre:ax}{D0:aB}(Bu:∀(i:Nat)(o:Oper),ops[i]? = some o->∀e∈o.after,Region.binds .any e=true->e.on<i)(ZB:Yl ops pre D0)(okr:yO pre xs 0 xs=true)
  {s s':St} {f:Nat->St} (f0:f 0=s) (fn:f xs.length=s') (hk:∀(k:Nat)(x:AI),xs[k]? = some x->j8 Γ x (f k)=some (val k,(f (k+1)).h)/\(f (k+1)).e=(St.put ⟨(f k).e,(f (k+1)).h⟩ x.dst (val k)).e)
  {β0:kW} {w0:World} {a0:Act} (k:∀a' w' β',Rel Z β' s'.h w'->Fr Z β0 s.h w0 β' s'.h w'->kF Z β' s'.h w' s'.e a' n->lz W a0 a'->Q .normal a' w') :
  ∀(fuel:Nat)(listed:Array Bool)(a:Act)(w:World)(β:kW)(m:Nat),listed.size=ops.size->listed.toList.count false=fuel->m<=xs.length->
   (∀i,D0 i=true->listed.getD i false=true)->
   (∀j i,listed.getD j false=true->(pre.getD j 0).testBit i=true->listed.getD i false=true)->
   (∀(j:Nat)(x:AI),xs[j]? = some x->x.op.mX=false->(j<m↔listed.getD j false=true))->
   Rel Z β (f m).h w->Fr Z β0 s.h w0 β (f m).h w->kF Z β (f m).h w (eS xs val s.e λj=>listed.getD j false) a n->lz W a0 a->wpAny P .any ops Q fuel listed a w:=by
 let⟨hlen,Wj⟩:=vm _ _ ok;have hlen':ops.size=xs.length:=by simpa using hlen
 have hrow:=wV xs 0 okr;have D:TR xs:=by
  intro i j x y t hx hy hxd YB;have:=hrow i x hx j y hy;unfold wW at this;simp only[bS,aH,decide_eq_true_eq,bE]at this
  grind[It]
 have hfe:∀i,i<=xs.length->(f i).e=eS xs val s.e λj=>decide (j<i):=by
  intro i
  induction i with
  |zero =>
   intro _;rw[f0]
   funext t
   grind[Jw]
  |succ i ih =>
   intro hi;have hx:xs[i]? = some xs[i]:=aG aa
   rw[(hk i _ hx).2,ih aa]
   refine(EX D hx ah (λj hj=>?_) _).symm
   grind
 intro fuel
 -- all have come up
 have done:∀(listed:Array Bool)(a:Act)(w:World)(β:kW)(m:Nat),m<=xs.length->(∀j,j<ops.size->listed.getD j false=true)->
   (∀(j:Nat)(x:AI),xs[j]? = some x->x.op.mX=false->(j<m↔listed.getD j false=true))->
   Rel Z β (f m).h w->Fr Z β0 s.h w0 β (f m).h w->kF Z β (f m).h w (eS xs val s.e λj=>listed.getD j false) a n->lz W a0 a->Q .normal a w:=by
  intro listed a w β m hm hall hW R F E hd;have hlt:∀(j:Nat)(x:AI),xs[j]? = some x->j<xs.length:=λj x hx=>(aF.1 hx).1
  have hh:(f m).h=s'.h:=by
   rw[sQ (λk x hx=>(hk k x hx).1) m xs.length hm (aN _) λj x hx hr=>by
    rw[hW j x hx hr];have:=hlt j x hx;exact⟨λ_=>this,λ_=>hall j aa⟩,fn]
  have he:(eS xs val s.e λj=>listed.getD j false)=s'.e:=by
   rw[<-fn,hfe xs.length (aN _)]
   funext t
   grind[uT]
  grind
 induction fuel with
 |zero =>
  intro listed a w β m hsz yT hm hD0 oZ hW R F E hd;have hall:∀j,j<ops.size->listed.getD j false=true:=by
   intro j hj;have hjl:j<listed.size:=aa
   have h0:=List.count_eq_zero.1 yT;have hmem:listed[j]∈listed.toList:=ah
   cases hq:listed[j]with
   |true=>simp[hjl,hq]
   |false=>grind
  refine⟨?_,done listed a w β m hm hall hW R F E hd⟩;apply gW.2;intro i hi;let⟨h1,o,ho,_⟩:=mem_ready.1 hi
  grind
 |succ fuel ih =>
  intro listed a w β m hsz yT hm hD0 oZ hW R F E hd;refine⟨λh0=>done listed a w β m hm (AP hsz Bu h0) hW R F E hd,λi hi=>?_⟩
  let⟨h1,o,ho,hall⟩:=mem_ready.1 hi;have hio:i<ops.size:=(aW.1 ho).1;have hil:i<listed.size:=aa
  have Wp:i<xs.length:=aa
  have hx:xs[i]? = some xs[i]:=aG Wp;generalize hxi:xs[i]=x at hx;have OO:listed.getD i false=false:=by grind
  have V8:∀j,(pre.getD i 0).testBit j=true->listed.getD j false=true :=
   ZB i o (λj=>listed.getD j false) (an ho) (by
    grind) hall oZ
  have ye:∀(j:Nat)(y:AI),xs[j]? = some y->jD (QC i x 0 xs) i j x y=true->listed.getD j false=decide (j<i):=by
   intro j y hy hc;have:=hrow i x hx j y hy;unfold wW at this;simp only[bS,aH,decide_eq_true_eq,bE]at this
   grind[ordered]
  let⟨m',hstep,hm',ON⟩:=FO D hk f0 (L:=λj=>listed.getD j false) hx hm OO hW ye λt _ b v i o he=>by
   have hv:=E.2 t;rw[he]at hv;generalize a.tmps.getD t Go.undef=u at hv
   rcases cG b (f m).h.length with hlt | hge
   .exact hlt
   .cases hv with
    |pure _ _ hv=>cases hv
    |ptr _ _ _ _ bd c h1 h2=>rw[R.fresh b v hge]at h1;cases h1
  have hok:=Wj i o x (an ho) hx
  unfold wpOp;simp only[ho];refine zm (s:=⟨eS xs val s.e λj=>listed.getD j false,(f m).h⟩) R hΓ E hok hstep λu w' β' R' F' hv=>?_
  let⟨B,hB,qy,Ew,Ck,hne⟩:=lup hil OO yT;rw[<-hB];refine ih B (a.put x.dst u) w' β' m' (Ew.trans hsz) Ck hm' (λj hj=>(qy j).2 (.inr (hD0 j hj))) ?_ (λj y hy hr=>by grind) R' (F.trans F') ?_ (hd.trans (lz.put a x.dst u (TX x (aR hx))))
  .grind
  .have hd2:(vl x.dst).all (λt=>decide (t<n))=true:=by
    unfold IM at hok
    grind
   have:=(E.fr F').Zs hd2 hv;rw[<-EX (S':=λj=>B.getD j false) D hx ((qy i).2 (.inl rfl)) (λj hj=>by rw[hne _ (λe=>hj e.symm)]) (f m').h]at this
   exact this
end
end Go.Am
