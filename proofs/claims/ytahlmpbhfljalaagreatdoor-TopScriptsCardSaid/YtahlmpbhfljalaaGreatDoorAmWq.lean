/- Part of the proof that TopScriptsCard holds. -/
import Derived.Test.YtahlmpbhfljalaaGreatDoorAmU
import Derived.Orders
set_option linter.all false
namespace Go.Am
def wk(P:Program)(n:Nat)(all:List Oper)(o:Oper)(x:AI):Bool :=
 decide (o.dst=x.dst)&&(mz x.dst).all (λt=>decide (t<n))&&ua P o.op x.op &&
 (match o.guard,x.guard with
  |none,none=>true
  |some (j,h),some (t,b)=>decide (h=b)&&decide ((all[j]?).bind (·.dst)=some t)
  |_,_=>false)
def ku(P:Program)(n:Nat)(all:List Oper):List Oper->List AI->Bool
 | [],[]=>true
 |o::os,x::xs=>wk P n all o x&&ku P n all os xs
 |_,_=>false
section
variable{P:Program}{Z:ay}{β:iW}{w:World}{Γ:ja}
def Cv{ops:Array Oper}{a:Act}{j t:Nat}{b:Bool}(i:(ops[j]?).bind (·.dst)=some t)(h:a.tmps.getD t Go.undef = .bool b):yielded ops a.tmps j=some b:=by
 unfold yielded;rw[i];simp only[bH];rw[aO]at h;cases l:a.tmps[t]? with
 |none=>rw[l]at h;cases h
 |some v=>grind
def Ay{ops:Array Oper}{a:Act}{j t:Nat}(h:(ops[j]?).bind (·.dst)=some t)(b:a.tmps.getD t Go.undef=Go.undef):yielded ops a.tmps j=none:=by
 unfold yielded;rw[h];simp only[bH];rw[aO]at b;cases i:a.tmps[t]? with
 |none=>rfl
 |some v=>rw[i]at b;simp only[cM]at b;rw[b];rfl
def qa{s:St}{a:Act}{n:Nat}(R:Rel Z β s.h w)(F:js P Γ)(E:iP Z β s.h w s.e a n){ops:Array Oper}{o:Oper}{x:AI}(ok:wk P n ops.toList o x=true){v:AV}{h':AH}
  (hx:step1 Γ x s=some (v,h')) {K:Act->World->Prop} {Q:Exit->Act->World->Prop}
  (k:∀u w' β',Rel Z β' h' w'->Fr Z β s.h w β' h' w'->VR β' (Own Z β' h') w' v u->K (a.put x.dst u) w') :
  if Region.wanted o (yielded ops a.tmps)then o.wp P a w K Q\/(o.asks P a w/\LetsOut Q)else K (a.put o.dst Go.undef) w:=by
 unfold wk at ok;simp only[aC,decide_eq_true_eq]at ok;let⟨⟨⟨A,N⟩,DP⟩,He⟩:=ok;have go:exec Γ s.e s.h x.op=some (v,h')->o.wp P a w K Q:=λhx=>HI R F E DP hx λu w' β' r f q=>by grind
 have L:some (AV.undef,s.h)=some (v,h')->K (a.put o.dst Go.undef) w:=λhx=>by
  cases hx;rw[A];exact k Go.undef w β R (Fr.refl Z β s.h w) .undef
 unfold step1 at hx;cases hg:x.guard with
 |none =>
  rw[hg]at hx He;cases i:o.guard with
  |some g=>grind
  |none =>
   rw[if_pos (by simp[Region.wanted,i])]
   exact .inl (go hx)
 |some g =>
  let⟨t,H⟩:=g;rw[hg]at hx He;cases i:o.guard with
  |none=>grind
  |some O =>
   let⟨j,z⟩:=O;rw[i]at He;simp only[aC,decide_eq_true_eq,cI]at He;obtain⟨rfl,M⟩:=He;simp only at hx;have q:=E.2 t;split at hx
   .rename_i b G;rw[G]at q;have y:=Cv M q.lK;split at hx
    .rename_i l;subst l;rw[if_pos (by simp[Region.wanted,i,y])]
     exact .inl (go hx)
    .rename_i l;rw[if_neg (by simp[Region.wanted,i,y];exact λe=>l e)]
     exact L hx
   .rename_i G;rw[G]at q;have y:=Ay M q.vW;rw[if_neg (by simp[Region.wanted,i,y])]
    exact L hx
   .cases hx
def iP.JX{h:AH}{e:Env}{a:Act}{n:Nat}(E:iP Z β h w e a n){d:Option Nat}(i:(mz d).all (λt=>decide (t<n))=true){av:AV}{v:Value}(b:VR β (Own Z β h) w av v):
  iP Z β h w (St.put ⟨e,h⟩ d av).e (a.put d v) n:=by
 cases d with
 |none=>exact E
 |some t=>exact E.put (by simpa[mz]using i) b
theorem uo(e:Env)(h:AH)(d:Option Nat)(v:AV):(St.put ⟨e,h⟩ d v).h=h:=by cases d<;>rfl
def Au(a:Act)(d:Option Tmp)(v:Value):(a.put d v).defers=a.defers:=by cases d<;>rfl
structure iM(W:aA)(a a':Act):Prop where
 defers:a'.defers=a.defers
 same:∀t,W t=false->a'.tmps.getD t Go.undef=a.tmps.getD t Go.undef
theorem iM.refl(W:aA)(a:Act):iM W a a:=⟨rfl,λ_ _=>rfl⟩
def iM.trans{W:aA}{a l b:Act}(h:iM W a l)(h':iM W l b):iM W a b:=⟨h'.defers.trans h.defers,λt i=>(h'.same t i).trans (h.same t i)⟩
def iM.put{W:aA}(a:Act)(d:Option Tmp)(v:Value)(i:∀t,d=some t->W t=true):iM W a (a.put d v):=by
 refine⟨Au a d v,λt h=>?_⟩
 cases d with
 |none=>rfl
 |some q =>
  have b:q≠t:=by
   grind
  simp[Act.put,bO b]
def tM(i:js P Γ){n:Nat}{W:aA}{ops:Array Oper}{Q:Exit->Act->World->Prop}:∀(os:List Oper)(xs:List AI)(s s':St)(a:Act)(w:World)(β:iW),ku P n ops.toList os xs=true->
  (∀x∈xs,∀t,x.dst=some t->W t=true)->flat Γ xs s=some s'->Rel Z β s.h w->iP Z β s.h w s.e a n->
  (∀A w' β',Rel Z β' s'.h w'->Fr Z β s.h w β' s'.h w'->iP Z β' s'.h w' s'.e A n->iM W a A->Q .normal A w')->wpList P ops Q os a w
 | [],[],s,s',a,w,β,_,_,b,R,E,k=>by
  simp only[flat]at b;cases b;exact k a w β R (Fr.refl Z β s.h w) E (iM.refl W a)
 | [],_::_,_,_,_,_,_,ok,_,_,_,_,_=>by simp[ku]at ok
 |_::_,[],_,_,_,_,_,ok,_,_,_,_,_=>by simp[ku]at ok
 |o::os,x::xs,s,s',a,w,β,ok,H,b,R,E,k=>by
  simp only[ku,aC]at ok;rw[lT]at b;simp only[aD]at b;let⟨⟨v,h'⟩,hx,b⟩:=b
  have N:(mz x.dst).all (λt=>decide (t<n))=true:=by
   have:=ok.1;unfold wk at this
   grind
  unfold wpList;refine qa R i E ok.1 hx λu w' β' O K M=>?_
  refine tM i os xs _ s' _ w' β' ok.2 (λy L=>H y (by simp[L])) b (by rw[uo];exact O) (by rw[uo];exact(E.fr K).JX N M) λz r β'' F q G l=>?_
  rw[uo]at q;exact k z r β'' F (K.trans q) G ((iM.put a x.dst u (H x ah)).trans l)
def AI.reads(x:AI):au:=(x.op.ops.filterMap λo=>match o with | .t i=>some i | .c _=>none)++(match x.guard with | some (g,_)=>[g] | none=>[])
def ordered(pre:au)(i j:Nat):Bool:=if j<i then(pre.getD i 0).testBit j else(pre.getD j 0).testBit i
def pK(x y:j5):Bool:=match x,y with
 | .nw _ _ (.t _) q,.nE _ _ _ b=>decide (q=b)
 |_,_=>false
def Jh(i:Nat)(x:AI):Nat->List AI->Bool
 |_,[]=>true
 |k,y::l=>(decide (k<i)||(match y.dst with | some d=>!x.reads.contains d | none=>true))&&Jh i x (k+1) l
def Fz{i:Nat}{x:AI}:∀(l:List AI)(k:Nat),Jh i x k l=true->∀(j:Nat)(y:AI),l[j]? = some y->k+j<i\/∀d,y.dst=some d->d∉x.reads
 | [],_,_,j,y,b=>by simp at b
 |z::l,k,h,j,y,b=>by
  simp only[Jh,aC]at h;cases j with
  |zero =>
   grind
  |succ j =>
   have:=Fz l (k+1) h.2 j y (ak b)
   grind
def kM(b:Bool)(i j:Nat)(x y:AI):Bool:=(match y.dst with | some d=>x.reads.contains d | none=>false)||(!y.op.qp && !x.op.Wb && !(x.op.BI&&y.op.Kn) && !(x.op.SP&&y.op.xC) && !(x.op.Hr&&y.op.qt&&(decide (i<j)||x.op.Fk)) && !(pK x.op y.op&&(b&&decide (i<j))))
def CI(x y:AI):Bool:=match x.dst with | some d=>decide (y.dst=some d) | none=>false
def r6(pre:au)(b:Bool)(i j:Nat)(x y:AI):Bool:=decide (i=j)||(!CI x y&&(!kM b i j x y||ordered pre i j))
def IV(pre:au)(b:Bool)(i:Nat)(x:AI):Nat->List AI->Bool
 |_,[]=>true
 |j,y::l=>r6 pre b i j x y&&IV pre b i x (j+1) l
def uI(pre:au)(all:List AI):Nat->List AI->Bool
 |_,[]=>true
 |i,x::l=>IV pre (Jh i x 0 all) i x 0 all&&uI pre all (i+1) l
def EH(pre:au)(o:Oper):Nat:=o.after.toList.foldl (λs e=>if Region.binds .any e then s ||| 2 ^ e.on ||| pre.getD e.on 0 else s) 0
def xz(pre:au):Nat->List Oper->Bool
 |_,[]=>true
 |i,o::l=>decide (pre.getD i 0=EH pre o)&&o.after.all (λe=>!Region.binds .any e||decide (e.on<i))&&xz pre (i+1) l
def oK:au->List Oper->au
 |b,[]=>b
 |b,o::l=>oK (b++[EH b o]) l
def SH(ops:List Oper)(xs:List AI):Bool:=xz (oK [] ops) 0 ops&&uI (oK [] ops) xs 0 xs
def bitsOf(p:aA):Nat->Nat
 |0=>0
 |n+1=>if p n then bitsOf p n ||| 2 ^ n else bitsOf p n
def Po(xs:List AI)(j:Nat):Bool:=(xs[j]?).elim false λy=>!y.op.qp
def MD(pre:au)(xs:List AI)(q:Nat):au:=pre.set q (pre.getD q 0 ||| bitsOf (Po xs) q)
def G9(q:Nat)(ops:List Oper)(xs:List AI):Bool:=xz (oK [] ops) 0 ops&&uI (MD (oK [] ops) xs q) xs 0 xs&&match xs[q]? with
 |some ⟨some d,none,.alloc _⟩=>(List.range xs.length).all λi=>decide (i=q) || !((oK [] ops).getD i 0).testBit q && !((xs[i]?).elim false λx=>x.reads.contains d)||(List.range q).all λj=>!Po xs j||((oK [] ops).getD i 0).testBit j
 |_=>false
def CT(ops:List Oper)(xs:List AI):Bool:=SH ops xs||(List.range xs.length).any λq=>G9 q ops xs
def zn{pre:au}{n:Bool}{i:Nat}{x:AI}:∀(l:List AI)(k:Nat),IV pre n i x k l=true->∀(j:Nat)(y:AI),l[j]? = some y->r6 pre n i (k+j) x y=true
 | [],_,_,j,y,b=>by simp at b
 |z::l,k,h,j,y,b=>by
  simp only[IV,aC]at h;cases j with
  |zero=>grind
  |succ j =>
   have:=zn l (k+1) h.2 j y (ak b)
   grind
def rZ{pre:au}{all:List AI}:∀(l:List AI)(k:Nat),uI pre all k l=true->∀(i:Nat)(x:AI),l[i]? = some x->∀(j:Nat)(y:AI),all[j]? = some y->r6 pre (Jh (k+i) x 0 all) (k+i) j x y=true
 | [],_,_,i,x,hx=>by simp at hx
 |z::l,k,h,i,x,hx=>by
  simp only[uI,aC]at h;intro j y b;cases i with
  |zero =>
   simp at hx;subst hx;have:=zn all 0 h.1 j y b
   simpa using this
  |succ i =>
   have:=rZ l (k+1) h.2 i x (ak hx) j y b
   grind
def zo{pre:au}:∀(l:List Oper)(k:Nat),xz pre k l=true->∀(i:Nat)(o:Oper),l[i]? = some o->pre.getD (k+i) 0=EH pre o/\∀e∈o.after,Region.binds .any e=true->e.on<k+i
 | [],_,_,i,o,b=>by simp at b
 |z::l,k,h,i,o,b=>by
  simp only[xz,aC,decide_eq_true_eq]at h;cases i with
  |zero =>
   simp at b;subst b;refine⟨h.1.1,λe n q=>?_⟩
   have:=Array.all_eq_true_iff_forall_mem.1 h.1.2 e n
   grind
  |succ i =>
   have:=zo l (k+1) h.2 i o (ak b)
   grind
def JY{pre:au}{o:Oper}{i:Nat}(h:(EH pre o).testBit i=true):∃e∈o.after,Region.binds .any e=true/\(i=e.on\/(pre.getD e.on 0).testBit i=true):=by
 unfold EH at h
 have key:∀(l:List Edge)(s:Nat),(l.foldl (λs e=>if Region.binds .any e then s ||| 2 ^ e.on ||| pre.getD e.on 0 else s) s).testBit i=true->
   s.testBit i=true\/∃e∈l,Region.binds .any e=true/\(i=e.on\/(pre.getD e.on 0).testBit i=true):=by
  intro l
  induction l with
  |nil=>intro s h;exact .inl h
  |cons e l b =>
   grind
 grind
end
variable{x:AI}{v:AV}{h' h h2:AH}{f:Nat->St}{s:St}{i sz t0 n:Nat}
section
variable{P:Program}{Z:ay}{Γ:ja}
def qV{n:Nat}{all:List Oper}:∀(os:List Oper)(xs:List AI),ku P n all os xs=true->os.length=xs.length/\∀(i:Nat)(o:Oper)(x:AI),os[i]? = some o->xs[i]? = some x->wk P n all o x=true
 | [],[],_=>⟨rfl,λi o x h=>by simp at h⟩
 | [],_::_,h=>by simp[ku]at h
 |_::_,[],h=>by simp[ku]at h
 |o::os,x::xs,h=>by
  simp only[ku,aC]at h;let⟨h1,h2⟩:=qV os xs h.2;refine⟨by simp[h1],λi o' l b hx=>?_⟩
  cases i with
  |zero=>simp at b hx;subst b;subst hx;exact h.1
  |succ i=>exact h2 i o' l (ak b) (ak hx)
def I4:∀(xs:List AI)(s s':St),flat Γ xs s=some s'->∃(f:Nat->St) (val:Nat->AV),f 0=s/\f xs.length=s'/\
  ∀(k:Nat)(x:AI),xs[k]? = some x->step1 Γ x (f k)=some (val k,(f (k+1)).h)/\(f (k+1)).e=(St.put ⟨(f k).e,(f (k+1)).h⟩ x.dst (val k)).e
 | [],s,s',h=>by
  simp only[flat]at h;cases h;exact⟨λ_=>s,λ_=>.dead,rfl,rfl,λk x hx=>by simp at hx⟩
 |x::xs,s,s',h=>by
  rw[lT]at h;simp only[aD]at h;let⟨⟨v,h'⟩,hx,h⟩:=h;let⟨f,val,l,fn,i⟩:=I4 xs _ s' h;refine⟨λk=>match k with | 0=>s | k+1=>f k,λk=>match k with | 0=>v | k+1=>val k,rfl,fn,λk y b=>?_⟩
  grind[uo]
open Classical in
noncomputable def eS(xs:List AI)(val:Nat->AV)(e0:Env)(S:aA):Env:=λt =>
 if h:∃j,∃x,xs[j]? = some x/\x.dst=some t/\S j=true then val (Classical.choose h)else e0 t
def Lf(xs:List AI):Prop:=∀(i j:Nat)(x y:AI)(t:Nat),xs[i]? = some x->xs[j]? = some y->x.dst=some t->y.dst=some t->i=j
variable{xs:List AI}{val:Nat->AV}{e0:Env}{S S':aA}
theorem Oa(D:Lf xs){j:Nat}{t:Nat}(hx:xs[j]? = some x)(i:x.dst=some t)(n:S j=true):eS xs val e0 S t=val j:=by
 have h:∃j,∃x,xs[j]? = some x/\x.dst=some t/\S j=true:=⟨j,x,hx,i,n⟩;unfold eS;rw[dif_pos h];let⟨y,l,b,_⟩:=dG h;rw[D _ j y x t l hx b i]
theorem Ds{t:Nat}(h:∀(j:Nat)(x:AI),xs[j]? = some x->x.dst=some t->S j=false):eS xs val e0 S t=e0 t:=by
 unfold eS
 grind
theorem qz(D:Lf xs){t:Nat}(h:∀(j:Nat)(x:AI),xs[j]? = some x->x.dst=some t->S j=S' j):eS xs val e0 S t=eS xs val e0 S' t:=by
 by_cases hx:∃j,∃x,xs[j]? = some x/\x.dst=some t/\S j=true
 .grind[Oa]
 .have h0:∀(j:Nat)(x:AI),xs[j]? = some x->x.dst=some t->S j=false:=by
   grind
  grind[Ds]
def Ab(D:Lf xs)(hx:xs[i]? = some x)(q:S' i=true)(l:∀j,j≠i->S' j=S j)(h:AH):eS xs val e0 S'=(St.put ⟨eS xs val e0 S,h⟩ x.dst (val i)).e:=by
 funext t
 cases r:x.dst with
 |none =>
  refine qz D λj y n b=>l j ?_
  grind
 |some d =>
  show _=if t=d then val i else _
  split
  .grind[Oa]
  .rename_i o;refine qz D λj y n b=>l j ?_
   grind
theorem pz(b:x.op.qp=true)(h:step1 Γ x s=some (v,h')):h'=s.h:=by
 unfold step1 at h;split at h
 .exact NY _ b h
 .split at h
  .split at h
   .exact NY _ b h
   .cases h;rfl
  .cases h;rfl
  .cases h
def PG{e:Env}(l:x.op.Wb=true)(hx:step1 Γ x ⟨e,h⟩=some (v,h'))(h2:AH):step1 Γ x ⟨e,h2⟩=some (v,h2):=by
 have go:∀ {h'},exec Γ e h x.op=some (v,h')->exec Γ e h2 x.op=some (v,h2):=by
  intro h' b;rw[NZ _ l]at b⊢;cases i:exec Γ e [] x.op with
  |none=>rw[i]at b;cases b
  |some r=>grind
 unfold step1 at hx⊢;split at hx
 .exact go hx
 grind
def lE{e e':Env}(b:∀t∈x.reads,e t=e' t):step1 Γ x ⟨e,h⟩=step1 Γ x ⟨e',h⟩:=by
 have h1:exec Γ e h x.op=exec Γ e' h x.op:=zU _ λo l=>by
  cases o with
  |c v=>rfl
  |t i=>exact b i (by unfold AI.reads;grind)
 grind[step1,AI.reads,List.mem_append_right]
def BL{s':St}(hk:∀(k:Nat)(x:AI),xs[k]? = some x->step1 Γ x (f k)=some (val k,(f (k+1)).h)):∀(m k:Nat),m<=k->k<=xs.length->
  (∀(j:Nat)(x:AI),xs[j]? = some x->x.op.qp=false->(j<m↔j<k))->(f m).h=(f k).h:=by
 intro m k b
 induction b with
 |refl=>intro _ _;rfl
 |step b n =>
  rename_i k;intro i o;have l:k<xs.length:=i;have hx:xs[k]? = some xs[k]:=aF l;have q:xs[k].op.qp=true:=by
   grind
  grind[pz]
def oU(hk:∀(k:Nat)(x:AI),xs[k]? = some x->step1 Γ x (f k)=some (val k,(f (k+1)).h))(m k:Nat)(n:m<=xs.length)(b:k<=xs.length)
  (i:∀(j:Nat)(x:AI),xs[j]? = some x->x.op.qp=false->(j<m↔j<k)):(f m).h=(f k).h:=by
 rcases fK m k with h | h
 .exact BL (s':=f 0) hk m k h b i
 .exact(BL (s':=f 0) hk k m h n λj x hx l=>(i j x hx l).symm).symm
def JJ{e:Env}(n:x.op.BI=true)(hx:step1 Γ x ⟨e,h⟩=some (v,h'))(l:∀b u,iZ h2 b u=iZ h b u):step1 Γ x ⟨e,h2⟩=some (v,h2):=by
 unfold step1 at hx⊢;split at hx
 .grind[FH]
 .dsimp only at hx⊢;split at hx
  .split at hx
   .rename_i i;rw[if_pos i];grind[FH]
   grind
  .cases hx;rfl
  .cases hx
theorem LW(i:x.op.Kn=true)(h:step1 Γ x s=some (v,h'))(b u:Nat):iZ h' b u=iZ s.h b u:=by
 unfold step1 at h;split at h
 .grind[Jm]
 .split at h
  .split at h
   .grind[Jm]
   .cases h;rfl
  .cases h;rfl
  .cases h
def LV{e:Env}(i:x.op.Hr=true)(hx:step1 Γ x ⟨e,h⟩=some (v,h'))(bs:AH):step1 Γ x ⟨e,h++bs⟩=some (v,h++bs):=by
 unfold step1 at hx⊢;split at hx
 .grind[Jl]
 .dsimp only at hx⊢;split at hx
  .split at hx
   .rename_i b;rw[if_pos b];grind[Jl]
   grind
  .cases hx;rfl
  .cases hx
def JM{e:Env}{bs:AH}{t:Nat}{agg:Bool}(l:x.op = .load sz agg (.t t))(q:∀b v i o,e t = .ptr b v i o->b<h.length)(hx:step1 Γ x ⟨e,h++bs⟩=some (v,h')):step1 Γ x ⟨e,h⟩=some (v,h):=by
 have key:∀ {r},exec Γ e (h++bs) x.op=some r->exec Γ e h x.op=some (r.1,h):=λ{r} n=>by
  grind[NX]
 unfold step1 at hx⊢;split at hx
 .exact key hx
 .dsimp only at hx⊢;split at hx
  .grind
  .cases hx;rfl
  .cases hx
theorem Bi(b:x.op.qt=true)(h:step1 Γ x s=some (v,h')):∃bs,h'=s.h++bs:=by
 unfold step1 at h;split at h
 .exact zV _ b h
 .split at h
  .split at h
   .exact zV _ b h
   simp_all
  .simp_all
  .cases h
def zH(hk:∀(k:Nat)(x:AI),xs[k]? = some x->step1 Γ x (f k)=some (val k,(f (k+1)).h)):∀(m k:Nat),m<=k->k<=xs.length->
  (∀(j:Nat)(x:AI),xs[j]? = some x->m<=j->j<k->x.op.qp=false->x.op.qt=true)->∃bs,(f k).h=(f m).h++bs:=by
 intro m k b
 induction b with
 |refl=>simp_all
 |step b r =>
  rename_i k;intro i q;have o:k<xs.length:=i;have hx:xs[k]? = some xs[k]:=aF o;have h2:m<=k:=b;let⟨bs,y⟩:=r aa λj x l h1 h3 n=>q j x l h1 aa n
  cases n:xs[k].op.qp with
  |true=>grind[pz]
  |false =>
   let⟨cs,v⟩:=Bi (q k _ hx h2 (ff k) n) (hk k _ hx)
   grind
def JK(b:x.op.xC=true)(h:step1 Γ x s=some (v,h')):jm s.h h':=by
 grind[step1,NV,jm.refl]
def JL{e:Env}{t:Nat}{agg:Bool}(l:x.op = .qn sz agg t)(n:∀(b:Nat)(cs:List AV),(∃v i o,e t = .ptr b v i o)->h[b]? = some (.var cs)->h2[b]? = some (.var cs))(hx:step1 Γ x ⟨e,h⟩=some (v,h')):step1 Γ x ⟨e,h2⟩=some (v,h2):=by
 have key:∀ {r},exec Γ e h x.op=some r->exec Γ e h2 x.op=some (r.1,h2):=λ{r} q=>by
  grind[NW]
 unfold step1 at hx⊢;split at hx
 .exact key hx
 grind
def Bf(hk:∀(k:Nat)(x:AI),xs[k]? = some x->step1 Γ x (f k)=some (val k,(f (k+1)).h)):∀(m k:Nat),m<=k->k<=xs.length->
  (∀(j:Nat)(x:AI),xs[j]? = some x->m<=j->j<k->x.op.qp=false->x.op.xC=true)->jm (f m).h (f k).h:=by
 intro m k b
 induction b with
 |refl=>grind[jm.refl]
 |step b r =>
  rename_i k;intro i q;have o:k<xs.length:=i;have hx:xs[k]? = some xs[k]:=aF o;have h2:m<=k:=b;have h1:=r aa λj x l h1 h3 n=>q j x l h1 aa n
  cases n:xs[k].op.qp with
  |true=>grind[pz]
  |false=>exact h1.trans (JK (q k _ hx h2 (ff k) n) (hk k _ hx))
def GK{e:Env}{agg:Bool}(l:x.op = .nw sz agg (.t t0) i)(hx:step1 Γ x ⟨e,h⟩=some (v,h'))(o:kQ (e i) (e t0)=true->∀cs,iC h (e t0)=some cs->iC h2 (e t0)=some cs):step1 Γ x ⟨e,h2⟩=some (v,h2):=by
 have key:∀ {r},exec Γ e h x.op=some r->exec Γ e h2 x.op=some (r.1,h2):=λ{r} b=>by
  rw[l]at b⊢;simp only[exec,jv]at b⊢
  by_cases n:kQ (e i) ((AO.t t0).get e)=true
  .rw[if_pos n]at b⊢;simp only[aD]at b⊢;let⟨cs,h1,q,h3,b⟩:=b;cases b;exact⟨cs,o n cs h1,_,h3,rfl⟩
  grind
 unfold step1 at hx⊢;split at hx
 .exact key hx
 grind
def Kq{agg:Bool}{y:j5}(h:pK (.nw sz agg (.t t0) i) y=true):∃b a z,y = .nE b a z i:=by
 cases y<;>first | (simp[pK]at h;done) | skip
 simp[pK]at h
 simp_all
def NU{a b p:AV}(h:kQ a p=true)(hs:Bl a b=true):kQ b p=true:=by
 cases a<;>cases b<;>cases p<;>simp_all[kQ,Bl]
theorem JN{y:AI}{l:Nat}{i:Bool}(F:pK (.nw l i (.t t0) n) y.op=true)(h:step1 Γ y s=some (v,h')){p:AV}(E:kQ (s.e n) p=true){cs:List AV}(G:iC s.h p=some cs):iC h' p=some cs:=by
 have key:∀ {r},exec Γ s.e s.h y.op=some r->iC r.2 p=some cs:=λ{r} b=>by
  let⟨x,a,z,A⟩:=Kq F;rw[A]at b;simp only[exec]at b
  by_cases o:ob s.h (a.get s.e)=true/\Bl (s.e n) (a.get s.e)=true
  .rw[if_pos o]at b;simp only[aD]at b;let⟨h1,q,b⟩:=b;cases b;exact CE o.1 q (NU E o.2) G
  grind
 grind[step1]
def HR{x0:AI}{r v:Nat}{o:Bool}{p:AV}(hk:∀(k:Nat)(x:AI),xs[k]? = some x->step1 Γ x (f k)=some (val k,(f (k+1)).h)/\(f (k+1)).e=(St.put ⟨(f k).e,(f (k+1)).h⟩ x.dst (val k)).e)
  (hfe:∀k,i<=k->k<=xs.length->Jh i x0 0 xs=true->(f k).e r=(f i).e r) (L:kQ ((f i).e r) p=true):∀(m:Nat),i<=m->m<=xs.length->
  (∀(q:Nat)(y:AI),xs[q]? = some y->i<=q->q<m->y.op.qp=false->y.op.qt=true\/(pK (.nw v o (.t t0) r) y.op=true/\Jh i x0 0 xs=true))->∀cs,iC (f i).h p=some cs->iC (f m).h p=some cs:=by
 intro m b
 induction b with
 |refl=>grind
 |step b F =>
  rename_i m;intro l E cs K;have A:m<xs.length:=l;have hx:xs[m]? = some xs[m]:=aF A;have n:i<=m:=b;have H:=F aa (λq y G h1 h2 z=>E q y G h1 aa z) cs K
  cases z:xs[m].op.qp with
  |true=>grind[pz]
  |false =>
   rcases E m _ hx n (ff m) z with h | ⟨h,h'⟩
   .grind[Bi,rm]
   grind[JN]
def Bo(hk:∀(k:Nat)(x:AI),xs[k]? = some x->step1 Γ x (f k)=some (val k,(f (k+1)).h)):∀(m k:Nat),m<=k->k<=xs.length->
  (∀(j:Nat)(x:AI),xs[j]? = some x->x.op.qp=false->x.op.Kn=false->(j<m↔j<k))->∀b u,iZ (f m).h b u=iZ (f k).h b u:=by
 intro m k i
 induction i with
 |refl=>intro _ _ _ _;rfl
 |step i r =>
  rename_i k;intro l v b u;have o:k<xs.length:=l;have hx:xs[k]? = some xs[k]:=aF o
  have n:iZ (f (k+1)).h b u=iZ (f k).h b u:=by
   cases y:xs[k].op.qp with
   |true=>grind[pz]
   |false =>
    cases q:xs[k].op.Kn with
    |true=>grind[LW]
    |false =>
     grind
  grind
def GX(hk:∀(k:Nat)(x:AI),xs[k]? = some x->step1 Γ x (f k)=some (val k,(f (k+1)).h))(m k:Nat)(q:m<=xs.length)(l:k<=xs.length)
  (n:∀(j:Nat)(x:AI),xs[j]? = some x->x.op.qp=false->x.op.Kn=false->(j<m↔j<k)) (b u:Nat):iZ (f m).h b u=iZ (f k).h b u:=by
 rcases fK m k with h | h
 .exact Bo hk m k h l n b u
 .exact(Bo hk k m h q (λj x hx o i=>(n j x hx o i).symm) b u).symm
def tD{ops:Array Oper}{listed:Array Bool}(h:listed.size=ops.size)(b:∀(i:Nat)(o:Oper),ops[i]? = some o->∀e∈o.after,Region.binds .any e=true->e.on<i)(h0:Region.ready .any ops listed=[]):
  ∀j,j<ops.size->listed.getD j false=true:=by
 intro j
 induction j using Nat.strongRecOn with
 |_ j q =>
  intro n;cases hl:listed.getD j false with
  |true=>rfl
  |false =>
   have:j∈Region.ready .any ops listed:=by
    rw[mem_ready];have l:j<listed.size:=aa
    refine⟨?_,ops[j],bT n,λe r v=>?_⟩
    .grind
    grind
   grind
def OV(ops:Array Oper)(pre:au)(D:aA):Prop:=∀(i:Nat)(o:Oper)(L:aA),ops[i]? = some o->D i=false->(∀e∈o.after,Region.binds .any e=true->L e.on=true)->
 (∀j k,L j=true->(pre.getD j 0).testBit k=true->L k=true)->∀j,(pre.getD i 0).testBit j=true->L j=true
def nT{ops:Array Oper}{pre:au}(h:xz pre 0 ops.toList=true):OV ops pre (λ_=>false)/\∀(i:Nat)(o:Oper),ops[i]? = some o->∀e∈o.after,Region.binds .any e=true->e.on<i:=by
 have b:=zo ops.toList 0 h;refine⟨λi o L q _ r x j l=>?_,λi o q e v y=>?_⟩
 .have n:=(b i o (ak q)).1
  rw[b8]at n;rw[n]at l;let⟨e,v,y,l⟩:=JY l
  grind
 simp_all
def As(D:Lf xs)(hk:∀(k:Nat)(x:AI),xs[k]? = some x->step1 Γ x (f k)=some (val k,(f (k+1)).h)/\(f (k+1)).e=(St.put ⟨(f k).e,(f (k+1)).h⟩ x.dst (val k)).e)(f0:f 0=s)
  {L:aA} {m i:Nat} {x:AI} (hx:xs[i]? = some x) (Q:m<=xs.length) (HA:L i=false) (M:∀(j:Nat)(x:AI),xs[j]? = some x->x.op.qp=false->(j<m↔L j=true))
  (E:∀(j:Nat)(y:AI),xs[j]? = some y->kM (Jh i x 0 xs) i j x y=true->L j=decide (j<i)) (adN:∀t∈x.reads,∀b v i o,eS xs val s.e L t = .ptr b v i o->b<(f m).h.length) :
  ∃m',step1 Γ x ⟨eS xs val s.e L,(f m).h⟩=some (val i,(f m').h)/\m'<=xs.length/\(∀(j:Nat)(y:AI),xs[j]? = some y->y.op.qp=false->(j<m'↔(j=i\/L j=true))):=by
 have SZ:i<xs.length:=(az.1 hx).1
 have hfe:∀i,i<=xs.length->(f i).e=eS xs val s.e λj=>decide (j<i):=by
  intro i
  induction i with
  |zero =>
   intro _;rw[f0]
   funext t
   exact(Ds λj x _ _=>ah).symm
  |succ i ih =>
   intro hi;have hx:xs[i]? = some xs[i]:=aF aa
   rw[(hk i _ hx).2,ih aa]
   refine(Ab D hx ah (λj hj=>?_) _).symm
   simp only[decide_eq_decide];omega
 have A:∀t∈x.reads,eS xs val s.e L t=(f i).e t:=by
  intro t ht;rw[hfe i aa]
  exact qz D λj y l SS=>E j y l (by simp[kM,SS,ht])
 let⟨O,hfi⟩:=hk i x hx
 by_cases X:x.op.Wb=true
 .refine⟨m,?_,Q,λj y l n=>?_⟩
  .have e1:step1 Γ x ⟨eS xs val s.e L,(f i).h⟩=some (val i,(f (i+1)).h):=by rw[lE A];exact O
   exact PG X e1 _
  .rw[M j y l n]
   constructor
   .exact .inr
   .rintro(rfl | h)
    .rw[hx]at l;cases l;cases r:x.op<;>rw[r]at X n<;>first | (cases X;done) | (cases n;done)
    .exact h
 .by_cases hldv : ∃ sz agg t0, x.op = .qn sz agg t0
  .obtain⟨sz, agg, t0, r⟩ := hldv;have N : x.op.qp = true := by rw[r]; rfl
   have e1:step1 Γ x ⟨eS xs val s.e L,(f i).h⟩=some (val i,(f (i+1)).h):=by rw[lE A];exact O
   have ajp:∀y,pK x.op y=false:=λy=>by rw[r];rfl
   have ad1:∀(j:Nat)(y:AI),xs[j]? = some y->y.op.qp=false->y.op.xC=false->L j=decide (j<i):=λj y l n h0 =>
    E j y l (by
     have hc1:x.op.Wb=false:=by rw[r];rfl
     have Nz:x.op.BI=false:=by rw[r];rfl
     have hc3:x.op.Hr=false:=by rw[r];rfl
     simp[kM,n,hc1,Nz,hc3,h0,ajp])
   have hpt:∀b,(∃v i o,eS xs val s.e L t0 = .ptr b v i o)->b<(f m).h.length:=λb ⟨v,i,o,he⟩=>adN t0 (by unfold AI.reads;rw[r];simp[j5.ops]) b v i o he
   have e3:step1 Γ x ⟨eS xs val s.e L,(f m).h⟩=some (val i,(f m).h):=by
    refine JL r (λb cs hb hc=>?_) e1
    rcases fK m i with F | F
    .have hv:=Bf (λk x hx=>(hk k x hx).1) m i F aa λj y l h1 h2 n=>by
      cases Y:y.op.xC with
      |true=>rfl
      |false =>
       have:=ad1 j y l n Y;have h3:=(M j y l n).2 (by rw[this];simpa using h2)
       omega
     exact(hv.2 b cs (hpt b hb)).2 hc
    .have hv:=Bf (λk x hx=>(hk k x hx).1) i m F Q λj y l h1 h2 n=>by
      cases Y:y.op.xC with
      |true=>rfl
      |false =>
       have:=ad1 j y l n Y;have h3:=(M j y l n).1 h2;rw[this]at h3;simp at h3;omega
     have S5:b<(f i).h.length:=(az.1 hc).1;exact(hv.2 b cs S5).1 hc
   refine⟨m,e3,Q,λj y l n=>?_⟩
   rw[M j y l n]
   constructor
   .exact .inr
   .rintro(rfl | h)
    .rw[hx]at l;cases l;rw[N]at n;cases n
    .exact h
  have H:x.op.SP=false:=by
   cases r:x.op<;>first | rfl | exact absurd ⟨_,_,_,r⟩ hldv
  by_cases z:x.op.BI=true
  .have aju:x.op.Hr=false:=by
    cases r:x.op<;>rw[r]at z<;>first | (cases z;done) | rfl
   have ajq:∀y,pK x.op y=false:=λy=>by
    cases r:x.op<;>rw[r]at z<;>first | (cases z;done) | rfl
   have hh:∀b u,iZ (f m).h b u=iZ (f i).h b u:=GX (λk x hx=>(hk k x hx).1) m i Q aa λj y l n SV=>by
    rw[M j y l n,E j y l (by simp[kM,n,X,SV,aju,ajq,H])];simp
   have e1:step1 Γ x ⟨eS xs val s.e L,(f i).h⟩=some (val i,(f (i+1)).h):=by rw[lE A];exact O
   refine⟨m,JJ z e1 hh,Q,λj y l n=>?_⟩
   rw[M j y l n]
   constructor
   .exact .inr
   .rintro(rfl | h)
    .rw[hx]at l;cases l;cases r:x.op<;>rw[r]at z n<;>first | (cases z;done) | (cases n;done)
    .exact h
  have z:x.op.BI=false:=by simpa using z
  by_cases hL:∃sz agg t0 q0,x.op = .nw sz agg (.t t0) q0
  .obtain⟨sz, agg, t0, q0, r⟩ := hL;have N : x.op.qp = true := by rw[r]; rfl
   have e1:step1 Γ x ⟨eS xs val s.e L,(f i).h⟩=some (val i,(f (i+1)).h):=by rw[lE A];exact O
   have ht0:t0∈x.reads:=by unfold AI.reads;rw[r];simp[j5.ops]
   have hq0:q0∈x.reads:=by unfold AI.reads;rw[r];simp[j5.ops]
   have hlp:x.op.Fk=false:=by rw[r];rfl
   have early:∀(j:Nat)(y:AI),xs[j]? = some y->y.op.qp=false->j<i->j<m:=λj y l n T=>by
    rw[M j y l n,E j y l (by simp[kM,n,X,H,z,hlp];omega)];simpa using T
   have U:∀(j:Nat)(y:AI),xs[j]? = some y->y.op.qp=false->i<=j->j<m->y.op.qt=true\/(pK x.op y.op=true/\Jh i x 0 xs=true):=λj y l n hle h=>by
    apply Classical.byContradiction;intro hno;have ajo:y.op.qt=false:=by
     cases hq:y.op.qt with
     |false=>rfl
     |true=>exact absurd (.inl hq) hno
    have ajn:(pK x.op y.op&&Jh i x 0 xs)=false:=by
     cases hq:(pK x.op y.op&&Jh i x 0 xs)with
     |false=>rfl
     |true=>rw[aC]at hq;exact absurd (.inr hq) hno
    rw[M j y l n,E j y l (by
     simp only[kM,n,X,H,z,ajo,ef,gM,dQ,Bool.and_false];rw[<-Bool.and_assoc,ajn];simp)]at h
    simp at h;omega
   have G:m<=i\/(kQ ((f i).e q0) ((f i).e t0)=true->∀cs,iC (f i).h ((f i).e t0)=some cs->iC (f m).h ((f i).e t0)=some cs):=by
    rcases fK m i with F | F
    .exact .inl F
    .right;intro K
     exact HR (hk:=hk) (hfe:=λk hk1 hk2 hfz=>by
      rw[hfe k aa,hfe i aa]
      exact qz D λq y hq SS=>by
       rcases Fz xs 0 hfz q y hq with h | h
       .rw[b8]at h;simp only[decide_eq_decide];omega
       .exact absurd hq0 (h q0 SS)) K m F Q λj y l h1 h2 n=>by
      rcases U j y l n h1 h2 with h | ⟨h,h'⟩
      .exact .inl h
      .rw[r]at h;exact .inr ⟨h,h'⟩
   have e3:step1 Γ x ⟨eS xs val s.e L,(f m).h⟩=some (val i,(f m).h):=by
    rcases G with F | G
    .have hh:(f m).h=(f i).h:=oU (λk x hx=>(hk k x hx).1) m i Q aa λj y l n=>⟨λh=>aa,early j y l n⟩
     have e2:=pz N e1;rw[hh,e1,e2]
    .refine GK r e1 λK cs hc=>?_
     rw[A t0 ht0]at hc K⊢;rw[A q0 hq0]at K;exact G K cs hc
   refine⟨m,e3,Q,λj y l n=>?_⟩
   rw[M j y l n]
   constructor
   .exact .inr
   .rintro(rfl | h)
    .rw[hx]at l;cases l;rw[N]at n;cases n
    .exact h
  have W:∀y,pK x.op y=false:=λy=>by
   cases hq:pK x.op y with
   |false=>rfl
   |true =>
    exfalso;apply hL;unfold pK at hq;split at hq
    .exact⟨_,_,_,_,by assumption⟩
    .cases hq
  by_cases sP:x.op.Hr=true
  .have N:x.op.qp=true:=by
    cases r:x.op<;>rw[r]at sP<;>first | (cases sP;done) | rfl
   have e1:step1 Γ x ⟨eS xs val s.e L,(f i).h⟩=some (val i,(f (i+1)).h):=by rw[lE A];exact O
   have early:x.op.Fk=false->∀(j:Nat)(y:AI),xs[j]? = some y->y.op.qp=false->j<i->j<m:=λhp j y l n T=>by
    rw[M j y l n,E j y l (by simp[kM,n,X,H,z,W,hp];exact .inr (.inr (Nat.le_of_lt T)))];simpa using T
   have Xt:∀(j:Nat)(y:AI),xs[j]? = some y->y.op.qp=false->y.op.qt=false->j<i->j<m:=λj y l n Y T=>by
    rw[M j y l n,E j y l (by simp[kM,n,X,H,z,Y,W])];simpa using T
   have U:∀(j:Nat)(y:AI),xs[j]? = some y->y.op.qp=false->y.op.qt=false->i<=j->¬j<m:=λj y l n Y hle h=>by
    rw[M j y l n,E j y l (by simp[kM,n,X,H,z,Y,W])]at h
    simp at h;omega
   have e3:step1 Γ x ⟨eS xs val s.e L,(f m).h⟩=some (val i,(f m).h):=by
    rcases fK m i with F | F
    .cases hp:x.op.Fk with
     |false =>
      have hh:(f m).h=(f i).h:=oU (λk x hx=>(hk k x hx).1) m i Q aa λj y l n=>⟨λh=>aa,early hp j y l n⟩
      have e2:=pz N e1;rw[hh,e1,e2]
     |true =>
      obtain⟨sz,agg,t0,r⟩:∃sz agg t0,x.op = .load sz agg (.t t0):=by
       unfold j5.Fk at hp;split at hp
       .exact⟨_,_,_,by assumption⟩
       .cases hp
      let⟨bs,hb⟩:=zH (λk x hx=>(hk k x hx).1) m i F aa λj y l h1 h2 n=>by
       cases Y:y.op.qt with
       |true=>rfl
       |false=>have:=Xt j y l n Y h2;omega
      rw[hb]at e1;exact JM r (λb v i o he=>adN t0 (by unfold AI.reads;rw[r];simp[j5.ops]) b v i o he) e1
    .let⟨bs,hb⟩:=zH (λk x hx=>(hk k x hx).1) i m F Q λj y l h1 h2 n=>by
      cases Y:y.op.qt with
      |true=>rfl
      |false=>exact absurd h2 (U j y l n Y h1)
     rw[hb];exact LV sP e1 bs
   refine⟨m,e3,Q,λj y l n=>?_⟩
   rw[M j y l n]
   constructor
   .exact .inr
   .rintro(rfl | h)
    .rw[hx]at l;cases l;rw[N]at n;cases n
    .exact h
  have sP:x.op.Hr=false:=by simpa using sP
  have hh:(f m).h=(f i).h:=oU (λk x hx=>(hk k x hx).1) m i Q aa λj y l n=>by
   rw[M j y l n,E j y l (by simp[kM,n,X,H,z,sP,W])];simp
  have e1:step1 Γ x ⟨eS xs val s.e L,(f m).h⟩=some (val i,(f (i+1)).h):=by rw[hh,lE A];exact O
  by_cases hR:x.op.qp=true
  .have e2:=pz hR e1;refine⟨m,by rw[e1,e2],Q,λj y l n=>?_⟩
   rw[M j y l n]
   constructor
   .exact .inr
   .rintro(rfl | h)
    .rw[hx]at l;cases l;rw[hR]at n;cases n
    .exact h
  .refine⟨i+1,e1,aa,λj y l n=>?_⟩
   have h2:=E j y l (by simp[kM,n,X,H,z,sP,W])
   rw[h2];simp only[decide_eq_true_eq];omega
def lup{A:Array Bool}{c:Nat}(h:i<A.size)(o:A.getD i false=false)(n:A.toList.count false=c+1):
  ∃B,B=A.setIfInBounds i true/\(∀j,B.getD j false=true↔(j=i\/A.getD j false=true))/\B.size=A.size/\B.toList.count false=c/\∀j,i≠j->B.getD j false=A.getD j false:=by
 refine⟨_,rfl,λj=>?_,ah,?_,λj l=>getD_set_ne false l⟩
 .by_cases b:j=i
  .subst b;simp[h]
  .rw[getD_set_ne false (λe=>b e.symm)];simp[b]
 .rw[eE,List.count_set (ak h)]
  simp_all
def xE(hΓ:js P Γ){W:aA}(QJ:∀x∈xs,∀t,x.dst=some t->W t=true){ops:Array Oper}{Q:Exit->Act->World->Prop}(ok:ku P n ops.toList ops.toList xs=true){pre:au}{D0:aA}(z:∀(i:Nat)(o:Oper),ops[i]? = some o->∀e∈o.after,Region.binds .any e=true->e.on<i)(ZI:OV ops pre D0)(okr:uI pre xs 0 xs=true)
  {s s':St} {f:Nat->St} (f0:f 0=s) (fn:f xs.length=s') (hk:∀(k:Nat)(x:AI),xs[k]? = some x->step1 Γ x (f k)=some (val k,(f (k+1)).h)/\(f (k+1)).e=(St.put ⟨(f k).e,(f (k+1)).h⟩ x.dst (val k)).e)
  {β0:iW} {w0:World} {a0:Act} (k:∀a' w' β',Rel Z β' s'.h w'->Fr Z β0 s.h w0 β' s'.h w'->iP Z β' s'.h w' s'.e a' n->iM W a0 a'->Q .normal a' w') :
  ∀(q:Nat)(listed:Array Bool)(a:Act)(w:World)(β:iW)(m:Nat),listed.size=ops.size->listed.toList.count false=q->m<=xs.length->
   (∀i,D0 i=true->listed.getD i false=true)->
   (∀j i,listed.getD j false=true->(pre.getD j 0).testBit i=true->listed.getD i false=true)->
   (∀(j:Nat)(x:AI),xs[j]? = some x->x.op.qp=false->(j<m↔listed.getD j false=true))->
   Rel Z β (f m).h w->Fr Z β0 s.h w0 β (f m).h w->iP Z β (f m).h w (eS xs val s.e λj=>listed.getD j false) a n->iM W a0 a->wpAny P .any ops Q q listed a w:=by
 let⟨hlen,Nu⟩:=qV _ _ ok;have hlen':ops.size=xs.length:=by simpa using hlen
 have G:=rZ xs 0 okr;have D:Lf xs:=by
  intro i j x y t hx hy Lm SS;have:=G i x hx j y hy;unfold r6 at this;simp only[bP,aC,decide_eq_true_eq,b8]at this
  grind[CI]
 have hfe:∀i,i<=xs.length->(f i).e=eS xs val s.e λj=>decide (j<i):=by
  intro i
  induction i with
  |zero =>
   intro _;rw[f0]
   funext t
   grind[Ds]
  |succ i ih =>
   intro hi;have hx:xs[i]? = some xs[i]:=aF aa
   rw[(hk i _ hx).2,ih aa]
   refine(Ab D hx ah (λj hj=>?_) _).symm
   grind
 intro q
 have done:∀(listed:Array Bool)(a:Act)(w:World)(β:iW)(m:Nat),m<=xs.length->(∀j,j<ops.size->listed.getD j false=true)->
   (∀(j:Nat)(x:AI),xs[j]? = some x->x.op.qp=false->(j<m↔listed.getD j false=true))->
   Rel Z β (f m).h w->Fr Z β0 s.h w0 β (f m).h w->iP Z β (f m).h w (eS xs val s.e λj=>listed.getD j false) a n->iM W a0 a->Q .normal a w:=by
  intro listed a w β m T l U R F E hd;have N:∀(j:Nat)(x:AI),xs[j]? = some x->j<xs.length:=λj x hx=>(az.1 hx).1
  have hh:(f m).h=s'.h:=by
   rw[oU (λk x hx=>(hk k x hx).1) m xs.length T (aT _) λj x hx hr=>by
    rw[U j x hx hr];have:=N j x hx;exact⟨λ_=>this,λ_=>l j aa⟩,fn]
  have he:(eS xs val s.e λj=>listed.getD j false)=s'.e:=by
   rw[<-fn,hfe xs.length (aT _)]
   funext t
   grind[qz]
  grind
 induction q with
 |zero =>
  intro listed a w β m K r T hD0 hcl U R F E hd;have l:∀j,j<ops.size->listed.getD j false=true:=by
   intro j hj;have hjl:j<listed.size:=aa
   have h0:=dH.1 r;have hmem:listed[j]∈listed.toList:=ah
   cases hq:listed[j]with
   |true=>simp[hjl,hq]
   |false=>grind
  refine⟨?_,done listed a w β m T l U R F E hd⟩;apply fh.2;intro i hi;let⟨h1,o,ho,_⟩:=mem_ready.1 hi
  grind
 |succ q ih =>
  intro listed a w β m K r T hD0 hcl U R F E hd;refine⟨λh0=>done listed a w β m T (tD K z h0) U R F E hd,λi hi=>?_⟩
  let⟨h1,o,ho,l⟩:=mem_ready.1 hi;have hio:i<ops.size:=(aH.1 ho).1;have hil:i<listed.size:=aa
  have SZ:i<xs.length:=aa
  have hx:xs[i]? = some xs[i]:=aF SZ;generalize hxi:xs[i]=x at hx;have HA:listed.getD i false=false:=by grind
  have Nr:∀j,(pre.getD i 0).testBit j=true->listed.getD j false=true :=
   ZI i o (λj=>listed.getD j false) (ak ho) (by
    grind) l hcl
  have Y:∀(j:Nat)(y:AI),xs[j]? = some y->kM (Jh i x 0 xs) i j x y=true->listed.getD j false=decide (j<i):=by
   intro j y hy hc;have:=G i x hx j y hy;unfold r6 at this;simp only[bP,aC,decide_eq_true_eq,b8]at this
   grind[ordered]
  let⟨m',M,hm',hW'⟩:=As D hk f0 (L:=λj=>listed.getD j false) hx T HA U Y λt _ b v i o he=>by
   have H:=E.2 t;rw[he]at H;generalize a.tmps.getD t Go.undef=u at H
   rcases dA b (f m).h.length with N | hge
   .exact N
   .cases H with
    |pure _ _ H=>cases H
    |ptr _ _ _ _ bd c h1 h2=>rw[R.fresh b v hge]at h1;cases h1
  have hok:=Nu i o x (ak ho) hx
  unfold wpOp;simp only[ho];refine qa (s:=⟨eS xs val s.e λj=>listed.getD j false,(f m).h⟩) R hΓ E hok M λu w' β' R' F' H=>?_
  let⟨B,hB,A,X,O,hne⟩:=lup hil HA r;rw[<-hB];refine ih B (a.put x.dst u) w' β' m' (X.trans K) O hm' (λj hj=>(A j).2 (.inr (hD0 j hj))) ?_ (λj y hy hr=>by grind) R' (F.trans F') ?_ (hd.trans (iM.put a x.dst u (QJ x (bE hx))))
  .grind
  .have hd2:(mz x.dst).all (λt=>decide (t<n))=true:=by
    unfold wk at hok
    grind
   have:=(E.fr F').JX hd2 H;rw[<-Ab (S':=λj=>B.getD j false) D hx ((A i).2 (.inl rfl)) (λj hj=>by rw[hne _ (λe=>hj e.symm)]) (f m').h]at this
   exact this
end
def Al(p:aA):∀(n j:Nat),(bitsOf p n).testBit j=(decide (j<n)&&p j)
 |0,j=>by simp[bitsOf]
 |n+1,j=>by
  have b:=Al p n j;rw[bitsOf]
  by_cases l:j=n
  .subst l;cases i:p j with
   |true=>simp[gF,Nat.testBit_two_pow_self]
   |false=>simp[b,i]
  .have h1:decide (j<n+1)=decide (j<n):=by rw[decide_eq_decide];omega
   rw[h1];cases i:p n with
   |true =>
    have:(2 ^ n).testBit j=false:=by rw[Nat.testBit_two_pow];simp;omega
    simp[gF,b,this]
   |false=>simp[b]
section
variable{P:Program}{Z:ay}{Γ:ja}{β:iW}{h:AH}{w:World}
structure FrZ(Z:ay)(β:iW)(h:AH)(w:World)(Z':ay)(β':iW)(h':AH)(w':World):Prop where
 kJ:∀b,b<w.heap.size->Z b->w'.heap[b]? = w.heap[b]?
 os:w'.os=w.os
 tape:w'.tape=w.tape
 output:w'.output=w.output
 ext:∀i v bd,β i v=some bd->β' i v=some bd
 stay:jJ (Own Z β h) w (Own Z' β' h') w'
def FrZ.tr{l:ay}{β1 β':iW}{h1 h':AH}{n w':World}(F:FrZ Z β h w l β1 h1 n)(r:∀b,Z b->l b)(G:Fr l β1 h1 n β' h' w'):FrZ Z β h w l β' h' w' :=
 ⟨λb q o=>(G.kJ b (br q F.stay.1) (r b o)).trans (F.kJ b q o),G.os.trans F.os,G.tape.trans F.tape,G.output.trans F.output,λi v bd e=>G.ext i v bd (F.ext i v bd e),F.stay.trans G.stay⟩
def ZC(Z:ay)(c:Nat):Nat->Prop:=λb=>Z b\/b=c
def MF(R:Rel Z β h w)(o:Obj):Rel (ZC Z w.heap.size) β h (w.alloc o)/\FrZ Z β h w (ZC Z w.heap.size) β h (w.alloc o):=by
 have l:jJ (Own Z β h) w (Own (ZC Z w.heap.size) β h) (w.alloc o):=by
  refine⟨ah,λb v y=>⟨heap_alloc_old w o b v,?_⟩⟩
  rintro((q | rfl) | n)
  .exact y (.inl q)
  .omega
  .exact y (.inr n)
 refine⟨⟨?_,?_,R.fresh,R.later,λi X x=>(R.blk i X x).mono l (λ_ _ _ e=>e) (λc r=>heap_alloc_old w o c (R.mS ⟨X,x,r⟩)),R.apart,R.gl.stay l⟩,⟨λb v _=>heap_alloc_old w o b v,rfl,rfl,rfl,λ_ _ _ e=>e,l⟩⟩
 .rintro c (r | rfl)
  .have:=R.xlt c r;simp;omega
  .simp
 .rintro i c n (q | rfl)
  .exact R.yC i c n q
  .have:=R.mS n;omega
def Ld{c:Nat}(R:Rel (ZC Z c) β h w)(b:¬Z c){cs:List AV}{vs:List Value}{elem:TypeId}(q:w.heap[c]? = some (.cells vs.toArray elem (0,0)))(hl:cs.length=vs.length)
  (h1:∀u∈vs,u.oneCell'=true) (h2:∀O w,∀(j:Nat)(y:AV)(u:Value),cs[j]? = some y->vs[j]? = some u->mM O w y u) :
  ∃β',Rel Z β' (h++[.var cs]) w/\(∀i v bd,β i v=some bd->β' i v=some bd)/\jJ (Own (ZC Z c) β h) w (Own Z β' (h++[.var cs])) w/\VR β' (Own Z β' (h++[.var cs])) w (.ptr h.length 0 0 0) (.pointer (some ⟨c,0,none⟩)):=by
 let⟨q1,o,n⟩:=R.SC (X:=.var cs) (bd:=⟨some c,0,cs.length,cs.length,elem⟩) (w':=w) (λ_=>.inl) rfl ah (λ_ e=>by cases e;exact .inr ⟨.inr rfl,b⟩) (aT _) (λ_ _=>rfl) λ_=>by
  refine⟨c,vs.toArray,elem,ah,q,by simp[hl],λk y l=>?_⟩
  have hk:k<vs.length:=by rw[<-hl];exact(az.1 l).1
  exact⟨vs[k],by simp[hk],h1 _ (aU hk),.pure _ _ (h2 _ _ k y vs[k] l (by simp[hk]))⟩
 exact⟨_,q1,n,o,by simpa using VR.ptr (w:=w) h.length 0 0 0 ⟨some c,0,cs.length,cs.length,elem⟩ c (if_pos ⟨rfl,rfl⟩) rfl⟩
end
variable{q n:Nat}
section
variable{P:Program}{Z:ay}{Γ:ja}{xs:List AI}{val:Nat->AV}
def oH{pre:au}(l:q<pre.length)(i j:Nat):((MD pre xs q).getD i 0).testBit j=((pre.getD i 0).testBit j||(decide (i=q)&&(decide (j<q)&&Po xs j))):=by
 unfold MD
 by_cases b:i=q
 .subst b;have:(pre.set i (pre.getD i 0 ||| bitsOf (Po xs) i)).getD i 0=pre.getD i 0 ||| bitsOf (Po xs) i:=by simp[l]
  rw[this,gF,Al];simp
 .have:(pre.set q (pre.getD q 0 ||| bitsOf (Po xs) q)).getD i 0=pre.getD i 0:=by
   rw[bK,aL (λe=>b e.symm),<-bK]
  rw[this];simp[b]
structure QOK(pre:au)(xs:List AI)(q d:Nat)(zero:List AV):Prop where
 lt:q<pre.length
 at_:xs[q]? = some ⟨some d,none,.alloc zero⟩
 rows:uI (MD pre xs q) xs 0 xs=true
 cls:∀(i:Nat)(x:AI),xs[i]? = some x->i≠q->(pre.getD i 0).testBit q=true\/d∈x.reads->∀(j:Nat)(y:AI),xs[j]? = some y->y.op.qp=false->j<q->(pre.getD i 0).testBit j=true
def BC:∀(l:List Oper)(b:au),(oK b l).length=b.length+l.length
 | [],b=>rfl
 |o::l,b=>by rw[oK,BC l];simp;omega
def J6{ops:List Oper}{xs:List AI}(hl:ops.length=xs.length)(h:G9 q ops xs=true):xz (oK [] ops) 0 ops=true/\∃d zero,QOK (oK [] ops) xs q d zero:=by
 unfold G9 at h;simp only[aC]at h;let⟨⟨h1,h2⟩,h3⟩:=h;refine⟨h1,?_⟩;split at h3
 case h_2=>cases h3
 rename_i d zero hx;refine⟨d,zero,by rw[BC];have:=(az.1 hx).1;simp;omega,hx,h2,λi x r o l j y A z n=>?_⟩
 rw[aJ]at h3;have:=h3 i (eV.2 (az.1 r).1);rw[r]at this;simp only[bP,aC,decide_eq_true_eq,o,false_or,cG,cD,aJ,eV]at this
 rcases this with⟨v,t2⟩ | this
 .rcases l with b | b
  .rw[v]at b;cases b
  .rw[gu.2 b]at t2;cases t2
 .have:=this j n;unfold Po at this;rw[A]at this
  simpa[z]using this
variable{β:iW}{w:World}
def Mw(a:Act){t z:Nat}(u:Value)(h:z≠t):(a.put (some t) u).tmps.getD z Go.undef=a.tmps.getD z Go.undef:=by
 simp only[Act.put];rw[aO,fB,if_neg (λe=>h e.symm),<-aO]
def P5{o:Oper}{zero:List AV}(ok:ua P o.op (.alloc zero)=true){a:Act}{next:Act->World->Prop}{Q:Exit->Act->World->Prop}
  (K:∀(vs:List Value)(t:TypeId),zero.length=vs.length->(∀u∈vs,u.oneCell'=true)->(∀O w,∀(j:Nat)(y:AV)(u:Value),zero[j]? = some y->vs[j]? = some u->mM O w y u)->
   next (a.put o.dst (.pointer (some ⟨w.heap.size,0,none⟩))) (w.alloc (.cells vs.toArray t (0,0)))):o.wp P a w next Q:=by
 let⟨dst,op,type,pos,after,guard⟩:=o;dsimp only at ok;unfold ua at ok;split at ok<;>rename_i heq<;>first | (cases ok;done) | (cases heq;done) | skip
 all_goals first | (cases heq;done) | skip
 cases heq;let⟨i,z,v,n,b⟩:=qG ok;let⟨q1,l,_,_⟩:=nW (O:=λ_=>False) (w:=w) b
 unfold Oper.wp;simp[execOp,Instr.alloc,iF v n,newVar,newRow,Oper.upon];have h:=K z.cells.toList;simp only[dy]at h;exact h _ q1 l λO w j y u q r=>(nW (O:=O) (w:=w) b).2.2.1 j y u q r
def afG(hΓ:js P Γ){W:aA}(QJ:∀x∈xs,∀t,x.dst=some t->W t=true){ops:Array Oper}{Q:Exit->Act->World->Prop}(ok:ku P n ops.toList ops.toList xs=true){pre:au}(Hz:∀(i:Nat)(o:Oper),ops[i]? = some o->∀e∈o.after,Region.binds .any e=true->e.on<i)(ZI:OV ops pre (λ_=>false)){d:Nat}{zero:List AV}(K:QOK pre xs q d zero)
  {s s':St} {f:Nat->St} (f0:f 0=s) (fn:f xs.length=s') (hk:∀(k:Nat)(x:AI),xs[k]? = some x->step1 Γ x (f k)=some (val k,(f (k+1)).h)/\(f (k+1)).e=(St.put ⟨(f k).e,(f (k+1)).h⟩ x.dst (val k)).e)
  {β0:iW} {w0:World} {a0:Act} (k:∀a' w' β',Rel Z β' s'.h w'->Fr Z β0 s.h w0 β' s'.h w'->iP Z β' s'.h w' s'.e a' n->iM W a0 a'->Q .normal a' w') :
  ∀(l:Nat)(listed:Array Bool)(a:Act)(w:World)(β:iW)(m:Nat),listed.size=ops.size->listed.toList.count false=l->m<=xs.length->listed.getD q false=false->
   (∀j i,listed.getD j false=true->(pre.getD j 0).testBit i=true->listed.getD i false=true)->
   (∀(j:Nat)(x:AI),xs[j]? = some x->x.op.qp=false->(j<m↔listed.getD j false=true))->
   Rel Z β (f m).h w->Fr Z β0 s.h w0 β (f m).h w->iP Z β (f m).h w (eS xs val s.e λj=>listed.getD j false) a n->iM W a0 a->wpAny P .any ops Q l listed a w:=by
 let⟨hlen,Nu⟩:=qV _ _ ok;have hlen':ops.size=xs.length:=by simpa using hlen
 have hrow:=rZ xs 0 K.rows;have D:Lf xs:=by
  intro i j x y t hx G Lm SS;have:=hrow i x hx j y G;unfold r6 at this;simp only[bP,aC,decide_eq_true_eq,b8]at this
  rcases this with h | ⟨h,_⟩
  .exact h
  .simp[CI,Lm,SS]at h
 have QG:=K.at_;have hql:q<xs.length:=(az.1 QG).1;have hdq:∀(i:Nat)(x:AI),xs[i]? = some x->i≠q->x.dst≠some d:=λi x hx hi e=>hi (D i q x _ d hx QG e rfl)
 obtain⟨hvq,hfq⟩:val q = .ptr (f q).h.length 0 0 0/\(f (q+1)).h=(f q).h++[.var zero]:=by
  have:=(hk q _ QG).1;simp only[step1,exec,aP,Prod.mk.injEq]at this;exact⟨this.1.symm,this.2.symm⟩
 have ake:=λo (ho:ops[q]? = some o)=>Nu q o _ (ak ho) QG
 have fin:∀(l:Nat)(listed:Array Bool)(a:Act)(w:World)(β:iW)(m:Nat),listed.size=ops.size->listed.toList.count false=l->m<=xs.length->listed.getD q false=true->
   (∀(j:Nat)(y:AI),xs[j]? = some y->y.op.qp=false->j<q->listed.getD j false=true)->
   (∀j i,listed.getD j false=true->(pre.getD j 0).testBit i=true->listed.getD i false=true)->
   (∀(j:Nat)(x:AI),xs[j]? = some x->x.op.qp=false->(j<m↔listed.getD j false=true))->
   Rel Z β (f m).h w->Fr Z β0 s.h w0 β (f m).h w->iP Z β (f m).h w (eS xs val s.e λj=>listed.getD j false) a n->iM W a0 a->wpAny P .any ops Q l listed a w:=by
  intro l listed a w β m N M hm hq hall hcl hW R F E hd;refine xE hΓ QJ ok (pre:=MD pre xs q) (D0:=λi=>decide (i=q)) Hz ?_ K.rows f0 fn hk k l listed a w β m N M hm ?_ ?_ hW R F E hd
  .intro i o L ho hi Fs X j hj;have hi:i≠q:=by simpa using hi
   rw[oH K.lt,decide_eq_false hi,dQ,eO]at hj;exact ZI i o L ho rfl Fs (λj k hL hb=>X j k hL (by rw[oH K.lt,hb,Bool.true_or])) j hj
  .intro i hi;obtain rfl:i=q:=by simpa using hi
   exact hq
  .intro j i hj hb;rw[oH K.lt]at hb;simp only[bP,aC,decide_eq_true_eq]at hb
   rcases hb with hb | ⟨rfl,A,hw⟩
   .exact hcl j i hj hb
   .unfold Po at hw;cases G:xs[i]? with
    |none=>rw[G]at hw;cases hw
    |some y=>rw[G]at hw;exact hall i y G (ak hw) A
 have Nr:∀(listed:Array Bool)(i:Nat)(o:Oper),ops[i]? = some o->(∀e∈o.after,Region.binds .any e=true->listed.getD e.on false=true)->
   (∀j i,listed.getD j false=true->(pre.getD j 0).testBit i=true->listed.getD i false=true)->∀j,(pre.getD i 0).testBit j=true->listed.getD j false=true :=
  λlisted i o ho hall hcl=>ZI i o (λj=>listed.getD j false) ho rfl hall hcl
 have S6:∀(listed:Array Bool)(j:Nat),listed.size=ops.size->listed.toList.count false=0->j<xs.length->listed.getD j false=false->False:=by
  intro listed j N M hj hf;have hjl:j<listed.size:=aa
  have h0:=dH.1 M;have hmem:listed[j]∈listed.toList:=ah
  simp[hjl]at hf;rw[hf]at hmem;exact h0 hmem
 have early : ∀ (l : Nat) (listed : Array Bool) (a : Act) (w : World) (β : iW) (m c : Nat) (vs : List Value) (t : TypeId), listed.size = ops.size -> listed.toList.count false = l -> m <= xs.length -> listed.getD q false = true ->
   (∃(j:Nat) (y:AI),xs[j]? = some y/\y.op.qp=false/\j<q/\listed.getD j false=false)->
   (∀j i,listed.getD j false=true->(pre.getD j 0).testBit i=true->listed.getD i false=true)->
   (∀(j:Nat)(x:AI),xs[j]? = some x->x.op.qp=false->(j<m↔(!decide (j=q)&&listed.getD j false)=true))->
   zero.length=vs.length->(∀u∈vs,u.oneCell'=true)->(∀O w,∀(j:Nat)(y:AV)(u:Value),zero[j]? = some y->vs[j]? = some u->mM O w y u)->¬Z c->w.heap[c]? = some (.cells vs.toArray t (0,0))->a.tmps.getD d Go.undef = .pointer (some ⟨c,0,none⟩)->
   Rel (ZC Z c) β (f m).h w->FrZ Z β0 s.h w0 (ZC Z c) β (f m).h w->iP (ZC Z c) β (f m).h w ((eS xs val s.e λj=>!decide (j=q)&&listed.getD j false).put d .dead) a n->iM W a0 a->wpAny P .any ops Q l listed a w:=by
  intro l
  induction l with
  |zero =>
   intro listed a w β m c vs t N M hm hq hex;let⟨j,y,G,_,_,hl⟩:=hex;exact absurd (S6 listed j N M (az.1 G).1 hl) id
  |succ l ih =>
   intro listed a w β m c vs t N M hm hq hex hcl hW hz1 Hw hz3 Wz Fq hda R F E hd;let⟨j0,y0,hy0,SV,hj0,hl0⟩:=hex;refine⟨λh0=>?_,λi hi=>?_⟩
   .have:=tD N Hz h0 j0 (by have:=(az.1 hy0).1;omega)
    rw[hl0]at this;cases this
   let⟨h1,o,ho,hall⟩:=mem_ready.1 hi;have hio:i<ops.size:=(aH.1 ho).1;have hil:i<listed.size:=aa
   have SZ:i<xs.length:=aa
   have hx:xs[i]? = some xs[i]:=aF SZ;generalize hxi:xs[i]=x at hx;have HA:listed.getD i false=false:=by simp[hil]at h1⊢;exact h1
   have A:i≠q:=λe=>by rw[e,hq]at HA;cases HA
   have hwt:=Nr listed i o ho hall hcl
   have hfree:(pre.getD i 0).testBit q=false/\d∉x.reads:=by
    have hno:¬((pre.getD i 0).testBit q=true\/d∈x.reads):=λhor=>by
     have:=hwt j0 (K.cls i x hx A hor j0 y0 hy0 SV hj0);rw[hl0]at this;cases this
    exact⟨by cases hb:(pre.getD i 0).testBit q with | false=>rfl | true=>exact absurd (.inl hb) hno,λh=>hno (.inr h)⟩
   have Nt:∀(j:Nat)(y:AI),xs[j]? = some y->kM (Jh i x 0 xs) i j x y=true->(!decide (j=q)&&listed.getD j false)=decide (j<i):=by
    intro j y G hc;have:=hrow i x hx j y G;unfold r6 at this;simp only[bP,aC,decide_eq_true_eq,b8]at this
    rcases this with h | ⟨_,h⟩
    .subst h;rw[HA];simp
    .rcases h with h | h
     .rw[hc]at h;cases h
     .unfold ordered at h;split at h
      .rename_i T;rw[oH K.lt,decide_eq_false A,dQ,eO]at h;have H:j≠q:=λe=>by rw[e,hfree.1]at h;cases h
       rw[hwt j h];simp[H,T]
      .rename_i T
       by_cases H:j=q
       .simp[H];have:¬q<i:=λe=>T (H▸e)
        omega
       .rw[oH K.lt,decide_eq_false H,dQ,eO]at h;cases hS:listed.getD j false with
        |false=>simp[T]
        |true =>
         have:=hcl j i hS h;rw[HA]at this;cases this
   have hrd:∀t∈x.reads,((eS xs val s.e λj=>!decide (j=q)&&listed.getD j false).put d .dead) t=eS xs val s.e (λj=>!decide (j=q)&&listed.getD j false) t:=λt ht=>by
    unfold Env.put;rw[if_neg]
    rintro rfl
    exact hfree.2 ht
   let⟨m',hstep,hm',hW'⟩:=As D hk f0 (L:=λj=>!decide (j=q)&&listed.getD j false) hx hm (by simp[HA]) hW Nt λt ht b v i o he=>by
    have hv:=E.2 t;rw[hrd t ht,he]at hv;generalize a.tmps.getD t Go.undef=u at hv
    rcases dA b (f m).h.length with T | hge
    .exact T
    .cases hv with
     |pure _ _ hv=>cases hv
     |ptr _ _ _ _ bd c h1 h2=>rw[R.fresh b v hge]at h1;cases h1
   have Y:=Nu i o x (ak ho) hx
   unfold wpOp;simp only[ho];refine qa (s:=⟨(eS xs val s.e λj=>!decide (j=q)&&listed.getD j false).put d .dead,(f m).h⟩) R hΓ E Y (by rw[lE hrd];exact hstep) λu w' β' R' F' hv=>?_
   let⟨B,hB,r,Dg,U,hne⟩:=lup hil HA M;rw[<-hB]
   have hd2:(mz x.dst).all (λt=>decide (t<n))=true:=by
    unfold wk at Y;simp only[aC]at Y;exact Y.1.1.2
   have hq':B.getD q false=true:=(r q).2 (.inr hq)
   have X:∀j p,B.getD j false=true->(pre.getD j 0).testBit p=true->B.getD p false=true:=by
    intro j p hj hp;rw[r]at hj⊢
    rcases hj with rfl | hj
    .exact .inr (hwt p hp)
    .exact .inr (hcl j p hj hp)
   have Pf:∀(j:Nat)(y:AI),xs[j]? = some y->y.op.qp=false->(j<m'↔(!decide (j=q)&&B.getD j false)=true):=λj y G hr=>by
    rw[hW' j y G hr];simp only[aC,r,cD,decide_eq_false_iff_not]
    constructor
    .rintro(rfl | ⟨h1,h2⟩)
     .exact⟨A,.inl rfl⟩
     .exact⟨h1,.inr h2⟩
    .rintro⟨h1,h2 | h2⟩
     .exact .inl h2
     .exact .inr ⟨h1,h2⟩
   have adY:w'.heap[c]? = some (.cells vs.toArray t (0,0)):=(F'.kJ c ((aH.1 Fq).1) (.inr rfl)).trans Fq
   have adX:(a.put x.dst u).tmps.getD d Go.undef = .pointer (some ⟨c,0,none⟩):=by
    rw[<-hda];cases Lm:x.dst with
    |none=>rfl
    |some t=>exact Mw a u (λe=>hdq i x hx A (by rw[Lm,e]))
   have F2:=F.tr (λb hb=>.inl hb) F'
   have E2:iP (ZC Z c) β' (f m').h w' ((eS xs val s.e λj=>!decide (j=q)&&B.getD j false).put d .dead) (a.put x.dst u) n:=by
    have:=(E.fr F').JX hd2 hv;have e1:=Ab (val:=val) (e0:=s.e) (S:=λj=>!decide (j=q)&&listed.getD j false) (S':=λj=>!decide (j=q)&&B.getD j false) D hx (by rw[(r i).2 (.inl rfl)];simp[A]) (λj hj=>by rw[hne _ (λe=>hj e.symm)]) (f m').h
    rw[e1]
    have e2:∀(e:Env),(St.put ⟨e.put d .dead,(f m').h⟩ x.dst (val i)).e=((St.put ⟨e,(f m').h⟩ x.dst (val i)).e).put d .dead:=by
     intro e;cases Lm:x.dst with
     |none=>rfl
     |some t =>
      funext z
      have htd:t≠d:=λh=>hdq i x hx A (by rw[Lm,h])
      simp only[St.put,Env.put]
      by_cases hz:z=d
      .subst hz;simp[Ne.symm htd]
      .simp[hz]
    rw[e2]at this;exact this
   have hK:=hd.trans (iM.put a x.dst u (QJ x (bE hx)))
   by_cases hex':∃(j:Nat) (y:AI),xs[j]? = some y/\y.op.qp=false/\j<q/\B.getD j false=false
   .exact ih B (a.put x.dst u) w' β' m' c vs t (Dg.trans N) U hm' hq' hex' X Pf hz1 Hw hz3 Wz adY adX R' F2 E2 hK
   have Fs:∀(j:Nat)(y:AI),xs[j]? = some y->y.op.qp=false->j<q->B.getD j false=true:=λj y G hr hj=>by
    cases hb:B.getD j false with
    |true=>rfl
    |false=>exact absurd ⟨j,y,G,hr,hj,hb⟩ hex'
   have hqm:¬q<m':=λh=>by
    have:=(Pf q _ QG rfl).1 h;simp at this
   have hh:(f m').h=(f q).h:=oU (λk x hx=>(hk k x hx).1) m' q hm' aa λj y G hr=>by
    rw[Pf j y G hr];simp only[aC,cD,decide_eq_false_iff_not]
    constructor
    .rintro⟨h1,h2⟩
     have:=(Pf j y G hr).2 (by simp[h1,h2])
     omega
    .intro h;exact⟨aa,Fs j y G hr h⟩
   obtain⟨β2,R2,x2,o2,v2⟩:=Ld R' Wz adY hz1 Hw hz3;have hf2:(f (q+1)).h=(f m').h++[.var zero]:=by rw[hfq,hh]
   refine fin l B (a.put x.dst u) w' β2 (q+1) (Dg.trans N) U aa hq' Fs X (λj y G hr=>?_) (by rw[hf2];exact R2) ?_ ?_ hK
   .constructor
    .intro h
     rcases dA j q with h1 | h1
     .exact Fs j y G hr h1
     .obtain rfl:j=q:=by omega
      exact hq'
    .intro h
     rcases dA q j with h1 | h1
     .have:=(Pf j y G hr).2 (by simp[h];omega)
      omega
     .omega
   .rw[hf2];exact⟨F2.kJ,F2.os,F2.tape,F2.output,λi v bd e=>x2 i v bd (F2.ext i v bd e),F2.stay.trans o2⟩
   .rw[hf2];refine⟨E2.1,λz=>?_⟩
    by_cases hz:z=d
    .subst hz;rw[adX,Oa D QG rfl hq',hvq,<-hh];exact v2
    .have e3:eS xs val s.e (λj=>B.getD j false) z=((eS xs val s.e λj=>!decide (j=q)&&B.getD j false).put d .dead) z:=by
      unfold Env.put;rw[if_neg hz];refine qz D λj y G SS=>?_
      have H:j≠q:=by
       rintro rfl
       rw[QG]at G;cases G;cases SS;exact hz rfl
      simp[H]
     rw[e3];exact(E2.2 z).mono x2 o2
 intro l
 induction l with
 |zero =>
  intro listed a w β m N M hm hq;exact absurd (S6 listed q N M hql hq) id
 |succ l ih =>
  intro listed a w β m N M hm hq hcl hW R F E hd;refine⟨λh0=>?_,λi hi=>?_⟩
  .have:=tD N Hz h0 q aa
   rw[hq]at this;cases this
  let⟨h1,o,ho,hall⟩:=mem_ready.1 hi;have hio:i<ops.size:=(aH.1 ho).1;have hil:i<listed.size:=aa
  have SZ:i<xs.length:=aa
  have hx:xs[i]? = some xs[i]:=aF SZ;generalize hxi:xs[i]=x at hx;have HA:listed.getD i false=false:=by simp[hil]at h1⊢;exact h1
  have hwt:=Nr listed i o ho hall hcl;let⟨B,hB,r,Dg,U,hne⟩:=lup hil HA M
  have X:∀j p,B.getD j false=true->(pre.getD j 0).testBit p=true->B.getD p false=true:=by
   intro j p hj hp;rw[r]at hj⊢
   rcases hj with rfl | hj
   .exact .inr (hwt p hp)
   .exact .inr (hcl j p hj hp)
  have Y:=Nu i o x (ak ho) hx
  by_cases hpend:i=q/\∃(j:Nat) (y:AI),xs[j]? = some y/\y.op.qp=false/\j<q/\listed.getD j false=false
  ·
   let⟨A,j0,y0,hy0,SV,hj0,hl0⟩:=hpend;rw[A]at hx;rw[QG]at hx;cases hx;unfold wk at Y;simp only[aC,decide_eq_true_eq]at Y;let⟨⟨⟨ZJ,ok2⟩,DP⟩,He⟩:=Y;have hg:o.guard=none:=by
    cases hg':o.guard with
    |none=>rfl
    |some g=>rw[hg']at He;cases He
   unfold wpOp;simp only[ho];rw[if_pos (by simp[Region.wanted,hg])]
   refine .inl (P5 DP λvs t z1 z2 z3=>?_)
   rw[ZJ];let⟨R1,F1⟩:=MF R (.cells vs.toArray t (0,0));have hdn:d<a.tmps.size:=by
    rw[E.1]
    simpa[mz]using ok2
   have Wz:¬Z w.heap.size:=λh=>by have:=R.xlt _ h;omega
   have hqm:∀j,(!decide (j=q)&&B.getD j false)=listed.getD j false:=λj=>by
    by_cases H:j=q
    .rw[H,hq];simp
    .rw[hne _ (λe=>H (by rw[<-e,A]))];simp[H]
   rw[<-hB]
   refine early l B (a.put (some d) (.pointer (some ⟨w.heap.size,0,none⟩))) (w.alloc (.cells vs.toArray t (0,0))) β m w.heap.size vs t (Dg.trans N) U hm ((r q).2 (.inl A.symm)) ⟨j0,y0,hy0,SV,hj0,?_⟩ X (λj y G hr=>by rw[hqm];exact hW j y G hr) z1 z2 z3 Wz (heap_alloc_new w _) ?_ R1 ⟨λb hb hz=>(F1.kJ b (br hb F.stay.1) hz).trans (F.kJ b hb hz),F1.os.trans F.os,F1.tape.trans F.tape,F1.output.trans F.output,λi v bd e=>F1.ext i v bd (F.ext i v bd e),F.stay.trans F1.stay⟩ ?_ (hd.trans (iM.put a (some d) _ λt ht=>QJ _ (bE QG) t ht))
   .rw[hne _ (λe=>aa)];exact hl0
   .simp[Act.put,hdn]
   .refine⟨by simp[Act.put,E.1],λz=>?_⟩
    unfold Env.put
    by_cases hz:z=d
    .rw[if_pos hz];exact .dead _
    .rw[if_neg hz];have e1:(a.put (some d) (.pointer (some ⟨w.heap.size,0,none⟩))).tmps.getD z Go.undef=a.tmps.getD z Go.undef:=Mw a _ hz;rw[e1]
     have e2:eS xs val s.e (λj=>!decide (j=q)&&B.getD j false) z=eS xs val s.e (λj=>listed.getD j false) z:=by
      congr 1
      funext j
      exact hqm j
     rw[e2];exact(E.2 z).mono (λ_ _ _ e=>e) F1.stay
  have Nt:∀(j:Nat)(y:AI),xs[j]? = some y->kM (Jh i x 0 xs) i j x y=true->listed.getD j false=decide (j<i):=by
   intro j y G hc;have:=hrow i x hx j y G;unfold r6 at this;simp only[bP,aC,decide_eq_true_eq,b8]at this
   rcases this with h | ⟨_,h⟩
   .subst h;rw[HA];simp
   .rcases h with h | h
    .rw[hc]at h;cases h
    .unfold ordered at h;split at h
     .rename_i T;rw[oH K.lt]at h;simp only[bP,aC,decide_eq_true_eq]at h
      rcases h with h | ⟨A,H,hw⟩
      .rw[hwt j h];simp[T]
      .cases hb:listed.getD j false with
       |true=>simp[T]
       |false =>
        unfold Po at hw;rw[G]at hw;exact absurd ⟨A,j,y,G,ak hw,H,hb⟩ hpend
     .rename_i T
      by_cases H:j=q
      .rw[H,hq];have:¬q<i:=λe=>T (H▸e)
       simp;omega
      .rw[oH K.lt,decide_eq_false H,dQ,eO]at h;cases hS:listed.getD j false with
       |false=>simp[T]
       |true =>
        have:=hcl j i hS h;rw[HA]at this;cases this
  let⟨m',hstep,hm',hW'⟩:=As D hk f0 (L:=λj=>listed.getD j false) hx hm HA hW Nt λt _ b v i o he=>by
   have hv:=E.2 t;rw[he]at hv;generalize a.tmps.getD t Go.undef=u at hv
   rcases dA b (f m).h.length with T | hge
   .exact T
   .cases hv with
    |pure _ _ hv=>cases hv
    |ptr _ _ _ _ bd c h1 h2=>rw[R.fresh b v hge]at h1;cases h1
  unfold wpOp;simp only[ho];refine qa (s:=⟨eS xs val s.e λj=>listed.getD j false,(f m).h⟩) R hΓ E Y hstep λu w' β' R' F' hv=>?_
  rw[<-hB]
  have hd2:(mz x.dst).all (λt=>decide (t<n))=true:=by
   unfold wk at Y;simp only[aC]at Y;exact Y.1.1.2
  have E2:=(E.fr F').JX hd2 hv;rw[<-Ab (S':=λj=>B.getD j false) D hx ((r i).2 (.inl rfl)) (λj hj=>by rw[hne _ (λe=>hj e.symm)]) (f m').h]at E2
  have hK:=hd.trans (iM.put a x.dst u (QJ x (bE hx)))
  by_cases A:i=q
  .refine fin l B (a.put x.dst u) w' β' m' (Dg.trans N) U hm' ((r q).2 (.inl A.symm)) (λj y G hr hj=>?_) X (λj y G hr=>by rw[r];exact hW' j y G hr) R' (F.trans F') E2 hK
   rw[r];cases hb:listed.getD j false with
   |true=>exact .inr rfl
   |false=>exact absurd ⟨A,j,y,G,hr,hj,hb⟩ hpend
  .exact ih B (a.put x.dst u) w' β' m' (Dg.trans N) U hm' (by rw[hne _ A];exact hq) X (λj y G hr=>by rw[r];exact hW' j y G hr) R' (F.trans F') E2 hK
def TF(v:js P Γ){W:aA}(y:∀x∈xs,∀t,x.dst=some t->W t=true){ops:Array Oper}{Q:Exit->Act->World->Prop}(ok:ku P n ops.toList ops.toList xs=true)(b:CT ops.toList xs=true)
  {s s':St} (L:flat Γ xs s=some s') {a:Act} {w:World} {β:iW} (R:Rel Z β s.h w) (E:iP Z β s.h w s.e a n)
  (k:∀A w' β',Rel Z β' s'.h w'->Fr Z β s.h w β' s'.h w'->iP Z β' s'.h w' s'.e A n->iM W a A->Q .normal A w'):wpAny P .any ops Q ops.size (Array.replicate ops.size false) a {w with drawn:=w.drawn+1}:=by
 let⟨f,val,o,fn,hk⟩:=I4 xs s s' L;have z:Fr Z β s.h w β s.h {w with drawn:=w.drawn+1}:=⟨λ_ _ _=>rfl,rfl,rfl,rfl,λ_ _ _ e=>e,jJ.drew (jJ.refl _ _)⟩
 have H:Rel Z β s.h {w with drawn:=w.drawn+1}:=(R.drawn _).1
 have l:∀j,(Array.replicate ops.size false).getD j false=false:=λj=>by
  simp[eP];split<;>simp
 have G:∀(pre:au) j i,(Array.replicate ops.size false).getD j false=true->(pre.getD j 0).testBit i=true->(Array.replicate ops.size false).getD i false=true:=λpre j i F=>by rw[l]at F;cases F
 have g3:∀(j:Nat)(x:AI),xs[j]? = some x->x.op.qp=false->(j<0↔(Array.replicate ops.size false).getD j false=true):=λj x _ _=>by rw[l];simp
 have g4:(eS xs val s.e λj=>(Array.replicate ops.size false).getD j false)=s.e:=by
  funext t
  exact Ds λj x _ _=>l j
 unfold CT at b;rw[bP]at b
 rcases b with b | b
 .unfold SH at b;simp only[aC]at b;exact xE v y ok (nT b.1).2 (nT b.1).1 b.2 o fn hk (β0:=β) (w0:=w) (a0:=a) k ops.size (Array.replicate ops.size false) a _ β 0 ah ah (bp _) (λ_ h=>(by cases h)) (G _) g3 (by rw[o];exact H) (by rw[o];exact z) (by rw[o,g4];exact E.fr z) (iM.refl W a)
 .rw[ct]at b;let⟨q,_,b⟩:=b;let⟨r,d,zero,K⟩:=J6 (qV _ _ ok).1 b;exact afG v y ok (nT r).2 (nT r).1 K o fn hk (β0:=β) (w0:=w) (a0:=a) k ops.size (Array.replicate ops.size false) a _ β 0 ah ah (bp _) (l q) (G _) g3 (by rw[o];exact H) (by rw[o];exact z) (by rw[o,g4];exact E.fr z) (iM.refl W a)
end
end Go.Am
