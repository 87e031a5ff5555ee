/- Part of the proof that TopPassedCard holds. -/
import Derived.Test.YtaepagegdgdlhaaGreatDoorAmWq
import Derived.LoopN
set_option linter.all false
namespace Go.Am
structure Nw(V:aB)(Z:az)(β:kW)(h:AH)(w:World)(β':kW)(h':AH)(w':World):Prop where
 nN:∀b,b<w.heap.size->Z b->w'.heap[b]? = w.heap[b]?
 os:w'.os=w.os
 tape:w'.tape=w.tape
 output:w'.output=w.output
 ext:∀i v bd,V i=false->β i v=some bd->β' i v=some bd
 stay:lS (Own Z β h) w (Own Z β' h') w'
variable{L i:Nat}{β' β:kW}{h h':AH}
def Fr.Y2{V:aB}{Z:az}{w w':World}(f:Fr Z β h w β' h' w'):Nw V Z β h w β' h' w' :=
 ⟨f.nN,f.os,f.tape,f.output,λi v bd _ e=>f.ext i v bd e,f.stay⟩
def Nw.trans{V:aB}{Z:az}{β'':kW}{h'':AH}{w w' w'':World}(a:Nw V Z β h w β' h' w')(b:Nw V Z β' h' w' β'' h'' w''):Nw V Z β h w β'' h'' w'' :=
 ⟨λk hk hx=>(b.nN k (bT hk a.stay.1) hx).trans (a.nN k hk hx),b.os.trans a.os,b.tape.trans a.tape,b.output.trans a.output,
  λi v bd hv e=>b.ext i v bd hv (a.ext i v bd hv e),a.stay.trans b.stay⟩
section
variable{P:Program}{Z:az}{β:kW}{h:AH}{w:World}
def KL(h:AH)(i:Nat):Nat:=match h[i]? with
 |some (.row v _ _)=>v
 |some (.qa v _ _)=>v
 |_=>0
def y8(β:kW)(h:AH)(L:Nat)(R:ax):kW:=λi v=>if i<L then(if R.contains i then(if v=0 then β i (KL h i)else none)else β i v)else none
def sj(L:Nat)(R:ax)(h:AH):∀(l:AH)(k i:Nat),(j5 L R h k l)[i]? = (l[i]?).map (kL L R h (k+i))
 | [],k,i=>by simp[j5]
 |b::l,k,i=>by
  cases i with
  |zero=>simp[j5]
  |succ i =>
   simp only[j5,bG];rw[sj L R h l (k+1) i,show k+1+i=k+(i+1)from by omega]
def zG(L:Nat)(R:ax)(h:AH):∀(l:AH)(k:Nat),(j5 L R h k l).length=l.length
 | [],_=>rfl
 |_::l,k=>by simp[j5,zG L R h l]
def ED{R:ax}{X':AB}(hX:(j5 L R h 0 (h.take L))[i]? = some X'):∃X,h[i]? = some X/\i<L/\X'=kL L R h i X:=by
 rw[sj,bE]at hX;rw[cC]at hX;split at hX
 .rename_i hlt;cases hx:h[i]? with
  |none=>rw[hx]at hX;cases hX
  |some X=>rw[hx]at hX;simp at hX;exact⟨X,rfl,hlt,hX.symm⟩
 .cases hX
def sH{R:ax}{c:Nat}(ho:owned (y8 β h L R) (j5 L R h 0 (h.take L)) i c):owned β h i c/\i<L:=by
 let⟨X',Hu,bd,hcb,hm⟩:=ho;obtain⟨X,hX,hi,rfl⟩:=ED Hu;refine⟨⟨X,hX,bd,hcb,?_⟩,hi⟩;cases X with
 |gone=>exact hm
 |var cs =>
  simp only[kL,y8,if_pos hi]at hm⊢;have hv:KL h i=0:=by unfold KL;rw[hX]
  rw[hv]at hm;split at hm<;>simpa using hm
 |row v sz es =>
  simp only[kL,y8,if_pos hi]at hm⊢;have hv:KL h i=v:=by unfold KL;rw[hX]
  rw[hv]at hm;split at hm<;>simpa using hm
 |qa v sz es=>exact hm
 |mp es | mps es =>
  simp only[kL,y8,if_pos hi]at hm⊢;have hv:KL h i=0:=by unfold KL;rw[hX]
  rw[hv]at hm;split at hm<;>simpa using hm
def D3{R:ax}{c:Nat}(ho:Own Z (y8 β h L R) (j5 L R h 0 (h.take L)) c):Own Z β h c:=by
 rcases ho with ho | ⟨i,ho⟩
 .exact .inl ho
 .exact .inr ⟨i,(sH ho).1⟩
def qE{R:ax}:lS (Own Z β h) w (Own Z (y8 β h L R) (j5 L R h 0 (h.take L))) w :=
 ⟨aN _,λ_ _ hO=>⟨rfl,λh=>hO (D3 h)⟩⟩
def uX{R:ax}{v:Nat}{bd:Bd}(hi:i<L)(hR:R.contains i=false)(hb:β i v=some bd):y8 β h L R i v=some bd:=by
 unfold y8;rw[if_pos hi,hR]
 simpa using hb
def LY{R:ax}{x:AV}{u:Value}(hx:(x.lT||match x with | .ptr b _ _ _=>decide (b<L) && !R.contains b | .nQ b=>decide (b<L) && !R.contains b | _=>false)=true)(hv:VR β (Own Z β h) w x u):
  VR (y8 β h L R) (Own Z (y8 β h L R) (j5 L R h 0 (h.take L))) w x u:=by
 rw[bS]at hx
 rcases hx with hx | hx
 .exact .pure _ _ ((hv.B9 hx).mono qE)
 .split at hx
  .simp only[aH,decide_eq_true_eq,cv]at hx;obtain⟨bd,c,h1,h2,rfl⟩:=hv.oE;exact .ptr _ _ _ _ bd c (uX hx.1 hx.2 h1) h2
  .simp only[aH,decide_eq_true_eq,cv]at hx;obtain⟨bd,c,h1,h2,rfl⟩:=hv.zI;exact .nQ _ bd c (uX hx.1 hx.2 h1) h2
  .cases hx
def xV(R0:Rel Z β h w)(L:Nat)(R:ax){a:AV}{v:Value}(hv:VR β (Own Z β h) w a v):
  VR (y8 β h L R) (Own Z (y8 β h L R) (j5 L R h 0 (h.take L))) w (j9 L R h a) v:=by
 have pure:∀ {a:AV},VR β (Own Z β h) w a v->VR (y8 β h L R) (Own Z (y8 β h L R) (j5 L R h 0 (h.take L))) w (if a.kZ then a else .dead) v:=by
  intro a hv;split
  .rename_i hs;exact .pure _ _ ((hv.Lx hs).mono qE)
  .exact .dead v
 cases a with
 |own b vv o n =>
  simp only[j9];split
  .rename_i hb;cases hR:R.contains b with
   |false =>
    simp only[aU,if_false];obtain⟨bd,a,c,h1,rfl,h2⟩:=hv.mg;exact .own b vv o n bd a c (uX hb hR h1) h2
   |true =>
    simp only[if_true];obtain⟨bd,a,c,h1,rfl,h2⟩:=hv.mg
    have go:KL h b=vv->VR (y8 β h L R) (Own Z (y8 β h L R) (j5 L R h 0 (h.take L))) w (.own b 0 o n) (.slice a n c):=by
     intro wo;refine .own b 0 o n bd a c ?_ h2;unfold y8;rw[if_pos hb,hR,wo]
     simpa using h1
    split
    .rename_i v' sz es hX;split
     .rename_i he;exact go (by unfold KL;rw[hX];exact he.symm)
     .exact .dead _
    .rename_i v' sz es hX;split
     .rename_i he;exact go (by unfold KL;rw[hX];exact he.symm)
     .exact .dead _
    .exact .dead _
  .rename_i hb;split
   .rename_i es lJ;obtain⟨bd,a,c,h1,rfl,h2⟩:=hv.mg;refine .pure _ _ ?_
    -- the row is not one of those at the head
    simp only[elems]at lJ
    have build:∀ {cb sz:Nat} {es':List AV},0<sz->bd.sz=sz->bd.cb=some cb->(¬Own Z (y8 β h L R) (j5 L R h 0 (h.take L)) cb)->cb<w.heap.size->o+n<=es'.length->
      (∃cur elem fr,w.heap[cb]? = some (.cells cur elem fr)/\qx (Own Z β h) w cur bd.base sz es')->qW (Own Z (y8 β h L R) (j5 L R h 0 (h.take L))) w (.jB false ((es'.drop o).take n)) (.slice a n c):=by
     intro cb sz es' hsz e1 e2 hO hlt NC sS;let⟨cur,elem,fr,g2,g5⟩:=sS;have hlen:((es'.drop o).take n).length=n:=aj
     rcases h2 with⟨z1,z2⟩ | ⟨cb',q1,q2,q3,q4⟩
     .subst z1 z2;have hz:(es'.drop o).take 0=[]:=by simp
      rw[hz];exact .jB false [] a 0 0 0 0 (λ_ _=>Go.undef) (λh=>by cases h) (aN _) (λh=>absurd rfl h) (λi x hx=>by simp at hx) (λi x hx=>by simp at hx) (λi x hx=>by simp at hx) (λi x hx=>by simp at hx)
     .rw[e2]at q1;cases q1;rw[q2];have:=vo (w:=w) (full:=false) (c:=c) hsz hO hlt ((vk (o:=o) (n:=n) g2 g5).mono qE) (λh=>by cases h) (by rw[hlen];exact q3)
      rw[hlen]at this;rw[e1];exact this
    split at lJ
    .rename_i v' sz es' hX;split at lJ
     .rename_i hc;cases lJ;obtain⟨rfl,NC⟩:=hc;let⟨hsz,zk,e1,e2,e3⟩:=R0.blk b _ hX;rw[h1]at e1;cases e1
      rcases e3 with⟨e3,e4⟩ | ⟨cb,cur,elem,e3,e4,e5,e6,e7⟩
      .subst e4;have hn0:n=0:=by simp at NC;omega
       subst hn0;simp only[List.drop_nil,List.take_nil];refine .jB false [] a c 0 0 0 (λ_ _=>Go.undef) (λh=>by cases h) (cH _) (λh=>absurd rfl h) (λi x hx=>by simp at hx) (λi x hx=>by simp at hx) (λi x hx=>by simp at hx) (λi x hx=>by simp at hx)
      .have hown:owned β h b cb:=⟨_,hX,bd,e3,h1⟩;refine build hsz e2 e3 ?_ (aW.1 e4).1 NC ⟨cur,elem,_,e4,e7⟩
       rintro(hz | ⟨i,hi⟩)
       .exact R0.CG b cb hown hz
       .let⟨hi,hlt⟩:=sH hi;have:=R0.apart i b cb hi hown;omega
     .cases lJ
    .rename_i v' sz es' hX;split at lJ
     .rename_i hc;cases lJ;obtain⟨rfl,NC⟩:=hc;let⟨hsz,zk,e1,e2,e3⟩:=R0.blk b _ hX;rw[h1]at e1;cases e1
      rcases e3 with⟨e3,e4⟩ | ⟨cb,cur,elem,fr,e3,e0,e4,e5,e6,e7⟩
      .subst e4;have hn0:n=0:=by simp at NC;omega
       subst hn0;simp only[List.drop_nil,List.take_nil];refine .jB false [] a c 0 0 0 (λ_ _=>Go.undef) (λh=>by cases h) (cH _) (λh=>absurd rfl h) (λi x hx=>by simp at hx) (λi x hx=>by simp at hx) (λi x hx=>by simp at hx) (λi x hx=>by simp at hx)
      .exact build hsz e2 e3 (λho=>e0 (D3 ho)) (aW.1 e4).1 NC ⟨cur,elem,fr,e4,e7⟩
     .cases lJ
    .cases lJ
   .exact .dead _
 |ptr b vv i o =>
  simp only[j9];split
  .rename_i hb;obtain⟨bd,c,h1,h2,rfl⟩:=hv.oE;refine .ptr _ _ _ _ bd c (uX hb.1 ?_ h1) h2;cases hR:R.contains b with
   |false=>rfl
   |true=>exact absurd hR hb.2
  .exact .dead _
 |nQ b =>
  simp only[j9];split
  .rename_i hb;obtain⟨bd,c,h1,h2,rfl⟩:=hv.zI;refine .nQ _ bd c (uX hb.1 ?_ h1) h2;cases hR:R.contains b with
   |false=>rfl
   |true=>exact absurd hR hb.2
  .exact .dead _
 |fn f a c =>
  simp only[j9];split
  .rename_i hall;cases hv with
   |pure _ _ hv=>cases hv
   |fn _ _ _ va vc q1 q2 q3 q4 =>
    have sW:=aO.1 hall;refine .fn _ _ _ va vc q1 q2 (λj y u hy hu=>LY (sW y ?_) (q3 j y u hy hu)) (λj y u hy hu=>LY (sW y ?_) (q4 j y u hy hu))
    .exact cB _ (aR hy)
    .exact dG _ (aR hy)
  .exact .dead _
 |undef=>rw[hv.Ax];exact .undef
 |_=>exact pure hv
def G7(R0:Rel Z β h w)(L:Nat)(R:ax){a:AV}{v:Value}(hv:VR β (Own Z β h) w a v):
  VR (y8 β h L R) (Own Z (y8 β h L R) (j5 L R h 0 (h.take L))) w (nP L R h a) v:=by
 unfold nP;split
 .rename_i hE;exact .pure _ _ ((hv.B9 hE).mono qE)
 .split
  .rename_i cs hne;obtain⟨vs,rfl,hl,h1,h2⟩:=hv.qV;refine .agg _ vs (an hl) h1 λj y u hy hu=>?_
   rw[bW]at hy;cases hc:cs[j]? with
   |none=>rw[hc]at hy;cases hy
   |some y' =>
    rw[hc]at hy;simp only[bJ,bp]at hy;subst hy;exact xV R0 L R (h2 j y' u hc hu)
  .exact xV R0 L R hv
def EC(R0:Rel Z β h w)(L:Nat)(R:ax):Rel Z (y8 β h L R) (j5 L R h 0 (h.take L)) w:=by
 refine⟨R0.xlt,λi c ho=>R0.CG i c (sH ho).1,λi v hi=>?_,λi v sz es v' hX hv=>?_,λi X' hX=>?_,λi j c hi hj=>R0.apart i j c (sH hi).1 (sH hj).1⟩
 .rw[zG,bM]at hi;unfold y8;split
  .rename_i hlt;have hh:h.length<=i:=by omega
   simp only[R0.fresh i _ hh];split
   .split<;>rfl
   .rfl
  .rfl
 .let⟨X,Hu,hi,he⟩:=ED hX;cases X with
  |row v0 Uo es0 =>
   simp only[kL,AB.row.injEq]at he;obtain⟨rfl,rfl,rfl⟩:=he;unfold y8;rw[if_pos hi];split
   .rename_i hR;rw[if_pos hR]at hv;rw[if_neg aa]
   .rename_i hR;rw[if_neg hR]at hv;exact R0.later i v0 sz es v' Hu hv
  |_=>simp[kL]at he
 .obtain⟨X,Hu,hi,rfl⟩:=ED hX;have hb:=R0.blk i X Hu;cases X with
  |gone=>trivial
  |var cs =>
   let⟨c,cur,elem,e1,e2,e3,e4⟩:=hb;have hv:KL h i=0:=by unfold KL;rw[Hu]
   refine⟨c,cur,elem,?_,e2,an e3,λj y hy=>?_⟩
   .unfold y8;rw[if_pos hi,hv];simp only[cV];split<;>simpa using e1
   .rw[bW]at hy;cases hc:cs[j]? with
    |none=>rw[hc]at hy;cases hy
    |some y' =>
     rw[hc]at hy;simp only[bJ,bp]at hy;subst hy;let⟨u,k1,k2,k3⟩:=e4 j y' hc;exact⟨u,k1,k2,xV R0 L R k3⟩
  |mp es | mps es =>
   let⟨c,arr,clock,e1,e2,e3,e4⟩:=hb;have hv:KL h i=0:=by unfold KL;rw[Hu]
   refine⟨c,arr,clock,?_,e2,an e3,λj p hp=>?_⟩
   .unfold y8;rw[if_pos hi,hv];split<;>simpa using e1
   .rw[bW]at hp;cases hc:es[j]? with
    |none=>rw[hc]at hp;cases hp
    |some p' =>
     rw[hc]at hp;simp only[bJ,bp]at hp;subst hp;let⟨e,k1,k2,k3,k4⟩:=e4 j p' hc;exact⟨e,k1,k2,k3,xV R0 L R k4⟩
  |row v sz es =>
   let⟨hsz,bd,e1,e2,e3⟩:=hb;have hv:KL h i=v:=by unfold KL;rw[Hu]
   refine⟨hsz,bd,?_,e2,?_⟩
   .unfold y8;rw[if_pos hi,hv];split
    .simpa using e1
    .exact e1
   .rcases e3 with e3 | ⟨c,cur,elem,k1,k2,k3,k4,k5⟩
    .exact .inl e3
    .exact .inr ⟨c,cur,elem,k1,k2,k3,k4,jW.mono qE k5⟩
  |qa v sz es =>
   let⟨hsz,bd,e1,e2,e3⟩:=hb;have hv:KL h i=v:=by unfold KL;rw[Hu]
   refine⟨hsz,bd,?_,e2,?_⟩
   .unfold y8;rw[if_pos hi,hv];split
    .simpa using e1
    .exact e1
   .rcases e3 with e3 | ⟨c,cur,elem,fr,k1,k0,k2,k3,k4,k5⟩
    .exact .inl e3
    .exact .inr ⟨c,cur,elem,fr,k1,λho=>k0 (D3 ho),k2,k3,k4,jW.mono qE k5⟩
def EE{R:ax}:Nw (o9 R L) Z β h w (y8 β h L R) (j5 L R h 0 (h.take L)) w:=by
 refine⟨λ_ _ _=>rfl,rfl,rfl,rfl,λi v bd hv hb=>?_,qE⟩
 unfold o9 at hv;rw[eE]at hv;exact uX (by have:=hv.2;simp at this;omega) hv.1 hb
def Tm{R:ax}{β':kW}{O O':az}{w':World}(Bn:∀i v bd,R.contains i=false->β i v=some bd->β' i v=some bd)(hst:lS O w O' w'){a:AV}{v:Value}(hv:VR β O w a v):
  VR β' O' w' (nM R a) v:=by
 have one:∀ {x:AV} {u:Value},(x.lT||match x with | .ptr b _ _ _=>!R.contains b | .own b _ _ _=>!R.contains b | .nQ b=>!R.contains b | _=>false)=true->VR β O w x u->VR β' O' w' x u:=by
  intro x u hx hv;rw[bS]at hx
  rcases hx with hx | hx
  .exact .pure _ _ ((hv.B9 hx).mono hst)
  .split at hx
   .obtain⟨bd,c,h1,h2,rfl⟩:=hv.oE;exact .ptr _ _ _ _ bd c (Bn _ _ _ (an hx) h1) h2
   .obtain⟨bd,a,c,h1,rfl,h2⟩:=hv.mg;exact .own _ _ _ _ bd a c (Bn _ _ _ (an hx) h1) h2
   .obtain⟨bd,c,h1,h2,rfl⟩:=hv.zI;exact .nQ _ bd c (Bn _ _ _ (an hx) h1) h2
   .cases hx
 have two:∀ {x:AV} {u:Value},VR β O w x u->VR β' O' w' (if (x.lT||match x with | .ptr b _ _ _=>!R.contains b | .own b _ _ _=>!R.contains b | .nQ b=>!R.contains b | _=>false)=true then x else .dead) u:=by
  intro x u hv;exact iteInduction (motive:=λz=>VR β' O' w' z u) (λhx=>one hx hv) (λ_=>.dead _)
 cases a with
 |agg cs =>
  simp only[nM];split
  .rename_i hall;obtain⟨vs,rfl,hl,h1,h2⟩:=hv.qV;exact .agg _ vs hl h1 λj y u hy hu=>one (aO.1 hall y (aR hy)) (h2 j y u hy hu)
  .exact .dead _
 |fn f a c =>
  simp only[nM];split
  .rename_i hall;cases hv with
   |pure _ _ hv=>cases hv
   |fn _ _ _ va vc q1 q2 q3 q4 =>
    have sW:=aO.1 hall;refine .fn _ _ _ va vc q1 q2 (λj y u hy hu=>one (sW y ?_) (q3 j y u hy hu)) (λj y u hy hu=>one (sW y ?_) (q4 j y u hy hu))
    .exact cB _ (aR hy)
    .exact dG _ (aR hy)
  .exact .dead _
 |undef=>rw[hv.Ax];exact .undef
 |kE cs =>
  cases hv with
  |pure _ _ hv=>cases hv
  |kE _ blk o f hO hw h1 h3 h2 =>
   refine .kE cs blk o f (hst.2 blk hw hO).2 (bT hw hst.1) (λj y hy=>?_) h3 (λj y hy=>(h2 j y hy).mono hst)
   rw[BL hst hO hw];exact h1 j y hy
 |_=>exact two hv
def M7{R:ax}{O O':az}{w':World}(Bn:∀i v bd,R.contains i=false->β i v=some bd->β' i v=some bd)(hst:lS O w O' w'){e:Env}{t:Nat}{v:Value}(hv:VR β O w (e t) v):
  VR β' O' w' (mj R e t) v:=by
 unfold mj;split
 .rename_i hR;have:R=[]:=by simpa using hR
  subst this;exact hv.mono (λi v bd=>Bn i v bd rfl) hst
 .exact Tm Bn hst hv
def I1{β':kW}{O:az}{w':World}{tm:Nat->Value}{e0:Env}(h0:∀t,VR β' O w' (e0 t) (tm t)):∀(ts:ax)(vs:List AV),(∀p∈ts.zip vs,VR β' O w' p.2 (tm p.1))->∀t,VR β' O w' (e0.lay ts vs t) (tm t)
 | [],_,_,t=>by simp only[Env.lay];exact h0 t
 |_::_,[],_,t=>by simp only[Env.lay];exact h0 t
 |q::ts,v::vs,hp,t=>by
  simp only[Env.lay,Env.put];split
  .rename_i ht;subst ht;exact hp (t,v) ah
  .exact I1 h0 ts vs (λp hq=>hp p (by simp[hq])) t
def yL{a:Act}{n:Nat}:∀(own:aC)(s:St)(β:kW),own.all (λp=>decide (0<p.2))=true->Rel Z β s.h w->kF Z β s.h w s.e a n->
  ∃β',Rel Z β' (jI own s).h w/\Fr Z β s.h w β' (jI own s).h w/\kF Z β' (jI own s).h w (jI own s).e a n
 | [],s,β,_,R,E=>⟨β,R,Fr.refl _ _ _ _,E⟩
 | (t,sz)::l,s,β,ok,R,E=>by
  simp only[bH,aH,decide_eq_true_eq]at ok;unfold jI;split
  .rename_i he;let⟨β1,R1,F1,hv⟩:=R.sg sz ok.1
   have E1:kF Z β1 (s.h++[.row 0 sz []]) w (s.e.put t (.own s.h.length 0 0 0)) a n:=by
    refine⟨E.1,λq=>?_⟩
    simp only[Env.put];split
    .rename_i hq;subst hq;have h0:=E.2 q;rw[he]at h0;have h1:=h0.oJ;generalize a.tmps.getD q Go.undef=u at h1;cases h1 with
     |jB _ _ ad c _ _ _ _ hf _ _ _ _ _ _ =>
      have hc:=hf rfl;simp only[bq]at hc⊢;subst hc;exact hv ad
    .exact(E.2 q).fr F1
   let⟨β2,R2,F2,E2⟩:=yL l ⟨s.e.put t (.own s.h.length 0 0 0),s.h++[.row 0 sz []]⟩ β1 ok.2 R1 E1;exact⟨β2,R2,F1.trans F2,E2⟩
  .exact yL l s β ok.2 R E
end
variable{y x:AV}{s:St}{n o:Nat}
section
variable{P:Program}{Z:az}{β:kW}{h:AH}{w:World}
def XY(R:Rel Z β h w){B:Nat}{cs:List AV}(hB:h[B]? = some (.var cs))(hy:cs[o]? = some y)(hx:∀v,VR β (Own Z β h) w y v->VR β (Own Z β h) w x v):
  Rel Z β (h.set B (.var (cs.set o x))) w/\Fr Z β h w β (h.set B (.var (cs.set o x))) w:=by
 have hlt:B<h.length:=(aF.1 hB).1;refine R.wv (X':=.var (cs.set o x)) hlt rfl rfl rfl (λ_ _ _=>rfl) (λ_ _ e=>e) (λ_ _ _ _ e=>by cases e) (λc hc=>?_) (aN _) (λ_ _ _=>rfl) (λhst=>?_)
 .let⟨bd,q1,q2⟩:=hc;exact .inl ⟨_,hB,bd,q1,q2⟩
 .let⟨c,cur,elem,e1,e2,e3,e4⟩:=R.blk B _ hB;refine⟨c,cur,elem,an e1,e2,an e3,λj y' hj=>?_⟩
  by_cases hjo:o=j
  .subst hjo;have hol:o<cs.length:=(aF.1 hy).1;rw[aZ hol]at hj;cases hj;let⟨v,k1,k2,k3⟩:=e4 o y hy;exact⟨v,k1,k2,(hx v k3).mono (λ_ _ _ e=>e) hst⟩
  .rw[aJ hjo]at hj;let⟨v,k1,k2,k3⟩:=e4 j y' hj;exact⟨v,k1,k2,k3.mono (λ_ _ _ e=>e) hst⟩
def UY{es:List (Int×AV)}{o:Int}(hy:((es.find? λp=>decide (p.1=o)).map λp=>p.2)=some y)(x:AV):∃j:Nat,es[j]? = some (o,y)/\mN es o x=es.set j (o,x):=by
 induction es with
 |nil=>simp at hy
 |cons p l ih =>
  rw[eO]at hy
  by_cases hp:p.1=o
  .rw[decide_eq_true hp]at hy;simp only[bJ,bp]at hy;let⟨p1,p2⟩:=p;simp only at hp hy;subst hp hy;exact⟨0,rfl,by simp[mN]⟩
  .rw[decide_eq_false hp]at hy;let⟨j,h1,h2⟩:=ih hy;exact⟨j+1,an h1,by simp[mN,hp,h2]⟩
def VG(R:Rel Z β h w){B:Nat}{o:Int}{es:List (Int×AV)}(hB:h[B]? = some (.mp es))(hy:((es.find? λp=>decide (p.1=o)).map λp=>p.2)=some y)(hx:∀v,VR β (Own Z β h) w y v->VR β (Own Z β h) w x v):
  Rel Z β (h.set B (.mp (mN es o x))) w/\Fr Z β h w β (h.set B (.mp (mN es o x))) w:=by
 have hlt:B<h.length:=(aF.1 hB).1;let⟨k,hk,hp⟩:=UY hy x;rw[hp];refine R.wv (X':=.mp (es.set k (o,x))) hlt rfl rfl rfl (λ_ _ _=>rfl) (λ_ _ e=>e) (λ_ _ _ _ e=>by cases e) (λc hc=>?_) (aN _) (λ_ _ _=>rfl) (λhst=>?_)
 .let⟨bd,q1,q2⟩:=hc;exact .inl ⟨_,hB,bd,q1,q2⟩
 .let⟨c,arr,clock,e1,e2,e3,e4⟩:=R.blk B _ hB;refine⟨c,arr,clock,e1,e2,an e3,λj p hj=>?_⟩
  by_cases hjo:k=j
  .subst hjo;rw[aZ (aF.1 hk).1]at hj;cases hj;let⟨e,k1,k2,k3,k4⟩:=e4 k _ hk;exact⟨e,k1,k2,k3,(hx _ k4).mono (λ_ _ _ e=>e) hst⟩
  .rw[aJ hjo]at hj;let⟨e,k1,k2,k3,k4⟩:=e4 j p hj;exact⟨e,k1,k2,k3,k4.mono (λ_ _ _ e=>e) hst⟩
def wJ{a:Act}(R:Rel Z β s.h w)(E:kF Z β s.h w s.e a n){t:Nat}(hy:r6 s t o=some y)(hx:∀v,VR β (Own Z β s.h) w y v->VR β (Own Z β s.h) w x v):
  Rel Z β (AE s t o x).h w/\Fr Z β s.h w β (AE s t o x).h w/\kF Z β (AE s t o x).h w (AE s t o x).e a n:=by
 unfold r6 at hy;unfold AE;generalize he:s.e t=q at hy;split at hy
 .rename_i b;split at hy
  .rename_i cs hB;simp only[hB];let⟨R1,F1⟩:=XY R hB hy hx;exact⟨R1,F1,E.fr F1⟩
  .cases hy
 .rename_i cs;refine⟨R,Fr.refl _ _ _ _,E.1,λq=>?_⟩
  simp only[Env.put];split
  .rename_i hq;subst hq;have h0:=E.2 q;rw[he]at h0;let⟨vs,hv,hl,h1,h2⟩:=h0.qV;rw[hv];refine .agg _ vs (an hl) h1 λj y' u hj hu=>?_
   grind
  .exact E.2 q
 .rename_i b;split at hy
  .rename_i es hB;simp only[hB];let⟨R1,F1⟩:=VG R hB hy hx;exact⟨R1,F1,E.fr F1⟩
  .cases hy
 .cases hy
def Aa{t:Nat}(hy:r6 s t o=some y){h':AH}(hh:∀(b:Nat)(cs:List AV),s.h[b]? = some (.var cs)->h'[b]? = some (.var cs))(hm:∀(b:Nat)(es:List (Int×AV)),s.h[b]? = some (.mp es)->h'[b]? = some (.mp es)):r6 ⟨s.e,h'⟩ t o=some y:=by
 unfold r6 at hy⊢;split at hy
 .grind
 .grind
 .grind
 .cases hy
def PU(R:Rel Z β h w){b v sz τ u:Nat}{es:List AV}(hb:h[b]? = some (.row v sz es))(hτ:τ<h.length)(hne:b≠τ)(hβ:∀v',u<=v'->β τ v'=none):
  ∃β',Rel Z β' ((h.set b (.row (v+1) sz [])).set τ (.row u sz es)) w/\Fr Z β h w β' ((h.set b (.row (v+1) sz [])).set τ (.row u sz es)) w/\
   ∀(n:Nat)(x:Value),VR β (Own Z β h) w (.own b v 0 n) x->VR β' (Own Z β' ((h.set b (.row (v+1) sz [])).set τ (.row u sz es))) w (.own τ u 0 n) x:=by
 have yU:b<h.length:=(aF.1 hb).1;let⟨hsz,bd,b1,b2,b3⟩:=R.blk b _ hb;obtain⟨β',apz⟩:∃β':kW,β'=λi k=>if i=τ/\k=u then β b v else if i=b/\k=v+1 then some ⟨none,0,0,sz⟩else β i k:=⟨_,rfl⟩
 have e1:β' τ u=some bd:=by rw[apz];simp[b1]
 have e2:∀i k,¬(i=τ/\k=u)->¬(i=b/\k=v+1)->β' i k=β i k:=λi k hh h2=>by grind
 have e3:β' b (v+1)=some ⟨none,0,0,sz⟩:=by grind
 have ext:∀i k bd,β i k=some bd->β' i k=some bd:=λi k zk hh=>by
  rw[e2 i k ?_ ?_]
  .exact hh
  .grind
  .rintro⟨rfl,rfl⟩
   rw[R.later i v sz es (v+1) hb aa]at hh
   cases hh
 obtain⟨h',hh'⟩:∃h',h'=(h.set b (.row (v+1) sz [])).set τ (.row u sz es):=⟨_,rfl⟩;have gτ:h'[τ]? = some (.row u sz es):=by grind
 have gb:h'[b]? = some (.row (v+1) sz []):=by grind
 have go:∀i,i≠τ->i≠b->h'[i]? = h[i]? := λi i1 i2=>by grind
 have own:∀ {i c},owned β' h' i c->(i=τ/\owned β h b c)\/(i≠τ/\i≠b/\owned β h i c):=by
  rintro i c ⟨X,hX,zk,q1,q2⟩
  by_cases i1:i=τ
  .subst i1;rw[gτ]at hX;cases hX;simp only[e1]at q2;cases q2;exact .inl ⟨rfl,_,hb,bd,q1,b1⟩
  .by_cases i2 : i = b
   .grind
   .rw[go i i1 i2]at hX;refine .inr ⟨i1,i2,X,hX,zk,q1,?_⟩
    grind
 have aoO:∀ {c},Own Z β' h' c->Own Z β h c:=by
  rintro c (hz | ⟨i,ho⟩)
  .exact .inl hz
  .rcases own ho with⟨_,ho⟩ | ⟨_,_,ho⟩
   .exact .inr ⟨b,ho⟩
   .exact .inr ⟨i,ho⟩
 have st:lS (Own Z β h) w (Own Z β' h') w:=⟨aN _,λc _ hO=>⟨rfl,λhh=>hO (aoO hh)⟩⟩
 have vr:∀ {y:AV} {x:Value},VR β (Own Z β h) w y x->VR β' (Own Z β' h') w y x:=λhv=>hv.mono ext st
 rw[<-hh'];refine⟨β',⟨R.xlt,λi c ho=>?_,λi k hi=>?_,λi k sz' es' v' hX hv=>?_,λi X hX=>?_,λi j c hi hj=>?_⟩,⟨λ_ _ _=>rfl,rfl,rfl,rfl,ext,st⟩,λn x hv=>?_⟩
 .rcases own ho with⟨_,ho⟩ | ⟨_,_,ho⟩
  .exact R.CG b c ho
  .exact R.CG i c ho
 .have hi:h.length<=i:=by grind
  rw[e2 i k (λhh=>aa) (λhh=>aa)]
  exact R.fresh i k hi
 .by_cases i1 : i = τ
  .grind
  .by_cases i2 : i = b
   .subst i2;rw[gb]at hX;cases hX;rw[e2 i v' (λhh=>i1 hh.1) (λhh=>aa)]
    exact R.later i v sz es v' hb aa
   .rw[go i i1 i2]at hX;rw[e2 i v' (λhh=>i1 hh.1) (λhh=>i2 hh.1)]
    exact R.later i k sz' es' v' hX hv
 .by_cases i1 : i = τ
  .subst i1;rw[gτ]at hX;cases hX;refine⟨hsz,bd,e1,b2,?_⟩
   rcases b3 with b3 | ⟨c,cur,elem,k1,k2,k3,k4,k5⟩
   .exact .inl b3
   .exact .inr ⟨c,cur,elem,k1,k2,k3,k4,jW.mono st k5⟩
  .by_cases i2:i=b
   .subst i2;rw[gb]at hX;cases hX;exact⟨hsz,_,e3,rfl,.inl ⟨rfl,rfl⟩⟩
   .rw[go i i1 i2]at hX;have hr:=R.blk i X hX;exact hr.mono st ext (λ_ _=>rfl)
 .rcases own hi with⟨rfl,hi⟩ | ⟨i1,i2,hi⟩
  .rcases own hj with⟨rfl,hj⟩ | ⟨j1,j2,hj⟩
   .rfl
   .exact absurd (R.apart _ _ _ hi hj).symm j2
  .rcases own hj with⟨rfl,hj⟩ | ⟨j1,j2,hj⟩
   .exact absurd (R.apart _ _ _ hi hj) i2
   .exact R.apart _ _ _ hi hj
 .obtain⟨zk,ad,c,h1,rfl,h2⟩:=hv.mg;rw[b1]at h1;cases h1;exact .own τ u 0 n bd ad c e1 h2
def My(R:Rel Z β h w):Rel Z β (h++[.gone]) w/\Fr Z β h w β (h++[.gone]) w:=by
 have own:∀ {i c},owned β (h++[.gone]) i c->owned β h i c:=by
  rintro i c ⟨X,hX,q⟩
  by_cases hi:i<h.length
  .rw[aK hi]at hX;exact⟨X,hX,q⟩
  .rw[aV aa]at hX
   have:X = .gone:=by
    grind
   subst this;let⟨_,_,q⟩:=q;exact q.elim
 have st:lS (Own Z β h) w (Own Z β (h++[.gone])) w:=⟨aN _,λc _ hO=>⟨rfl,λhh=>hO (by
  rcases hh with hz | ⟨i,ho⟩
  .exact .inl hz
  .exact .inr ⟨i,own ho⟩)⟩⟩
 refine⟨⟨R.xlt,λi c ho=>R.CG i c (own ho),λi k hi=>R.fresh i k (by simp at hi;omega),λi k sz es v' hX hv=>?_,λi X hX=>?_,λi j c hi hj=>R.apart i j c (own hi) (own hj)⟩,⟨λ_ _ _=>rfl,rfl,rfl,rfl,λ_ _ _ e=>e,st⟩⟩
 .by_cases hi:i<h.length
  .rw[aK hi]at hX;exact R.later i k sz es v' hX hv
  grind
 .by_cases hi : i < h.length
  .rw[aK hi]at hX;exact(R.blk i X hX).mono st (λ_ _ _ e=>e) (λ_ _=>rfl)
  .rw[aV aa]at hX
   have:X = .gone:=by
    grind
   subst this;trivial
def W9{s':St}{a:Act}(R:Rel Z β s.h w)(E:kF Z β s.h w s.e a n){p:Nat×Nat}(hf:aan s p=some s'):
  Rel Z β s'.h w/\Fr Z β s.h w β s'.h w/\kF Z β s'.h w s'.e a n:=by
 unfold aan at hf;simp only[aI]at hf;let⟨y,hy,⟨y',h'⟩,hp,hf⟩:=hf;cases hf;dsimp only
 by_cases hS:y.kZ=true
 .have:qe s.h y=some (y,s.h):=by
   cases y<;>simp[AV.kZ]at hS<;>simp[qe,AV.kZ]
  rw[this]at hp;cases hp;exact wJ R E hy (λ_ hv=>hv)
 .cases y with
  |own b v o m =>
   have akj:∀(k:Nat)(X:AB),s.h[k]? = some X->(∀v sz es,X≠.row v sz es)->h'[k]? = some X:=by
    intro k cs hk YG;unfold qe at hp;dsimp only at hp;split at hp
    .grind
    .grind
    .cases hp
   -- the rows, read-only
   have key:∃F:Rel Z β h' w,Fr Z β s.h w β h' w:=by
    unfold qe at hp;dsimp only at hp;split at hp
    .rename_i v' sz es hb;split at hp
     .cases hp;let⟨R',F⟩:=R.freeze hb;exact⟨R',F⟩
     .cases hp
    .grind[Fr.refl]
    .cases hp
   let⟨R1,F1⟩:=key;have hy1:r6 ⟨s.e,h'⟩ p.1 p.2=some (.own b v o m):=Aa hy (λk cs hk=>akj k _ hk (λ_ _ _ e=>by cases e)) (λk cs hk=>akj k _ hk (λ_ _ _ e=>by cases e))
   let⟨r1,r2,r3⟩:=wJ (s:=⟨s.e,h'⟩) (x:=y') R1 (E.fr F1) hy1 (λu hv=>by
    obtain⟨bd,ad,c,h1,rfl,h2⟩:=hv.mg;let⟨_,_,V,_⟩:=DW R hp (.own b v o m bd ad c h1 h2);exact V)
   exact⟨r1,F1.trans r2,r3⟩
  |_=>grind[qe,AV.kZ]
def EK:∀(g:aC){s s':St}{a:Act}{n:Nat},Rel Z β s.h w->kF Z β s.h w s.e a n->OU g s=some s'->
  Rel Z β s'.h w/\Fr Z β s.h w β s'.h w/\kF Z β s'.h w s'.e a n
 | [],s,s',a,n,R,E,hf=>by
  cases hf
  grind[Fr.refl]
 |p::l,s,s',a,n,R,E,hf=>by
  simp only[OU,aI]at hf;let⟨s1,h1,hf⟩:=hf;let⟨R1,F1,E1⟩:=W9 R E h1;let⟨R2,F2,E2⟩:=EK l R1 E1 hf;exact⟨R2,F1.trans F2,E2⟩
def OW{a:Act}(R:Rel Z β s.h w)(E:kF Z β s.h w s.e a n){p:Nat×Nat×Nat}(hsz:0<p.2.2):
  ∃β',Rel Z β' (qk s p).h w/\Fr Z β s.h w β' (qk s p).h w/\kF Z β' (qk s p).h w (qk s p).e a n:=by
 have gone:∃β',Rel Z β' (s.h++[.gone]) w/\Fr Z β s.h w β' (s.h++[.gone]) w/\kF Z β' (s.h++[.gone]) w s.e a n:=by
  let⟨R1,F1⟩:=My R;exact⟨β,R1,F1,E.fr F1⟩
 unfold qk;split
 .rename_i b v m hy;split
  .rename_i v' sz es hb;split
   .rename_i hc;obtain⟨rfl,rfl⟩:=hc;have yU:b<s.h.length:=(aF.1 hb).1;let⟨R0,F0⟩:=My R;have hb0:(s.h++[AB.gone])[b]? = some (.row v sz es):=by grind
    let⟨β1,R1,F1,V1⟩:=PU R0 hb0 (τ:=s.h.length) (u:=0) ah aa (λk _=>R.fresh _ _ (aN _))
    have he:((s.h++[AB.gone]).set b (.row (v+1) sz [])).set s.h.length (.row 0 sz es)=s.h.set b (.row (v+1) sz [])++[.row 0 sz es]:=by
     simp_all
    rw[he]at R1 F1 V1;have F01:=F0.trans F1
    have hy1:r6 ⟨s.e,s.h.set b (.row (v+1) sz [])++[.row 0 sz es]⟩ p.1 p.2.1=some (.own b v 0 es.length):=Aa hy (λk cs hk=>by
     grind) (λk cs hk=>by
     grind)
    let⟨r1,r2,r3⟩:=wJ (s:=⟨s.e,s.h.set b (.row (v+1) sz [])++[.row 0 sz es]⟩) (x:=.own s.h.length 0 0 es.length) R1 (E.fr F01) hy1 (λu hv=>by
     obtain⟨bd,ad,c,h1,rfl,h2⟩:=hv.mg;refine V1 es.length _ ?_;have hrow:=(R.blk b _ hb);let⟨_,zk,q1,_⟩:=hrow;have:=F01.ext _ _ _ q1;rw[this]at h1;cases h1;exact .own b v 0 es.length bd ad c q1 h2)
    exact⟨β1,r1,F01.trans r2,r3⟩
   .exact gone
  .exact gone
 .rename_i hy;let⟨β1,R1,F1,V1⟩:=R.sg p.2.2 hsz
  have hy1:r6 ⟨s.e,s.h++[.row 0 p.2.2 []]⟩ p.1 p.2.1=some (.jB true []):=Aa hy (λk cs hk=>by
   grind) (λk cs hk=>by
   grind)
  let⟨r1,r2,r3⟩:=wJ (s:=⟨s.e,s.h++[.row 0 p.2.2 []]⟩) (x:=.own s.h.length 0 0 0) R1 (E.fr F1) hy1 (λu hv=>by
   have h1:=hv.oJ;cases h1 with
   |jB _ _ ad c _ _ _ _ hf _ _ _ _ _ _ =>
    grind)
  exact⟨β1,r1,F1.trans r2,r3⟩
 .let⟨β1,R1,F1,_⟩:=R.sg p.2.2 hsz;exact⟨β1,R1,F1,E.fr F1⟩
 .exact gone
def EL:∀(ad:aD){s:St}{β:kW}{a:Act}{n:Nat},ad.all (λp=>decide (0<p.2.2))=true->Rel Z β s.h w->kF Z β s.h w s.e a n->
  ∃β',Rel Z β' (jX ad s).h w/\Fr Z β s.h w β' (jX ad s).h w/\kF Z β' (jX ad s).h w (jX ad s).e a n
 | [],s,β,a,n,_,R,E=>⟨β,R,Fr.refl _ _ _ _,E⟩
 |p::l,s,β,a,n,ok,R,E=>by
  simp only[bH,aH,decide_eq_true_eq]at ok;let⟨β1,R1,F1,E1⟩:=OW R E ok.1;let⟨β2,R2,F2,E2⟩:=EL l ok.2 R1 E1;exact⟨β2,R2,F1.trans F2,E2⟩
def UU{a:Act}(R:Rel Z β s.h w)(E:kF Z β s.h w s.e a n)(τ:Nat)(p:Nat×Nat×Nat):
  ∃β',Rel Z β' (tD τ s p).h w/\Fr Z β s.h w β' (tD τ s p).h w/\kF Z β' (tD τ s p).h w (tD τ s p).e a n:=by
 have same:∃β',Rel Z β' s.h w/\Fr Z β s.h w β' s.h w/\kF Z β' s.h w s.e a n:=⟨β,R,Fr.refl _ _ _ _,E⟩;unfold tD;split
 .rename_i b v m hy;split
  .exact same
  .rename_i hne;split
   .rename_i v' sz es hb;split
    .rename_i u sz' es' hτ;split
     .rename_i hc;obtain⟨rfl,rfl⟩:=hc;let⟨β1,R1,F1,V1⟩:=PU R hb (τ:=τ) (u:=u+1) (aF.1 hτ).1 hne (λk hk=>R.later τ u sz' es' k hτ aa)
      have hy1:r6 ⟨s.e,(s.h.set b (.row (v+1) sz [])).set τ (.row (u+1) sz es)⟩ p.1 p.2.1=some (.own b v 0 es.length):=Aa hy (λk cs hk=>by
       rw[aJ,aJ]
       .exact hk
       .rintro rfl
        rw[hb]at hk;cases hk
       .rintro rfl
        rw[hτ]at hk;cases hk) (λk cs hk=>by
       rw[aJ,aJ]
       .exact hk
       .rintro rfl
        rw[hb]at hk;cases hk
       .rintro rfl
        rw[hτ]at hk;cases hk)
      let⟨r1,r2,r3⟩:=wJ (s:=⟨s.e,(s.h.set b (.row (v+1) sz [])).set τ (.row (u+1) sz es)⟩) (x:=.own τ (u+1) 0 es.length) R1 (E.fr F1) hy1 (λu' hv=>by
       obtain⟨bd,ad,c,h1,rfl,h2⟩:=hv.mg;refine V1 es.length _ ?_;let⟨_,zk,q1,_⟩:=R.blk b _ hb;have:=F1.ext _ _ _ q1;rw[this]at h1;cases h1;exact .own b v 0 es.length bd ad c q1 h2)
      exact⟨β1,r1,F1.trans r2,r3⟩
     .exact same
    .exact same
   .exact same
 .exact same
def Lp:∀(ad:aD)(τ:Nat){s:St}{β:kW}{a:Act}{n:Nat},Rel Z β s.h w->kF Z β s.h w s.e a n->
  ∃β',Rel Z β' (kO τ ad s).h w/\Fr Z β s.h w β' (kO τ ad s).h w/\kF Z β' (kO τ ad s).h w (kO τ ad s).e a n
 | [],τ,s,β,a,n,R,E=>⟨β,R,Fr.refl _ _ _ _,E⟩
 |p::l,τ,s,β,a,n,R,E=>by
  let⟨β1,R1,F1,E1⟩:=UU R E τ p;let⟨β2,R2,F2,E2⟩:=Lp l (τ+1) R1 E1;exact⟨β2,R2,F1.trans F2,E2⟩
def Ui:∀(ad:aD)(τ i:Nat),(tgt τ ad).contains i=true->τ<=i
 | [],τ,i,h=>by simp[tgt]at h
 |_::l,τ,i,h=>by
  simp only[tgt,List.contains_cons,bS,beq_iff_eq]at h
  rcases h with rfl | h
  .exact aN _
  .have:=Ui l (τ+1) i h;omega
end
end Go.Am
