/- Part of the proof that TopScriptsCard holds. -/
import Derived.Test.YtahlmpbhfljalaaGreatDoorAmWq
import Derived.LoopN
set_option linter.all false
namespace Go.Am
structure Ct(V:aA)(Z:ay)(β:iW)(h:AH)(w:World)(β':iW)(h':AH)(w':World):Prop where
 kJ:∀b,b<w.heap.size->Z b->w'.heap[b]? = w.heap[b]?
 os:w'.os=w.os
 tape:w'.tape=w.tape
 output:w'.output=w.output
 ext:∀i v bd,V i=false->β i v=some bd->β' i v=some bd
 stay:jJ (Own Z β h) w (Own Z β' h') w'
variable{L i:Nat}{β' β:iW}{h h':AH}
def Fr.Iw{V:aA}{Z:ay}{w w':World}(f:Fr Z β h w β' h' w'):Ct V Z β h w β' h' w' :=
 ⟨f.kJ,f.os,f.tape,f.output,λi v bd _ e=>f.ext i v bd e,f.stay⟩
def Ct.trans{V:aA}{Z:ay}{β'':iW}{n:AH}{w w' l:World}(a:Ct V Z β h w β' h' w')(b:Ct V Z β' h' w' β'' n l):Ct V Z β h w β'' n l :=
 ⟨λk hk hx=>(b.kJ k (br hk a.stay.1) hx).trans (a.kJ k hk hx),b.os.trans a.os,b.tape.trans a.tape,b.output.trans a.output,
  λi v bd o e=>b.ext i v bd o (a.ext i v bd o e),a.stay.trans b.stay⟩
section
variable{P:Program}{Z:ay}{β:iW}{h:AH}{w:World}
def GD(h:AH)(i:Nat):Nat:=match h[i]? with
 |some (.row v _ _)=>v
 |some (.lu v _ _)=>v
 |_=>0
def uW(β:iW)(h:AH)(L:Nat)(R:au):iW:=λi v=>if i<L then(if R.contains i then(if v=0 then β i (GD h i)else none)else β i v)else none
def BB(L:Nat)(R:au)(h:AH):∀(l:AH)(k i:Nat),(iQ L R h k l)[i]? = (l[i]?).map (mc L R h (k+i))
 | [],k,i=>by simp[iQ]
 |b::l,k,i=>by
  cases i with
  |zero=>simp[iQ]
  |succ i =>
   simp only[iQ,bY];rw[BB L R h l (k+1) i,show k+1+i=k+(i+1)from by omega]
def vr(L:Nat)(R:au)(h:AH):∀(l:AH)(k:Nat),(iQ L R h k l).length=l.length
 | [],_=>rfl
 |_::l,k=>by simp[iQ,vr L R h l]
def zJ{R:au}{X':AB}(b:(iQ L R h 0 (h.take L))[i]? = some X'):∃X,h[i]? = some X/\i<L/\X'=mc L R h i X:=by
 rw[BB,b8]at b
 grind
def oI{R:au}{c:Nat}(r:owned (uW β h L R) (iQ L R h 0 (h.take L)) i c):owned β h i c/\i<L:=by
 let⟨X',o,bd,n,b⟩:=r;obtain⟨X,x,l,rfl⟩:=zJ o;refine⟨⟨X,x,bd,n,?_⟩,l⟩;cases X with
 |gone=>exact b
 |var cs =>
  simp only[mc,uW,if_pos l]at b⊢
  grind[GD]
 |row v sz es =>
  simp only[mc,uW,if_pos l]at b⊢
  grind[GD]
 |lu v sz es=>exact b
 |mp q es =>
  simp only[mc,uW,if_pos l]at b⊢
  grind[GD]
theorem zi{R:au}{c:Nat}(b:Own Z (uW β h L R) (iQ L R h 0 (h.take L)) c):Own Z β h c:=by
 rcases b with b | ⟨i,b⟩
 .exact .inl b
 .exact .inr ⟨i,(oI b).1⟩
def mC{R:au}:jJ (Own Z β h) w (Own Z (uW β h L R) (iQ L R h 0 (h.take L))) w :=
 ⟨aT _,λ_ _ b=>⟨rfl,λh=>b (zi h)⟩⟩
theorem qD{R:au}{v:Nat}{bd:Bd}(b:i<L)(n:R.contains i=false)(l:β i v=some bd):uW β h L R i v=some bd:=by
 unfold uW
 grind
def Fa{R:au}{x:AV}{u:Value}(hx:(x.jE||match x with | .ptr b _ _ _=>decide (b<L) && !R.contains b | .kZ b=>decide (b<L) && !R.contains b | _=>false)=true)(i:VR β (Own Z β h) w x u):
  VR (uW β h L R) (Own Z (uW β h L R) (iQ L R h 0 (h.take L))) w x u:=by
 rw[bP]at hx
 rcases hx with hx | hx
 .exact .pure _ _ ((i.Bv hx).mono mC)
 .split at hx
  .simp only[aC,decide_eq_true_eq,cD]at hx;obtain⟨bd,c,h1,h2,rfl⟩:=i.jl;exact .ptr _ _ _ _ bd c (qD hx.1 hx.2 h1) h2
  .simp only[aC,decide_eq_true_eq,cD]at hx;obtain⟨bd,c,h1,h2,rfl⟩:=i.ym;exact .kZ _ bd c (qD hx.1 hx.2 h1) h2
  .cases hx
theorem wq(U:Rel Z β h w)(L:Nat)(R:au){a:AV}{v:Value}(q:VR β (Own Z β h) w a v):
  VR (uW β h L R) (Own Z (uW β h L R) (iQ L R h 0 (h.take L))) w (jV L R h a) v:=by
 have pure:∀ {a:AV},VR β (Own Z β h) w a v->VR (uW β h L R) (Own Z (uW β h L R) (iQ L R h 0 (h.take L))) w (if a.jD then a else .dead) v:=by
  intro a q;split
  .rename_i hs;exact .pure _ _ ((q.Bu hs).mono mC)
  .exact .dead v
 cases a with
 |own b W o n =>
  simp only[jV];split
  .rename_i K;cases hR:R.contains b with
   |false =>
    simp only[bq,if_false];obtain⟨bd,a,c,h1,rfl,h2⟩:=q.jL;exact .own b W o n bd a c (qD K hR h1) h2
   |true =>
    simp only[if_true];obtain⟨bd,a,c,h1,rfl,h2⟩:=q.jL
    have go:GD h b=W->VR (uW β h L R) (Own Z (uW β h L R) (iQ L R h 0 (h.take L))) w (.own b 0 o n) (.slice a n c):=by
     intro akv;refine .own b 0 o n bd a c ?_ h2;unfold uW
     grind
    split
    .rename_i v' sz es M;split
     .grind[GD]
     .exact .dead _
    .rename_i v' sz es M;split
     .grind[GD]
     .exact .dead _
    .exact .dead _
  .rename_i K;split
   .rename_i es l;obtain⟨bd,a,c,h1,rfl,h2⟩:=q.jL;refine .pure _ _ ?_;simp only[elems]at l
    have build:∀ {cb sz:Nat} {es':List AV},0<sz->bd.sz=sz->bd.cb=some cb->(¬Own Z (uW β h L R) (iQ L R h 0 (h.take L)) cb)->cb<w.heap.size->o+n<=es'.length->
      (∃cur elem fr,w.heap[cb]? = some (.cells cur elem fr)/\nq (Own Z β h) w cur bd.base sz es')->mM (Own Z (uW β h L R) (iQ L R h 0 (h.take L))) w (.en false ((es'.drop o).take n)) (.slice a n c):=by
     intro cb sz es' A e1 T hO N r Q;let⟨cur,elem,fr,g2,g5⟩:=Q;have O:((es'.drop o).take n).length=n:=aj
     rcases h2 with⟨z1,z2⟩ | ⟨cb',q1,Y,X,q4⟩
     .subst z1 z2;have hz:(es'.drop o).take 0=[]:=by simp
      rw[hz];exact .en false [] a 0 0 0 0 (λ_ _=>Go.undef) (λh=>by cases h) (aT _) (λh=>absurd rfl h) (λi x hx=>by simp at hx) (λi x hx=>by simp at hx) (λi x hx=>by simp at hx) (λi x hx=>by simp at hx)
     .rw[T]at q1;cases q1;rw[Y];have:=oM (w:=w) (full:=false) (c:=c) A hO N ((qQ (o:=o) (n:=n) g2 g5).mono mC) (λh=>by cases h) (by rw[O];exact X)
      grind
    split at l
    .rename_i v' sz es' M;split at l
     .rename_i hc;cases l;obtain⟨rfl,r⟩:=hc;let⟨A,Lo,e1,T,E⟩:=U.blk b _ M;rw[h1]at e1;cases e1
      rcases E with⟨E,H⟩ | ⟨cb,cur,E,H,e5,e6,e7⟩
      .subst H;have G:n=0:=by simp at r;omega
       subst G;simp only[List.drop_nil,List.take_nil];refine .en false [] a c 0 0 0 (λ_ _=>Go.undef) (λh=>by cases h) (bp _) (λh=>absurd rfl h) (λi x hx=>by simp at hx) (λi x hx=>by simp at hx) (λi x hx=>by simp at hx) (λi x hx=>by simp at hx)
      .have F:owned β h b cb:=⟨_,M,bd,E,h1⟩;refine build A T E ?_ (aH.1 H).1 r ⟨cur,_,_,H,e7⟩
       rintro(hz | ⟨i,hi⟩)
       .exact U.yC b cb F hz
       .let⟨hi,N⟩:=oI hi;have:=U.apart i b cb hi F;omega
     .cases l
    .rename_i v' sz es' M;split at l
     .rename_i hc;cases l;obtain⟨rfl,r⟩:=hc;let⟨A,Lo,e1,T,E⟩:=U.blk b _ M;rw[h1]at e1;cases e1
      rcases E with⟨E,H⟩ | ⟨cb,cur,fr,E,e0,H,e5,e6,e7⟩
      .subst H;have G:n=0:=by simp at r;omega
       subst G;simp only[List.drop_nil,List.take_nil];refine .en false [] a c 0 0 0 (λ_ _=>Go.undef) (λh=>by cases h) (bp _) (λh=>absurd rfl h) (λi x hx=>by simp at hx) (λi x hx=>by simp at hx) (λi x hx=>by simp at hx) (λi x hx=>by simp at hx)
      grind[zi]
     .cases l
    .cases l
   .exact .dead _
 |ptr b W i o =>
  simp only[jV];split
  .rename_i K;obtain⟨bd,c,h1,h2,rfl⟩:=q.jl;refine .ptr _ _ _ _ bd c (qD K.1 ?_ h1) h2
   grind
  .exact .dead _
 |kZ b =>
  simp only[jV];split
  .rename_i K;obtain⟨bd,c,h1,h2,rfl⟩:=q.ym;refine .kZ _ bd c (qD K.1 ?_ h1) h2
   grind
  .exact .dead _
 |fn f a c =>
  simp only[jV];split
  .rename_i S;cases q with
   |pure _ _ q=>cases q
   |fn _ _ _ va vc q1 Y X q4 =>
    have z:=aJ.1 S;refine .fn _ _ _ va vc q1 Y (λj y u hy hu=>Fa (z y ?_) (X j y u hy hu)) (λj y u hy hu=>Fa (z y ?_) (q4 j y u hy hu))
    .grind
    grind
  .exact .dead _
 |undef=>rw[q.vW];exact .undef
 |_=>exact pure q
def wo(q:Rel Z β h w)(L:Nat)(R:au){a:AV}{v:Value}(b:VR β (Own Z β h) w a v):
  VR (uW β h L R) (Own Z (uW β h L R) (iQ L R h 0 (h.take L))) w (jX L R h a) v:=by
 unfold jX;split
 .rename_i l;exact .pure _ _ ((b.Bv l).mono mC)
 .split
  .rename_i cs i;obtain⟨vs,rfl,hl,h1,h2⟩:=b.nk;refine .agg _ vs (ak hl) h1 λj y u n o=>?_
   grind[Option.some.injEq,wq]
  grind[wq]
def zI(n:Rel Z β h w)(L:Nat)(R:au):Rel Z (uW β h L R) (iQ L R h 0 (h.take L)) w:=by
 refine⟨n.xlt,λi c O=>n.yC i c (oI O).1,λi v A=>?_,λi v sz es v' S z=>?_,λi X' S=>?_,λi j c A hj=>n.apart i j c (oI A).1 (oI hj).1,n.gl.stay mC⟩
 .rw[vr,bI]at A;unfold uW;split
  .rename_i Y;have hh:h.length<=i:=by omega
   simp only[n.fresh i _ hh]
   grind
  .rfl
 .let⟨X,b,A,Q⟩:=zJ S;cases X with
  |row v0 U es0 =>
   simp only[mc,AB.row.injEq]at Q;obtain⟨rfl,rfl,rfl⟩:=Q;unfold uW;rw[if_pos A];split
   .grind
   .rename_i hR;rw[if_neg hR]at z;exact n.later i v0 sz es v' b z
  |_=>simp[mc]at Q
 .obtain⟨X,b,A,rfl⟩:=zJ S;have F:=n.blk i X b;cases X with
  |gone=>trivial
  |var cs =>
   let⟨c,cur,elem,e1,r,l,T⟩:=F;have z:GD h i=0:=by unfold GD;rw[b]
   refine⟨c,cur,elem,?_,r,ak l,λj y hy=>?_⟩
   .unfold uW
    grind
   grind[Option.some.injEq,wq]
  |mp q es =>
   let⟨c,arr,clock,e1,r,l,T⟩:=F;have z:GD h i=0:=by unfold GD;rw[b]
   refine⟨c,arr,clock,?_,r,ak l,λj p E=>?_⟩
   .unfold uW
    grind
   rw[bM]at E;cases N:es[j]? with
   |none=>rw[N]at E;cases E
   |some x =>
    rw[N]at E;cases E;let⟨y,g1,g2,g3⟩:=T j x N;exact⟨y,g1,g2,wo n L R g3⟩
  |row v sz es =>
   let⟨o,bd,e1,r,l⟩:=F;have z:GD h i=v:=by unfold GD;rw[b]
   refine⟨o,bd,?_,r,?_⟩
   .unfold uW
    grind
   .rcases l with l | ⟨c,cur,M,K,H,G,k5⟩
    .exact .inl l
    .exact .inr ⟨c,cur,M,K,H,G,ic.mono mC k5⟩
  |lu v sz es =>
   let⟨o,bd,e1,r,l⟩:=F;have z:GD h i=v:=by unfold GD;rw[b]
   refine⟨o,bd,?_,r,?_⟩
   .unfold uW
    grind
   .rcases l with l | ⟨c,cur,fr,M,W,K,H,G,k5⟩
    .exact .inl l
    .exact .inr ⟨c,cur,fr,M,λO=>W (zi O),K,H,G,ic.mono mC k5⟩
def zK{R:au}:Ct (nS R L) Z β h w (uW β h L R) (iQ L R h 0 (h.take L)) w:=by
 refine⟨λ_ _ _=>rfl,rfl,rfl,rfl,λi v bd b l=>?_,mC⟩
 grind[nS,Bool.or_eq_false_iff,qD]
theorem KJ{R:au}{β':iW}{O G:ay}{w':World}(n:∀i v bd,R.contains i=false->β i v=some bd->β' i v=some bd)(E:jJ O w G w'){a:AV}{v:Value}(l:VR β O w a v):
  VR β' G w' (j8 R a) v:=by
 have one:∀ {x:AV} {u:Value},(x.jE||match x with | .ptr b _ _ _=>!R.contains b | .own b _ _ _=>!R.contains b | .kZ b=>!R.contains b | _=>false)=true->VR β O w x u->VR β' G w' x u:=by
  intro x u hx l;rw[bP]at hx
  rcases hx with hx | hx
  .exact .pure _ _ ((l.Bv hx).mono E)
  .split at hx
   .obtain⟨bd,c,h1,h2,rfl⟩:=l.jl;exact .ptr _ _ _ _ bd c (n _ _ _ (ak hx) h1) h2
   .obtain⟨bd,a,c,h1,rfl,h2⟩:=l.jL;exact .own _ _ _ _ bd a c (n _ _ _ (ak hx) h1) h2
   .obtain⟨bd,c,h1,h2,rfl⟩:=l.ym;exact .kZ _ bd c (n _ _ _ (ak hx) h1) h2
   .cases hx
 have two:∀ {x:AV} {u:Value},VR β O w x u->VR β' G w' (if (x.jE||match x with | .ptr b _ _ _=>!R.contains b | .own b _ _ _=>!R.contains b | .kZ b=>!R.contains b | _=>false)=true then x else .dead) u:=by
  intro x u l;exact iteInduction (motive:=λz=>VR β' G w' z u) (λhx=>one hx l) (λ_=>.dead _)
 cases a with
 |agg cs =>
  simp only[j8];split
  .rename_i r;obtain⟨vs,rfl,hl,h1,h2⟩:=l.nk;exact .agg _ vs hl h1 λj y u A F=>one (aJ.1 r y (bE A)) (h2 j y u A F)
  .exact .dead _
 |fn f a c =>
  simp only[j8];split
  .rename_i r;cases l with
   |pure _ _ l=>cases l
   |fn _ _ _ L K q1 Q N M =>
    have q:=aJ.1 r;refine .fn _ _ _ L K q1 Q (λj y u A F=>one (q y ?_) (N j y u A F)) (λj y u A F=>one (q y ?_) (M j y u A F))
    .grind
    grind
  .exact .dead _
 |undef=>rw[l.vW];exact .undef
 |iw cs =>
  cases l with
  |pure _ _ l=>cases l
  |iw _ blk o f S H h1 h3 h2 =>
   refine .iw cs blk o f (E.2 blk H S).2 (br H E.1) (λj y A=>?_) h3 (λj y A=>(h2 j y A).mono E)
   grind[wP]
 |_=>exact two l
def Gn{R:au}{O n:ay}{w':World}(b:∀i v bd,R.contains i=false->β i v=some bd->β' i v=some bd)(l:jJ O w n w'){e:Env}{t:Nat}{v:Value}(o:VR β O w (e t) v):
  VR β' n w' (nj R e t) v:=by
 unfold nj;split
 .rename_i q;have:R=[]:=by simpa using q
  subst this;exact o.mono (λi v bd=>b i v bd rfl) l
 grind[KJ]
def C4{β':iW}{O:ay}{w':World}{tm:Nat->Value}{e0:Env}(h0:∀t,VR β' O w' (e0 t) (tm t)):∀(b:au)(vs:List AV),(∀p∈b.zip vs,VR β' O w' p.2 (tm p.1))->∀t,VR β' O w' (e0.lay b vs t) (tm t)
 | [],_,_,t=>by simp only[Env.lay];exact h0 t
 |_::_,[],_,t=>by simp only[Env.lay];exact h0 t
 |q::b,v::vs,l,t=>by
  simp only[Env.lay,Env.put];split
  .simp_all
  .exact C4 h0 b vs (λp i=>l p (by simp[i])) t
def uE{a:Act}{n:Nat}:∀(own:aB)(s:St)(β:iW),own.all (λp=>decide (0<p.2))=true->Rel Z β s.h w->iP Z β s.h w s.e a n->
  ∃β',Rel Z β' (iJ own s).h w/\Fr Z β s.h w β' (iJ own s).h w/\iP Z β' (iJ own s).h w (iJ own s).e a n
 | [],s,β,_,R,E=>⟨β,R,Fr.refl _ _ _ _,E⟩
 | (t,sz)::l,s,β,ok,R,E=>by
  simp only[cm,aC,decide_eq_true_eq]at ok;unfold iJ;split
  .rename_i o;obtain⟨β1,v,b,A,-⟩:=R.tF sz ok.1
   have z:iP Z β1 (s.h++[.row 0 sz []]) w (s.e.put t (.own s.h.length 0 0 0)) a n:=by
    refine⟨E.1,λq=>?_⟩
    simp only[Env.put];split
    .rename_i i;subst i;have h0:=E.2 q;rw[o]at h0;have h1:=h0.lS;generalize a.tmps.getD q Go.undef=u at h1;cases h1 with
     |en _ _ ad c _ _ _ _ F _ _ _ _ _ _ =>
      grind
    .exact(E.2 q).fr b
   let⟨β2,r,x,y⟩:=uE l ⟨s.e.put t (.own s.h.length 0 0 0),s.h++[.row 0 sz []]⟩ β1 ok.2 v z;exact⟨β2,r,b.trans x,y⟩
  .exact uE l s β ok.2 R E
end
variable{o n:Nat}{y x:AV}
section
variable{P:Program}{Z:ay}{β:iW}{h:AH}{w:World}
def OE(R:Rel Z β h w){B:Nat}{cs:List AV}(E:h[B]? = some (.var cs))(F:cs[o]? = some y)(hx:∀v,VR β (Own Z β h) w y v->VR β (Own Z β h) w x v):
  Rel Z β (h.set B (.var (cs.set o x))) w/\Fr Z β h w β (h.set B (.var (cs.set o x))) w:=by
 have A:B<h.length:=(az.1 E).1;refine R.Ly (X':=.var (cs.set o x)) A rfl rfl rfl (λ_ _ _=>rfl) (λ_ _ e=>e) (λ_ _ _ _ e=>by cases e) (λc L=>?_) (aT _) (λ_ _ _=>rfl) (λb=>?_)
 .let⟨bd,q1,K⟩:=L;exact .inl ⟨_,E,bd,q1,K⟩
 .let⟨c,cur,elem,e1,N,M,G⟩:=R.blk B _ E;refine⟨c,cur,elem,ak e1,N,ak M,λj H l=>?_⟩
  by_cases i:o=j
  .subst i;have z:o<cs.length:=(az.1 F).1;rw[bh z]at l;cases l;let⟨v,r,q,n⟩:=G o y F;exact⟨v,r,q,(hx v n).mono (λ_ _ _ e=>e) b⟩
  .rw[aL i]at l;let⟨v,r,q,n⟩:=G j H l;exact⟨v,r,q,n.mono (λ_ _ _ e=>e) b⟩
def Ee{s:St}{a:Act}(R:Rel Z β s.h w)(E:iP Z β s.h w s.e a n){t:Nat}(i:Fy s t o=some y)(hx:∀v,VR β (Own Z β s.h) w y v->VR β (Own Z β s.h) w x v):
  Rel Z β (GS s t o x).h w/\Fr Z β s.h w β (GS s t o x).h w/\iP Z β (GS s t o x).h w (GS s t o x).e a n:=by
 unfold Fy at i;unfold GS;generalize F:s.e t=q at i;split at i
 .rename_i b;split at i
  .rename_i cs l;simp only[l];let⟨G,r⟩:=OE R l i hx;exact⟨G,r,E.fr r⟩
  .cases i
 .rename_i cs;refine⟨R,Fr.refl _ _ _ _,E.1,λq=>?_⟩
  simp only[Env.put];split
  .rename_i A;subst A;have h0:=E.2 q;rw[F]at h0;let⟨vs,z,hl,h1,h2⟩:=h0.nk;rw[z];refine .agg _ vs (ak hl) h1 λj H u L K=>?_
   grind
  .exact E.2 q
 .cases i
def NM{s:St}{t:Nat}(i:Fy s t o=some y){h':AH}(l:∀(b:Nat)(cs:List AV),s.h[b]? = some (.var cs)->h'[b]? = some (.var cs)):Fy ⟨s.e,h'⟩ t o=some y:=by
 unfold Fy at i⊢;split at i
 .grind
 .grind
 .cases i
def Fu(R:Rel Z β h w){b:Nat}{cs:List AV}(q:h[b]? = some (.var cs))(hs:cs.all AV.jD=true):
  Rel Z β (h.set b .gone) w/\Fr Z β h w β (h.set b .gone) w/\∀v,VR β (Own Z β h) w (.ptr b 0 0 0) v->VR β (Own Z β (h.set b .gone)) w (.iw cs) v:=by
 have H:=(az.1 q).1;let⟨c,cur,elem,h1,h2,h3,h4⟩:=R.blk b _ q
 let⟨O,F⟩:=R.Ly (X':=.gone) (β':=β) (w':=w) H rfl rfl rfl (λ_ _ _=>rfl) (λ_ _ e=>e) ah (by
  rintro c ⟨_,_,N⟩
  exact N.elim) (aT _) (λ_ _ _=>rfl) (λ_=>trivial)
 refine⟨O,F,λv M=>?_⟩
 obtain⟨bd,Q,q1,K,rfl⟩:=M.jl;rw[h1]at q1;cases q1;cases K
 have E:¬Own Z β (h.set b .gone) c:=by
  rintro(L | ⟨j,X,r,o⟩)
  .exact R.yC b c ⟨_,q,_,rfl,h1⟩ L
  .by_cases i:j=b
   .subst i;rw[bh H]at r;cases r;let⟨_,_,o⟩:=o;exact o.elim
   .rw[aL (Ne.symm i)]at r;exact i (R.apart j b c ⟨X,r,o⟩ ⟨_,q,_,rfl,h1⟩)
 have G:c<w.heap.size:=(aH.1 h2).1
 have l:∀(j:Nat)(y:AV),cs[j]? = some y->∃v,cur[j]? = some v/\v.oneCell'=true/\mM (Own Z β (h.set b .gone)) w y v:=λj y n=>by
  let⟨v,A,z,x⟩:=h4 j y n;exact⟨v,A,z,((x.fr F).Bu (aJ.1 hs y (bE n)))⟩
 refine .iw cs c _ (λj=>cur.getD j Go.undef) E G (λj y n=>?_) (λj y n=>?_) (λj y n=>?_)
 all_goals
  let⟨v,A,z,x⟩:=l j y n;simp[A,h2,z,x,World.cell?]
def NN{s s':St}{a:Act}(R:Rel Z β s.h w)(E:iP Z β s.h w s.e a n){p:Nat×Nat}(l:QO s p=some s'):
  Rel Z β s'.h w/\Fr Z β s.h w β s'.h w/\iP Z β s'.h w s'.e a n:=by
 unfold QO at l;split at l
 .unfold WN at l;split at l
  .rename_i b T;split at l
   .rename_i cs H;split at l
    .rename_i hs;cases l;let⟨K,z,W⟩:=Fu R H hs;refine⟨K,z,E.1,λq=>?_⟩
     have h0:=E.2 q;simp only[Env.put];split
     .rename_i Q;subst Q;rw[T]at h0;exact W _ h0
     .exact h0.fr z
    .cases l
   .cases l
  .cases l
 simp only[aD]at l;let⟨y,L,⟨M,h'⟩,i,l⟩:=l;cases l;dsimp only
 by_cases U:y.jD=true
 .have:mQ s.h y=some (y,s.h):=by
   cases y<;>simp[AV.jD]at U<;>simp[mQ,AV.jD]
  rw[this]at i;cases i;exact Ee R E L (λ_ G=>G)
 .cases y with
  |own b v o m =>
   have r:∀(k:Nat)(X:AB),s.h[k]? = some X->(∀v sz es,X≠.row v sz es)->h'[k]? = some X:=by
    intro k cs hk S;unfold mQ at i;dsimp only at i;split at i
    .grind
    .grind
    .cases i
   have key:∃F:Rel Z β h' w,Fr Z β s.h w β h' w:=by
    unfold mQ at i;dsimp only at i;split at i
    .rename_i v' sz es H;split at i
     .cases i;let⟨Y,F⟩:=R.freeze H;exact⟨Y,F⟩
     .cases i
    .grind[Fr.refl]
    .cases i
   let⟨K,z⟩:=key;have A:Fy ⟨s.e,h'⟩ p.1 p.2=some (.own b v o m):=NM L (λk cs hk=>r k _ hk (λ_ _ _ e=>by cases e))
   let⟨O,N,r3⟩:=Ee (s:=⟨s.e,h'⟩) (x:=M) K (E.fr z) A (λu G=>by
    obtain⟨bd,ad,c,h1,rfl,h2⟩:=G.jL;let⟨_,_,V,_⟩:=zb R i (.own b v o m bd ad c h1 h2);exact V)
   exact⟨O,z.trans N,r3⟩
  |_=>grind[mQ,AV.jD]
def zN:∀(g:aB){s s':St}{a:Act}{n:Nat},Rel Z β s.h w->iP Z β s.h w s.e a n->HD g s=some s'->
  Rel Z β s'.h w/\Fr Z β s.h w β s'.h w/\iP Z β s'.h w s'.e a n
 | [],s,s',a,n,R,E,b=>by
  cases b
  grind[Fr.refl]
 |p::l,s,s',a,n,R,E,b=>by
  simp only[HD,aD]at b;let⟨s1,h1,b⟩:=b;let⟨o,r,x⟩:=NN R E h1;let⟨i,q,v⟩:=zN l o x b;exact⟨i,r.trans q,v⟩
end
def US(p:Pn):List PanicEntry:=[{v:=.iface p.1 (.int p.2.1 p.2.2),recovered:=false}]
def G7(P:Program)(n:Nat)(all:List Oper)(o:Oper):XO->Bool
 | .op d x=>wk P n all o ⟨d,none,x⟩
 | .call d f b=>o.guard.isNone&&decide (o.dst=d)&&(mz d).all (λt=>decide (t<n))&&(match o.op with
   | .call {callee:=.value (.func h),args,argTypes:=_}=>decide (h=f)&&jP args.toList b
   |_=>false)
 | .jS d y b=>o.guard.isNone&&decide (o.dst=d)&&(mz d).all (λt=>decide (t<n))&&(match o.op with
   | .call {callee:=.value (.tmp t),args,argTypes:=_}=>kj (.tmp t) y&&jP args.toList b
   |_=>false)
 | .mD y=>o.guard.isNone&&(match o.op with
   | .panic x=>kj x y
   |_=>false)
def MP(P:Program)(n:Nat)(all:List Oper)(last:IT):List Oper->List (IT×XO)->Bool
 |os,[]=>r8 [] last&&ku P n all os (flatten last none)
 |os,(l,z)::r=>r8 [] l&&(match os.drop (flatten l none).length with
   |o::b=>ku P n all (os.take (flatten l none).length) (flatten l none)&&G7 P n all o z&&MP P n all last b r
   | []=>false)
def aeM:XO->au
 | .op d _=>mz d
 | .call d _ _=>mz d
 | .jS d _ _=>mz d
 | .mD _=>[]
def TK:List (IT×XO)->au
 | []=>[]
 |p::r=>wr p.1++aeM p.2++TK r
section
variable{P:Program}{Z:ay}{Γ:ja}{β:iW}{w:World}
def mu:∀(l:IT)(g:Option (Nat×Bool))(x:AI)(t:Nat),x∈flatten l g->x.dst=some t->t∈wr l
 | .nil,g,x,t,hx,_=>by cases hx
 | .op d o rest,g,x,t,hx,b=>by
  simp only[flatten,aY]at hx;simp only[wr,aZ]
  rcases hx with rfl | hx
  .left;dsimp only at b;subst b;simp[mz]
  .exact .inr (mu rest g x t hx b)
 | .sc d a c h i l r rest,g,x,t,hx,b=>by
  simp only[flatten,aZ,aY]at hx;simp only[wr,aZ,aY]
  rcases hx with hx | rfl | hx
  .exact .inl (mu l _ x t hx b)
  .right;left;dsimp only at b;cases b;rfl
  .exact .inr (.inr (mu rest g x t hx b))
def RY.wp{h:AH}{f:FuncId}{args:List AV}{h':AH}{r:AV⊕Pn}(hs:RY P f args h r h')(R:Rel Z β h w){vs:List Value}(hl:args.length=vs.length)
  (A:∀(j:Nat)(y:AV)(u:Value),args[j]? = some y->vs[j]? = some u->VR β (Own Z β h) w y u) {o:Oper} {a:Act} {next:Act->World->Prop} {Q:Exit->Act->World->Prop}
  (K:∀w' β',Rel Z β' h' w'->Fr Z β h w β' h' w'->match r with
   | .inl r=>∀v,VR β' (Own Z β' h') w' r v->next (a.put o.dst v) w'
   | .inr p=>Q (.panic (US p)) a w'):o.upon P a next Q ((callFunc f vs.toArray).run P w):=by
 let⟨⟨fn,G,n,F⟩,H⟩:=hs
 have E:(callFunc f vs.toArray).run P w = .ok (.enter f vs.toArray) w:=by
  have l:fn.body.isNone=false:=by
   cases i:fn.body with
   |none=>rw[i]at n;cases n
   |some _=>rfl
  simp only[callFunc,Sem.run_bind,run_program,Result.andThen_ok,G,F,l,bq,if_false,Sem.run_pure]
 rw[E];refine(H Z β w vs R hl A).mono ?_
 rintro e w' ⟨β',z,x,b⟩
 have q:=K w' β' z x;cases r with
 |inl r =>
  obtain⟨v,rfl,b⟩:=b;exact q v b
 |inr p =>
  subst b;exact q
def HT{s:St}{a:Act}{n:Nat}(G:Gl (Own Z β s.h) w)(E:iP Z β s.h w s.e a n){t:Tmp}{y:AO}{args:Array Operand}{r:List AO}(h1:kj (.tmp t) y=true)(h2:jP args.toList r=true)
  {g:FuncId} {first cap:List AV} (hg:y.get s.e = .fn (.func g) first cap) {o:Oper} {A:Array TypeId} (H:o.op = .call {callee:=.value (.tmp t),args:=args,argTypes:=A}) :
  ∃vs:List Value,execOp a.eval o=callFunc g vs.toArray/\(first++getAll s.e r++cap).length=vs.length/\
   ∀(j:Nat)(y:AV)(u:Value),(first++getAll s.e r++cap)[j]? = some y->vs[j]? = some u->VR β (Own Z β s.h) w y u:=by
 let⟨dst,op,type,pos,after,guard⟩:=o;dsimp only at H;subst H;let⟨F,p2⟩:=lJ G E h2;have v1:=gW G E h1;rw[hg]at v1;generalize z:a.eval (.tmp t)=u at v1;cases v1 with
 |pure _ _ N=>cases N
 |fn _ _ _ v x q1 M L K =>
 refine⟨v++args.toList.map a.eval++x,?_,by simp only[aG,q1,M,F],?_⟩
 .have:(v++args.toList.map a.eval++x).toArray=v.toArray++args.map a.eval++x.toArray:=cq ah
  rw[this];simp[execOp,resolve,Deferred.ofValue,invoke,z]
 intro j O Q i l;rw[eF]at i l;have e1:(first++getAll s.e r).length=(v++args.toList.map a.eval).length:=by simp only[aG,q1,F]
 rw[e1]at i;split at i
 .rename_i q;rw[if_pos q]at l;rw[eF]at i l;rw[q1]at i;split at i
  .rename_i b;rw[if_pos b]at l;exact L _ _ _ i l
  .rename_i b;rw[if_neg b]at l;exact p2 _ _ _ i l
 .rename_i q;rw[if_neg q]at l;exact K _ _ _ i l
def FJ(U:js P Γ){n:Nat}{ops:Array Oper}{o:Oper}{z:XO}(ok:G7 P n ops.toList o z=true){ρ:Type}{next:St->Option ρ}{k:AX->St->Option ρ}{s:St}{r:ρ}(b:ng Γ z next k s=some r)
  {W:aA} (hW:∀t∈aeM z,W t=true) {a:Act} (R:Rel Z β s.h w) (E:iP Z β s.h w s.e a n) {K:Act->World->Prop} {Q:Exit->Act->World->Prop}
  (kn:∀s' O w' β',next s'=some r->Rel Z β' s'.h w'->Fr Z β s.h w β' s'.h w'->iP Z β' s'.h w' s'.e O n->iM W a O->K O w')
  (kp:∀p s' O w' β',k (.mD p) s'=some r->Rel Z β' s'.h w'->Fr Z β s.h w β' s'.h w'->iP Z β' s'.h w' s'.e O n->iM W a O->Q (.panic (US p)) O w') :
  if Region.wanted o (yielded ops a.tmps)then o.wp P a w K Q\/(o.asks P a w/\LetsOut Q)else K (a.put o.dst Go.undef) w:=by
 have kd:∀ {d:Option Nat},(mz d).all (λt=>decide (t<n))=true->o.dst=d->(∀t∈mz d,W t=true)->∀ {v:AV} {h':AH} {u:Value} {w':World} {β':iW},next (St.put ⟨s.e,h'⟩ d v)=some r->Rel Z β' h' w'->Fr Z β s.h w β' h' w'->VR β' (Own Z β' h') w' v u->K (a.put o.dst u) w':=by
  intro d F L M v h' u w' β' Y S G A;subst L;exact kn _ _ w' β' Y (by rw[uo];exact S) (by rw[uo];exact G) (by rw[uo];exact(E.fr G).JX F A) (iM.put a _ u λt ht=>M t (by rw[ht];simp[mz]))
 have T:∀ {d:Option Nat} {f:FuncId} {args:List AV} {vs:List Value},(mz d).all (λt=>decide (t<n))=true->o.dst=d->(∀t∈mz d,W t=true)->O8 d next k s (Γ.x f args s.h)=some r->args.length=vs.length->
   (∀(j:Nat)(y:AV)(u:Value),args[j]? = some y->vs[j]? = some u->VR β (Own Z β s.h) w y u)->o.upon P a K Q ((callFunc f vs.toArray).run P w):=by
  intro d f args vs F L M hx hl A;cases hq:Γ.x f args s.h with
  |none=>rw[hq]at hx;cases hx
  |some q =>
   obtain⟨x,h'⟩:=q;rw[hq]at hx;refine(U.x f args s.h x h' hq).wp R hl A λw' β' S G=>?_
   cases x with
   |inl v=>exact λu hu=>kd F L M hx S G hu
   |inr p=>exact kp p _ a w' β' hx S G (E.fr G) (iM.refl W a)
 have H:o.guard.isNone=true->o.wp P a w K Q->if Region.wanted o (yielded ops a.tmps)then o.wp P a w K Q\/(o.asks P a w/\LetsOut Q)else K (a.put o.dst Go.undef) w:=by
  intro hg h;have:o.guard=none:=by simpa using hg
  rw[if_pos (by simp[Region.wanted,this])]
  exact .inl h
 cases z with
 |op d x =>
  simp only[ng,aD]at b;obtain⟨⟨v,h'⟩,hx,b⟩:=b;have l:=ok;simp only[G7,wk,aC,decide_eq_true_eq]at l;refine qa R U E ok (v:=v) (h':=h') (by simpa[step1]using hx) λu w' β' S G A=>?_
  have:=kd l.1.1.2 l.1.1.1 hW b S G A
  rwa [l.1.1.1]at this
 |call d f ys =>
  simp only[G7,aC,decide_eq_true_eq]at ok;obtain⟨⟨⟨hg,F⟩,Y⟩,ok⟩:=ok;refine H hg ?_;obtain⟨dst,op,type,pos,after,guard⟩:=o;dsimp only at ok F;split at ok<;>first | (cases ok;done) | skip
  rename_i f' args N;simp only[aC,decide_eq_true_eq]at ok;obtain⟨rfl,hok⟩:=ok;obtain⟨p1,p2⟩:=lJ R.gl E hok;unfold Oper.wp
  have hx:execOp a.eval ⟨dst,.call {callee:=.value (.func f'),args:=args,argTypes:=N},type,pos,after,guard⟩=callFunc f' (args.toList.map a.eval).toArray:=by
   have:(args.toList.map a.eval).toArray=args.map a.eval:=cq ah
   simp[execOp,resolve,Deferred.ofValue,invoke,Act.eval,this]
  rw[hx];exact T Y F hW b p1 p2
 |jS d y ys =>
  simp only[G7,aC,decide_eq_true_eq]at ok;obtain⟨⟨⟨hg,F⟩,Y⟩,ok⟩:=ok;refine H hg ?_;cases X:o.op<;>rw[X]at ok<;>first | (cases ok;done) | skip
  rename_i c;obtain⟨callee,args,N⟩:=c;split at ok<;>first | (cases ok;done) | skip
  rename_i t args N heq;cases heq;simp only[aC]at ok;simp only[ng]at b;split at b<;>first | (cases b;done) | skip
  rename_i g first cap hgg;obtain⟨vs,q1,q2,q3⟩:=HT R.gl E ok.1 ok.2 hgg X;unfold Oper.wp;rw[q1];exact T Y F hW b q2 q3
 |mD y =>
  simp only[G7,aC]at ok;refine H ok.1 ?_;have i:=ok.2;simp only[ng]at b;split at b<;>first | (cases b;done) | skip
  rename_i t q m hy;obtain⟨dst,op,type,pos,after,guard⟩:=o;dsimp only at i;split at i<;>first | (cases i;done) | skip
  rename_i x;have v1:=gW R.gl E i;rw[hy]at v1
  have hx:a.eval x = .iface t (.int q m):=by
   generalize a.eval x=u at v1;cases v1 with
   |pure _ _ A=>cases A
   |uc _ _ v A=>rw[A.jF]
  unfold Oper.wp;simp only[execOp,hx,Instr.panic,goPanic];exact kp (t,q,m) s a w β b R (Fr.refl _ _ _ _) E (iM.refl W a)
def xD(i:js P Γ){n:Nat}{W:aA}{ops:Array Oper}{Q:Exit->Act->World->Prop}(rest:List Oper):∀(os:List Oper)(xs:List AI)(s s':St)(a:Act)(w:World)(β:iW),ku P n ops.toList os xs=true->
  (∀x∈xs,∀t,x.dst=some t->W t=true)->flat Γ xs s=some s'->Rel Z β s.h w->iP Z β s.h w s.e a n->
  (∀A w' β',Rel Z β' s'.h w'->Fr Z β s.h w β' s'.h w'->iP Z β' s'.h w' s'.e A n->iM W a A->wpList P ops Q rest A w')->wpList P ops Q (os++rest) a w
 | [],[],s,s',a,w,β,_,_,b,R,E,k=>by
  simp only[flat]at b;cases b;exact k a w β R (Fr.refl Z β s.h w) E (iM.refl W a)
 | [],_::_,_,_,_,_,_,ok,_,_,_,_,_=>by simp[ku]at ok
 |_::_,[],_,_,_,_,_,ok,_,_,_,_,_=>by simp[ku]at ok
 |o::os,x::xs,s,s',a,w,β,ok,H,b,R,E,k=>by
  simp only[ku,aC]at ok;rw[lT]at b;simp only[aD]at b;let⟨⟨v,h'⟩,hx,b⟩:=b
  have N:(mz x.dst).all (λt=>decide (t<n))=true:=by
   have:=ok.1;unfold wk at this
   grind
  rw[aM];unfold wpList;refine qa R i E ok.1 hx λu w' β' O K M=>?_
  refine xD i rest os xs _ s' _ w' β' ok.2 (λy L=>H y (by simp[L])) b (by rw[uo];exact O) (by rw[uo];exact(E.fr K).JX N M) λz r β'' F q G l=>?_
  rw[uo]at q;exact k z r β'' F (K.trans q) G ((iM.put a x.dst u (H x ah)).trans l)
def Da{l:IT}(ok:r8 [] l=true){s s':St}(r:qX Γ l s=some s'):∃s1,flat Γ (flatten l none) s=some s1/\s1.h=s'.h/\
  ∀ {β':iW} {w':World} {b:Act} {n:Nat},iP Z β' s1.h w' s1.e b n->iP Z β' s'.h w' s'.e b n:=by
 let⟨s1,h1,h2,h3,h4,_⟩:=sF Γ l [] none s s' s ok (λc a h=>by cases h) r rfl (λ_ _=>rfl) (λt q=>by simp[jN]at q)
 refine⟨s1,h1,h2,λ{β' w' b n} i=>?_⟩
 rw[h2]at i;refine⟨i.1,λt=>?_⟩
 cases o:jN (sE l++[]) t with
 |true=>rw[h4 t o];exact .dead _
 |false=>rw[<-h3 t o];exact i.2 t
def FI(i:js P Γ){n:Nat}{ops:Array Oper}{last:IT}{ρ:Type}{k:AX->St->Option ρ}{r:ρ}{W:aA}(A:∀t∈wr last,W t=true){Q:Exit->Act->World->Prop}:
  ∀(l:List (IT×XO))(os:List Oper),MP P n ops.toList last os l=true->∀ {s:St},oq Γ last k l s=some r->(∀t∈TK l,W t=true)->∀ {a:Act} {w:World} {β:iW},Rel Z β s.h w->iP Z β s.h w s.e a n->
  (∀s' b w' β',k .normal s'=some r->Rel Z β' s'.h w'->Fr Z β s.h w β' s'.h w'->iP Z β' s'.h w' s'.e b n->iM W a b->Q .normal b w')->
  (∀p s' b w' β',k (.mD p) s'=some r->Rel Z β' s'.h w'->Fr Z β s.h w β' s'.h w'->iP Z β' s'.h w' s'.e b n->iM W a b->Q (.panic (US p)) b w')->wpList P ops Q os a w
 | [],os,ok,s,q,_,a,w,β,R,E,O,N=>by
  simp only[MP,aC]at ok;simp only[oq,aD]at q;let⟨s',U,q⟩:=q;let⟨s1,h1,h2,h3⟩:=Da (Z:=Z) ok.1 U;refine tM i os (flatten last none) s s1 a w β ok.2 (λx hx t X=>A t (mu last none x t hx X)) h1 R E λb w' β' F y E' G=>?_
  rw[h2]at F y;exact O s' b w' β' q F y (h3 E') G
 | (l,z)::rest,os,ok,s,q,H,a,w,β,R,E,O,N=>by
  simp only[MP,aC]at ok;let⟨M,ok⟩:=ok;simp only[TK,aZ]at H;split at ok
  .rename_i o v ho;simp only[aC]at ok;simp only[oq,aD]at q;let⟨s',U,q⟩:=q;let⟨s1,h1,h2,h3⟩:=Da (Z:=Z) M U;have T:os=os.take (flatten l none).length++o::v:=by rw[<-ho,cF]
   rw[T];refine xD i (o::v) _ (flatten l none) s s1 a w β ok.1.1 (λx hx t X=>H t (.inl (.inl (mu l none x t hx X)))) h1 R E λb w' β' F y E' G=>?_
   rw[h2]at F y;unfold wpList;refine FJ i ok.1.2 q (λt S=>H t (.inl (.inr S))) F (h3 E') (λs2 a2 w2 β2 hk R2 K E2 K2=>?_) (λp s2 a2 w2 β2 hk R2 K E2 K2=>N p s2 a2 w2 β2 hk R2 (y.trans K) E2 (G.trans K2))
   exact FI i A rest v ok.2 hk (λt S=>H t (.inr S)) R2 E2 (λs3 a3 L β3 hk Y F3 E3 K3=>O s3 a3 L β3 hk Y ((y.trans K).trans F3) E3 ((G.trans K2).trans K3))
    (λp s3 a3 L β3 hk Y F3 E3 K3=>N p s3 a3 L β3 hk Y ((y.trans K).trans F3) E3 ((G.trans K2).trans K3))
  .cases ok
def G8(ops:List Oper):Bool:=xz (oK [] ops) 0 ops&&(ops.all λo=>match o.guard with | some g=>decide (g.1+1<ops.length) | none=>true)&&(List.range (ops.length-1)).all λj=>((oK [] ops).getD (ops.length-1) 0).testBit j
def I5(P:Program)(ops:Array Oper)(Q:Exit->Act->World->Prop)(m:Nat):Exit->Act->World->Prop:=λe a w=>match e with
 | .normal=>wpOp P ops Q m (λa w=>Q .normal a w) a w
 |e=>Q e a w
def Lq{ops:Array Oper}{Q:Exit->Act->World->Prop}{m:Nat}{o:Oper}{a:Act}{w:World}{K b:Act->World->Prop}(i:∀a w,K a w->b a w)(h:o.wp P a w K (I5 P ops Q m)\/(o.asks P a w/\LetsOut (I5 P ops Q m))):
  o.wp P a w b Q\/(o.asks P a w/\LetsOut Q):=by
 refine h.imp (λh=>Oper.wp_mono i ?_) id
 unfold Oper.wp at h⊢;generalize(execOp a.eval o).run P w=q at h⊢;cases q with
 |ok x w'=>cases x<;>exact h
 |halt x w'=>cases x<;>exact h
def OQ{b ops:Array Oper}{o:Oper}(ho:ops=b.push o)(ok:G8 ops.toList=true){Q:Exit->Act->World->Prop}:∀(n:Nat)(listed:Array Bool)(a:Act)(w:World),listed.size=b.size->listed.toList.count false=n->
  (∀j i,(listed.push false).getD j false=true->((oK [] ops.toList).getD j 0).testBit i=true->(listed.push false).getD i false=true)->
  wpAny P .any b (I5 P ops Q b.size) n listed a w->wpAny P .any ops Q (n+1) (listed.push false) a w:=by
 unfold G8 at ok;simp only[aC]at ok;let⟨⟨ZI,S⟩,O⟩:=ok;let⟨wt,N⟩:=nT ZI;rw[aJ]at O S;have E:ops.size=b.size+1:=by rw[ho];simp
 have hm:ops[b.size]? = some o:=by rw[ho];simp
 have G:∀ {j:Nat},j<b.size->ops[j]? = b[j]? := λ{j} r=>by rw[ho,dN,if_neg aa]
 have last:∀ {listed:Array Bool},listed.size=b.size->(∀j i,(listed.push false).getD j false=true->((oK [] ops.toList).getD j 0).testBit i=true->(listed.push false).getD i false=true)->b.size∈Region.ready .any ops (listed.push false)->∀j,j<b.size->listed.getD j false=true:=by
  intro listed hs y X j r;let⟨_,o',q,l⟩:=mem_ready.1 X;have:=wt b.size o' (λi=>(listed.push false).getD i false) q rfl l y j (by have:=O j (by simp[E];exact r);simpa[E]using this)
  simpa[dN,hs,gP r]using this
 have push:∀ {listed:Array Bool} {j:Nat} (d:Bool),j<listed.size->(listed.push false).getD j d=listed.getD j d:=λ{listed j} d r=>by simp[dN,gP r]
 have other:∀ {listed:Array Bool},listed.size=b.size->∀ {j:Nat},j<b.size->j∈Region.ready .any ops (listed.push false)->j∈Region.ready .any b listed:=by
  intro listed hs j r X;let⟨h0,o',q,l⟩:=mem_ready.1 X;refine mem_ready.2 ⟨by rw[<-push true aa];exact h0,o',by rw[<-G r];exact q,λe L M=>?_⟩
  have:=N j o' q e L M;rw[<-push false aa]
  exact l e L M
 intro n
 induction n with
 |zero =>
  intro listed a w hs hc y h
  have l:∀j,j<b.size->listed.getD j false=true:=λj r=>by
   have h0:=dH.1 hc;have v:listed[j]'aa∈listed.toList:=ah
   cases F:listed[j]'aa with
   |true=>simp[F,show j<listed.size by omega]
   |false=>rw[F]at v;exact absurd v h0
  have W:b.size∈Region.ready .any ops (listed.push false):=mem_ready.2 ⟨by simp[<-hs],o,hm,λe L M=>by
   have:=N _ _ hm e L M;rw[push false aa]
   exact l _ this⟩
  refine⟨λh0=>(by rw[h0]at W;cases W),λi hi=>?_⟩
  have z:i=b.size:=by
   let⟨h0,o',q,_⟩:=mem_ready.1 hi;have h1:=(aH.1 q).1
   rcases dA i b.size with h2 | h2
   .rw[push true aa]at h0
    have h3:=l i h2;simp[show i<listed.size by omega]at h0 h3
    rw[h0]at h3;cases h3
   .omega
  subst z;refine wpOp_mono (λa w F=>⟨?_,F⟩) h.2
  apply fh.2;intro j r;let⟨h0,o',q,_⟩:=mem_ready.1 r;have h1:=(aH.1 q).1
  by_cases hje:j=b.size
  .subst hje;simp[<-hs]at h0
  .rw[getD_set_ne true (Ne.symm hje),push true aa]at h0
   have h3:=l j aa
   simp[show j<listed.size by omega]at h0 h3
   rw[h0]at h3;cases h3
 |succ n ih =>
  intro listed a w hs hc y h;have Y:¬ ∀j,j<b.size->listed.getD j false=true:=by
   intro l
   have:listed.toList.count false=0:=dH.2 λv=>by
    let⟨j,r,L⟩:=eN v;have h3:=l j (by simpa[<-hs]using r)
    simp at r L;simp[r,L]at h3
   omega
  have T:b.size∉Region.ready .any ops (listed.push false):=λX=>Y (last hs y X)
  refine⟨λh0=>?_,λi hi=>?_⟩
  .refine absurd (λj r=>?_) Y
   have:=tD (by simp[hs,E]) N h0 j aa
   rwa [push false aa]at this
  .let⟨h0,o',q,l⟩:=mem_ready.1 hi;have h1:=(aH.1 q).1;have z:i<b.size:=by
    rcases dA i b.size with h2 | h2
    .exact h2
    .have:i=b.size:=by omega
     subst this;exact absurd hi T
   have A:=h.2 i (other hs z hi);have hun:listed.getD i false=false:=by
    rw[push true aa]at h0
    simpa[show i<listed.size by omega]using h0
   have H:(listed.push false).setIfInBounds i true=(listed.setIfInBounds i true).push false:=by
    apply cq;simp[List.set_append,show i<listed.size by omega]
   have K:∀a w,wpAny P .any b (I5 P ops Q b.size) n (listed.setIfInBounds i true) a w->wpAny P .any ops Q (n+1) ((listed.push false).setIfInBounds i true) a w:=by
    intro a w hk;rw[H];refine ih _ a w (ak hs) ?_ (λj k r M=>?_) hk
    .have hil:i<listed.toList.length:=by simp;omega
     have hg:listed.toList[i]=false:=by simpa[show i<listed.size by omega]using hun
     rw[eE,List.count_set hil,hg,hc];simp
    .rw[<-H]at r⊢
     by_cases hji:i=j
     .subst hji;exact getD_set_true (wt i o' (λi=>(listed.push false).getD i false) q rfl l y k M)
     .rw[getD_set_ne false hji]at r;exact getD_set_true (y j k r M)
   unfold wpOp at A⊢;rw[G z];cases F:b[i]? with
   |none=>rw[F]at A;exact K _ _ A
   |some x =>
    rw[F]at A;have hx:x∈ops.toList:=by
     rw[<-G z]at F;exact bE (by rw[cI];exact F)
    have hg:=S x hx
    have hwx:Region.wanted x (yielded ops a.tmps)=Region.wanted x (yielded b a.tmps):=by
     unfold Region.wanted;cases hgd:x.guard with
     |none=>rfl
     |some g =>
      rw[hgd]at hg;simp only[decide_eq_true_eq,Array.length_toList,E]at hg;simp only[yielded,G (show g.1<b.size by omega)]
    dsimp only at A⊢;rw[hwx];split
    .rename_i U;rw[if_pos U]at A;exact Lq K A
    .rename_i hno;rw[if_neg hno]at A;exact K _ _ A
end
end Go.Am
