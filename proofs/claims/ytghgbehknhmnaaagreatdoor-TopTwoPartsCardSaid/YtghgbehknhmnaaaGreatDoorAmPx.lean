/- Part of the proof that TopTwoPartsCard holds. -/
import Derived.Test.YtghgbehknhmnaaaGreatDoorAmWq
import Derived.LoopN
set_option linter.all false
namespace Go.Am
structure Dk(V:aB)(Z:az)(β:jO)(h:AH)(w:World)(β':jO)(h':AH)(w':World):Prop where
 lF:∀b,b<w.heap.size->Z b->w'.heap[b]? = w.heap[b]?
 os:w'.os=w.os
 tape:w'.tape=w.tape
 output:w'.output=w.output
 ext:∀i v bd,V i=false->β i v=some bd->β' i v=some bd
 stay:kC (Own Z β h) w (Own Z β' h') w'
variable{L i:Nat}{β' β:jO}{h h':AH}
def Fr.LD{V:aB}{Z:az}{w w':World}(f:Fr Z β h w β' h' w'):Dk V Z β h w β' h' w' :=
 ⟨f.lF,f.os,f.tape,f.output,λi v bd _ e=>f.ext i v bd e,f.stay⟩
def Dk.trans{V:aB}{Z:az}{β'':jO}{n:AH}{w w' l:World}(a:Dk V Z β h w β' h' w')(b:Dk V Z β' h' w' β'' n l):Dk V Z β h w β'' n l :=
 ⟨λk hk o=>(b.lF k (bu hk a.stay.1) o).trans (a.lF k hk o),b.os.trans a.os,b.tape.trans a.tape,b.output.trans a.output,
  λi v bd q e=>b.ext i v bd q (a.ext i v bd q e),a.stay.trans b.stay⟩
section
variable{P:Program}{Z:az}{β:jO}{h:AH}{w:World}
def GW(h:AH)(i:Nat):Nat:=match h[i]? with
 |some (.row v _ _)=>v
 |some (.me v _ _)=>v
 |_=>0
def vP(β:jO)(h:AH)(L:Nat)(R:ax):jO:=λi v=>if i<L then(if R.contains i then(if v=0 then β i (GW h i)else none)else β i v)else none
def CB(L:Nat)(R:ax)(h:AH):∀(l:AH)(k i:Nat),(jD L R h k l)[i]? = (l[i]?).map (mz L R h (k+i))
 | [],k,i=>by simp[jD]
 |b::l,k,i=>by
  cases i with
  |zero=>simp[jD]
  |succ i =>
   simp only[jD,cA];rw[CB L R h l (k+1) i,show k+1+i=k+(i+1)from by omega]
def wv(L:Nat)(R:ax)(h:AH):∀(l:AH)(k:Nat),(jD L R h k l).length=l.length
 | [],_=>rfl
 |_::l,k=>by simp[jD,wv L R h l]
def AZ{R:ax}{X':AB}(b:(jD L R h 0 (h.take L))[i]? = some X'):∃X,h[i]? = some X/\i<L/\X'=mz L R h i X:=by
 rw[CB,bW]at b
 grind
def pY{R:ax}{c:Nat}(r:owned (vP β h L R) (jD L R h 0 (h.take L)) i c):owned β h i c/\i<L:=by
 let⟨X',o,bd,n,b⟩:=r;obtain⟨X,x,l,rfl⟩:=AZ o;refine⟨⟨X,x,bd,n,?_⟩,l⟩;cases X with
 |gone=>exact b
 |var cs =>
  simp only[mz,vP,if_pos l]at b⊢
  grind[GW]
 |row v sz es =>
  simp only[mz,vP,if_pos l]at b⊢
  grind[GW]
 |me v sz es=>exact b
 |mp q es =>
  simp only[mz,vP,if_pos l]at b⊢
  grind[GW]
theorem Ar{R:ax}{c:Nat}(b:Own Z (vP β h L R) (jD L R h 0 (h.take L)) c):Own Z β h c:=by
 rcases b with b | ⟨i,b⟩
 .exact .inl b
 .exact .inr ⟨i,(pY b).1⟩
def nv{R:ax}:kC (Own Z β h) w (Own Z (vP β h L R) (jD L R h 0 (h.take L))) w :=
 ⟨aV _,λ_ _ b=>⟨rfl,λh=>b (Ar h)⟩⟩
theorem rB{R:ax}{v:Nat}{bd:Bd}(b:i<L)(n:R.contains i=false)(l:β i v=some bd):vP β h L R i v=some bd:=by
 unfold vP
 grind
def FI{R:ax}{x:AV}{u:Value}(i:(x.j8||match x with | .ptr b _ _ _=>decide (b<L) && !R.contains b | .mb b=>decide (b<L) && !R.contains b | _=>false)=true)(l:VR β (Own Z β h) w x u):
  VR (vP β h L R) (Own Z (vP β h L R) (jD L R h 0 (h.take L))) w x u:=by
 rw[bR]at i
 rcases i with i | i
 .exact .pure _ _ ((l.Cv i).mono nv)
 .split at i
  .simp only[aF,decide_eq_true_eq,cK]at i;obtain⟨bd,c,h1,h2,rfl⟩:=l.kY;exact .ptr _ _ _ _ bd c (rB i.1 i.2 h1) h2
  .simp only[aF,decide_eq_true_eq,cK]at i;obtain⟨bd,c,h1,h2,rfl⟩:=l.zC;exact .mb _ bd c (rB i.1 i.2 h1) h2
  .cases i
theorem xu(W:Rel Z β h w)(L:Nat)(R:ax){a:AV}{v:Value}(r:VR β (Own Z β h) w a v):
  VR (vP β h L R) (Own Z (vP β h L R) (jD L R h 0 (h.take L))) w (kF L R h a) v:=by
 have pure:∀ {a:AV},VR β (Own Z β h) w a v->VR (vP β h L R) (Own Z (vP β h L R) (jD L R h 0 (h.take L))) w (if a.jW then a else .dead) v:=by
  intro a r;split
  .rename_i hs;exact .pure _ _ ((r.Fm hs).mono nv)
  .exact .dead v
 cases a with
 |own b X o n =>
  simp only[kF];split
  .rename_i M;cases hR:R.contains b with
   |false =>
    simp only[aZ,if_false];obtain⟨bd,a,c,h1,rfl,h2⟩:=r.kZ;exact .own b X o n bd a c (rB M hR h1) h2
   |true =>
    simp only[if_true];obtain⟨bd,a,c,h1,rfl,h2⟩:=r.kZ
    have go:GW h b=X->VR (vP β h L R) (Own Z (vP β h L R) (jD L R h 0 (h.take L))) w (.own b 0 o n) (.slice a n c):=by
     intro akU;refine .own b 0 o n bd a c ?_ h2;unfold vP
     grind
    split
    .rename_i v' sz es N;split
     .grind[GW]
     .exact .dead _
    .rename_i v' sz es N;split
     .grind[GW]
     .exact .dead _
    .exact .dead _
  .rename_i M;split
   .rename_i es q;obtain⟨bd,a,c,h1,rfl,h2⟩:=r.kZ;refine .pure _ _ ?_;simp only[elems]at q
    have build:∀ {cb sz:Nat} {es':List AV},0<sz->bd.sz=sz->bd.cb=some cb->(¬Own Z (vP β h L R) (jD L R h 0 (h.take L)) cb)->cb<w.heap.size->o+n<=es'.length->
      (∃cur elem fr,w.heap[cb]? = some (.cells cur elem fr)/\nX (Own Z β h) w cur bd.base sz es')->oF (Own Z (vP β h L R) (jD L R h 0 (h.take L))) w (.b9 false ((es'.drop o).take n)) (.slice a n c):=by
     intro cb sz es' E e1 U hO O z S;let⟨cur,elem,fr,g2,g5⟩:=S;have Q:((es'.drop o).take n).length=n:=ak
     rcases h2 with⟨z1,z2⟩ | ⟨cb',q1,q2,Y,q4⟩
     .subst z1 z2;have hz:(es'.drop o).take 0=[]:=by simp
      rw[hz];exact .b9 false [] a 0 0 0 0 (λ_ _=>Go.undef) (λh=>by cases h) (aV _) (λh=>absurd rfl h) (λi x l=>by simp at l) (λi x l=>by simp at l) (λi x l=>by simp at l) (λi x l=>by simp at l)
     .rw[U]at q1;cases q1;rw[q2];have:=rS (w:=w) (full:=false) (c:=c) E hO O ((rL (o:=o) (n:=n) g2 g5).mono nv) (λh=>by cases h) (by rw[Q];exact Y)
      grind
    split at q
    .rename_i v' sz es' N;split at q
     .rename_i hc;cases q;obtain⟨rfl,z⟩:=hc;let⟨E,Sw,e1,U,F⟩:=W.blk b _ N;rw[h1]at e1;cases e1
      rcases F with⟨F,K⟩ | ⟨cb,cur,elem,F,K,e5,e6,e7⟩
      .subst K;have H:n=0:=by simp at z;omega
       subst H;simp only[List.drop_nil,List.take_nil];refine .b9 false [] a c 0 0 0 (λ_ _=>Go.undef) (λh=>by cases h) (aT _) (λh=>absurd rfl h) (λi x l=>by simp at l) (λi x l=>by simp at l) (λi x l=>by simp at l) (λi x l=>by simp at l)
      .have G:owned β h b cb:=⟨_,N,bd,F,h1⟩;refine build E U F ?_ (aW.1 K).1 z ⟨cur,elem,_,K,e7⟩
       rintro(hz | ⟨i,hi⟩)
       .exact W.BV b cb G hz
       .let⟨hi,O⟩:=pY hi;have:=W.apart i b cb hi G;omega
     .cases q
    .rename_i v' sz es' N;split at q
     .rename_i hc;cases q;obtain⟨rfl,z⟩:=hc;let⟨E,Sw,e1,U,F⟩:=W.blk b _ N;rw[h1]at e1;cases e1
      rcases F with⟨F,K⟩ | ⟨cb,cur,elem,fr,F,e0,K,e5,e6,e7⟩
      .subst K;have H:n=0:=by simp at z;omega
       subst H;simp only[List.drop_nil,List.take_nil];refine .b9 false [] a c 0 0 0 (λ_ _=>Go.undef) (λh=>by cases h) (aT _) (λh=>absurd rfl h) (λi x l=>by simp at l) (λi x l=>by simp at l) (λi x l=>by simp at l) (λi x l=>by simp at l)
      grind[Ar]
     .cases q
    .cases q
   .exact .dead _
 |ptr b X i o =>
  simp only[kF];split
  .rename_i M;obtain⟨bd,c,h1,h2,rfl⟩:=r.kY;refine .ptr _ _ _ _ bd c (rB M.1 ?_ h1) h2
   grind
  .exact .dead _
 |mb b =>
  simp only[kF];split
  .rename_i M;obtain⟨bd,c,h1,h2,rfl⟩:=r.zC;refine .mb _ bd c (rB M.1 ?_ h1) h2
   grind
  .exact .dead _
 |fn f a c =>
  simp only[kF];split
  .rename_i T;cases r with
   |pure _ _ r=>cases r
   |fn _ _ _ va vc q1 q2 Y q4 =>
    have A:=aM.1 T;refine .fn _ _ _ va vc q1 q2 (λj y u hy hu=>FI (A y ?_) (Y j y u hy hu)) (λj y u hy hu=>FI (A y ?_) (q4 j y u hy hu))
    .grind
    grind
  .exact .dead _
 |undef=>rw[r.wY];exact .undef
 |_=>exact pure r
def xq(q:Rel Z β h w)(L:Nat)(R:ax){a:AV}{v:Value}(b:VR β (Own Z β h) w a v):
  VR (vP β h L R) (Own Z (vP β h L R) (jD L R h 0 (h.take L))) w (kL L R h a) v:=by
 unfold kL;split
 .rename_i l;exact .pure _ _ ((b.Cv l).mono nv)
 .split
  .rename_i cs i;obtain⟨vs,rfl,hl,h1,h2⟩:=b.nW;refine .agg _ vs (an hl) h1 λj y u n o=>?_
   grind[Option.some.injEq,xu]
  grind[xu]
def AY(n:Rel Z β h w)(L:Nat)(R:ax):Rel Z (vP β h L R) (jD L R h 0 (h.take L)) w:=by
 refine⟨n.xlt,λi c Q=>n.BV i c (pY Q).1,λi v A=>?_,λi v sz es v' T z=>?_,λi X' T=>?_,λi j c A hj=>n.apart i j c (pY A).1 (pY hj).1,n.gl.stay nv⟩
 .rw[wv,bF]at A;unfold vP;split
  .rename_i hlt;have hh:h.length<=i:=by omega
   simp only[n.fresh i _ hh]
   grind
  .rfl
 .let⟨X,b,A,S⟩:=AZ T;cases X with
  |row v0 W es0 =>
   simp only[mz,AB.row.injEq]at S;obtain⟨rfl,rfl,rfl⟩:=S;unfold vP;rw[if_pos A];split
   .grind
   .rename_i hR;rw[if_neg hR]at z;exact n.later i v0 sz es v' b z
  |_=>simp[mz]at S
 .obtain⟨X,b,A,rfl⟩:=AZ T;have F:=n.blk i X b;cases X with
  |gone=>trivial
  |var cs =>
   let⟨c,cur,elem,e1,r,l,U⟩:=F;have z:GW h i=0:=by unfold GW;rw[b]
   refine⟨c,cur,elem,?_,r,an l,λj y hy=>?_⟩
   .unfold vP
    grind
   grind[Option.some.injEq,xu]
  |mp q es =>
   let⟨c,arr,clock,e1,r,l,U⟩:=F;have z:GW h i=0:=by unfold GW;rw[b]
   refine⟨c,arr,clock,?_,r,an l,λj p E=>?_⟩
   .unfold vP
    grind
   rw[bP]at E;cases O:es[j]? with
   |none=>rw[O]at E;cases E
   |some x =>
    rw[O]at E;cases E;let⟨y,g1,g2,g3⟩:=U j x O;exact⟨y,g1,g2,xq n L R g3⟩
  |row v sz es =>
   let⟨o,bd,e1,r,l⟩:=F;have z:GW h i=v:=by unfold GW;rw[b]
   refine⟨o,bd,?_,r,?_⟩
   .unfold vP
    grind
   .rcases l with l | ⟨c,cur,elem,N,M,K,H,G⟩
    .exact .inl l
    .exact .inr ⟨c,cur,elem,N,M,K,H,iO.mono nv G⟩
  |me v sz es =>
   let⟨o,bd,e1,r,l⟩:=F;have z:GW h i=v:=by unfold GW;rw[b]
   refine⟨o,bd,?_,r,?_⟩
   .unfold vP
    grind
   .rcases l with l | ⟨c,cur,elem,fr,N,Y,M,K,H,G⟩
    .exact .inl l
    .exact .inr ⟨c,cur,elem,fr,N,λQ=>Y (Ar Q),M,K,H,iO.mono nv G⟩
def A9{R:ax}:Dk (pO R L) Z β h w (vP β h L R) (jD L R h 0 (h.take L)) w:=by
 refine⟨λ_ _ _=>rfl,rfl,rfl,rfl,λi v bd b l=>?_,nv⟩
 grind[pO,Bool.or_eq_false_iff,rB]
theorem K4{R:ax}{β':jO}{O H:az}{w':World}(q:∀i v bd,R.contains i=false->β i v=some bd->β' i v=some bd)(F:kC O w H w'){a:AV}{v:Value}(l:VR β O w a v):
  VR β' H w' (k7 R a) v:=by
 have one:∀ {x:AV} {u:Value},(x.j8||match x with | .ptr b _ _ _=>!R.contains b | .own b _ _ _=>!R.contains b | .mb b=>!R.contains b | _=>false)=true->VR β O w x u->VR β' H w' x u:=by
  intro x u n l;rw[bR]at n
  rcases n with n | n
  .exact .pure _ _ ((l.Cv n).mono F)
  .split at n
   .obtain⟨bd,c,h1,h2,rfl⟩:=l.kY;exact .ptr _ _ _ _ bd c (q _ _ _ (an n) h1) h2
   .obtain⟨bd,a,c,h1,rfl,h2⟩:=l.kZ;exact .own _ _ _ _ bd a c (q _ _ _ (an n) h1) h2
   .obtain⟨bd,c,h1,h2,rfl⟩:=l.zC;exact .mb _ bd c (q _ _ _ (an n) h1) h2
   .cases n
 have two:∀ {x:AV} {u:Value},VR β O w x u->VR β' H w' (if (x.j8||match x with | .ptr b _ _ _=>!R.contains b | .own b _ _ _=>!R.contains b | .mb b=>!R.contains b | _=>false)=true then x else .dead) u:=by
  intro x u l;exact iteInduction (motive:=λz=>VR β' H w' z u) (λn=>one n l) (λ_=>.dead _)
 cases a with
 |agg cs =>
  simp only[k7];split
  .rename_i A;obtain⟨vs,rfl,hl,h1,h2⟩:=l.nW;exact .agg _ vs hl h1 λj y u E G=>one (aM.1 A y (bL E)) (h2 j y u E G)
  .exact .dead _
 |fn f a c =>
  simp only[k7];split
  .rename_i A;cases l with
   |pure _ _ l=>cases l
   |fn _ _ _ M L q1 S Q N =>
    have r:=aM.1 A;refine .fn _ _ _ M L q1 S (λj y u E G=>one (r y ?_) (Q j y u E G)) (λj y u E G=>one (r y ?_) (N j y u E G))
    .grind
    grind
  .exact .dead _
 |undef=>rw[l.wY];exact .undef
 |iV cs =>
  cases l with
  |pure _ _ l=>cases l
  |iV _ blk o f T K h1 h3 h2 =>
   refine .iV cs blk o f (F.2 blk K T).2 (bu K F.1) (λj y E=>?_) h3 (λj y E=>(h2 j y E).mono F)
   grind[uv]
 |_=>exact two l
def GM{R:ax}{O n:az}{w':World}(b:∀i v bd,R.contains i=false->β i v=some bd->β' i v=some bd)(l:kC O w n w'){e:Env}{t:Nat}{v:Value}(o:VR β O w (e t) v):
  VR β' n w' (nV R e t) v:=by
 unfold nV;split
 .rename_i q;have:R=[]:=by simpa using q
  subst this;exact o.mono (λi v bd=>b i v bd rfl) l
 grind[K4]
def DQ{β':jO}{O:az}{w':World}{tm:Nat->Value}{e0:Env}(h0:∀t,VR β' O w' (e0 t) (tm t)):∀(b:ax)(vs:List AV),(∀p∈b.zip vs,VR β' O w' p.2 (tm p.1))->∀t,VR β' O w' (e0.lay b vs t) (tm t)
 | [],_,_,t=>by simp only[Env.lay];exact h0 t
 |_::_,[],_,t=>by simp only[Env.lay];exact h0 t
 |q::b,v::vs,l,t=>by
  simp only[Env.lay,Env.put];split
  .simp_all
  .exact DQ h0 b vs (λp i=>l p (by simp[i])) t
def vi{a:Act}{n:Nat}:∀(own:aC)(s:St)(β:jO),own.all (λp=>decide (0<p.2))=true->Rel Z β s.h w->jt Z β s.h w s.e a n->
  ∃β',Rel Z β' (jl own s).h w/\Fr Z β s.h w β' (jl own s).h w/\jt Z β' (jl own s).h w (jl own s).e a n
 | [],s,β,_,R,E=>⟨β,R,Fr.refl _ _ _ _,E⟩
 | (t,sz)::l,s,β,ok,R,E=>by
  simp only[bV,aF,decide_eq_true_eq]at ok;unfold jl;split
  .rename_i o;let⟨β1,v,b,A⟩:=R.uf sz ok.1
   have z:jt Z β1 (s.h++[.row 0 sz []]) w (s.e.put t (.own s.h.length 0 0 0)) a n:=by
    refine⟨E.1,λq=>?_⟩
    simp only[Env.put];split
    .rename_i i;subst i;have h0:=E.2 q;rw[o]at h0;have h1:=h0.mK;generalize a.tmps.getD q Go.undef=u at h1;cases h1 with
     |b9 _ _ ad c _ _ _ _ F _ _ _ _ _ _ =>
      grind
    .exact(E.2 q).fr b
   let⟨β2,r,x,y⟩:=vi l ⟨s.e.put t (.own s.h.length 0 0 0),s.h++[.row 0 sz []]⟩ β1 ok.2 v z;exact⟨β2,r,b.trans x,y⟩
  .exact vi l s β ok.2 R E
end
variable{o n:Nat}{y x:AV}
section
variable{P:Program}{Z:az}{β:jO}{h:AH}{w:World}
def O4(R:Rel Z β h w){B:Nat}{cs:List AV}(E:h[B]? = some (.var cs))(F:cs[o]? = some y)(L:∀v,VR β (Own Z β h) w y v->VR β (Own Z β h) w x v):
  Rel Z β (h.set B (.var (cs.set o x))) w/\Fr Z β h w β (h.set B (.var (cs.set o x))) w:=by
 have A:B<h.length:=(aD.1 E).1;refine R.PZ (X':=.var (cs.set o x)) A rfl rfl rfl (λ_ _ _=>rfl) (λ_ _ e=>e) (λ_ _ _ _ e=>by cases e) (λc M=>?_) (aV _) (λ_ _ _=>rfl) (λb=>?_)
 .let⟨bd,q1,K⟩:=M;exact .inl ⟨_,E,bd,q1,K⟩
 .let⟨c,cur,elem,e1,O,N,G⟩:=R.blk B _ E;refine⟨c,cur,elem,an e1,O,an N,λj H l=>?_⟩
  by_cases i:o=j
  .subst i;have z:o<cs.length:=(aD.1 F).1;rw[aR z]at l;cases l;let⟨v,r,q,n⟩:=G o y F;exact⟨v,r,q,(L v n).mono (λ_ _ _ e=>e) b⟩
  .rw[aI i]at l;let⟨v,r,q,n⟩:=G j H l;exact⟨v,r,q,n.mono (λ_ _ _ e=>e) b⟩
def ES{s:St}{a:Act}(R:Rel Z β s.h w)(E:jt Z β s.h w s.e a n){t:Nat}(i:FX s t o=some y)(z:∀v,VR β (Own Z β s.h) w y v->VR β (Own Z β s.h) w x v):
  Rel Z β (He s t o x).h w/\Fr Z β s.h w β (He s t o x).h w/\jt Z β (He s t o x).h w (He s t o x).e a n:=by
 unfold FX at i;unfold He;generalize G:s.e t=q at i;split at i
 .rename_i b;split at i
  .rename_i cs l;simp only[l];let⟨H,r⟩:=O4 R l i z;exact⟨H,r,E.fr r⟩
  .cases i
 .rename_i cs;refine⟨R,Fr.refl _ _ _ _,E.1,λq=>?_⟩
  simp only[Env.put];split
  .rename_i F;subst F;have h0:=E.2 q;rw[G]at h0;let⟨vs,A,hl,h1,h2⟩:=h0.nW;rw[A];refine .agg _ vs (an hl) h1 λj K u M L=>?_
   grind
  .exact E.2 q
 .cases i
def N8{s:St}{t:Nat}(i:FX s t o=some y){h':AH}(l:∀(b:Nat)(cs:List AV),s.h[b]? = some (.var cs)->h'[b]? = some (.var cs)):FX ⟨s.e,h'⟩ t o=some y:=by
 unfold FX at i⊢;split at i
 .grind
 .grind
 .cases i
def N9{s s':St}{a:Act}(R:Rel Z β s.h w)(E:jt Z β s.h w s.e a n){p:Nat×Nat}(q:Rf s p=some s'):
  Rel Z β s'.h w/\Fr Z β s.h w β s'.h w/\jt Z β s'.h w s'.e a n:=by
 unfold Rf at q;simp only[aG]at q;let⟨y,A,⟨H,h'⟩,i,q⟩:=q;cases q;dsimp only
 by_cases O:y.jW=true
 .have:nM s.h y=some (y,s.h):=by
   cases y<;>simp[AV.jW]at O<;>simp[nM,AV.jW]
  rw[this]at i;cases i;exact ES R E A (λ_ z=>z)
 .cases y with
  |own b v o m =>
   have l:∀(k:Nat)(X:AB),s.h[k]? = some X->(∀v sz es,X≠.row v sz es)->h'[k]? = some X:=by
    intro k cs hk M;unfold nM at i;dsimp only at i;split at i
    .grind
    .grind
    .cases i
   have key:∃F:Rel Z β h' w,Fr Z β s.h w β h' w:=by
    unfold nM at i;dsimp only at i;split at i
    .rename_i v' sz es N;split at i
     .cases i;let⟨S,F⟩:=R.freeze N;exact⟨S,F⟩
     .cases i
    .grind[Fr.refl]
    .cases i
   let⟨Q,G⟩:=key;have r:FX ⟨s.e,h'⟩ p.1 p.2=some (.own b v o m):=N8 A (λk cs hk=>l k _ hk (λ_ _ _ e=>by cases e))
   let⟨L,K,r3⟩:=ES (s:=⟨s.e,h'⟩) (x:=H) Q (E.fr G) r (λu z=>by
    obtain⟨bd,ad,c,h1,rfl,h2⟩:=z.kZ;let⟨_,_,V,_⟩:=Aj R i (.own b v o m bd ad c h1 h2);exact V)
   exact⟨L,G.trans K,r3⟩
  |_=>grind[nM,AV.jW]
def Be:∀(g:aC){s s':St}{a:Act}{n:Nat},Rel Z β s.h w->jt Z β s.h w s.e a n->HR g s=some s'->
  Rel Z β s'.h w/\Fr Z β s.h w β s'.h w/\jt Z β s'.h w s'.e a n
 | [],s,s',a,n,R,E,b=>by
  cases b
  grind[Fr.refl]
 |p::l,s,s',a,n,R,E,b=>by
  simp only[HR,aG]at b;let⟨y,h1,b⟩:=b;let⟨o,r,x⟩:=N9 R E h1;let⟨i,q,v⟩:=Be l o x b;exact⟨i,r.trans q,v⟩
end
def UW(p:Pn):List PanicEntry:=[{v:=.iface p.1 (.int p.2.1 p.2.2),recovered:=false}]
def Hs(P:Program)(n:Nat)(all:List Oper)(o:Oper):XO->Bool
 | .op d x=>xo P n all o ⟨d,none,x⟩
 | .call d f b=>o.guard.isNone&&decide (o.dst=d)&&(nJ d).all (λt=>decide (t<n))&&(match o.op with
   | .call {callee:=.value (.func h),args,argTypes:=_}=>decide (h=f)&&kK args.toList b
   |_=>false)
 | .lQ d y b=>o.guard.isNone&&decide (o.dst=d)&&(nJ d).all (λt=>decide (t<n))&&(match o.op with
   | .call {callee:=.value (.tmp t),args,argTypes:=_}=>lD (.tmp t) y&&kK args.toList b
   |_=>false)
 | .ny y=>o.guard.isNone&&(match o.op with
   | .panic x=>lD x y
   |_=>false)
def M7(P:Program)(n:Nat)(all:List Oper)(last:IT):List Oper->List (IT×XO)->Bool
 |os,[]=>sS [] last&&lY P n all os (flatten last none)
 |os,(l,z)::r=>sS [] l&&(match os.drop (flatten l none).length with
   |o::b=>lY P n all (os.take (flatten l none).length) (flatten l none)&&Hs P n all o z&&M7 P n all last b r
   | []=>false)
def aeG:XO->ax
 | .op d _=>nJ d
 | .call d _ _=>nJ d
 | .lQ d _ _=>nJ d
 | .ny _=>[]
def TT:List (IT×XO)->ax
 | []=>[]
 |p::r=>wr p.1++aeG p.2++TT r
section
variable{P:Program}{Z:az}{Γ:jE}{β:jO}{w:World}
def nk:∀(l:IT)(g:Option (Nat×Bool))(x:AI)(t:Nat),x∈flatten l g->x.dst=some t->t∈wr l
 | .nil,g,x,t,b,_=>by cases b
 | .op d o rest,g,x,t,b,h=>by
  simp only[flatten,bw]at b;simp only[wr,aY]
  rcases b with rfl | b
  .left;dsimp only at h;subst h;simp[nJ]
  .exact .inr (nk rest g x t b h)
 | .sc d a c i n l r rest,g,x,t,b,h=>by
  simp only[flatten,aY,bw]at b;simp only[wr,aY,bw]
  rcases b with b | rfl | b
  .exact .inl (nk l _ x t b h)
  .right;left;dsimp only at h;cases h;rfl
  .exact .inr (.inr (nk rest g x t b h))
def SB.wp{h:AH}{f:FuncId}{args:List AV}{h':AH}{r:AV⊕Pn}(hs:SB P f args h r h')(R:Rel Z β h w){vs:List Value}(hl:args.length=vs.length)
  (A:∀(j:Nat)(y:AV)(u:Value),args[j]? = some y->vs[j]? = some u->VR β (Own Z β h) w y u) {o:Oper} {a:Act} {next:Act->World->Prop} {Q:Exit->Act->World->Prop}
  (K:∀w' β',Rel Z β' h' w'->Fr Z β h w β' h' w'->match r with
   | .inl r=>∀v,VR β' (Own Z β' h') w' r v->next (a.put o.dst v) w'
   | .inr p=>Q (.panic (UW p)) a w'):o.upon P a next Q ((callFunc f vs.toArray).run P w):=by
 let⟨⟨fn,G,n,F⟩,H⟩:=hs
 have E:(callFunc f vs.toArray).run P w = .ok (.enter f vs.toArray) w:=by
  have l:fn.body.isNone=false:=by
   cases i:fn.body with
   |none=>rw[i]at n;cases n
   |some _=>rfl
  simp only[callFunc,Sem.run_bind,run_program,Result.andThen_ok,G,F,l,aZ,if_false,Sem.run_pure]
 rw[E];refine(H Z β w vs R hl A).mono ?_
 rintro e w' ⟨β',z,x,b⟩
 have q:=K w' β' z x;cases r with
 |inl r =>
  obtain⟨v,rfl,b⟩:=b;exact q v b
 |inr p =>
  subst b;exact q
def Ia{s:St}{a:Act}{n:Nat}(E:jt Z β s.h w s.e a n){t:Tmp}{y:AO}{args:Array Operand}{r:List AO}(h1:lD (.tmp t) y=true)(h2:kK args.toList r=true)
  {g:FuncId} {first cap:List AV} (hg:y.get s.e = .fn (.func g) first cap) {o:Oper} {A:Array TypeId} (G:o.op = .call {callee:=.value (.tmp t),args:=args,argTypes:=A}) :
  ∃vs:List Value,execOp a.eval o=callFunc g vs.toArray/\(first++getAll s.e r++cap).length=vs.length/\
   ∀(j:Nat)(y:AV)(u:Value),(first++getAll s.e r++cap)[j]? = some y->vs[j]? = some u->VR β (Own Z β s.h) w y u:=by
 let⟨dst,op,type,pos,after,guard⟩:=o;dsimp only at G;subst G;let⟨F,p2⟩:=mC E h2;have v1:=hU E h1;rw[hg]at v1;generalize z:a.eval (.tmp t)=u at v1;cases v1 with
 |pure _ _ M=>cases M
 |fn _ _ _ v x q1 L K H =>
 refine⟨v++args.toList.map a.eval++x,?_,by simp only[aU,q1,L,F],?_⟩
 .have:(v++args.toList.map a.eval++x).toArray=v.toArray++args.map a.eval++x.toArray:=cR ai
  rw[this];simp[execOp,resolve,Deferred.ofValue,invoke,z]
 intro j N O i l;rw[eW]at i l;have e1:(first++getAll s.e r).length=(v++args.toList.map a.eval).length:=by simp only[aU,q1,F]
 rw[e1]at i;split at i
 .rename_i q;rw[if_pos q]at l;rw[eW]at i l;rw[q1]at i;split at i
  .rename_i b;rw[if_pos b]at l;exact K _ _ _ i l
  .rename_i b;rw[if_neg b]at l;exact p2 _ _ _ i l
 .rename_i q;rw[if_neg q]at l;exact H _ _ _ i l
def Gh(X:j3 P Γ){n:Nat}{ops:Array Oper}{o:Oper}{z:XO}(ok:Hs P n ops.toList o z=true){ρ:Type}{next:St->Option ρ}{k:AX->St->Option ρ}{s:St}{r:ρ}(b:nR Γ z next k s=some r)
  {W:aB} (hW:∀t∈aeG z,W t=true) {a:Act} (R:Rel Z β s.h w) (E:jt Z β s.h w s.e a n) {K:Act->World->Prop} {Q:Exit->Act->World->Prop}
  (kn:∀s' S w' β',next s'=some r->Rel Z β' s'.h w'->Fr Z β s.h w β' s'.h w'->jt Z β' s'.h w' s'.e S n->jA W a S->K S w')
  (kp:∀p s' S w' β',k (.ny p) s'=some r->Rel Z β' s'.h w'->Fr Z β s.h w β' s'.h w'->jt Z β' s'.h w' s'.e S n->jA W a S->Q (.panic (UW p)) S w') :
  if Region.wanted o (yielded ops a.tmps)then o.wp P a w K Q\/(o.asks P a w/\LetsOut Q)else K (a.put o.dst Go.undef) w:=by
 have kd:∀ {d:Option Nat},(nJ d).all (λt=>decide (t<n))=true->o.dst=d->(∀t∈nJ d,W t=true)->∀ {v:AV} {h':AH} {u:Value} {w':World} {β':jO},next (St.put ⟨s.e,h'⟩ d v)=some r->Rel Z β' h' w'->Fr Z β s.h w β' h' w'->VR β' (Own Z β' h') w' v u->K (a.put o.dst u) w':=by
  intro d G M N v h' u w' β' hn T H F;subst M;exact kn _ _ w' β' hn (by rw[uK];exact T) (by rw[uK];exact H) (by rw[uK];exact(E.fr H).Kq G F) (jA.put a _ u λt ht=>N t (by rw[ht];simp[nJ]))
 have U:∀ {d:Option Nat} {f:FuncId} {args:List AV} {vs:List Value},(nJ d).all (λt=>decide (t<n))=true->o.dst=d->(∀t∈nJ d,W t=true)->PB d next k s (Γ.x f args s.h)=some r->args.length=vs.length->
   (∀(j:Nat)(y:AV)(u:Value),args[j]? = some y->vs[j]? = some u->VR β (Own Z β s.h) w y u)->o.upon P a K Q ((callFunc f vs.toArray).run P w):=by
  intro d f args vs G M N i hl F;cases hq:Γ.x f args s.h with
  |none=>rw[hq]at i;cases i
  |some q =>
   obtain⟨x,h'⟩:=q;rw[hq]at i;refine(X.x f args s.h x h' hq).wp R hl F λw' β' T H=>?_
   cases x with
   |inl v=>exact λu hu=>kd G M N i T H hu
   |inr p=>exact kp p _ a w' β' i T H (E.fr H) (jA.refl W a)
 have L:o.guard.isNone=true->o.wp P a w K Q->if Region.wanted o (yielded ops a.tmps)then o.wp P a w K Q\/(o.asks P a w/\LetsOut Q)else K (a.put o.dst Go.undef) w:=by
  intro hg h;have:o.guard=none:=by simpa using hg
  rw[if_pos (by simp[Region.wanted,this])]
  exact .inl h
 cases z with
 |op d x =>
  simp only[nR,aG]at b;obtain⟨⟨v,h'⟩,i,b⟩:=b;have A:=ok;simp only[Hs,xo,aF,decide_eq_true_eq]at A;refine qM R X E ok (v:=v) (h':=h') (by simpa[ja]using i) λu w' β' T H F=>?_
  have:=kd A.1.1.2 A.1.1.1 hW b T H F
  rwa [A.1.1.1]at this
 |call d f ys =>
  simp only[Hs,aF,decide_eq_true_eq]at ok;obtain⟨⟨⟨hg,G⟩,hn⟩,ok⟩:=ok;refine L hg ?_;obtain⟨dst,op,type,pos,after,guard⟩:=o;dsimp only at ok G;split at ok<;>first | (cases ok;done) | skip
  rename_i f' args O;simp only[aF,decide_eq_true_eq]at ok;obtain⟨rfl,hok⟩:=ok;obtain⟨p1,p2⟩:=mC E hok;unfold Oper.wp
  have i:execOp a.eval ⟨dst,.call {callee:=.value (.func f'),args:=args,argTypes:=O},type,pos,after,guard⟩=callFunc f' (args.toList.map a.eval).toArray:=by
   have:(args.toList.map a.eval).toArray=args.map a.eval:=cR ai
   simp[execOp,resolve,Deferred.ofValue,invoke,Act.eval,this]
  rw[i];exact U hn G hW b p1 p2
 |lQ d y ys =>
  simp only[Hs,aF,decide_eq_true_eq]at ok;obtain⟨⟨⟨hg,G⟩,hn⟩,ok⟩:=ok;refine L hg ?_;cases Y:o.op<;>rw[Y]at ok<;>first | (cases ok;done) | skip
  rename_i c;obtain⟨callee,args,O⟩:=c;split at ok<;>first | (cases ok;done) | skip
  rename_i t args O heq;cases heq;simp only[aF]at ok;simp only[nR]at b;split at b<;>first | (cases b;done) | skip
  rename_i g first cap hgg;obtain⟨vs,q1,q2,q3⟩:=Ia E ok.1 ok.2 hgg Y;unfold Oper.wp;rw[q1];exact U hn G hW b q2 q3
 |ny y =>
  simp only[Hs,aF]at ok;refine L ok.1 ?_;have l:=ok.2;simp only[nR]at b;split at b<;>first | (cases b;done) | skip
  rename_i t q m hy;obtain⟨dst,op,type,pos,after,guard⟩:=o;dsimp only at l;split at l<;>first | (cases l;done) | skip
  rename_i x;have v1:=hU E l;rw[hy]at v1
  have i:a.eval x = .iface t (.int q m):=by
   generalize a.eval x=u at v1;cases v1 with
   |pure _ _ F=>cases F
   |sI _ _ v F=>rw[F.kE]
  unfold Oper.wp;simp only[execOp,i,Instr.panic,goPanic];exact kp (t,q,m) s a w β b R (Fr.refl _ _ _ _) E (jA.refl W a)
def yS(i:j3 P Γ){n:Nat}{W:aB}{ops:Array Oper}{Q:Exit->Act->World->Prop}(rest:List Oper):∀(os:List Oper)(xs:List AI)(s s':St)(a:Act)(w:World)(β:jO),lY P n ops.toList os xs=true->
  (∀x∈xs,∀t,x.dst=some t->W t=true)->flat Γ xs s=some s'->Rel Z β s.h w->jt Z β s.h w s.e a n->
  (∀A w' β',Rel Z β' s'.h w'->Fr Z β s.h w β' s'.h w'->jt Z β' s'.h w' s'.e A n->jA W a A->wpList P ops Q rest A w')->wpList P ops Q (os++rest) a w
 | [],[],s,s',a,w,β,_,_,b,R,E,k=>by
  simp only[flat]at b;cases b;exact k a w β R (Fr.refl Z β s.h w) E (jA.refl W a)
 | [],_::_,_,_,_,_,_,ok,_,_,_,_,_=>by simp[lY]at ok
 |_::_,[],_,_,_,_,_,ok,_,_,_,_,_=>by simp[lY]at ok
 |o::os,x::xs,s,s',a,w,β,ok,H,b,R,E,k=>by
  simp only[lY,aF]at ok;rw[mM]at b;simp only[aG]at b;let⟨⟨v,h'⟩,M,b⟩:=b
  have O:(nJ x.dst).all (λt=>decide (t<n))=true:=by
   have:=ok.1;unfold xo at this
   grind
  rw[aK];unfold wpList;refine qM R i E ok.1 M λu w' β' S K N=>?_
  refine yS i rest os xs _ s' _ w' β' ok.2 (λy L=>H y (by simp[L])) b (by rw[uK];exact S) (by rw[uK];exact(E.fr K).Kq O N) λz r β'' F q G l=>?_
  rw[uK]at q;exact k z r β'' F (K.trans q) G ((jA.put a x.dst u (H x ai)).trans l)
def DV{l:IT}(ok:sS [] l=true){s s':St}(v:rT Γ l s=some s'):∃b,flat Γ (flatten l none) s=some b/\b.h=s'.h/\
  ∀ {β':jO} {w':World} {i:Act} {n:Nat},jt Z β' b.h w' b.e i n->jt Z β' s'.h w' s'.e i n:=by
 let⟨b,h1,h2,h3,h4,_⟩:=sX Γ l [] none s s' s ok (λc a h=>by cases h) v rfl (λ_ _=>rfl) (λt r=>by simp[ku]at r)
 refine⟨b,h1,h2,λ{β' w' i n} o=>?_⟩
 rw[h2]at o;refine⟨o.1,λt=>?_⟩
 cases q:ku (sW l++[]) t with
 |true=>rw[h4 t q];exact .dead _
 |false=>rw[<-h3 t q];exact o.2 t
def Gg(i:j3 P Γ){n:Nat}{ops:Array Oper}{last:IT}{ρ:Type}{k:AX->St->Option ρ}{r:ρ}{W:aB}(A:∀t∈wr last,W t=true){Q:Exit->Act->World->Prop}:
  ∀(l:List (IT×XO))(os:List Oper),M7 P n ops.toList last os l=true->∀ {s:St},oW Γ last k l s=some r->(∀t∈TT l,W t=true)->∀ {a:Act} {w:World} {β:jO},Rel Z β s.h w->jt Z β s.h w s.e a n->
  (∀s' b w' β',k .normal s'=some r->Rel Z β' s'.h w'->Fr Z β s.h w β' s'.h w'->jt Z β' s'.h w' s'.e b n->jA W a b->Q .normal b w')->
  (∀p s' b w' β',k (.ny p) s'=some r->Rel Z β' s'.h w'->Fr Z β s.h w β' s'.h w'->jt Z β' s'.h w' s'.e b n->jA W a b->Q (.panic (UW p)) b w')->wpList P ops Q os a w
 | [],os,ok,s,q,_,a,w,β,R,E,S,O=>by
  simp only[M7,aF]at ok;simp only[oW,aG]at q;let⟨s',Y,q⟩:=q;let⟨M,h1,h2,h3⟩:=DV (Z:=Z) ok.1 Y;refine zJ i os (flatten last none) s M a w β ok.2 (λx T t hd=>A t (nk last none x t T hd)) h1 R E λb w' β' F y E' G=>?_
  rw[h2]at F y;exact S s' b w' β' q F y (h3 E') G
 | (l,z)::rest,os,ok,s,q,H,a,w,β,R,E,S,O=>by
  simp only[M7,aF]at ok;let⟨N,ok⟩:=ok;simp only[TT,aY]at H;split at ok
  .rename_i o v ho;simp only[aF]at ok;simp only[oW,aG]at q;let⟨s',Y,q⟩:=q;let⟨M,h1,h2,h3⟩:=DV (Z:=Z) N Y;have X:os=os.take (flatten l none).length++o::v:=by rw[<-ho,dm]
   rw[X];refine yS i (o::v) _ (flatten l none) s M a w β ok.1.1 (λx T t hd=>H t (.inl (.inl (nk l none x t T hd)))) h1 R E λb w' β' F y E' G=>?_
   rw[h2]at F y;unfold wpList;refine Gh i ok.1.2 q (λt U=>H t (.inl (.inr U))) F (h3 E') (λs2 a2 w2 β2 hk R2 K E2 K2=>?_) (λp s2 a2 w2 β2 hk R2 K E2 K2=>O p s2 a2 w2 β2 hk R2 (y.trans K) E2 (G.trans K2))
   exact Gg i A rest v ok.2 hk (λt U=>H t (.inr U)) R2 E2 (λs3 a3 L β3 hk R3 F3 E3 K3=>S s3 a3 L β3 hk R3 ((y.trans K).trans F3) E3 ((G.trans K2).trans K3))
    (λp s3 a3 L β3 hk R3 F3 E3 K3=>O p s3 a3 L β3 hk R3 ((y.trans K).trans F3) E3 ((G.trans K2).trans K3))
  .cases ok
def Ht(ops:List Oper):Bool:=yO (pZ [] ops) 0 ops&&(ops.all λo=>match o.guard with | some g=>decide (g.1+1<ops.length) | none=>true)&&(List.range (ops.length-1)).all λj=>((pZ [] ops).getD (ops.length-1) 0).testBit j
def Jd(P:Program)(ops:Array Oper)(Q:Exit->Act->World->Prop)(m:Nat):Exit->Act->World->Prop:=λe a w=>match e with
 | .normal=>wpOp P ops Q m (λa w=>Q .normal a w) a w
 |e=>Q e a w
def LN{ops:Array Oper}{Q:Exit->Act->World->Prop}{m:Nat}{o:Oper}{a:Act}{w:World}{K b:Act->World->Prop}(i:∀a w,K a w->b a w)(h:o.wp P a w K (Jd P ops Q m)\/(o.asks P a w/\LetsOut (Jd P ops Q m))):
  o.wp P a w b Q\/(o.asks P a w/\LetsOut Q):=by
 refine h.imp (λh=>Oper.wp_mono i ?_) id
 unfold Oper.wp at h⊢;generalize(execOp a.eval o).run P w=q at h⊢;cases q with
 |ok x w'=>cases x<;>exact h
 |halt x w'=>cases x<;>exact h
def Pc{b ops:Array Oper}{o:Oper}(ho:ops=b.push o)(ok:Ht ops.toList=true){Q:Exit->Act->World->Prop}:∀(n:Nat)(listed:Array Bool)(a:Act)(w:World),listed.size=b.size->listed.toList.count false=n->
  (∀j i,(listed.push false).getD j false=true->((pZ [] ops.toList).getD j 0).testBit i=true->(listed.push false).getD i false=true)->
  wpAny P .any b (Jd P ops Q b.size) n listed a w->wpAny P .any ops Q (n+1) (listed.push false) a w:=by
 unfold Ht at ok;simp only[aF]at ok;let⟨⟨ZT,S⟩,O⟩:=ok;let⟨wt,N⟩:=oJ ZT;rw[aM]at O S;have E:ops.size=b.size+1:=by rw[ho];simp
 have hm:ops[b.size]? = some o:=by rw[ho];simp
 have G:∀ {j:Nat},j<b.size->ops[j]? = b[j]? := λ{j} r=>by rw[ho,dS,if_neg af]
 have last:∀ {listed:Array Bool},listed.size=b.size->(∀j i,(listed.push false).getD j false=true->((pZ [] ops.toList).getD j 0).testBit i=true->(listed.push false).getD i false=true)->b.size∈Region.ready .any ops (listed.push false)->∀j,j<b.size->listed.getD j false=true:=by
  intro listed hs y X j r;let⟨_,o',q,l⟩:=mem_ready.1 X;have:=wt b.size o' (λi=>(listed.push false).getD i false) q rfl l y j (by have:=O j (by simp[E];exact r);simpa[E]using this)
  simpa[dS,hs,gK r]using this
 have push:∀ {listed:Array Bool} {j:Nat} (d:Bool),j<listed.size->(listed.push false).getD j d=listed.getD j d:=λ{listed j} d r=>by simp[dS,gK r]
 have other:∀ {listed:Array Bool},listed.size=b.size->∀ {j:Nat},j<b.size->j∈Region.ready .any ops (listed.push false)->j∈Region.ready .any b listed:=by
  intro listed hs j r X;let⟨h0,o',q,l⟩:=mem_ready.1 X;refine mem_ready.2 ⟨by rw[<-push true af];exact h0,o',by rw[<-G r];exact q,λe L M=>?_⟩
  have:=N j o' q e L M;rw[<-push false af]
  exact l e L M
 intro n
 induction n with
 |zero =>
  intro listed a w hs hc y h
  have l:∀j,j<b.size->listed.getD j false=true:=λj r=>by
   have h0:=fq.1 hc;have v:listed[j]'af∈listed.toList:=ai
   cases F:listed[j]'af with
   |true=>simp[F,show j<listed.size by omega]
   |false=>rw[F]at v;exact absurd v h0
  have W:b.size∈Region.ready .any ops (listed.push false):=mem_ready.2 ⟨by simp[<-hs],o,hm,λe L M=>by
   have:=N _ _ hm e L M;rw[push false af]
   exact l _ this⟩
  refine⟨λh0=>(by rw[h0]at W;cases W),λi hi=>?_⟩
  have z:i=b.size:=by
   let⟨h0,o',q,_⟩:=mem_ready.1 hi;have h1:=(aW.1 q).1
   rcases dK i b.size with h2 | h2
   .rw[push true af]at h0
    have h3:=l i h2;simp[show i<listed.size by omega]at h0 h3
    rw[h0]at h3;cases h3
   .omega
  subst z;refine wpOp_mono (λa w F=>⟨?_,F⟩) h.2
  apply fQ.2;intro j r;let⟨h0,o',q,_⟩:=mem_ready.1 r;have h1:=(aW.1 q).1
  by_cases hje:j=b.size
  .subst hje;simp[<-hs]at h0
  .rw[getD_set_ne true (Ne.symm hje),push true af]at h0
   have h3:=l j af
   simp[show j<listed.size by omega]at h0 h3
   rw[h0]at h3;cases h3
 |succ n ih =>
  intro listed a w hs hc y h;have Y:¬ ∀j,j<b.size->listed.getD j false=true:=by
   intro l
   have:listed.toList.count false=0:=fq.2 λv=>by
    let⟨j,r,L⟩:=ff v;have h3:=l j (by simpa[<-hs]using r)
    simp at r L;simp[r,L]at h3
   omega
  have T:b.size∉Region.ready .any ops (listed.push false):=λX=>Y (last hs y X)
  refine⟨λh0=>?_,λi hi=>?_⟩
  .refine absurd (λj r=>?_) Y
   have:=ue (by simp[hs,E]) N h0 j af
   rwa [push false af]at this
  .let⟨h0,o',q,l⟩:=mem_ready.1 hi;have h1:=(aW.1 q).1;have z:i<b.size:=by
    rcases dK i b.size with h2 | h2
    .exact h2
    .have:i=b.size:=by omega
     subst this;exact absurd hi T
   have A:=h.2 i (other hs z hi);have hun:listed.getD i false=false:=by
    rw[push true af]at h0
    simpa[show i<listed.size by omega]using h0
   have H:(listed.push false).setIfInBounds i true=(listed.setIfInBounds i true).push false:=by
    apply cR;simp[List.set_append,show i<listed.size by omega]
   have K:∀a w,wpAny P .any b (Jd P ops Q b.size) n (listed.setIfInBounds i true) a w->wpAny P .any ops Q (n+1) ((listed.push false).setIfInBounds i true) a w:=by
    intro a w hk;rw[H];refine ih _ a w (an hs) ?_ (λj k r M=>?_) hk
    .have hil:i<listed.toList.length:=by simp;omega
     have hg:listed.toList[i]=false:=by simpa[show i<listed.size by omega]using hun
     rw[eV,List.count_set hil,hg,hc];simp
    .rw[<-H]at r⊢
     by_cases hji:i=j
     .subst hji;exact getD_set_true (wt i o' (λi=>(listed.push false).getD i false) q rfl l y k M)
     .rw[getD_set_ne false hji]at r;exact getD_set_true (y j k r M)
   unfold wpOp at A⊢;rw[G z];cases F:b[i]? with
   |none=>rw[F]at A;exact K _ _ A
   |some x =>
    rw[F]at A;have hx:x∈ops.toList:=by
     rw[<-G z]at F;exact bL (by rw[dD];exact F)
    have hg:=S x hx
    have hwx:Region.wanted x (yielded ops a.tmps)=Region.wanted x (yielded b a.tmps):=by
     unfold Region.wanted;cases hgd:x.guard with
     |none=>rfl
     |some g =>
      rw[hgd]at hg;simp only[decide_eq_true_eq,Array.length_toList,E]at hg;simp only[yielded,G (show g.1<b.size by omega)]
    dsimp only at A⊢;rw[hwx];split
    .rename_i U;rw[if_pos U]at A;exact LN K A
    .rename_i hno;rw[if_neg hno]at A;exact K _ _ A
end
end Go.Am
