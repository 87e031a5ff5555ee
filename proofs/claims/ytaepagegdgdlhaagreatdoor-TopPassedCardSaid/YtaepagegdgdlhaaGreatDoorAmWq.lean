/- Part of the proof that TopPassedCard holds. -/
import Derived.Test.YtaepagegdgdlhaaGreatDoorAmW
set_option linter.all false
namespace Go.Am
def Fi(p:aB):∀(n j:Nat),(bitsOf p n).testBit j=(decide (j<n)&&p j)
 |0,j=>by simp[bitsOf]
 |n+1,j=>by
  have ih:=Fi p n j;rw[bitsOf]
  by_cases hj:j=n
  .subst hj;cases hp:p j with
   |true=>simp[gG,Nat.testBit_two_pow_self]
   |false=>simp[ih,hp]
  .have h1:decide (j<n+1)=decide (j<n):=by rw[decide_eq_decide];omega
   rw[h1];cases hp:p n with
   |true =>
    have:(2 ^ n).testBit j=false:=by rw[Nat.testBit_two_pow];simp;omega
    simp[gG,ih,this]
   |false=>simp[ih]
section
variable{P:Program}{Z:az}{Γ:kP}{β:kW}{h:AH}{w:World}
structure FrZ(Z:az)(β:kW)(h:AH)(w:World)(Z':az)(β':kW)(h':AH)(w':World):Prop where
 nN:∀b,b<w.heap.size->Z b->w'.heap[b]? = w.heap[b]?
 os:w'.os=w.os
 tape:w'.tape=w.tape
 output:w'.output=w.output
 ext:∀i v bd,β i v=some bd->β' i v=some bd
 stay:lS (Own Z β h) w (Own Z' β' h') w'
def FrZ.tr{Z':az}{β1 β':kW}{h1 h':AH}{w1 w':World}(F:FrZ Z β h w Z' β1 h1 w1)(hZ:∀b,Z b->Z' b)(G:Fr Z' β1 h1 w1 β' h' w'):FrZ Z β h w Z' β' h' w' :=
 ⟨λb hb hz=>(G.nN b (bT hb F.stay.1) (hZ b hz)).trans (F.nN b hb hz),G.os.trans F.os,G.tape.trans F.tape,G.output.trans F.output,λi v bd e=>G.ext i v bd (F.ext i v bd e),F.stay.trans G.stay⟩
def ZC(Z:az)(c:Nat):Nat->Prop:=λb=>Z b\/b=c
def U6(R:Rel Z β h w)(o:Obj):Rel (ZC Z w.heap.size) β h (w.alloc o)/\FrZ Z β h w (ZC Z w.heap.size) β h (w.alloc o):=by
 have hst:lS (Own Z β h) w (Own (ZC Z w.heap.size) β h) (w.alloc o):=by
  refine⟨ah,λb hb hO=>⟨heap_alloc_old w o b hb,?_⟩⟩
  rintro((hz | rfl) | ho)
  .exact hO (.inl hz)
  .omega
  .exact hO (.inr ho)
 refine⟨⟨?_,?_,R.fresh,R.later,λi X hX=>(R.blk i X hX).mono hst (λ_ _ _ e=>e) (λc hc=>heap_alloc_old w o c (R.qI ⟨X,hX,hc⟩)),R.apart⟩,⟨λb hb _=>heap_alloc_old w o b hb,rfl,rfl,rfl,λ_ _ _ e=>e,hst⟩⟩
 .rintro c (hc | rfl)
  .have:=R.xlt c hc;simp;omega
  .simp
 .rintro i c ho (hz | rfl)
  .exact R.CG i c ho hz
  .have:=R.qI ho;omega
def TM{c:Nat}(R:Rel (ZC Z c) β h w)(WB:¬Z c){cs:List AV}{vs:List Value}{elem:TypeId}(hc:w.heap[c]? = some (.cells vs.toArray elem (0,0)))(hl:cs.length=vs.length)
  (h1:∀u∈vs,u.oneCell'=true) (h2:∀O w,∀(j:Nat)(y:AV)(u:Value),cs[j]? = some y->vs[j]? = some u->qW O w y u) :
  ∃β',Rel Z β' (h++[.var cs]) w/\(∀i v bd,β i v=some bd->β' i v=some bd)/\lS (Own (ZC Z c) β h) w (Own Z β' (h++[.var cs])) w/\VR β' (Own Z β' (h++[.var cs])) w (.ptr h.length 0 0 0) (.pointer (some ⟨c,0,none⟩)):=by
 let⟨q1,q2,q3⟩:=R.abx (X:=.var cs) (bd:=⟨some c,0,cs.length,cs.length⟩) (w':=w) (λ_=>.inl) rfl ah (λ_ e=>by cases e;exact .inr ⟨.inr rfl,WB⟩) (aN _) (λ_ _=>rfl) λ_=>by
  refine⟨c,vs.toArray,elem,ah,hc,by simp[hl],λk y hy=>?_⟩
  have hk:k<vs.length:=by rw[<-hl];exact(aF.1 hy).1
  exact⟨vs[k],by simp[hk],h1 _ (aS hk),.pure _ _ (h2 _ _ k y vs[k] hy (by simp[hk]))⟩
 exact⟨_,q1,q3,q2,by simpa using VR.ptr (w:=w) h.length 0 0 0 ⟨some c,0,cs.length,cs.length⟩ c (if_pos ⟨rfl,rfl⟩) rfl⟩
end
variable{q n:Nat}
section
variable{P:Program}{Z:az}{Γ:kP}{xs:List AI}{val:Nat->AV}
def sF{pre:ax}(hq:q<pre.length)(i j:Nat):((U4 pre xs q).getD i 0).testBit j=((pre.getD i 0).testBit j||(decide (i=q)&&(decide (j<q)&&YX xs j))):=by
 unfold U4
 by_cases hi:i=q
 .subst hi;have:(pre.set i (pre.getD i 0 ||| bitsOf (YX xs) i)).getD i 0=pre.getD i 0 ||| bitsOf (YX xs) i:=by simp[hq]
  rw[this,gG,Fi];simp
 .have:(pre.set q (pre.getD q 0 ||| bitsOf (YX xs) q)).getD i 0=pre.getD i 0:=by
   rw[bV,aJ (λe=>hi e.symm),<-bV]
  rw[this];simp[hi]
structure QOK(pre:ax)(xs:List AI)(q d:Nat)(zero:List AV):Prop where
 lt:q<pre.length
 at_:xs[q]? = some ⟨some d,none,.alloc zero⟩
 rows:yO (U4 pre xs q) xs 0 xs=true
 cls:∀(i:Nat)(x:AI),xs[i]? = some x->i≠q->(pre.getD i 0).testBit q=true\/d∈x.reads->∀(j:Nat)(y:AI),xs[j]? = some y->y.op.mX=false->j<q->(pre.getD i 0).testBit j=true
def G9:∀(l:List Oper)(acc:ax),(wY acc l).length=acc.length+l.length
 | [],acc=>rfl
 |o::l,acc=>by rw[wY,G9 l];simp;omega
def SE{ops:List Oper}{xs:List AI}(hl:ops.length=xs.length)(h:Oe q ops xs=true):D7 (wY [] ops) 0 ops=true/\∃d zero,QOK (wY [] ops) xs q d zero:=by
 unfold Oe at h;simp only[aH]at h;let⟨⟨h1,h2⟩,h3⟩:=h;refine⟨h1,?_⟩;split at h3
 case h_2=>cases h3
 rename_i d zero hx;refine⟨d,zero,by rw[G9];have:=(aF.1 hx).1;simp;omega,hx,h2,λi x hi Hr hor j y hj hr hjq=>?_⟩
 rw[aO]at h3;have:=h3 i (eT.2 (aF.1 hi).1);rw[hi]at this;simp only[bS,aH,decide_eq_true_eq,Hr,false_or,bw,cv,aO,eT]at this
 rcases this with⟨t1,t2⟩ | this
 .rcases hor with ho | ho
  .rw[t1]at ho;cases ho
  .rw[List.contains_iff_mem.2 ho]at t2;cases t2
 .have:=this j hjq;unfold YX at this;rw[hj]at this
  simpa[hr]using this
variable{β:kW}{w:World}
def UX(a:Act){t z:Nat}(u:Value)(h:z≠t):(a.put (some t) u).tmps.getD z Go.undef=a.tmps.getD z Go.undef:=by
 simp only[Act.put];rw[bP,Array.getElem?_setIfInBounds,if_neg (λe=>h e.symm),<-bP]
def Zw{o:Oper}{zero:List AV}(ok:yd P o.op (.alloc zero)=true){a:Act}{next:Act->World->Prop}{Q:Exit->Act->World->Prop}
  (K:∀(vs:List Value)(t:TypeId),zero.length=vs.length->(∀u∈vs,u.oneCell'=true)->(∀O w,∀(j:Nat)(y:AV)(u:Value),zero[j]? = some y->vs[j]? = some u->qW O w y u)->
   next (a.put o.dst (.pointer (some ⟨w.heap.size,0,none⟩))) (w.alloc (.cells vs.toArray t (0,0)))):o.wp P a w next Q:=by
 let⟨dst,op,type,pos,after,guard⟩:=o;dsimp only at ok;unfold yd at ok;split at ok<;>rename_i heq<;>first | (cases ok;done) | (cases heq;done) | skip
 all_goals first | (cases heq;done) | skip
 cases heq;let⟨i,z,hi,hz,he⟩:=yI ok;let⟨q1,q2,_,_⟩:=tc (O:=λ_=>False) (w:=w) he
 unfold Oper.wp;simp[execOp,Instr.alloc,kC hi hz,newVar,newRow,Oper.upon];have h:=K z.cells.toList;simp only[dQ]at h;exact h _ q1 q2 λO w j y u hy hu=>(tc (O:=O) (w:=w) he).2.2.1 j y u hy hu
def amB(hΓ:mH P Γ){W:aB}(TX:∀x∈xs,∀t,x.dst=some t->W t=true){ops:Array Oper}{Q:Exit->Act->World->Prop}(ok:sI P n ops.toList ops.toList xs=true){pre:ax}(Bu:∀(i:Nat)(o:Oper),ops[i]? = some o->∀e∈o.after,Region.binds .any e=true->e.on<i)(ZB:Yl ops pre (λ_=>false)){d:Nat}{zero:List AV}(K:QOK pre xs q d zero)
  {s s':St} {f:Nat->St} (f0:f 0=s) (fn:f xs.length=s') (hk:∀(k:Nat)(x:AI),xs[k]? = some x->j8 Γ x (f k)=some (val k,(f (k+1)).h)/\(f (k+1)).e=(St.put ⟨(f k).e,(f (k+1)).h⟩ x.dst (val k)).e)
  {β0:kW} {w0:World} {a0:Act} (k:∀a' w' β',Rel Z β' s'.h w'->Fr Z β0 s.h w0 β' s'.h w'->kF Z β' s'.h w' s'.e a' n->lz W a0 a'->Q .normal a' w') :
  ∀(fuel:Nat)(listed:Array Bool)(a:Act)(w:World)(β:kW)(m:Nat),listed.size=ops.size->listed.toList.count false=fuel->m<=xs.length->listed.getD q false=false->
   (∀j i,listed.getD j false=true->(pre.getD j 0).testBit i=true->listed.getD i false=true)->
   (∀(j:Nat)(x:AI),xs[j]? = some x->x.op.mX=false->(j<m↔listed.getD j false=true))->
   Rel Z β (f m).h w->Fr Z β0 s.h w0 β (f m).h w->kF Z β (f m).h w (eS xs val s.e λj=>listed.getD j false) a n->lz W a0 a->wpAny P .any ops Q fuel listed a w:=by
 let⟨hlen,Wj⟩:=vm _ _ ok;have hlen':ops.size=xs.length:=by simpa using hlen
 have hrow:=wV xs 0 K.rows;have D:TR xs:=by
  intro i j x y t hx hy hxd YB;have:=hrow i x hx j y hy;unfold wW at this;simp only[bS,aH,decide_eq_true_eq,bE]at this
  rcases this with h | ⟨h,_⟩
  .exact h
  .simp[It,hxd,YB]at h
 have Z4:=K.at_;have hql:q<xs.length:=(aF.1 Z4).1;have hdq:∀(i:Nat)(x:AI),xs[i]? = some x->i≠q->x.dst≠some d:=λi x hx hi e=>hi (D i q x _ d hx Z4 e rfl)
 obtain⟨hvq,hfq⟩:val q = .ptr (f q).h.length 0 0 0/\(f (q+1)).h=(f q).h++[.var zero]:=by
  have:=(hk q _ Z4).1;simp only[j8,exec,bp,Prod.mk.injEq]at this;exact⟨this.1.symm,this.2.symm⟩
 have ar1:=λo (ho:ops[q]? = some o)=>Wj q o _ (an ho) Z4
 -- all that come ahead of q, and q, have come up
 have fin:∀(fuel:Nat)(listed:Array Bool)(a:Act)(w:World)(β:kW)(m:Nat),listed.size=ops.size->listed.toList.count false=fuel->m<=xs.length->listed.getD q false=true->
   (∀(j:Nat)(y:AI),xs[j]? = some y->y.op.mX=false->j<q->listed.getD j false=true)->
   (∀j i,listed.getD j false=true->(pre.getD j 0).testBit i=true->listed.getD i false=true)->
   (∀(j:Nat)(x:AI),xs[j]? = some x->x.op.mX=false->(j<m↔listed.getD j false=true))->
   Rel Z β (f m).h w->Fr Z β0 s.h w0 β (f m).h w->kF Z β (f m).h w (eS xs val s.e λj=>listed.getD j false) a n->lz W a0 a->wpAny P .any ops Q fuel listed a w:=by
  intro fuel listed a w β m hsz yT hm hq hall oZ hW R F E hd;refine Cp hΓ TX ok (pre:=U4 pre xs q) (D0:=λi=>decide (i=q)) Bu ?_ K.rows f0 fn hk k fuel listed a w β m hsz yT hm ?_ ?_ hW R F E hd
  .intro i o L ho hi sW Mp j hj;have hi:i≠q:=by simpa using hi
   rw[sF K.lt,decide_eq_false hi,eR,gC]at hj;exact ZB i o L ho rfl sW (λj k hL hb=>Mp j k hL (by rw[sF K.lt,hb,Bool.true_or])) j hj
  .intro i hi;obtain rfl:i=q:=by simpa using hi
   exact hq
  .intro j i hj hb;rw[sF K.lt]at hb;simp only[bS,aH,decide_eq_true_eq]at hb
   rcases hb with hb | ⟨rfl,Hr,hw⟩
   .exact oZ j i hj hb
   .unfold YX at hw;cases hy:xs[i]? with
    |none=>rw[hy]at hw;cases hw
    |some y=>rw[hy]at hw;exact hall i y hy (an hw) Hr
 -- one that is ready waits for nobody
 have V8:∀(listed:Array Bool)(i:Nat)(o:Oper),ops[i]? = some o->(∀e∈o.after,Region.binds .any e=true->listed.getD e.on false=true)->
   (∀j i,listed.getD j false=true->(pre.getD j 0).testBit i=true->listed.getD i false=true)->∀j,(pre.getD i 0).testBit j=true->listed.getD j false=true :=
  λlisted i o ho hall oZ=>ZB i o (λj=>listed.getD j false) ho rfl hall oZ
 have abT:∀(listed:Array Bool)(j:Nat),listed.size=ops.size->listed.toList.count false=0->j<xs.length->listed.getD j false=false->False:=by
  intro listed j hsz yT hj hf;have hjl:j<listed.size:=aa
  have h0:=List.count_eq_zero.1 yT;have hmem:listed[j]∈listed.toList:=ah
  simp[hjl]at hf;rw[hf]at hmem;exact h0 hmem
 -- q came up ahead of one
 have early : ∀ (fuel : Nat) (listed : Array Bool) (a : Act) (w : World) (β : kW) (m c : Nat) (vs : List Value) (t : TypeId), listed.size = ops.size -> listed.toList.count false = fuel -> m <= xs.length -> listed.getD q false = true ->
   (∃(j:Nat) (y:AI),xs[j]? = some y/\y.op.mX=false/\j<q/\listed.getD j false=false)->
   (∀j i,listed.getD j false=true->(pre.getD j 0).testBit i=true->listed.getD i false=true)->
   (∀(j:Nat)(x:AI),xs[j]? = some x->x.op.mX=false->(j<m↔(!decide (j=q)&&listed.getD j false)=true))->
   zero.length=vs.length->(∀u∈vs,u.oneCell'=true)->(∀O w,∀(j:Nat)(y:AV)(u:Value),zero[j]? = some y->vs[j]? = some u->qW O w y u)->¬Z c->w.heap[c]? = some (.cells vs.toArray t (0,0))->a.tmps.getD d Go.undef = .pointer (some ⟨c,0,none⟩)->
   Rel (ZC Z c) β (f m).h w->FrZ Z β0 s.h w0 (ZC Z c) β (f m).h w->kF (ZC Z c) β (f m).h w ((eS xs val s.e λj=>!decide (j=q)&&listed.getD j false).put d .dead) a n->lz W a0 a->wpAny P .any ops Q fuel listed a w:=by
  intro fuel
  induction fuel with
  |zero =>
   intro listed a w β m c vs t hsz yT hm hq hex;let⟨j,y,hy,_,_,hl⟩:=hex;exact absurd (abT listed j hsz yT (aF.1 hy).1 hl) id
  |succ fuel ih =>
   intro listed a w β m c vs t hsz yT hm hq hex oZ hW hz1 Qm hz3 WB Ji hda R F E hd;let⟨j0,y0,hy0,zV,hj0,hl0⟩:=hex;refine⟨λh0=>?_,λi hi=>?_⟩
   .have:=AP hsz Bu h0 j0 (by have:=(aF.1 hy0).1;omega)
    rw[hl0]at this;cases this
   let⟨h1,o,ho,hall⟩:=mem_ready.1 hi;have hio:i<ops.size:=(aW.1 ho).1;have hil:i<listed.size:=aa
   have Wp:i<xs.length:=aa
   have hx:xs[i]? = some xs[i]:=aG Wp;generalize hxi:xs[i]=x at hx;have OO:listed.getD i false=false:=by simp[hil]at h1⊢;exact h1
   have Hr:i≠q:=λe=>by rw[e,hq]at OO;cases OO
   have hwt:=V8 listed i o ho hall oZ
   have hfree:(pre.getD i 0).testBit q=false/\d∉x.reads:=by
    have hno:¬((pre.getD i 0).testBit q=true\/d∈x.reads):=λhor=>by
     have:=hwt j0 (K.cls i x hx Hr hor j0 y0 hy0 zV hj0);rw[hl0]at this;cases this
    exact⟨by cases hb:(pre.getD i 0).testBit q with | false=>rfl | true=>exact absurd (.inl hb) hno,λh=>hno (.inr h)⟩
   have ye:∀(j:Nat)(y:AI),xs[j]? = some y->jD (QC i x 0 xs) i j x y=true->(!decide (j=q)&&listed.getD j false)=decide (j<i):=by
    intro j y hy hc;have:=hrow i x hx j y hy;unfold wW at this;simp only[bS,aH,decide_eq_true_eq,bE]at this
    rcases this with h | ⟨_,h⟩
    .subst h;rw[OO];simp
    .rcases h with h | h
     .rw[hc]at h;cases h
     .unfold ordered at h;split at h
      .rename_i hlt;rw[sF K.lt,decide_eq_false Hr,eR,gC]at h;have hjq:j≠q:=λe=>by rw[e,hfree.1]at h;cases h
       rw[hwt j h];simp[hjq,hlt]
      .rename_i hlt
       by_cases hjq:j=q
       .simp[hjq];have:¬q<i:=λe=>hlt (hjq▸e)
        omega
       .rw[sF K.lt,decide_eq_false hjq,eR,gC]at h;cases hS:listed.getD j false with
        |false=>simp[hlt]
        |true =>
         have:=oZ j i hS h;rw[OO]at this;cases this
   have hrd:∀t∈x.reads,((eS xs val s.e λj=>!decide (j=q)&&listed.getD j false).put d .dead) t=eS xs val s.e (λj=>!decide (j=q)&&listed.getD j false) t:=λt ht=>by
    unfold Env.put;rw[if_neg]
    rintro rfl
    exact hfree.2 ht
   let⟨m',hstep,hm',ON⟩:=FO D hk f0 (L:=λj=>!decide (j=q)&&listed.getD j false) hx hm (by simp[OO]) hW ye λt ht b v i o he=>by
    have hv:=E.2 t;rw[hrd t ht,he]at hv;generalize a.tmps.getD t Go.undef=u at hv
    rcases cG b (f m).h.length with hlt | hge
    .exact hlt
    .cases hv with
     |pure _ _ hv=>cases hv
     |ptr _ _ _ _ bd c h1 h2=>rw[R.fresh b v hge]at h1;cases h1
   have hok:=Wj i o x (an ho) hx
   unfold wpOp;simp only[ho];refine zm (s:=⟨(eS xs val s.e λj=>!decide (j=q)&&listed.getD j false).put d .dead,(f m).h⟩) R hΓ E hok (by rw[om hrd];exact hstep) λu w' β' R' F' hv=>?_
   let⟨B,hB,qy,Ew,Ck,hne⟩:=lup hil OO yT;rw[<-hB]
   have hd2:(vl x.dst).all (λt=>decide (t<n))=true:=by
    unfold IM at hok;simp only[aH]at hok;exact hok.1.1.2
   have YD:B.getD q false=true:=(qy q).2 (.inr hq)
   have Mp:∀j p,B.getD j false=true->(pre.getD j 0).testBit p=true->B.getD p false=true:=by
    intro j p hj hp;rw[qy]at hj⊢
    rcases hj with rfl | hj
    .exact .inr (hwt p hp)
    .exact .inr (oZ j p hj hp)
   have YM:∀(j:Nat)(y:AI),xs[j]? = some y->y.op.mX=false->(j<m'↔(!decide (j=q)&&B.getD j false)=true):=λj y hy hr=>by
    rw[ON j y hy hr];simp only[aH,qy,cv,decide_eq_false_iff_not]
    constructor
    .rintro(rfl | ⟨h1,h2⟩)
     .exact⟨Hr,.inl rfl⟩
     .exact⟨h1,.inr h2⟩
    .rintro⟨h1,h2 | h2⟩
     .exact .inl h2
     .exact .inr ⟨h1,h2⟩
   have akR:w'.heap[c]? = some (.cells vs.toArray t (0,0)):=(F'.nN c ((aW.1 Ji).1) (.inr rfl)).trans Ji
   have akP:(a.put x.dst u).tmps.getD d Go.undef = .pointer (some ⟨c,0,none⟩):=by
    rw[<-hda];cases hxd:x.dst with
    |none=>rfl
    |some t=>exact UX a u (λe=>hdq i x hx Hr (by rw[hxd,e]))
   have F2:=F.tr (λb hb=>.inl hb) F'
   have E2:kF (ZC Z c) β' (f m').h w' ((eS xs val s.e λj=>!decide (j=q)&&B.getD j false).put d .dead) (a.put x.dst u) n:=by
    have:=(E.fr F').Zs hd2 hv;have e1:=EX (val:=val) (e0:=s.e) (S:=λj=>!decide (j=q)&&listed.getD j false) (S':=λj=>!decide (j=q)&&B.getD j false) D hx (by rw[(qy i).2 (.inl rfl)];simp[Hr]) (λj hj=>by rw[hne _ (λe=>hj e.symm)]) (f m').h
    rw[e1]
    have e2:∀(e:Env),(St.put ⟨e.put d .dead,(f m').h⟩ x.dst (val i)).e=((St.put ⟨e,(f m').h⟩ x.dst (val i)).e).put d .dead:=by
     intro e;cases hxd:x.dst with
     |none=>rfl
     |some t =>
      funext z
      have uP:t≠d:=λh=>hdq i x hx Hr (by rw[hxd,h])
      simp only[St.put,Env.put]
      by_cases hz:z=d
      .subst hz;simp[Ne.symm uP]
      .simp[hz]
    rw[e2]at this;exact this
   have hK:=hd.trans (lz.put a x.dst u (TX x (aR hx)))
   by_cases hex':∃(j:Nat) (y:AI),xs[j]? = some y/\y.op.mX=false/\j<q/\B.getD j false=false
   .exact ih B (a.put x.dst u) w' β' m' c vs t (Ew.trans hsz) Ck hm' YD hex' Mp YM hz1 Qm hz3 WB akR akP R' F2 E2 hK
   -- the block becomes a variable
   have sW:∀(j:Nat)(y:AI),xs[j]? = some y->y.op.mX=false->j<q->B.getD j false=true:=λj y hy hr hj=>by
    cases hb:B.getD j false with
    |true=>rfl
    |false=>exact absurd ⟨j,y,hy,hr,hj,hb⟩ hex'
   have hqm:¬q<m':=λh=>by
    have:=(YM q _ Z4 rfl).1 h;simp at this
   have hh:(f m').h=(f q).h:=sQ (λk x hx=>(hk k x hx).1) m' q hm' aa λj y hy hr=>by
    rw[YM j y hy hr];simp only[aH,cv,decide_eq_false_iff_not]
    constructor
    .rintro⟨h1,h2⟩
     have:=(YM j y hy hr).2 (by simp[h1,h2])
     omega
    .intro h;exact⟨aa,sW j y hy hr h⟩
   let⟨β2,R2,x2,o2,v2⟩:=TM R' WB akR hz1 Qm hz3;have Jg:(f (q+1)).h=(f m').h++[.var zero]:=by rw[hfq,hh]
   refine fin fuel B (a.put x.dst u) w' β2 (q+1) (Ew.trans hsz) Ck aa YD sW Mp (λj y hy hr=>?_) (by rw[Jg];exact R2) ?_ ?_ hK
   .constructor
    .intro h
     rcases cG j q with h1 | h1
     .exact sW j y hy hr h1
     .obtain rfl:j=q:=by omega
      exact YD
    .intro h
     rcases cG q j with h1 | h1
     .have:=(YM j y hy hr).2 (by simp[h];omega)
      omega
     .omega
   .rw[Jg];exact⟨F2.nN,F2.os,F2.tape,F2.output,λi v bd e=>x2 i v bd (F2.ext i v bd e),F2.stay.trans o2⟩
   .rw[Jg];refine⟨E2.1,λz=>?_⟩
    by_cases hz:z=d
    .subst hz;rw[akP,Xs D Z4 rfl YD,hvq,<-hh];exact v2
    .have e3:eS xs val s.e (λj=>B.getD j false) z=((eS xs val s.e λj=>!decide (j=q)&&B.getD j false).put d .dead) z:=by
      unfold Env.put;rw[if_neg hz];refine uT D λj y hy YB=>?_
      have hjq:j≠q:=by
       rintro rfl
       rw[Z4]at hy;cases hy;cases YB;exact hz rfl
      simp[hjq]
     rw[e3];exact(E2.2 z).mono x2 o2
 intro fuel
 induction fuel with
 |zero =>
  intro listed a w β m hsz yT hm hq;exact absurd (abT listed q hsz yT hql hq) id
 |succ fuel ih =>
  intro listed a w β m hsz yT hm hq oZ hW R F E hd;refine⟨λh0=>?_,λi hi=>?_⟩
  .have:=AP hsz Bu h0 q aa
   rw[hq]at this;cases this
  let⟨h1,o,ho,hall⟩:=mem_ready.1 hi;have hio:i<ops.size:=(aW.1 ho).1;have hil:i<listed.size:=aa
  have Wp:i<xs.length:=aa
  have hx:xs[i]? = some xs[i]:=aG Wp;generalize hxi:xs[i]=x at hx;have OO:listed.getD i false=false:=by simp[hil]at h1⊢;exact h1
  have hwt:=V8 listed i o ho hall oZ;let⟨B,hB,qy,Ew,Ck,hne⟩:=lup hil OO yT
  have Mp:∀j p,B.getD j false=true->(pre.getD j 0).testBit p=true->B.getD p false=true:=by
   intro j p hj hp;rw[qy]at hj⊢
   rcases hj with rfl | hj
   .exact .inr (hwt p hp)
   .exact .inr (oZ j p hj hp)
  have hok:=Wj i o x (an ho) hx
  by_cases hpend:i=q/\∃(j:Nat) (y:AI),xs[j]? = some y/\y.op.mX=false/\j<q/\listed.getD j false=false
  · -- q comes up ahead of one
   let⟨Hr,j0,y0,hy0,zV,hj0,hl0⟩:=hpend;rw[Hr]at hx;rw[Z4]at hx;cases hx;unfold IM at hok;simp only[aH,decide_eq_true_eq]at hok;let⟨⟨⟨Og,Of⟩,KO⟩,IP⟩:=hok;have hg:o.guard=none:=by
    cases hg':o.guard with
    |none=>rfl
    |some g=>rw[hg']at IP;cases IP
   unfold wpOp;simp only[ho];rw[if_pos (by simp[Region.wanted,hg])]
   refine .inl (Zw KO λvs t z1 z2 z3=>?_)
   rw[Og];let⟨R1,F1⟩:=U6 R (.cells vs.toArray t (0,0));have hdn:d<a.tmps.size:=by
    rw[E.1]
    simpa[vl]using Of
   have WB:¬Z w.heap.size:=λh=>by have:=R.xlt _ h;omega
   have hqm:∀j,(!decide (j=q)&&B.getD j false)=listed.getD j false:=λj=>by
    by_cases hjq:j=q
    .rw[hjq,hq];simp
    .rw[hne _ (λe=>hjq (by rw[<-e,Hr]))];simp[hjq]
   rw[<-hB]
   refine early fuel B (a.put (some d) (.pointer (some ⟨w.heap.size,0,none⟩))) (w.alloc (.cells vs.toArray t (0,0))) β m w.heap.size vs t (Ew.trans hsz) Ck hm ((qy q).2 (.inl Hr.symm)) ⟨j0,y0,hy0,zV,hj0,?_⟩ Mp (λj y hy hr=>by rw[hqm];exact hW j y hy hr) z1 z2 z3 WB (heap_alloc_new w _) ?_ R1 ⟨λb hb hz=>(F1.nN b (bT hb F.stay.1) hz).trans (F.nN b hb hz),F1.os.trans F.os,F1.tape.trans F.tape,F1.output.trans F.output,λi v bd e=>F1.ext i v bd (F.ext i v bd e),F.stay.trans F1.stay⟩ ?_ (hd.trans (lz.put a (some d) _ λt ht=>TX _ (aR Z4) t ht))
   .rw[hne _ (λe=>aa)];exact hl0
   .simp[Act.put,hdn]
   .refine⟨by simp[Act.put,E.1],λz=>?_⟩
    unfold Env.put
    by_cases hz:z=d
    .rw[if_pos hz];exact .dead _
    .rw[if_neg hz];have e1:(a.put (some d) (.pointer (some ⟨w.heap.size,0,none⟩))).tmps.getD z Go.undef=a.tmps.getD z Go.undef:=UX a _ hz;rw[e1]
     have e2:eS xs val s.e (λj=>!decide (j=q)&&B.getD j false) z=eS xs val s.e (λj=>listed.getD j false) z:=by
      congr 1
      funext j
      exact hqm j
     rw[e2];exact(E.2 z).mono (λ_ _ _ e=>e) F1.stay
  have ye:∀(j:Nat)(y:AI),xs[j]? = some y->jD (QC i x 0 xs) i j x y=true->listed.getD j false=decide (j<i):=by
   intro j y hy hc;have:=hrow i x hx j y hy;unfold wW at this;simp only[bS,aH,decide_eq_true_eq,bE]at this
   rcases this with h | ⟨_,h⟩
   .subst h;rw[OO];simp
   .rcases h with h | h
    .rw[hc]at h;cases h
    .unfold ordered at h;split at h
     .rename_i hlt;rw[sF K.lt]at h;simp only[bS,aH,decide_eq_true_eq]at h
      rcases h with h | ⟨Hr,hjq,hw⟩
      .rw[hwt j h];simp[hlt]
      .cases hb:listed.getD j false with
       |true=>simp[hlt]
       |false =>
        unfold YX at hw;rw[hy]at hw;exact absurd ⟨Hr,j,y,hy,an hw,hjq,hb⟩ hpend
     .rename_i hlt
      by_cases hjq:j=q
      .rw[hjq,hq];have:¬q<i:=λe=>hlt (hjq▸e)
       simp;omega
      .rw[sF K.lt,decide_eq_false hjq,eR,gC]at h;cases hS:listed.getD j false with
       |false=>simp[hlt]
       |true =>
        have:=oZ j i hS h;rw[OO]at this;cases this
  let⟨m',hstep,hm',ON⟩:=FO D hk f0 (L:=λj=>listed.getD j false) hx hm OO hW ye λt _ b v i o he=>by
   have hv:=E.2 t;rw[he]at hv;generalize a.tmps.getD t Go.undef=u at hv
   rcases cG b (f m).h.length with hlt | hge
   .exact hlt
   .cases hv with
    |pure _ _ hv=>cases hv
    |ptr _ _ _ _ bd c h1 h2=>rw[R.fresh b v hge]at h1;cases h1
  unfold wpOp;simp only[ho];refine zm (s:=⟨eS xs val s.e λj=>listed.getD j false,(f m).h⟩) R hΓ E hok hstep λu w' β' R' F' hv=>?_
  rw[<-hB]
  have hd2:(vl x.dst).all (λt=>decide (t<n))=true:=by
   unfold IM at hok;simp only[aH]at hok;exact hok.1.1.2
  have E2:=(E.fr F').Zs hd2 hv;rw[<-EX (S':=λj=>B.getD j false) D hx ((qy i).2 (.inl rfl)) (λj hj=>by rw[hne _ (λe=>hj e.symm)]) (f m').h]at E2
  have hK:=hd.trans (lz.put a x.dst u (TX x (aR hx)))
  by_cases Hr:i=q
  .refine fin fuel B (a.put x.dst u) w' β' m' (Ew.trans hsz) Ck hm' ((qy q).2 (.inl Hr.symm)) (λj y hy hr hj=>?_) Mp (λj y hy hr=>by rw[qy];exact ON j y hy hr) R' (F.trans F') E2 hK
   rw[qy];cases hb:listed.getD j false with
   |true=>exact .inr rfl
   |false=>exact absurd ⟨Hr,j,y,hy,hr,hj,hb⟩ hpend
  .exact ih B (a.put x.dst u) w' β' m' (Ew.trans hsz) Ck hm' (by rw[hne _ Hr];exact hq) Mp (λj y hy hr=>by rw[qy];exact ON j y hy hr) R' (F.trans F') E2 hK
def amA(hΓ:mH P Γ){W:aB}(TX:∀x∈xs,∀t,x.dst=some t->W t=true){ops:Array Oper}{Q:Exit->Act->World->Prop}(ok:sI P n ops.toList ops.toList xs=true)(P0:Od ops.toList xs=true)
  {s s':St} (hf:flat Γ xs s=some s') {a:Act} {w:World} {β:kW} (R:Rel Z β s.h w) (E:kF Z β s.h w s.e a n)
  (k:∀a' w' β',Rel Z β' s'.h w'->Fr Z β s.h w β' s'.h w'->kF Z β' s'.h w' s'.e a' n->lz W a a'->Q .normal a' w'):wpAny P .any ops Q ops.size (Array.replicate ops.size false) a {w with drawn:=w.drawn+1}:=by
 let⟨f,val,f0,fn,hk⟩:=Qd xs s s' hf;have F1:Fr Z β s.h w β s.h {w with drawn:=w.drawn+1}:=⟨λ_ _ _=>rfl,rfl,rfl,rfl,λ_ _ _ e=>e,lS.drew (lS.refl _ _)⟩
 have R1:Rel Z β s.h {w with drawn:=w.drawn+1}:=(R.drawn _).1
 have hno:∀j,(Array.replicate ops.size false).getD j false=false:=λj=>by
  simp[Array.getElem?_replicate];split<;>simp
 have g2:∀(pre:ax) j i,(Array.replicate ops.size false).getD j false=true->(pre.getD j 0).testBit i=true->(Array.replicate ops.size false).getD i false=true:=λpre j i hj=>by rw[hno]at hj;cases hj
 have g3:∀(j:Nat)(x:AI),xs[j]? = some x->x.op.mX=false->(j<0↔(Array.replicate ops.size false).getD j false=true):=λj x _ _=>by rw[hno];simp
 have g4:(eS xs val s.e λj=>(Array.replicate ops.size false).getD j false)=s.e:=by
  funext t
  exact Jw λj x _ _=>hno j
 unfold Od at P0;rw[bS]at P0
 rcases P0 with P0 | P0
 .unfold abA at P0;simp only[aH]at P0;exact Cp hΓ TX ok (tK P0.1).2 (tK P0.1).1 P0.2 f0 fn hk (β0:=β) (w0:=w) (a0:=a) k ops.size (Array.replicate ops.size false) a _ β 0 ah ah (cH _) (λ_ h=>(by cases h)) (g2 _) g3 (by rw[f0];exact R1) (by rw[f0];exact F1) (by rw[f0,g4];exact E.fr F1) (lz.refl W a)
 .rw[fD]at P0;let⟨q,_,P0⟩:=P0;let⟨ZB,d,zero,K⟩:=SE (vm _ _ ok).1 P0;exact amB hΓ TX ok (tK ZB).2 (tK ZB).1 K f0 fn hk (β0:=β) (w0:=w) (a0:=a) k ops.size (Array.replicate ops.size false) a _ β 0 ah ah (cH _) (hno q) (g2 _) g3 (by rw[f0];exact R1) (by rw[f0];exact F1) (by rw[f0,g4];exact E.fr F1) (lz.refl W a)
end
end Go.Am
