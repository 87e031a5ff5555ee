/- Part of the proof that TopTwoPartsCard holds. -/
import Derived.Test.YtghgbehknhmnaaaGreatDoorAmW
set_option linter.all false
namespace Go.Am
def BN(p:aB):∀(n j:Nat),(bitsOf p n).testBit j=(decide (j<n)&&p j)
 |0,j=>by simp[bitsOf]
 |n+1,j=>by
  have b:=BN p n j;rw[bitsOf]
  by_cases l:j=n
  .subst l;cases i:p j with
   |true=>simp[gw,Nat.testBit_two_pow_self]
   |false=>simp[b,i]
  .have h1:decide (j<n+1)=decide (j<n):=by rw[decide_eq_decide];omega
   rw[h1];cases i:p n with
   |true =>
    have:(2 ^ n).testBit j=false:=by rw[Nat.testBit_two_pow];simp;omega
    simp[gw,b,this]
   |false=>simp[b]
section
variable{P:Program}{Z:az}{Γ:jE}{β:jO}{h:AH}{w:World}
structure FrZ(Z:az)(β:jO)(h:AH)(w:World)(Z':az)(β':jO)(h':AH)(w':World):Prop where
 lF:∀b,b<w.heap.size->Z b->w'.heap[b]? = w.heap[b]?
 os:w'.os=w.os
 tape:w'.tape=w.tape
 output:w'.output=w.output
 ext:∀i v bd,β i v=some bd->β' i v=some bd
 stay:kC (Own Z β h) w (Own Z' β' h') w'
def FrZ.tr{l:az}{β1 β':jO}{h1 h':AH}{n w':World}(F:FrZ Z β h w l β1 h1 n)(r:∀b,Z b->l b)(G:Fr l β1 h1 n β' h' w'):FrZ Z β h w l β' h' w' :=
 ⟨λb q o=>(G.lF b (bu q F.stay.1) (r b o)).trans (F.lF b q o),G.os.trans F.os,G.tape.trans F.tape,G.output.trans F.output,λi v bd e=>G.ext i v bd (F.ext i v bd e),F.stay.trans G.stay⟩
def ZC(Z:az)(c:Nat):Nat->Prop:=λb=>Z b\/b=c
def MV(R:Rel Z β h w)(o:Obj):Rel (ZC Z w.heap.size) β h (w.alloc o)/\FrZ Z β h w (ZC Z w.heap.size) β h (w.alloc o):=by
 have l:kC (Own Z β h) w (Own (ZC Z w.heap.size) β h) (w.alloc o):=by
  refine⟨ai,λb v y=>⟨heap_alloc_old w o b v,?_⟩⟩
  rintro((q | rfl) | n)
  .exact y (.inl q)
  .omega
  .exact y (.inr n)
 refine⟨⟨?_,?_,R.fresh,R.later,λi X x=>(R.blk i X x).mono l (λ_ _ _ e=>e) (λc r=>heap_alloc_old w o c (R.ox ⟨X,x,r⟩)),R.apart,R.gl.stay l⟩,⟨λb v _=>heap_alloc_old w o b v,rfl,rfl,rfl,λ_ _ _ e=>e,l⟩⟩
 .rintro c (r | rfl)
  .have:=R.xlt c r;simp;omega
  .simp
 .rintro i c n (q | rfl)
  .exact R.BV i c n q
  .have:=R.ox n;omega
def Lx{c:Nat}(R:Rel (ZC Z c) β h w)(b:¬Z c){cs:List AV}{vs:List Value}{elem:TypeId}(q:w.heap[c]? = some (.cells vs.toArray elem (0,0)))(hl:cs.length=vs.length)
  (h1:∀u∈vs,u.oneCell'=true) (h2:∀O w,∀(j:Nat)(y:AV)(u:Value),cs[j]? = some y->vs[j]? = some u->oF O w y u) :
  ∃β',Rel Z β' (h++[.var cs]) w/\(∀i v bd,β i v=some bd->β' i v=some bd)/\kC (Own (ZC Z c) β h) w (Own Z β' (h++[.var cs])) w/\VR β' (Own Z β' (h++[.var cs])) w (.ptr h.length 0 0 0) (.pointer (some ⟨c,0,none⟩)):=by
 let⟨q1,o,n⟩:=R.SZ (X:=.var cs) (bd:=⟨some c,0,cs.length,cs.length⟩) (w':=w) (λ_=>.inl) rfl ai (λ_ e=>by cases e;exact .inr ⟨.inr rfl,b⟩) (aV _) (λ_ _=>rfl) λ_=>by
  refine⟨c,vs.toArray,elem,ai,q,by simp[hl],λk y l=>?_⟩
  have hk:k<vs.length:=by rw[<-hl];exact(aD.1 l).1
  exact⟨vs[k],by simp[hk],h1 _ (aP hk),.pure _ _ (h2 _ _ k y vs[k] l (by simp[hk]))⟩
 exact⟨_,q1,n,o,by simpa using VR.ptr (w:=w) h.length 0 0 0 ⟨some c,0,cs.length,cs.length⟩ c (if_pos ⟨rfl,rfl⟩) rfl⟩
end
variable{q n:Nat}
section
variable{P:Program}{Z:az}{Γ:jE}{xs:List AI}{val:Nat->AV}
def pW{pre:ax}(l:q<pre.length)(i j:Nat):((MT pre xs q).getD i 0).testBit j=((pre.getD i 0).testBit j||(decide (i=q)&&(decide (j<q)&&PV xs j))):=by
 unfold MT
 by_cases b:i=q
 .subst b;have:(pre.set i (pre.getD i 0 ||| bitsOf (PV xs) i)).getD i 0=pre.getD i 0 ||| bitsOf (PV xs) i:=by simp[l]
  rw[this,gw,BN];simp
 .have:(pre.set q (pre.getD q 0 ||| bitsOf (PV xs) q)).getD i 0=pre.getD i 0:=by
   rw[bY,aI (λe=>b e.symm),<-bY]
  rw[this];simp[b]
structure QOK(pre:ax)(xs:List AI)(q d:Nat)(zero:List AV):Prop where
 lt:q<pre.length
 at_:xs[q]? = some ⟨some d,none,.alloc zero⟩
 rows:vn (MT pre xs q) xs 0 xs=true
 cls:∀(i:Nat)(x:AI),xs[i]? = some x->i≠q->(pre.getD i 0).testBit q=true\/d∈x.reads->∀(j:Nat)(y:AI),xs[j]? = some y->y.op.qZ=false->j<q->(pre.getD i 0).testBit j=true
def CC:∀(l:List Oper)(b:ax),(pZ b l).length=b.length+l.length
 | [],b=>rfl
 |o::l,b=>by rw[pZ,CC l];simp;omega
def Ky{ops:List Oper}{xs:List AI}(hl:ops.length=xs.length)(h:Hu q ops xs=true):yO (pZ [] ops) 0 ops=true/\∃d zero,QOK (pZ [] ops) xs q d zero:=by
 unfold Hu at h;simp only[aF]at h;let⟨⟨h1,h2⟩,h3⟩:=h;refine⟨h1,?_⟩;split at h3
 case h_2=>cases h3
 rename_i d zero v;refine⟨d,zero,by rw[CC];have:=(aD.1 v).1;simp;omega,v,h2,λi x z o l j y F E n=>?_⟩
 rw[aM]at h3;have:=h3 i (fB.2 (aD.1 z).1);rw[z]at this;simp only[bR,aF,decide_eq_true_eq,o,false_or,bC,cK,aM,fB]at this
 rcases this with⟨A,r⟩ | this
 .rcases l with b | b
  .rw[A]at b;cases b
  .rw[gV.2 b]at r;cases r
 .have:=this j n;unfold PV at this;rw[F]at this
  simpa[E]using this
variable{β:jO}{w:World}
def MM(a:Act){t z:Nat}(u:Value)(h:z≠t):(a.put (some t) u).tmps.getD z Go.undef=a.tmps.getD z Go.undef:=by
 simp only[Act.put];rw[bD,fZ,if_neg (λe=>h e.symm),<-bD]
def Qr{o:Oper}{zero:List AV}(ok:uD P o.op (.alloc zero)=true){a:Act}{next:Act->World->Prop}{Q:Exit->Act->World->Prop}
  (K:∀(vs:List Value)(t:TypeId),zero.length=vs.length->(∀u∈vs,u.oneCell'=true)->(∀O w,∀(j:Nat)(y:AV)(u:Value),zero[j]? = some y->vs[j]? = some u->oF O w y u)->
   next (a.put o.dst (.pointer (some ⟨w.heap.size,0,none⟩))) (w.alloc (.cells vs.toArray t (0,0)))):o.wp P a w next Q:=by
 let⟨dst,op,type,pos,after,guard⟩:=o;dsimp only at ok;unfold uD at ok;split at ok<;>rename_i heq<;>first | (cases ok;done) | (cases heq;done) | skip
 all_goals first | (cases heq;done) | skip
 cases heq;let⟨i,z,v,n,b⟩:=u9 ok;let⟨q1,l,_,_⟩:=qb (O:=λ_=>False) (w:=w) b
 unfold Oper.wp;simp[execOp,Instr.alloc,jq v n,newVar,newRow,Oper.upon];have h:=K z.cells.toList;simp only[dI]at h;exact h _ q1 l λO w j y u q r=>(qb (O:=O) (w:=w) b).2.2.1 j y u q r
def af4(hΓ:j3 P Γ){W:aB}(Cx:∀x∈xs,∀t,x.dst=some t->W t=true){ops:Array Oper}{Q:Exit->Act->World->Prop}(ok:lY P n ops.toList ops.toList xs=true){pre:ax}(HM:∀(i:Nat)(o:Oper),ops[i]? = some o->∀e∈o.after,Region.binds .any e=true->e.on<i)(ZT:Pf ops pre (λ_=>false)){d:Nat}{zero:List AV}(K:QOK pre xs q d zero)
  {s s':St} {f:Nat->St} (f0:f 0=s) (fn:f xs.length=s') (hk:∀(k:Nat)(x:AI),xs[k]? = some x->ja Γ x (f k)=some (val k,(f (k+1)).h)/\(f (k+1)).e=(St.put ⟨(f k).e,(f (k+1)).h⟩ x.dst (val k)).e)
  {β0:jO} {w0:World} {a0:Act} (k:∀a' w' β',Rel Z β' s'.h w'->Fr Z β0 s.h w0 β' s'.h w'->jt Z β' s'.h w' s'.e a' n->jA W a0 a'->Q .normal a' w') :
  ∀(l:Nat)(listed:Array Bool)(a:Act)(w:World)(β:jO)(m:Nat),listed.size=ops.size->listed.toList.count false=l->m<=xs.length->listed.getD q false=false->
   (∀j i,listed.getD j false=true->(pre.getD j 0).testBit i=true->listed.getD i false=true)->
   (∀(j:Nat)(x:AI),xs[j]? = some x->x.op.qZ=false->(j<m↔listed.getD j false=true))->
   Rel Z β (f m).h w->Fr Z β0 s.h w0 β (f m).h w->jt Z β (f m).h w (eS xs val s.e λj=>listed.getD j false) a n->jA W a0 a->wpAny P .any ops Q l listed a w:=by
 let⟨hlen,NQ⟩:=rQ _ _ ok;have hlen':ops.size=xs.length:=by simpa using hlen
 have hrow:=sQ xs 0 K.rows;have D:Lz xs:=by
  intro i j x y t Y G LH Tf;have:=hrow i x Y j y G;unfold sR at this;simp only[bR,aF,decide_eq_true_eq,bW]at this
  rcases this with h | ⟨h,_⟩
  .exact h
  .simp[Dz,LH,Tf]at h
 have L3:=K.at_;have hql:q<xs.length:=(aD.1 L3).1;have hdq:∀(i:Nat)(x:AI),xs[i]? = some x->i≠q->x.dst≠some d:=λi x Y hi e=>hi (D i q x _ d Y L3 e rfl)
 obtain⟨hvq,hfq⟩:val q = .ptr (f q).h.length 0 0 0/\(f (q+1)).h=(f q).h++[.var zero]:=by
  have:=(hk q _ L3).1;simp only[ja,exec,bn,Prod.mk.injEq]at this;exact⟨this.1.symm,this.2.symm⟩
 have akA:=λo (ho:ops[q]? = some o)=>NQ q o _ (an ho) L3
 have fin:∀(l:Nat)(listed:Array Bool)(a:Act)(w:World)(β:jO)(m:Nat),listed.size=ops.size->listed.toList.count false=l->m<=xs.length->listed.getD q false=true->
   (∀(j:Nat)(y:AI),xs[j]? = some y->y.op.qZ=false->j<q->listed.getD j false=true)->
   (∀j i,listed.getD j false=true->(pre.getD j 0).testBit i=true->listed.getD i false=true)->
   (∀(j:Nat)(x:AI),xs[j]? = some x->x.op.qZ=false->(j<m↔listed.getD j false=true))->
   Rel Z β (f m).h w->Fr Z β0 s.h w0 β (f m).h w->jt Z β (f m).h w (eS xs val s.e λj=>listed.getD j false) a n->jA W a0 a->wpAny P .any ops Q l listed a w:=by
  intro l listed a w β m N M hm hq hall vo hW R F E hd;refine yT hΓ Cx ok (pre:=MT pre xs q) (D0:=λi=>decide (i=q)) HM ?_ K.rows f0 fn hk k l listed a w β m N M hm ?_ ?_ hW R F E hd
  .intro i o L ho hi FT X j hj;have hi:i≠q:=by simpa using hi
   rw[pW K.lt,decide_eq_false hi,dx,fT]at hj;exact ZT i o L ho rfl FT (λj k hL hb=>X j k hL (by rw[pW K.lt,hb,Bool.true_or])) j hj
  .intro i hi;obtain rfl:i=q:=by simpa using hi
   exact hq
  .intro j i hj hb;rw[pW K.lt]at hb;simp only[bR,aF,decide_eq_true_eq]at hb
   rcases hb with hb | ⟨rfl,A,hw⟩
   .exact vo j i hj hb
   .unfold PV at hw;cases G:xs[i]? with
    |none=>rw[G]at hw;cases hw
    |some y=>rw[G]at hw;exact hall i y G (an hw) A
 have NL:∀(listed:Array Bool)(i:Nat)(o:Oper),ops[i]? = some o->(∀e∈o.after,Region.binds .any e=true->listed.getD e.on false=true)->
   (∀j i,listed.getD j false=true->(pre.getD j 0).testBit i=true->listed.getD i false=true)->∀j,(pre.getD i 0).testBit j=true->listed.getD j false=true :=
  λlisted i o ho hall vo=>ZT i o (λj=>listed.getD j false) ho rfl hall vo
 have To:∀(listed:Array Bool)(j:Nat),listed.size=ops.size->listed.toList.count false=0->j<xs.length->listed.getD j false=false->False:=by
  intro listed j N M hj hf;have hjl:j<listed.size:=af
  have h0:=fq.1 M;have hmem:listed[j]∈listed.toList:=ai
  simp[hjl]at hf;rw[hf]at hmem;exact h0 hmem
 have early : ∀ (l : Nat) (listed : Array Bool) (a : Act) (w : World) (β : jO) (m c : Nat) (vs : List Value) (t : TypeId), listed.size = ops.size -> listed.toList.count false = l -> m <= xs.length -> listed.getD q false = true ->
   (∃(j:Nat) (y:AI),xs[j]? = some y/\y.op.qZ=false/\j<q/\listed.getD j false=false)->
   (∀j i,listed.getD j false=true->(pre.getD j 0).testBit i=true->listed.getD i false=true)->
   (∀(j:Nat)(x:AI),xs[j]? = some x->x.op.qZ=false->(j<m↔(!decide (j=q)&&listed.getD j false)=true))->
   zero.length=vs.length->(∀u∈vs,u.oneCell'=true)->(∀O w,∀(j:Nat)(y:AV)(u:Value),zero[j]? = some y->vs[j]? = some u->oF O w y u)->¬Z c->w.heap[c]? = some (.cells vs.toArray t (0,0))->a.tmps.getD d Go.undef = .pointer (some ⟨c,0,none⟩)->
   Rel (ZC Z c) β (f m).h w->FrZ Z β0 s.h w0 (ZC Z c) β (f m).h w->jt (ZC Z c) β (f m).h w ((eS xs val s.e λj=>!decide (j=q)&&listed.getD j false).put d .dead) a n->jA W a0 a->wpAny P .any ops Q l listed a w:=by
  intro l
  induction l with
  |zero =>
   intro listed a w β m c vs t N M hm hq hex;let⟨j,y,G,_,_,hl⟩:=hex;exact absurd (To listed j N M (aD.1 G).1 hl) id
  |succ l ih =>
   intro listed a w β m c vs t N M hm hq hex vo hW hz1 KR hz3 WQ GU hda R F E hd;let⟨j0,y0,hy0,PE,hj0,hl0⟩:=hex;refine⟨λh0=>?_,λi hi=>?_⟩
   .have:=ue N HM h0 j0 (by have:=(aD.1 hy0).1;omega)
    rw[hl0]at this;cases this
   let⟨h1,o,ho,hall⟩:=mem_ready.1 hi;have hio:i<ops.size:=(aW.1 ho).1;have hil:i<listed.size:=af
   have Ti:i<xs.length:=af
   have Y:xs[i]? = some xs[i]:=aH Ti;generalize hxi:xs[i]=x at Y;have HN:listed.getD i false=false:=by simp[hil]at h1⊢;exact h1
   have A:i≠q:=λe=>by rw[e,hq]at HN;cases HN
   have Mt:=NL listed i o ho hall vo
   have hfree:(pre.getD i 0).testBit q=false/\d∉x.reads:=by
    have hno:¬((pre.getD i 0).testBit q=true\/d∈x.reads):=λNP=>by
     have:=Mt j0 (K.cls i x Y A NP j0 y0 hy0 PE hj0);rw[hl0]at this;cases this
    exact⟨by cases hb:(pre.getD i 0).testBit q with | false=>rfl | true=>exact absurd (.inl hb) hno,λh=>hno (.inr h)⟩
   have NO:∀(j:Nat)(y:AI),xs[j]? = some y->kT (Jp i x 0 xs) i j x y=true->(!decide (j=q)&&listed.getD j false)=decide (j<i):=by
    intro j y G hc;have:=hrow i x Y j y G;unfold sR at this;simp only[bR,aF,decide_eq_true_eq,bW]at this
    rcases this with h | ⟨_,h⟩
    .subst h;rw[HN];simp
    .rcases h with h | h
     .rw[hc]at h;cases h
     .unfold ordered at h;split at h
      .rename_i T;rw[pW K.lt,decide_eq_false A,dx,fT]at h;have H:j≠q:=λe=>by rw[e,hfree.1]at h;cases h
       rw[Mt j h];simp[H,T]
      .rename_i T
       by_cases H:j=q
       .simp[H];have:¬q<i:=λe=>T (H▸e)
        omega
       .rw[pW K.lt,decide_eq_false H,dx,fT]at h;cases hS:listed.getD j false with
        |false=>simp[T]
        |true =>
         have:=vo j i hS h;rw[HN]at this;cases this
   have hrd:∀t∈x.reads,((eS xs val s.e λj=>!decide (j=q)&&listed.getD j false).put d .dead) t=eS xs val s.e (λj=>!decide (j=q)&&listed.getD j false) t:=λt ht=>by
    unfold Env.put;rw[if_neg]
    rintro rfl
    exact hfree.2 ht
   let⟨m',hstep,hm',hW'⟩:=BP D hk f0 (L:=λj=>!decide (j=q)&&listed.getD j false) Y hm (by simp[HN]) hW NO λt ht b v i o he=>by
    have hv:=E.2 t;rw[hrd t ht,he]at hv;generalize a.tmps.getD t Go.undef=u at hv
    rcases dK b (f m).h.length with T | hge
    .exact T
    .cases hv with
     |pure _ _ hv=>cases hv
     |ptr _ _ _ _ bd c h1 h2=>rw[R.fresh b v hge]at h1;cases h1
   have hok:=NQ i o x (an ho) Y
   unfold wpOp;simp only[ho];refine qM (s:=⟨(eS xs val s.e λj=>!decide (j=q)&&listed.getD j false).put d .dead,(f m).h⟩) R hΓ E hok (by rw[mu hrd];exact hstep) λu w' β' R' F' hv=>?_
   let⟨B,hB,r,D4,U,hne⟩:=lup hil HN M;rw[<-hB]
   have hd2:(nJ x.dst).all (λt=>decide (t<n))=true:=by
    unfold xo at hok;simp only[aF]at hok;exact hok.1.1.2
   have MJ:B.getD q false=true:=(r q).2 (.inr hq)
   have X:∀j p,B.getD j false=true->(pre.getD j 0).testBit p=true->B.getD p false=true:=by
    intro j p hj hp;rw[r]at hj⊢
    rcases hj with rfl | hj
    .exact .inr (Mt p hp)
    .exact .inr (vo j p hj hp)
   have PN:∀(j:Nat)(y:AI),xs[j]? = some y->y.op.qZ=false->(j<m'↔(!decide (j=q)&&B.getD j false)=true):=λj y G hr=>by
    rw[hW' j y G hr];simp only[aF,r,cK,decide_eq_false_iff_not]
    constructor
    .rintro(rfl | ⟨h1,h2⟩)
     .exact⟨A,.inl rfl⟩
     .exact⟨h1,.inr h2⟩
    .rintro⟨h1,h2 | h2⟩
     .exact .inl h2
     .exact .inr ⟨h1,h2⟩
   have adY:w'.heap[c]? = some (.cells vs.toArray t (0,0)):=(F'.lF c ((aW.1 GU).1) (.inr rfl)).trans GU
   have adX:(a.put x.dst u).tmps.getD d Go.undef = .pointer (some ⟨c,0,none⟩):=by
    rw[<-hda];cases LH:x.dst with
    |none=>rfl
    |some t=>exact MM a u (λe=>hdq i x Y A (by rw[LH,e]))
   have F2:=F.tr (λb hb=>.inl hb) F'
   have E2:jt (ZC Z c) β' (f m').h w' ((eS xs val s.e λj=>!decide (j=q)&&B.getD j false).put d .dead) (a.put x.dst u) n:=by
    have:=(E.fr F').Kq hd2 hv;have e1:=Bu (val:=val) (e0:=s.e) (S:=λj=>!decide (j=q)&&listed.getD j false) (S':=λj=>!decide (j=q)&&B.getD j false) D Y (by rw[(r i).2 (.inl rfl)];simp[A]) (λj hj=>by rw[hne _ (λe=>hj e.symm)]) (f m').h
    rw[e1]
    have e2:∀(e:Env),(St.put ⟨e.put d .dead,(f m').h⟩ x.dst (val i)).e=((St.put ⟨e,(f m').h⟩ x.dst (val i)).e).put d .dead:=by
     intro e;cases LH:x.dst with
     |none=>rfl
     |some t =>
      funext z
      have htd:t≠d:=λh=>hdq i x Y A (by rw[LH,h])
      simp only[St.put,Env.put]
      by_cases hz:z=d
      .subst hz;simp[Ne.symm htd]
      .simp[hz]
    rw[e2]at this;exact this
   have hK:=hd.trans (jA.put a x.dst u (Cx x (bL Y)))
   by_cases hex':∃(j:Nat) (y:AI),xs[j]? = some y/\y.op.qZ=false/\j<q/\B.getD j false=false
   .exact ih B (a.put x.dst u) w' β' m' c vs t (D4.trans N) U hm' MJ hex' X PN hz1 KR hz3 WQ adY adX R' F2 E2 hK
   have FT:∀(j:Nat)(y:AI),xs[j]? = some y->y.op.qZ=false->j<q->B.getD j false=true:=λj y G hr hj=>by
    cases hb:B.getD j false with
    |true=>rfl
    |false=>exact absurd ⟨j,y,G,hr,hj,hb⟩ hex'
   have hqm:¬q<m':=λh=>by
    have:=(PN q _ L3 rfl).1 h;simp at this
   have hh:(f m').h=(f q).h:=qa (λk x Y=>(hk k x Y).1) m' q hm' af λj y G hr=>by
    rw[PN j y G hr];simp only[aF,cK,decide_eq_false_iff_not]
    constructor
    .rintro⟨h1,h2⟩
     have:=(PN j y G hr).2 (by simp[h1,h2])
     omega
    .intro h;exact⟨af,FT j y G hr h⟩
   obtain⟨β2,R2,x2,o2,v2⟩:=Lx R' WQ adY hz1 KR hz3;have hf2:(f (q+1)).h=(f m').h++[.var zero]:=by rw[hfq,hh]
   refine fin l B (a.put x.dst u) w' β2 (q+1) (D4.trans N) U af MJ FT X (λj y G hr=>?_) (by rw[hf2];exact R2) ?_ ?_ hK
   .constructor
    .intro h
     rcases dK j q with h1 | h1
     .exact FT j y G hr h1
     .obtain rfl:j=q:=by omega
      exact MJ
    .intro h
     rcases dK q j with h1 | h1
     .have:=(PN j y G hr).2 (by simp[h];omega)
      omega
     .omega
   .rw[hf2];exact⟨F2.lF,F2.os,F2.tape,F2.output,λi v bd e=>x2 i v bd (F2.ext i v bd e),F2.stay.trans o2⟩
   .rw[hf2];refine⟨E2.1,λz=>?_⟩
    by_cases hz:z=d
    .subst hz;rw[adX,OC D L3 rfl MJ,hvq,<-hh];exact v2
    .have e3:eS xs val s.e (λj=>B.getD j false) z=((eS xs val s.e λj=>!decide (j=q)&&B.getD j false).put d .dead) z:=by
      unfold Env.put;rw[if_neg hz];refine ru D λj y G Tf=>?_
      have H:j≠q:=by
       rintro rfl
       rw[L3]at G;cases G;cases Tf;exact hz rfl
      simp[H]
     rw[e3];exact(E2.2 z).mono x2 o2
 intro l
 induction l with
 |zero =>
  intro listed a w β m N M hm hq;exact absurd (To listed q N M hql hq) id
 |succ l ih =>
  intro listed a w β m N M hm hq vo hW R F E hd;refine⟨λh0=>?_,λi hi=>?_⟩
  .have:=ue N HM h0 q af
   rw[hq]at this;cases this
  let⟨h1,o,ho,hall⟩:=mem_ready.1 hi;have hio:i<ops.size:=(aW.1 ho).1;have hil:i<listed.size:=af
  have Ti:i<xs.length:=af
  have Y:xs[i]? = some xs[i]:=aH Ti;generalize hxi:xs[i]=x at Y;have HN:listed.getD i false=false:=by simp[hil]at h1⊢;exact h1
  have Mt:=NL listed i o ho hall vo;let⟨B,hB,r,D4,U,hne⟩:=lup hil HN M
  have X:∀j p,B.getD j false=true->(pre.getD j 0).testBit p=true->B.getD p false=true:=by
   intro j p hj hp;rw[r]at hj⊢
   rcases hj with rfl | hj
   .exact .inr (Mt p hp)
   .exact .inr (vo j p hj hp)
  have hok:=NQ i o x (an ho) Y
  by_cases hpend:i=q/\∃(j:Nat) (y:AI),xs[j]? = some y/\y.op.qZ=false/\j<q/\listed.getD j false=false
  ·
   let⟨A,j0,y0,hy0,PE,hj0,hl0⟩:=hpend;rw[A]at Y;rw[L3]at Y;cases Y;unfold xo at hok;simp only[aF,decide_eq_true_eq]at hok;let⟨⟨⟨ok1,ok2⟩,EB⟩,Hw⟩:=hok;have hg:o.guard=none:=by
    cases hg':o.guard with
    |none=>rfl
    |some g=>rw[hg']at Hw;cases Hw
   unfold wpOp;simp only[ho];rw[if_pos (by simp[Region.wanted,hg])]
   refine .inl (Qr EB λvs t z1 z2 z3=>?_)
   rw[ok1];let⟨R1,F1⟩:=MV R (.cells vs.toArray t (0,0));have hdn:d<a.tmps.size:=by
    rw[E.1]
    simpa[nJ]using ok2
   have WQ:¬Z w.heap.size:=λh=>by have:=R.xlt _ h;omega
   have hqm:∀j,(!decide (j=q)&&B.getD j false)=listed.getD j false:=λj=>by
    by_cases H:j=q
    .rw[H,hq];simp
    .rw[hne _ (λe=>H (by rw[<-e,A]))];simp[H]
   rw[<-hB]
   refine early l B (a.put (some d) (.pointer (some ⟨w.heap.size,0,none⟩))) (w.alloc (.cells vs.toArray t (0,0))) β m w.heap.size vs t (D4.trans N) U hm ((r q).2 (.inl A.symm)) ⟨j0,y0,hy0,PE,hj0,?_⟩ X (λj y G hr=>by rw[hqm];exact hW j y G hr) z1 z2 z3 WQ (heap_alloc_new w _) ?_ R1 ⟨λb hb hz=>(F1.lF b (bu hb F.stay.1) hz).trans (F.lF b hb hz),F1.os.trans F.os,F1.tape.trans F.tape,F1.output.trans F.output,λi v bd e=>F1.ext i v bd (F.ext i v bd e),F.stay.trans F1.stay⟩ ?_ (hd.trans (jA.put a (some d) _ λt ht=>Cx _ (bL L3) t ht))
   .rw[hne _ (λe=>af)];exact hl0
   .simp[Act.put,hdn]
   .refine⟨by simp[Act.put,E.1],λz=>?_⟩
    unfold Env.put
    by_cases hz:z=d
    .rw[if_pos hz];exact .dead _
    .rw[if_neg hz];have e1:(a.put (some d) (.pointer (some ⟨w.heap.size,0,none⟩))).tmps.getD z Go.undef=a.tmps.getD z Go.undef:=MM a _ hz;rw[e1]
     have e2:eS xs val s.e (λj=>!decide (j=q)&&B.getD j false) z=eS xs val s.e (λj=>listed.getD j false) z:=by
      congr 1
      funext j
      exact hqm j
     rw[e2];exact(E.2 z).mono (λ_ _ _ e=>e) F1.stay
  have NO:∀(j:Nat)(y:AI),xs[j]? = some y->kT (Jp i x 0 xs) i j x y=true->listed.getD j false=decide (j<i):=by
   intro j y G hc;have:=hrow i x Y j y G;unfold sR at this;simp only[bR,aF,decide_eq_true_eq,bW]at this
   rcases this with h | ⟨_,h⟩
   .subst h;rw[HN];simp
   .rcases h with h | h
    .rw[hc]at h;cases h
    .unfold ordered at h;split at h
     .rename_i T;rw[pW K.lt]at h;simp only[bR,aF,decide_eq_true_eq]at h
      rcases h with h | ⟨A,H,hw⟩
      .rw[Mt j h];simp[T]
      .cases hb:listed.getD j false with
       |true=>simp[T]
       |false =>
        unfold PV at hw;rw[G]at hw;exact absurd ⟨A,j,y,G,an hw,H,hb⟩ hpend
     .rename_i T
      by_cases H:j=q
      .rw[H,hq];have:¬q<i:=λe=>T (H▸e)
       simp;omega
      .rw[pW K.lt,decide_eq_false H,dx,fT]at h;cases hS:listed.getD j false with
       |false=>simp[T]
       |true =>
        have:=vo j i hS h;rw[HN]at this;cases this
  let⟨m',hstep,hm',hW'⟩:=BP D hk f0 (L:=λj=>listed.getD j false) Y hm HN hW NO λt _ b v i o he=>by
   have hv:=E.2 t;rw[he]at hv;generalize a.tmps.getD t Go.undef=u at hv
   rcases dK b (f m).h.length with T | hge
   .exact T
   .cases hv with
    |pure _ _ hv=>cases hv
    |ptr _ _ _ _ bd c h1 h2=>rw[R.fresh b v hge]at h1;cases h1
  unfold wpOp;simp only[ho];refine qM (s:=⟨eS xs val s.e λj=>listed.getD j false,(f m).h⟩) R hΓ E hok hstep λu w' β' R' F' hv=>?_
  rw[<-hB]
  have hd2:(nJ x.dst).all (λt=>decide (t<n))=true:=by
   unfold xo at hok;simp only[aF]at hok;exact hok.1.1.2
  have E2:=(E.fr F').Kq hd2 hv;rw[<-Bu (S':=λj=>B.getD j false) D Y ((r i).2 (.inl rfl)) (λj hj=>by rw[hne _ (λe=>hj e.symm)]) (f m').h]at E2
  have hK:=hd.trans (jA.put a x.dst u (Cx x (bL Y)))
  by_cases A:i=q
  .refine fin l B (a.put x.dst u) w' β' m' (D4.trans N) U hm' ((r q).2 (.inl A.symm)) (λj y G hr hj=>?_) X (λj y G hr=>by rw[r];exact hW' j y G hr) R' (F.trans F') E2 hK
   rw[r];cases hb:listed.getD j false with
   |true=>exact .inr rfl
   |false=>exact absurd ⟨A,j,y,G,hr,hj,hb⟩ hpend
  .exact ih B (a.put x.dst u) w' β' m' (D4.trans N) U hm' (by rw[hne _ A];exact hq) X (λj y G hr=>by rw[r];exact hW' j y G hr) R' (F.trans F') E2 hK
def TQ(v:j3 P Γ){W:aB}(y:∀x∈xs,∀t,x.dst=some t->W t=true){ops:Array Oper}{Q:Exit->Act->World->Prop}(ok:lY P n ops.toList ops.toList xs=true)(b:DM ops.toList xs=true)
  {s s':St} (N:flat Γ xs s=some s') {a:Act} {w:World} {β:jO} (R:Rel Z β s.h w) (E:jt Z β s.h w s.e a n)
  (k:∀A w' β',Rel Z β' s'.h w'->Fr Z β s.h w β' s'.h w'->jt Z β' s'.h w' s'.e A n->jA W a A->Q .normal A w'):wpAny P .any ops Q ops.size (Array.replicate ops.size false) a {w with drawn:=w.drawn+1}:=by
 let⟨f,val,o,fn,hk⟩:=Jc xs s s' N;have z:Fr Z β s.h w β s.h {w with drawn:=w.drawn+1}:=⟨λ_ _ _=>rfl,rfl,rfl,rfl,λ_ _ _ e=>e,kC.drew (kC.refl _ _)⟩
 have M:Rel Z β s.h {w with drawn:=w.drawn+1}:=(R.drawn _).1
 have l:∀j,(Array.replicate ops.size false).getD j false=false:=λj=>by
  simp[fh];split<;>simp
 have L:∀(pre:ax) j i,(Array.replicate ops.size false).getD j false=true->(pre.getD j 0).testBit i=true->(Array.replicate ops.size false).getD i false=true:=λpre j i F=>by rw[l]at F;cases F
 have H:∀(j:Nat)(x:AI),xs[j]? = some x->x.op.qZ=false->(j<0↔(Array.replicate ops.size false).getD j false=true):=λj x _ _=>by rw[l];simp
 have G:(eS xs val s.e λj=>(Array.replicate ops.size false).getD j false)=s.e:=by
  funext t
  exact Ed λj x _ _=>l j
 unfold DM at b;rw[bR]at b
 rcases b with b | b
 .unfold S5 at b;simp only[aF]at b;exact yT v y ok (oJ b.1).2 (oJ b.1).1 b.2 o fn hk (β0:=β) (w0:=w) (a0:=a) k ops.size (Array.replicate ops.size false) a _ β 0 ai ai (aT _) (λ_ h=>(by cases h)) (L _) H (by rw[o];exact M) (by rw[o];exact z) (by rw[o,G];exact E.fr z) (jA.refl W a)
 .rw[ct]at b;let⟨q,_,b⟩:=b;let⟨r,d,zero,K⟩:=Ky (rQ _ _ ok).1 b;exact af4 v y ok (oJ r).2 (oJ r).1 K o fn hk (β0:=β) (w0:=w) (a0:=a) k ops.size (Array.replicate ops.size false) a _ β 0 ai ai (aT _) (l q) (L _) H (by rw[o];exact M) (by rw[o];exact z) (by rw[o,G];exact E.fr z) (jA.refl W a)
end
end Go.Am
