/- Part of the proof that TopTwoPartsCard holds. -/
import Derived.KernelRfl
set_option linter.all false
theorem af{p:Prop}(h:p:=by omega):p:=h
theorem ah{p:Prop}(h:p:=by decide):p:=h
theorem ai{p:Prop}(h:p:=by simp):p:=h
theorem aj{p:Prop}(h:p:=by kernel_rfl):p:=h
theorem ak{p:Prop}(h:p:=by simp;omega):p:=h
theorem aq{p:Prop}(h:p:=by simp(disch:=omega)):p:=h
theorem an{a b:Prop}(h:a)(e:a=b:=by simp):b:=e▸h
abbrev au:=List UInt8
abbrev ax:=List Nat
abbrev ay:=List Int
abbrev az:=Nat->Prop
abbrev aA:=Nat->Nat
abbrev aB:=Nat->Bool
abbrev aC:=List (Nat×Nat)
abbrev aD:=@List.getElem?_eq_some_iff
abbrev aF:=@Bool.and_eq_true
abbrev aG:=@Option.bind_eq_some_iff
abbrev aH:=@List.getElem?_eq_getElem
abbrev aI:=@List.getElem?_set_ne
abbrev aJ:=@List.getElem?_append_left
abbrev aK:=@List.cons_append
abbrev aL:=@List.nil_append
abbrev aM:=@List.all_eq_true
abbrev aN:=@List.map_nil
abbrev aO:=@List.take_of_length_le
abbrev aP:=@List.getElem_mem
abbrev aQ:=@List.getElem?_append_right
abbrev aR:=@List.getElem?_set_self
abbrev aS:=@List.length_cons
abbrev aT:=@Nat.zero_le
abbrev aU:=@List.length_append
abbrev aV:=@Nat.le_refl
abbrev aW:=@Array.getElem?_eq_some_iff
abbrev aX:=@List.pairwise_iff_getElem
abbrev aY:=@List.mem_append
abbrev aZ:=@Bool.false_eq_true
abbrev bh:=@List.eq_nil_of_length_eq_zero
abbrev bn:=@Option.some.injEq
abbrev bp:=@List.mem_iff_getElem
abbrev br:=@Nat.mul_le_mul_right
abbrev bt:=@List.length_nil
abbrev bu:=@Nat.lt_of_lt_of_le
abbrev bw:=@List.mem_cons
abbrev bz:=@List.length_filter_le
abbrev bB:=@Option.some.inj
abbrev bC:=@Option.elim_some
abbrev bD:=@Array.getD_eq_getD_getElem?
abbrev bE:=@List.getElem?_toArray
abbrev bF:=@List.length_take
abbrev bG:=@List.foldl_cons
abbrev bH:=@List.getElem?_cons_zero
abbrev bI:=@List.mem_of_find?_eq_some
abbrev bJ:=@Nat.le_trans
abbrev bK:=@List.pairwise_cons
abbrev bL:=@List.mem_of_getElem?
abbrev bM:=@Option.isSome_iff_exists
abbrev bN:=@List.map_cons
abbrev bO:=@List.filter_cons
abbrev bP:=@List.getElem?_map
abbrev bQ:=@List.filter_eq_self
abbrev bR:=@Bool.or_eq_true
abbrev bS:=@Option.elim_none
abbrev bT:=@Nat.add_mul
abbrev bU:=@List.length_drop
abbrev bV:=@List.all_cons
abbrev bW:=@Nat.zero_add
abbrev bX:=@List.getElem?_drop
abbrev bY:=@List.getD_eq_getElem?_getD
abbrev bZ:=@List.mem_filter
abbrev cg:=@Option.bind_some
abbrev cm:=@List.drop_eq_getElem_cons
abbrev cq:=@List.all_append
abbrev cr:=@List.mem_singleton
abbrev ct:=@List.any_eq_true
abbrev cv:=@List.length_map
abbrev cw:=@Nat.add_assoc
abbrev cA:=@List.getElem?_cons_succ
abbrev cB:=@List.mem_cons_of_mem
abbrev cC:=@List.append_nil
abbrev cD:=@List.find?_eq_none
abbrev cE:=@List.mem_of_mem_drop
abbrev cF:=@Array.getElem?_eq_getElem
abbrev cG:=@List.take_succ_eq_append_getElem
abbrev cH:=@Array.getElem?_setIfInBounds_ne
abbrev cI:=@Nat.add_zero
abbrev cK:=@Bool.not_eq_true'
abbrev cL:=@List.find?_some
abbrev cM:=@List.append_assoc
abbrev cQ:=@List.mem_map
abbrev cR:=@Array.ext'
abbrev cS:=@Option.map_some
abbrev cT:=@List.findIdx_lt_length_of_exists
abbrev cU:=@List.mem_cons_self
abbrev cV:=@List.dropWhile_cons
abbrev cW:=@Classical.not_not
abbrev cZ:=@List.mem_or_eq_of_mem_set
abbrev dg:=@List.getElem?_take
abbrev dh:=@Option.getD_some
abbrev dm:=@List.take_append_drop
abbrev dn:=@List.getElem?_eq_none
abbrev dr:=@List.filter_congr
abbrev dw:=@List.length_eq_zero_iff
abbrev dx:=@Bool.false_and
abbrev dy:=@List.getElem?_of_mem
abbrev dz:=@List.filter_append
abbrev dA:=@List.takeWhile_cons
abbrev dB:=@Nat.one_mul
abbrev dD:=@Array.getElem?_toList
abbrev dF:=@List.length_singleton
abbrev dG:=@List.length_set
abbrev dH:=@Nat.eq_zero_or_pos
abbrev dI:=@Array.toArray_toList
abbrev dJ:=@List.ext_getElem?
abbrev dK:=@Nat.lt_or_ge
abbrev dL:=@Array.getElem?_append_left
abbrev dM:=@List.cons.injEq
abbrev dN:=@Classical.choose_spec
abbrev dO:=@Array.getElem?_modify
abbrev dP:=@List.filter_filter
abbrev dQ:=@Nat.lt_trichotomy
abbrev dR:=@List.nodup_cons
abbrev dS:=@Array.getElem?_push
abbrev dU:=@List.map_congr_left
abbrev dV:=@List.length_eq_one_iff
abbrev dW:=@Option.map_eq_some_iff
abbrev dX:=@Int.le_refl
abbrev dY:=@List.getElem_map
abbrev dZ:=@List.zip_cons_cons
abbrev ec:=@List.set_eq_take_append_cons_drop
abbrev ef:=@Bool.eq_iff_iff
abbrev ei:=@List.mem_of_mem_take
abbrev eo:=@List.size_toArray
abbrev ep:=@List.set_append_left
abbrev eu:=@List.getElem_take
abbrev ew:=@List.getElem_drop
abbrev ez:=@List.mem_append_left
abbrev eA:=@Bool.not_false
abbrev eB:=@Array.eq_empty_of_size_eq_zero
abbrev eC:=@Int.natCast_zero
abbrev eD:=@Bool.not_eq_true
abbrev eE:=@Nat.mul_comm
abbrev eF:=@List.drop_of_length_le
abbrev eG:=@Option.isSome_some
abbrev eH:=@List.contains_cons
abbrev eL:=@List.find?_cons
abbrev eM:=@Bool.not_true
abbrev eN:=@UInt8.lt_iff_toNat_lt
abbrev eO:=@List.concat_eq_append
abbrev eP:=@List.findIdx_cons
abbrev eR:=@List.take_add_one
abbrev eU:=@List.exists_cons_of_ne_nil
abbrev eV:=@Array.toList_setIfInBounds
abbrev eW:=@List.getElem?_append
abbrev eX:=@Bool.or_eq_false_iff
abbrev eY:=@Nat.pow_le_pow_right
abbrev eZ:=@Int.tmod_eq_emod_of_nonneg
abbrev e9:=@List.map_map
abbrev ff:=@List.getElem_of_mem
abbrev fh:=@Array.getElem?_replicate
abbrev fm:=@List.take_left'
abbrev fq:=@List.count_eq_zero
abbrev fu:=@Nat.lt_of_le_of_lt
abbrev fA:=@List.map_id
abbrev fB:=@List.mem_range
abbrev fD:=@List.getElem?_set
abbrev fE:=@Int.toNat_natCast
abbrev fF:=@List.takeWhile_sublist
abbrev fG:=@List.pairwise_map
abbrev fH:=@List.map_set
abbrev fJ:=@List.takeWhile_append_dropWhile
abbrev fK:=@List.set_append_right
abbrev fL:=@Array.getElem?_append
abbrev fM:=@Nat.mod_lt
abbrev fN:=@Nat.lt_succ_self
abbrev fQ:=@List.eq_nil_iff_forall_not_mem
abbrev fS:=@List.drop_length
abbrev fT:=@Bool.or_false
abbrev fU:=@Bool.false_or
abbrev fV:=@List.take_append_of_le_length
abbrev fW:=@List.getElem?_modify
abbrev fZ:=@Array.getElem?_setIfInBounds
abbrev ga:=@UInt8.toNat_inj
abbrev gh:=@List.getElem?_range
abbrev gj:=@List.length_pos_iff
abbrev gm:=@List.filter_sublist
abbrev gq:=@Nat.le_total
abbrev gu:=@Nat.zero_mul
abbrev gv:=@Option.isSome_none
abbrev gw:=@Nat.testBit_or
abbrev gA:=@List.perm_ext_iff_of_nodup
abbrev gB:=@Nat.mod_two_eq_zero_or_one
abbrev gC:=@Array.size_append
abbrev gD:=@List.nodup_append
abbrev gE:=@Nat.or_lt_two_pow
abbrev gF:=@Bool.true_and
abbrev gG:=@Nat.add_right_cancel_iff
abbrev gH:=@List.not_mem_nil
abbrev gI:=@List.take_length
abbrev gJ:=@List.head?_eq_getElem?
abbrev gK:=@Nat.ne_of_lt
abbrev gL:=@Nat.succ_mul
abbrev gM:=@List.find?_cons_of_neg
abbrev gN:=@List.dropWhile_sublist
abbrev gO:=@List.filter_eq_nil_iff
abbrev gP:=@List.length_pos_of_mem
abbrev gQ:=@List.not_of_lt_findIdx
abbrev gR:=@Nat.min_eq_left
abbrev gT:=@List.head?_cons
abbrev gU:=@Nat.testBit_and
abbrev gV:=@List.contains_iff_mem
abbrev gW:=@Array.getElem?_mapIdx
abbrev gX:=@List.eq_nil_or_concat
abbrev gY:=@List.Pairwise.sublist
abbrev gZ:=@List.mem_iff_getElem?
abbrev ia:=@Nat.div_lt_of_lt_mul
abbrev ic:=@List.mapM_cons
abbrev ig:=@Array.getElem_toList
abbrev ij:=@List.replicate_succ'
abbrev iq:=@Nat.min_def
abbrev ir:=@List.take_zero
abbrev iu:=@List.foldl_nil
abbrev iw:=@List.Pairwise.filter
abbrev iy:=@List.mem_erase_of_ne
abbrev iC:=@List.findIdx_getElem
abbrev iD:=@List.take_take
abbrev iE:=@List.nodup_nil
abbrev iF:=@List.tail_cons
abbrev iG:=@List.pairwise_append
abbrev iH:=@Nat.eq_of_testBit_eq
abbrev iI:=@Nat.pow_lt_pow_right
abbrev iJ:=@List.all_nil
abbrev iK:=@Nat.min_self
abbrev iL:=@List.all_map
namespace Go.Li
variable{C α:Type}
structure Ca(C α:Type) where
 run:C->C×α
 b:Nat
 e:Option (Nat×α)
structure SC(l:List (Ca C α))(f:C)(s:aB)(i:Nat)(c:Ca C α):Prop where
 at_:l[i]? = some c
 no:s i=false
 pre:∀(j:Nat) d e,l[j]? = some d->d.e=some e->e.1<c.b->s j=true
 PT:∀e,c.e=some e->(c.run f).2=e.2
def put(s:aB)(i:Nat):Nat->Bool:=λj=>s j||decide (j=i)
def Whole(l:List (Ca C α))(s:aB):Prop:=∀(i:Nat) c,l[i]? = some c->c.e.isSome=true->s i=true
inductive vT(l:List (Ca C α)):C->(Nat->Bool)->Prop
 |fin {f s}:Whole l s->vT l f s
 |step {f s} (i:Nat) (c:Ca C α):SC l f s i c->vT l (c.run f).1 (put s i)->vT l f s
def vT.cases{l:List (Ca C α)}{f:C}{s:aB}(h:vT l f s)(b:¬Whole l s):∃i c,SC l f s i c/\vT l (c.run f).1 (put s i):=by
 cases h with
 |fin h=>exact absurd h b
 |step i c h1 h2=>grind
inductive Re(l:List (Ca C α))(f0:C):C->(Nat->Option α)->Prop
 |nil:Re l f0 f0 (λ_=>none)
 |step {f s} (i:Nat) (c:Ca C α):Re l f0 f s->SC l f (λj=>(s j).isSome) i c->Re l f0 (c.run f).1 (λj=>if j=i then some (c.run f).2 else s j)
def Fi(s:Nat->Option α)(i:Nat)(a:α):(λj=>(if j=i then some a else s j).isSome)=put (λj=>(s j).isSome) i:=by
 funext j
 grind[put]
def Re.lin{l:List (Ca C α)}{b f:C}{s:Nat->Option α}(h:Re l b f s):vT l f (λj=>(s j).isSome)->vT l b (λ_=>false):=by
 induction h with
 |nil=>exact id
 |step i c h o n =>
  intro hl;rw[Fi]at hl;exact n (.step i c o hl)
def Re.more{l:List (Ca C α)}{r f:C}{s:Nat->Option α}(h:Re l r f s){n:Ca C α}(z:n.e=none):Re (l++[n]) r f s:=by
 induction h with
 |nil=>exact .nil
 |step i c h b v =>
  refine .step i c v ⟨?_,b.no,λj d e q y o=>?_,b.PT⟩
  .rw[aJ (aD.1 b.at_).1];exact b.at_
  .by_cases x:j<l.length
   .rw[aJ x]at q;exact b.pre j d e q y o
   grind
def Re.ends{l:List (Ca C α)}{G f:C}{s:Nat->Option α}(h:Re l G f s){k:Nat}{r:Ca C α}(hk:l[k]? = some r){t:Nat}{a:α}(H:∀(j:Nat) d,l[j]? = some d->d.b<=t):
  (∀v,s k=some v->v=a)->Re (l.set k {r with e:=some (t,a)}) G f s:=by
 have q:=(aD.1 hk).1
 induction h with
 |nil=>exact λ_=>.nil
 | @step f s i c h o A =>
  intro L
  have n:∀(j:Nat) d e,(l.set k {r with e:=some (t,a)})[j]? = some d->d.e=some e->e.1<c.b->(s j).isSome=true:=by
   intro j d e x F y
   by_cases E:j=k
   .subst E;rw[aR q]at x;cases x;cases F;have:=H i c o.at_
    grind
   .rw[aI (λh=>E h.symm)]at x
    exact o.pre j d e x F y
  by_cases z:i=k
  .subst z;have K:r=c:=bB (hk.symm.trans o.at_);subst K;refine Re.step i {r with e:=some (t,a)} (A λv h'=>?_) ⟨aR q,o.no,n,?_⟩
   .have:=o.no
    grind
   grind
  .refine Re.step i c (A λv h'=>L v ((if_neg (λh=>z h.symm)).trans h')) ⟨?_,o.no,n,o.PT⟩
   rw[aI (λh=>z h.symm)];exact o.at_
variable{C α O:Type}
structure Ev(O α:Type) where
 vO:Bool
 c:Nat
 op:O
 PT:α
structure Cs(C α:Type) where
 k:Nat
 cs:List (Ca C α)
 last:Nat->Nat
def up{β:Type}(f:Nat->β)(c:Nat)(x:β):Nat->β:=λj=>if j=c then x else f j
@[simp]theorem ng{β:Type}(f:Nat->β)(c:Nat)(x:β):up f c x c=x:=if_pos rfl
theorem mo{β:Type}(f:Nat->β){c j:Nat}(h:j≠c)(x:β):up f c x j=f j:=if_neg h
def rR{β:Type}{l:List β}{i:Nat}{x:β}{g:β->β}(h:l[i]? = some x):l.modify i g=l.set i (g x):=by
 apply dJ
 grind
variable(D:O->C->C×α)
def oZ(s:Cs C α)(x:Ev O α):Cs C α :=
 if x.vO=true then⟨s.k+1,s.cs++[⟨D x.op,s.k,none⟩],up s.last x.c s.cs.length⟩
 else⟨s.k+1,s.cs.modify (s.last x.c) λc=>{c with e:=some (s.k,x.PT)},s.last⟩
def calls(l:List (Ev O α)):Cs C α:=l.foldl (oZ D) ⟨0,[],λ_=>0⟩
theorem lg(l:List (Ev O α))(x:Ev O α):calls D (l++[x])=oZ D (calls D l) x:=by
 unfold calls
 grind
theorem sg(l:List (Ev O α)):(calls D l).k=l.length:=by
 have:∀(l:List (Ev O α))(s:Cs C α),(l.foldl (oZ D) s).k=s.k+l.length:=by
  intro l
  induction l with
  |nil=>intro s;rfl
  |cons x l b =>
   grind[List.length_cons,oZ]
 rw[calls,this];simp
abbrev Pe(O α:Type):=Nat->Option (O×Option α)
inductive Rn(f0:C):List (Ev O α)->C->Pe O α->Prop
 |nil:Rn f0 [] f0 (λ_=>none)
 |vO {l f p} (c:Nat) (o:O) (a:α):c<3->p c=none->Rn f0 l f p->Rn f0 (l++[⟨true,c,o,a⟩]) f (up p c (some (o,none)))
 |done {l f p} (c:Nat) (o:O):p c=some (o,none)->Rn f0 l f p->Rn f0 l (D o f).1 (up p c (some (o,some (D o f).2)))
 |fin {l f p} (c:Nat) (o:O) (o':O) (a:α):c<3->p c=some (o,some a)->Rn f0 l f p->Rn f0 (l++[⟨false,c,o',a⟩]) f (up p c none)
structure Tr(f0:C)(l:List (Ev O α))(f:C)(p:Pe O α):Prop where
 ex:∃s,Re (calls D l).cs f0 f s/\(∀(i:Nat) c e,(calls D l).cs[i]? = some c->c.e=some e->(s i).isSome=true)/\(∀i,(calls D l).cs.length<=i->s i=none)/\
  (∀(i:Nat) c,(calls D l).cs[i]? = some c->c.b<l.length)/\
  (∀c o r,p c=some (o,r)->∃k,(calls D l).cs[(calls D l).last c]? = some k/\k.run=D o/\k.e=none/\s ((calls D l).last c)=r)/\
  ∀c d,(p c).isSome=true->(p d).isSome=true->(calls D l).last c=(calls D l).last d->c=d
variable{D}
def Tr.nil(b:C):Tr D b [] b (λ_=>none):=⟨_,.nil,by simp[calls],ai,by simp[calls],ai,ai⟩
def Tr.vO{E:C}{l:List (Ev O α)}{f:C}{p:Pe O α}(h:Tr D E l f p)(c:Nat)(o:O)(a:α)(H:p c=none):Tr D E (l++[⟨true,c,o,a⟩]) f (up p c (some (o,none))):=by
 let⟨s,h1,h2,h3,h4,h5,h6⟩:=h.ex
 have e:calls D (l++[⟨true,c,o,a⟩])=⟨l.length+1,(calls D l).cs++[⟨D o,l.length,none⟩],up (calls D l).last c (calls D l).cs.length⟩:=by
  rw[lg,oZ,if_pos rfl,sg]
 have G:∀d o r,p d=some (o,r)->(calls D l).last d<(calls D l).cs.length:=λd o r v=>by
  grind
 have A:∀ {i:Nat} {k:Ca C α},((calls D l).cs++[⟨D o,l.length,none⟩])[i]? = some k->(calls D l).cs[i]? = some k\/(i=(calls D l).cs.length/\k=⟨D o,l.length,none⟩):=λ{i k} y=>by
  grind
 refine⟨s,?_⟩;rw[e];refine⟨h1.more rfl,λi k e y K=>?_,λi y=>h3 i (by simp at y;omega),λi k y=>?_,λd o' r v=>?_,λd z v q x=>?_⟩
 .grind
 .grind
 .by_cases n : d = c
  .simp_all
  .rw[mo _ n]at v;simp only[mo _ n]
   grind
 .by_cases n : d = c
  .by_cases b : z = c
   .rw[n,b]
   .subst n;rw[mo _ b]at q;simp only[ng,mo _ b]at x;let⟨⟨o',r⟩,F⟩:=bM.1 q
    grind
  .rw[mo _ n]at v
   by_cases b:z=c
   .subst b;simp only[ng,mo _ n]at x;let⟨⟨o',r⟩,F⟩:=bM.1 v
    grind
   .rw[mo _ b]at q;simp only[mo _ n,mo _ b]at x;exact h6 d z v q x
def Tr.done{x:C}{l:List (Ev O α)}{f:C}{p:Pe O α}(h:Tr D x l f p)(c:Nat)(o:O)(v:p c=some (o,none)):Tr D x l (D o f).1 (up p c (some (o,some (D o f).2))):=by
 let⟨s,h1,h2,h3,h4,h5,h6⟩:=h.ex;let⟨k,hk,y,H,hs⟩:=h5 c o none v;have z:=(aD.1 hk).1;refine⟨λj=>if j=(calls D l).last c then some (k.run f).2 else s j,?_⟩
 rw[<-y];simp only;refine⟨h1.step _ k ⟨hk,by simp[hs],λj d e n q _=>h2 j d e n q,λe q=>by grind⟩,λi d e A n=>?_,λi A=>?_,h4,λd o' r n=>?_,λd K n E F=>?_⟩
 .grind
 .grind
 .by_cases b : d = c
  .subst b;rw[ng]at n
   grind
  .rw[mo _ b]at n
   grind
 .have G:∀ {d:Nat},(up p c (some (o,some (k.run f).2)) d).isSome=true->(p d).isSome=true:=λ{d} n=>by
   by_cases b:d=c
   .rw[b,v];rfl
   .rwa [mo _ b]at n
  grind
def Tr.fin{y:C}{l:List (Ev O α)}{f:C}{p:Pe O α}(h:Tr D y l f p)(c:Nat)(o o':O)(a:α)(E:p c=some (o,some a)):Tr D y (l++[⟨false,c,o',a⟩]) f (up p c none):=by
 let⟨s,h1,h2,h3,h4,h5,h6⟩:=h.ex;let⟨k,hk,H,L,hs⟩:=h5 c o (some a) E;have F:=(aD.1 hk).1
 have e:calls D (l++[⟨false,c,o',a⟩])=⟨l.length+1,(calls D l).cs.set ((calls D l).last c) {k with e:=some (l.length,a)},(calls D l).last⟩:=by
  rw[lg,oZ,if_neg ai,sg]
  congr 1
  exact rR hk
 have x:∀ {i:Nat} {q:Ca C α},((calls D l).cs.set ((calls D l).last c) {k with e:=some (l.length,a)})[i]? = some q->(i≠(calls D l).last c/\(calls D l).cs[i]? = some q)\/(i=(calls D l).last c/\q={k with e:=some (l.length,a)}):=λ{i q} v=>by
  grind
 refine⟨s,?_⟩;rw[e];refine⟨h1.ends hk (λj d n=>Nat.le_of_lt (h4 j d n)) (λN h'=>by grind),λi q e v A=>?_,λi v=>h3 i (an v),λi q v=>?_,λd z r n=>?_,λd M n G A=>?_⟩
 .grind
 .grind
 .by_cases b : d = c
  .simp_all
  .rw[mo _ b]at n
   grind
 .have K:∀ {d:Nat},(up p c none d).isSome=true->(p d).isSome=true:=λ{d} n=>by
   by_cases b:d=c
   .grind
   .rwa [mo _ b]at n
  grind
def Tr.lin{n:C}{l:List (Ev O α)}{f:C}{p:Pe O α}(h:Tr D n l f p):vT (calls D l).cs n (λ_=>false):=by
 let⟨s,h1,h2,_⟩:=h.ex;refine h1.lin (.fin λi c o b=>?_)
 let⟨e,b⟩:=bM.1 b;exact h2 i c e o b
variable{C α S:Type}
def DI(s:aB)(l:List (Ev S α)):Nat->Bool:=l.foldl (λs x=>up s x.c x.vO) s
def rk(s:aB):List (Ev S α)->Prop
 | []=>True
 |x::l=>s x.c = !x.vO/\rk (up s x.c x.vO) l
def qS(l m:List (Ev S α)):∀s,rk s (l++m)↔rk s l/\rk (DI s l) m:=by
 induction l with
 |nil=>intro s;simp[rk,DI]
 |cons x l b =>
  intro s;simp only[aK,rk,b,DI,bG,and_assoc]
variable{D:S->C->C×α}
def Rn.right{v:C}{l:List (Ev S α)}{f:C}{p:Pe S α}(h:Rn D v l f p):rk (λ_=>false) l/\(DI (λ_=>false) l=λc=>(p c).isSome)/\∀x∈l,x.c<3:=by
 have r:∀(p:Pe S α)(c:Nat)(y:Option (S×Option α)),(λd=>(up p c y d).isSome)=up (λd=>(p d).isSome) c y.isSome:=λp c y=>by
  funext d
  unfold up;split<;>rfl
 induction h with
 |nil=>exact⟨trivial,rfl,ai⟩
 | @vO l f p c o a h3 n i b =>
  refine⟨(qS ..).2 ⟨b.1,?_,trivial⟩,?_,λx q=>?_⟩
  .grind
  .unfold DI at b⊢
   simp_all
  grind
 | @done l f p c o n i b =>
  refine⟨b.1,?_,b.2.2⟩;rw[b.2.1,r]
  funext d
  unfold up
  grind
 | @fin l f p c o o' a h3 n i b =>
  refine⟨(qS ..).2 ⟨b.1,?_,trivial⟩,?_,λx q=>?_⟩
  .grind
  .unfold DI at b⊢
   simp_all
  grind
def sh(K:Nat)(c:Ca C α):Ca C α:=⟨c.run,K+c.b,c.e.map λe=>(K+e.1,e.2)⟩
def zP(K:Nat)(A:List (Ca C α)):∀(l:List (Ev S α))(op:aB)(s:Cs C α)(la:aA),rk op l->(∀c,op c=true->la c=A.length+s.last c)->
  (l.foldl (oZ D) ⟨K+s.k,A++s.cs.map (sh K),la⟩).cs=A++(l.foldl (oZ D) s).cs.map (sh K)
 | [],_,_,_,_,_=>rfl
 |x::l,op,s,la,n,hl=>by
  let⟨h1,h2⟩:=n;rw[bG,bG];cases h:x.vO with
  |true =>
   have e1:oZ D ⟨K+s.k,A++s.cs.map (sh K),la⟩ x=⟨K+(oZ D s x).k,A++(oZ D s x).cs.map (sh K),up la x.c (A.length+s.cs.length)⟩:=by
    simp[oZ,h,sh,cw]
   rw[e1];refine zP K A l _ _ _ h2 λc o=>?_
   simp only[oZ,h,if_true]
   grind[ng,mo]
  |false =>
   rw[h]at h1;have e0:=hl x.c h1
   have e1:oZ D ⟨K+s.k,A++s.cs.map (sh K),la⟩ x=⟨K+(oZ D s x).k,A++(oZ D s x).cs.map (sh K),la⟩:=by
    simp only[oZ,h,aZ,if_false,e0,cw,Cs.mk.injEq,and_true,true_and];apply dJ;intro i
    by_cases q:i<A.length
    .grind
    .rw[fW,aQ af,aQ af,bP,bP,fW]
     have b:(A.length+s.last x.c=i)↔(s.last x.c=i-A.length):=af
     simp only[b]
     by_cases b:s.last x.c=i-A.length
     .simp only[if_pos b]
      grind[sh]
     grind
   rw[e1];refine zP K A l _ _ _ h2 λc o=>?_
   grind[oZ,mo]
def uB(h k:List (Ev S α))(b:rk (λ_=>false) k):(calls D (h++k)).cs=(calls D h).cs++(calls D k).cs.map (sh h.length):=by
 have:=zP (D:=D) h.length (calls D h).cs k (λ_=>false) ⟨0,[],λ_=>0⟩ (calls D h).last b ai
 rw[<-sg (D:=D) h]at this;simp only[cI,aN,cC]at this;rw[sg (D:=D) h]at this;have e:(⟨h.length,(calls D h).cs,(calls D h).last⟩:Cs C α)=calls D h:=by rw[<-sg (D:=D) h]
 grind[calls]
inductive Sq(D:S->C->C×α):C->List (Ev S α)->C->Prop
 |nil {f}:Sq D f [] f
 |snoc {f l g} (c:Nat) (o o':S) (a':α):Sq D f l g->Sq D f (l++[⟨true,c,o,a'⟩,⟨false,c,o',(D o g).2⟩]) (D o g).1
def Sq.even{f g:C}{l:List (Ev S α)}(h:Sq D f l g):l.length=2*(l.length / 2)/\rk (λ_=>false) l/\DI (λ_=>false) l=λ_=>false:=by
 induction h with
 |nil=>exact⟨ai,trivial,rfl⟩
 | @snoc l g c o o' i h b =>
  let⟨h1,h2,h3⟩:=b;refine⟨ak,(qS ..).2 ⟨h2,?_⟩,?_⟩
  .rw[h3];simp[rk]
  .unfold DI at h3⊢;rw[List.foldl_append,h3]
   funext d
   simp only[bG,iu,up]
   grind
theorem Sq.calls{f g:C}{l:List (Ev S α)}(h:Sq D f l g):(calls D l).cs.length=l.length / 2/\∀(i:Nat) c,(calls D l).cs[i]? = some c->c.b=2*i/\∃a,c.e=some (2*i+1,a):=by
 induction h with
 |nil=>exact⟨by simp[Li.calls],by simp[Li.calls]⟩
 | @snoc l g c o o' n h q =>
  let⟨h1,h2⟩:=q;have r:=h.even.1
  have e:(Li.calls D (l++[⟨true,c,o,n⟩,⟨false,c,o',(D o g).2⟩])).cs=(Li.calls D l).cs++[⟨D o,l.length,some (l.length+1,(D o g).2)⟩]:=by
   rw[show l++[(⟨true,c,o,n⟩:Ev S α),⟨false,c,o',(D o g).2⟩]=(l++[⟨true,c,o,n⟩])++[⟨false,c,o',(D o g).2⟩] by simp,lg,lg]
   simp only[oZ,if_true,aZ,if_false,ng,sg];rw[rR (x:=⟨D o,l.length,none⟩) ai]
   simp
  grind
def Sq.lin{f g:C}{l:List (Ev S α)}(h:Sq D f l g):∀(B:List (Ca C α)),(∀c∈B,l.length<=c.b/\∀e,c.e=some e->l.length<=e.1)->
  (vT ((Li.calls D l).cs++B) f (λ_=>false)↔vT ((Li.calls D l).cs++B) g (λj=>decide (j<l.length / 2))):=by
 induction h with
 |nil =>
  intro B _;simp
 | @snoc l g c o o' A h G =>
  intro B O;have F:=h.even.1
  have e:(Li.calls D (l++[⟨true,c,o,A⟩,⟨false,c,o',(D o g).2⟩])).cs=(Li.calls D l).cs++[⟨D o,l.length,some (l.length+1,(D o g).2)⟩]:=by
   rw[show l++[(⟨true,c,o,A⟩:Ev S α),⟨false,c,o',(D o g).2⟩]=(l++[⟨true,c,o,A⟩])++[⟨false,c,o',(D o g).2⟩] by simp,lg,lg]
   simp only[oZ,if_true,aZ,if_false,ng,sg];rw[rR (x:=⟨D o,l.length,none⟩) ai]
   simp
  let⟨N,Q⟩:=h.calls;have v:(l++[(⟨true,c,o,A⟩:Ev S α),⟨false,c,o',(D o g).2⟩]).length=l.length+2:=ai
  rw[v]at O
  rw[e,cM,v,G _ (λk hk=>by
   grind)]
  have n:((Li.calls D l).cs++([⟨D o,l.length,some (l.length+1,(D o g).2)⟩]++B))[l.length / 2]? = some ⟨D o,l.length,some (l.length+1,(D o g).2)⟩:=by
   grind
  have q:put (λj=>decide (j<l.length / 2)) (l.length / 2)=λj=>decide (j<(l.length+2) / 2):=by
   funext j
   unfold put
   grind
  constructor
  .intro z
   let⟨i,k,y,z⟩:=z.cases (λH=>by
    have:=H _ _ n rfl;simp at this)
   have E:=y.no;simp only[decide_eq_false_iff_not]at E;have L:i=l.length / 2:=by
    by_cases M:l.length / 2<i
    .have r:=y.pre _ _ _ n rfl (by
      have hk:=y.at_
      grind)
     simp at r
    .omega
   subst L;have:=y.at_
   grind
  .intro z;refine .step _ _ ⟨n,ai,λj d e P F K=>?_,λe F=>by cases F;rfl⟩ (by rw[q];exact z)
   grind
def acW(K n:Nat)(A:List (Ca C α))(L:A.length=n)(M:∀c∈A,∀e,c.e=some e->e.1<K)(B:List (Ca C α)):∀(f:C)(s:aB),
  vT (A++B.map (sh K)) f (λj=>decide (j<n)||(decide (n<=j)&&s (j-n)))↔vT B f s:=by
 have r:∀(s:aB)(i:Nat),put (λj=>decide (j<n)||(decide (n<=j)&&s (j-n))) (n+i)=λj=>decide (j<n)||(decide (n<=j)&&put s i (j-n)):=λs i=>by
  funext j
  grind[put]
 have l:∀ {i:Nat} {c:Ca C α},B[i]? = some c->(A++B.map (sh K))[n+i]? = some (sh K c):=λ{i c} h=>by
  grind
 intro f s
 constructor
 .intro h;generalize hs:(λj=>decide (j<n)||(decide (n<=j)&&s (j-n)))=s' at h
  induction h generalizing s with
  |fin H =>
   refine .fin λi c v b=>?_
   have:=H (n+i) (sh K c) (l v) (by simp[sh,b])
   grind
  | @step f s' i c q _ G =>
   have E:=q.no;rw[<-hs]at E;simp only[eX,decide_eq_false_iff_not,Bool.and_eq_false_iff]at E;obtain⟨i,rfl⟩:∃k,i=n+k:=⟨i-n,af⟩
   have z:=q.at_;rw[aQ af,show n+i-A.length=i by omega,bP]at z
   cases o:B[i]? with
   |none=>grind
   |some k =>
    rw[o]at z;cases z;refine .step i k ⟨o,?_,λj d e y b F=>?_,λe b=>?_⟩ (G (put s i) (by rw[<-r,hs]))
    .grind
    .have:=q.pre (n+j) (sh K d) (K+e.1,e.2) (l y) (by simp[sh,b]) (by simp[sh];omega)
     grind
    .exact q.PT (K+e.1,e.2) (by simp[sh,b])
 .intro h
  induction h with
  | @fin f s H =>
   refine .fin λi c v b=>?_
   by_cases h1:i<n
   .simp[h1]
   .rw[aQ af,bP]at v
    cases o:B[i-A.length]? with
    |none=>rw[o]at v;cases v
    |some k =>
     rw[o]at v;cases v;have:=H _ _ o (by simpa[sh]using b)
     grind
  | @step f s i c q _ G =>
   refine .step (n+i) (sh K c) ⟨l q.at_,?_,λj d e y b F=>?_,λe b=>?_⟩ (by rw[r];exact G)
   .have:=q.no;simp[this]
   .by_cases h1 : j < n
    .simp[h1]
    .rw[aQ af,bP]at y
     cases o:B[j-A.length]? with
     |none=>rw[o]at y;cases y
     |some k =>
      rw[o]at y;cases y;simp only[sh,dW]at b;obtain⟨e0,x,rfl⟩:=b;have:=q.pre _ _ _ o x (by simp[sh]at F;omega)
      grind
   .simp only[sh,dW]at b;obtain⟨e0,x,rfl⟩:=b;exact q.PT e0 x
def L1{f g:C}{l k:List (Ev S α)}(h:Sq D f l g)(hk:rk (λ_=>false) k):
  vT (Li.calls D (l++k)).cs f (λ_=>false)↔vT (Li.calls D k).cs g (λ_=>false):=by
 let⟨h1,h2⟩:=h.calls
 rw[uB l k hk,h.lin _ λc b=>by
  obtain⟨c,_,rfl⟩:=cQ.1 b;refine⟨by simp[sh],λe n=>?_⟩
  simp only[sh,dW]at n
  grind]
 have:=acW l.length (l.length / 2) (Li.calls D l).cs h1 (λc b e n=>by
  let⟨i,o⟩:=gZ.1 b
  grind) (Li.calls D k).cs g (λ_=>false)
 grind
def left(m:Nat)(s:aB):Nat:=((List.range m).filter λi=>!s i).length
def Nv{m i:Nat}{s:aB}(h:i<m)(hs:s i=false):left m (put s i)+1=left m s:=by
 induction m with
 |zero=>omega
 |succ m b =>
  grind[left,List.range_succ,List.length_append,List.range,List.filter_congr,put]
variable{A α C:Type}{D:C->A->A×α}
def ER{β:Type}{p:List β->Prop}(h0:p [])(h1:∀l a,p l->p (l++[a]))(l:List β):p l:=by
 have:∀l:List β,p l.reverse:=by
  intro l
  induction l with
  |nil=>exact h0
  |cons a l b=>grind
 rw[<-List.reverse_reverse l];exact this _
def Pm(D:C->A->A×α)(l:List (Ev C α))(c:Ca A α):Prop:=(∃x,l[c.b]? = some x/\x.vO=true/\c.run=D x.op)/\∀e,c.e=some e->∃x,l[e.1]? = some x/\x.vO=false/\x.PT=e.2
def Pm.more{l:List (Ev C α)}{c:Ca A α}(h:Pm D l c)(k:List (Ev C α)):Pm D (l++k) c:=by
 have g:∀ {i:Nat} {x:Ev C α},l[i]? = some x->(l++k)[i]? = some x:=λ{i x} b=>by grind
 let⟨⟨x,h1,h2⟩,h3⟩:=h;exact⟨⟨x,g h1,h2⟩,λe n=>by grind⟩
def Bv(l:List (Ev C α)):(∀c∈(calls D l).cs,Pm D l c)/\(calls D l).cs.length<=l.length:=by
 refine ER (p:=λl=>(∀c∈(calls D l).cs,Pm D l c)/\(calls D l).cs.length<=l.length) ⟨by simp[calls],by simp[calls]⟩ (λl x n=>?_) l
 let⟨n,hl⟩:=n;rw[lg,oZ];cases r:x.vO with
 |true =>
  rw[if_pos rfl];refine⟨λc h=>?_,ak⟩
  rcases aY.1 h with h | h
  .exact(n c h).more _
  .rw[cr.1 h];refine⟨⟨x,?_,r,rfl⟩,λe o=>by cases o⟩
   grind[sg]
 |false =>
  rw[if_neg ai]
  refine⟨λc h=>?_,ak⟩
  simp only at h;let⟨i,b⟩:=gZ.1 h;rw[fW]at b;cases hg:(calls D l).cs[i]? with
  |none=>rw[hg]at b;cases b
  |some d =>
   rw[hg]at b;have q:=n d (bL hg);simp only[Option.map_eq_map,cS,bn]at b;split at b
   .subst b;refine⟨(q.more _).1,λe o=>?_⟩
    cases o;simp only[sg]
    grind
   .subst b;exact q.more _
def Ic{l:List (Ev C α)}:rk (λ_=>false) l->∀c,DI (λ_=>false) l c=true->(calls D l).last c<(calls D l).cs.length:=by
 refine ER (p:=λl=>rk (λ_=>false) l->∀c,DI (λ_=>false) l c=true->(calls D l).last c<(calls D l).cs.length) (λ_ c h=>by simp[DI]at h) (λl x o b c n=>?_) l
 obtain⟨h1,h2,-⟩:=(qS ..).1 b
 have i:DI (λ_=>false) (l++[x])=up (DI (λ_=>false) l) x.c x.vO:=by
  unfold DI
  grind
 rw[i]at n;rw[lg,oZ];cases q:x.vO with
 |true =>
  rw[if_pos rfl]
  grind[List.length_append,List.length_cons,List.length_nil,ng,mo]
 |false =>
  rw[if_neg ai]
  grind[List.length_modify,ng,mo]
def SV{l:List (Ev C α)}(h:rk (λ_=>false) l){i:Nat}(b:i<l.length):DI (λ_=>false) (l.take i) l[i].c = !l[i].vO/\rk (λ_=>false) (l.take i):=by
 have e:l=l.take i++l[i]::l.drop (i+1):=by simp_all
 rw[e]at h;obtain⟨h1,h2,-⟩:=(qS ..).1 h;exact⟨h2,h1⟩
def Ib{l:List (Ev C α)}{i:Nat}(b:i<l.length):calls D (l.take (i+1))=oZ D (calls D (l.take i)) l[i]:=by
 grind[List.take_add_one,List.getElem?_eq_getElem,lg]
variable{A α C:Type}{D:C->A->A×α}
def wq(l:List (Ev C α)):(calls D l).cs.length=(l.map λx=>x.vO).count true:=by
 refine ER (p:=λl=>(calls D l).cs.length=(l.map λx=>x.vO).count true) rfl (λl x b=>?_) l
 grind[lg,oZ]
def Gz:∀ {l b:List (Ev C α)},(l.map λx=>(x.vO,x.c))=(b.map λx=>(x.vO,x.c))->∀ {s:aB},rk s l->rk s b
 | [],[],_,_,_=>trivial
 |x::l,y::b,h,s,⟨h1,h2⟩=>by
  simp only[bN,dM,Prod.mk.injEq]at h;let⟨⟨e1,n⟩,i⟩:=h;refine⟨by grind,?_⟩
  rw[<-e1,<-n];exact Gz i h2
 | [],_::_,h,_,_=>by simp at h
 |_::_,[],h,_,_=>by simp at h
section
variable{f0 f:A}{l:List (Ev C α)}{p:Pe C α}
end
end Go.Li
