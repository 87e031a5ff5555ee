/- Part of the proof that TopRetriesCard holds. -/
import Derived.KernelRfl
set_option linter.all false
theorem af{p:Prop}(h:p:=by omega):p:=h
theorem ah{p:Prop}(h:p:=by decide):p:=h
theorem ai{p:Prop}(h:p:=by simp):p:=h
theorem aj{p:Prop}(h:p:=by kernel_rfl):p:=h
theorem ak{p:Prop}(h:p:=by simp;omega):p:=h
theorem aq{p:Prop}(h:p:=by simp(disch:=omega)):p:=h
theorem an{a b:Prop}(h:a)(e:a=b:=by simp):b:=e▸h
abbrev au:=List UInt8
abbrev ax:=List Nat
abbrev ay:=List Int
abbrev az:=Nat->Prop
abbrev aB:=Nat->Bool
abbrev aC:=List (Nat×Nat)
abbrev aA:=@List.getElem?_eq_some_iff
abbrev aD:=@List.getElem?_eq_getElem
abbrev aF:=@Bool.and_eq_true
abbrev aG:=@Option.bind_eq_some_iff
abbrev aH:=@List.getElem?_set_ne
abbrev aI:=@List.cons_append
abbrev aJ:=@List.getElem?_append_left
abbrev aK:=@List.getElem?_set_self
abbrev aL:=@List.nil_append
abbrev aM:=@List.all_eq_true
abbrev aN:=@List.getElem_mem
abbrev aO:=@List.take_of_length_le
abbrev aP:=@List.map_nil
abbrev aQ:=@Nat.zero_le
abbrev aR:=@List.length_cons
abbrev aS:=@List.getElem?_append_right
abbrev aT:=@List.length_append
abbrev aU:=@Nat.le_refl
abbrev aV:=@Array.getElem?_eq_some_iff
abbrev aW:=@List.pairwise_iff_getElem
abbrev aX:=@List.mem_append
abbrev aY:=@List.eq_nil_of_length_eq_zero
abbrev aZ:=@Bool.false_eq_true
abbrev bh:=@Option.some.injEq
abbrev bn:=@List.mem_iff_getElem
abbrev bp:=@Option.some.inj
abbrev br:=@Nat.mul_le_mul_right
abbrev bt:=@List.length_nil
abbrev bu:=@Nat.lt_of_lt_of_le
abbrev bw:=@List.mem_cons
abbrev bz:=@List.length_filter_le
abbrev bB:=@Option.elim_some
abbrev bC:=@Array.getD_eq_getD_getElem?
abbrev bD:=@List.getElem?_toArray
abbrev bE:=@List.length_take
abbrev bF:=@List.getElem?_cons_zero
abbrev bG:=@List.mem_of_find?_eq_some
abbrev bH:=@Nat.le_trans
abbrev bI:=@List.pairwise_cons
abbrev bJ:=@List.foldl_cons
abbrev bK:=@List.mem_of_getElem?
abbrev bL:=@Option.isSome_iff_exists
abbrev bM:=@List.filter_cons
abbrev bN:=@List.map_cons
abbrev bO:=@List.filter_eq_self
abbrev bP:=@Bool.or_eq_true
abbrev bQ:=@Option.elim_none
abbrev bR:=@Nat.add_mul
abbrev bS:=@List.length_drop
abbrev bT:=@List.mem_singleton
abbrev bU:=@List.all_cons
abbrev bV:=@Nat.zero_add
abbrev bW:=@List.getElem?_drop
abbrev bX:=@List.getD_eq_getElem?_getD
abbrev bY:=@List.mem_filter
abbrev bZ:=@Option.bind_some
abbrev cg:=@List.drop_eq_getElem_cons
abbrev cm:=@List.all_append
abbrev ct:=@List.getElem?_map
abbrev cv:=@List.any_eq_true
abbrev cw:=@List.length_map
abbrev cA:=@List.append_assoc
abbrev cB:=@List.getElem?_cons_succ
abbrev cC:=@List.mem_cons_of_mem
abbrev cD:=@List.find?_eq_none
abbrev cE:=@List.mem_of_mem_drop
abbrev cF:=@Nat.add_assoc
abbrev cG:=@Array.getElem?_eq_getElem
abbrev cH:=@List.append_nil
abbrev cI:=@List.take_succ_eq_append_getElem
abbrev cK:=@Array.getElem?_setIfInBounds_ne
abbrev cL:=@Bool.not_eq_true'
abbrev cM:=@List.find?_some
abbrev cQ:=@Nat.add_zero
abbrev cR:=@Array.ext'
abbrev cS:=@Option.map_some
abbrev cT:=@List.mem_map
abbrev cU:=@List.findIdx_lt_length_of_exists
abbrev cV:=@List.mem_cons_self
abbrev cW:=@List.dropWhile_cons
abbrev cZ:=@Classical.not_not
abbrev dg:=@List.getElem?_take
abbrev dh:=@Option.getD_some
abbrev dm:=@List.take_append_drop
abbrev dn:=@List.getElem?_eq_none
abbrev dr:=@List.filter_congr
abbrev dw:=@Bool.false_and
abbrev dx:=@List.getElem?_of_mem
abbrev dy:=@List.filter_append
abbrev dz:=@List.mem_or_eq_of_mem_set
abbrev dA:=@List.takeWhile_cons
abbrev dB:=@Nat.one_mul
abbrev dD:=@Array.getElem?_toList
abbrev dF:=@List.length_singleton
abbrev dG:=@List.length_set
abbrev dH:=@Nat.eq_zero_or_pos
abbrev dI:=@Array.toArray_toList
abbrev dJ:=@Nat.lt_or_ge
abbrev dK:=@Array.getElem?_append_left
abbrev dL:=@Classical.choose_spec
abbrev dM:=@Array.getElem?_modify
abbrev dN:=@List.filter_filter
abbrev dO:=@List.ext_getElem?
abbrev dP:=@List.length_eq_zero_iff
abbrev dQ:=@List.findIdx_cons
abbrev dR:=@Nat.lt_trichotomy
abbrev dS:=@List.nodup_cons
abbrev dU:=@List.cons.injEq
abbrev dV:=@Array.getElem?_push
abbrev dW:=@List.map_congr_left
abbrev dX:=@List.length_eq_one_iff
abbrev dY:=@Int.le_refl
abbrev dZ:=@List.zip_cons_cons
abbrev ec:=@List.set_eq_take_append_cons_drop
abbrev ef:=@List.mem_of_mem_take
abbrev ei:=@List.size_toArray
abbrev eo:=@List.set_append_left
abbrev ep:=@List.getElem_take
abbrev eu:=@List.getElem_drop
abbrev ew:=@List.mem_append_left
abbrev ez:=@List.take_add_one
abbrev eA:=@Bool.not_true
abbrev eB:=@Bool.not_false
abbrev eC:=@Array.eq_empty_of_size_eq_zero
abbrev eD:=@List.getElem_map
abbrev eE:=@Bool.not_eq_true
abbrev eF:=@Nat.mul_comm
abbrev eG:=@List.drop_of_length_le
abbrev eH:=@Option.isSome_some
abbrev eL:=@List.contains_cons
abbrev eM:=@Bool.eq_iff_iff
abbrev eN:=@List.find?_cons
abbrev eO:=@UInt8.lt_iff_toNat_lt
abbrev eP:=@List.concat_eq_append
abbrev eR:=@List.exists_cons_of_ne_nil
abbrev eU:=@Array.toList_setIfInBounds
abbrev eV:=@List.getElem?_append
abbrev eW:=@Nat.pow_le_pow_right
abbrev eX:=@List.map_map
abbrev eY:=@Int.natCast_zero
abbrev eZ:=@List.getElem_of_mem
abbrev e9:=@Array.getElem?_replicate
abbrev ff:=@List.take_left'
abbrev fh:=@List.count_eq_zero
abbrev fm:=@Nat.lt_of_le_of_lt
abbrev fq:=@List.map_id
abbrev fu:=@List.mem_range
abbrev fA:=@List.getElem?_set
abbrev fB:=@Int.toNat_natCast
abbrev fD:=@List.takeWhile_sublist
abbrev fE:=@List.pairwise_map
abbrev fF:=@List.foldl_append
abbrev fG:=@List.takeWhile_append_dropWhile
abbrev fH:=@List.set_append_right
abbrev fJ:=@Array.getElem?_append
abbrev fK:=@List.set_getElem_self
abbrev fL:=@Nat.lt_succ_self
abbrev fM:=@List.eq_nil_iff_forall_not_mem
abbrev fN:=@List.drop_length
abbrev fQ:=@Bool.or_false
abbrev fS:=@Bool.false_or
abbrev fT:=@Bool.or_eq_false_iff
abbrev fU:=@List.take_append_of_le_length
abbrev fV:=@Array.getElem?_setIfInBounds
abbrev fW:=@UInt8.toNat_inj
abbrev fZ:=@List.getElem?_range
abbrev ga:=@List.length_pos_iff
abbrev gh:=@List.filter_sublist
abbrev gj:=@Nat.le_total
abbrev gm:=@Nat.zero_mul
abbrev gq:=@Option.isSome_none
abbrev gu:=@Nat.testBit_or
abbrev gv:=@List.perm_ext_iff_of_nodup
abbrev gw:=@Nat.mod_two_eq_zero_or_one
abbrev gA:=@Array.size_append
abbrev gB:=@List.nodup_append
abbrev gC:=@Nat.or_lt_two_pow
abbrev gD:=@Bool.true_and
abbrev gE:=@Nat.add_right_cancel_iff
abbrev gF:=@List.take_length
abbrev gG:=@Nat.mod_lt
abbrev gH:=@List.head?_eq_getElem?
abbrev gI:=@Nat.ne_of_lt
abbrev gJ:=@Option.map_eq_some_iff
abbrev gK:=@Nat.succ_mul
abbrev gL:=@List.find?_cons_of_neg
abbrev gM:=@List.dropWhile_sublist
abbrev gN:=@List.filter_eq_nil_iff
abbrev gO:=@List.length_pos_of_mem
abbrev gP:=@List.not_of_lt_findIdx
abbrev gQ:=@List.map_set
abbrev gR:=@Nat.min_eq_left
abbrev gT:=@List.head?_cons
abbrev gU:=@Nat.testBit_and
abbrev gV:=@List.contains_iff_mem
abbrev gW:=@Array.getElem?_mapIdx
abbrev gX:=@List.eq_nil_or_concat
abbrev gY:=@List.Pairwise.sublist
abbrev gZ:=@Nat.div_lt_of_lt_mul
abbrev ia:=@List.mapM_cons
abbrev ic:=@Array.getElem_toList
abbrev ig:=@List.replicate_succ'
abbrev ij:=@Nat.min_def
abbrev iq:=@List.take_zero
abbrev ir:=@List.foldl_nil
abbrev iu:=@List.Pairwise.filter
abbrev iw:=@List.mem_erase_of_ne
abbrev iy:=@List.findIdx_getElem
abbrev iC:=@List.take_take
abbrev iD:=@List.nodup_nil
abbrev iE:=@List.tail_cons
abbrev iF:=@List.pairwise_append
abbrev iG:=@Nat.eq_of_testBit_eq
abbrev iH:=@Nat.pow_lt_pow_right
abbrev iI:=@List.all_nil
abbrev iJ:=@Nat.min_self
abbrev iK:=@List.all_map
namespace Go.Li
variable{C α:Type}
structure Ca(C α:Type) where
 run:C->C×α
 b:Nat
 e:Option (Nat×α)
structure SC(l:List (Ca C α))(f:C)(s:aB)(i:Nat)(c:Ca C α):Prop where
 at_:l[i]? = some c
 no:s i=false
 pre:∀(j:Nat) d e,l[j]? = some d->d.e=some e->e.1<c.b->s j=true
 PT:∀e,c.e=some e->(c.run f).2=e.2
def put(s:aB)(i:Nat):Nat->Bool:=λj=>s j||decide (j=i)
def Whole(l:List (Ca C α))(s:aB):Prop:=∀(i:Nat) c,l[i]? = some c->c.e.isSome=true->s i=true
inductive vT(l:List (Ca C α)):C->(Nat->Bool)->Prop
 |fin {f s}:Whole l s->vT l f s
 |step {f s} (i:Nat) (c:Ca C α):SC l f s i c->vT l (c.run f).1 (put s i)->vT l f s
def vT.cases{l:List (Ca C α)}{f:C}{s:aB}(h:vT l f s)(b:¬Whole l s):∃i c,SC l f s i c/\vT l (c.run f).1 (put s i):=by
 cases h with
 |fin h=>exact absurd h b
 |step i c h1 h2=>grind
inductive Re(l:List (Ca C α))(f0:C):C->(Nat->Option α)->Prop
 |nil:Re l f0 f0 (λ_=>none)
 |step {f s} (i:Nat) (c:Ca C α):Re l f0 f s->SC l f (λj=>(s j).isSome) i c->Re l f0 (c.run f).1 (λj=>if j=i then some (c.run f).2 else s j)
def Fi(s:Nat->Option α)(i:Nat)(a:α):(λj=>(if j=i then some a else s j).isSome)=put (λj=>(s j).isSome) i:=by
 funext j
 grind[put]
def Re.lin{l:List (Ca C α)}{b f:C}{s:Nat->Option α}(h:Re l b f s):vT l f (λj=>(s j).isSome)->vT l b (λ_=>false):=by
 induction h with
 |nil=>exact id
 |step i c h o n =>
  intro hl;rw[Fi]at hl;exact n (.step i c o hl)
def Re.more{l:List (Ca C α)}{r f:C}{s:Nat->Option α}(h:Re l r f s){n:Ca C α}(z:n.e=none):Re (l++[n]) r f s:=by
 induction h with
 |nil=>exact .nil
 |step i c h b v =>
  refine .step i c v ⟨?_,b.no,λj d e q y o=>?_,b.PT⟩
  .rw[aJ (aA.1 b.at_).1];exact b.at_
  .by_cases x:j<l.length
   .rw[aJ x]at q;exact b.pre j d e q y o
   grind
def Re.ends{l:List (Ca C α)}{G f:C}{s:Nat->Option α}(h:Re l G f s){k:Nat}{r:Ca C α}(hk:l[k]? = some r){t:Nat}{a:α}(H:∀(j:Nat) d,l[j]? = some d->d.b<=t):
  (∀v,s k=some v->v=a)->Re (l.set k {r with e:=some (t,a)}) G f s:=by
 have q:=(aA.1 hk).1
 induction h with
 |nil=>exact λ_=>.nil
 | @step f s i c h o A =>
  intro L
  have n:∀(j:Nat) d e,(l.set k {r with e:=some (t,a)})[j]? = some d->d.e=some e->e.1<c.b->(s j).isSome=true:=by
   intro j d e x F y
   by_cases E:j=k
   .subst E;rw[aK q]at x;cases x;cases F;have:=H i c o.at_
    grind
   .rw[aH (λh=>E h.symm)]at x
    exact o.pre j d e x F y
  by_cases z:i=k
  .subst z;have K:r=c:=bp (hk.symm.trans o.at_);subst K;refine Re.step i {r with e:=some (t,a)} (A λv h'=>?_) ⟨aK q,o.no,n,?_⟩
   .have:=o.no
    grind
   grind
  .refine Re.step i c (A λv h'=>L v ((if_neg (λh=>z h.symm)).trans h')) ⟨?_,o.no,n,o.PT⟩
   rw[aH (λh=>z h.symm)];exact o.at_
variable{C α N:Type}
structure Ev(N α:Type) where
 vO:Bool
 c:Nat
 op:N
 PT:α
structure Cs(C α:Type) where
 k:Nat
 cs:List (Ca C α)
 last:Nat->Nat
def up{β:Type}(f:Nat->β)(c:Nat)(x:β):Nat->β:=λj=>if j=c then x else f j
@[simp]theorem ng{β:Type}(f:Nat->β)(c:Nat)(x:β):up f c x c=x:=if_pos rfl
theorem mo{β:Type}(f:Nat->β){c j:Nat}(h:j≠c)(x:β):up f c x j=f j:=if_neg h
def rR{β:Type}{l:List β}{i:Nat}{x:β}{g:β->β}(h:l[i]? = some x):l.modify i g=l.set i (g x):=by
 apply dO
 grind
variable(D:N->C->C×α)
def oZ(s:Cs C α)(x:Ev N α):Cs C α :=
 if x.vO=true then⟨s.k+1,s.cs++[⟨D x.op,s.k,none⟩],up s.last x.c s.cs.length⟩
 else⟨s.k+1,s.cs.modify (s.last x.c) λc=>{c with e:=some (s.k,x.PT)},s.last⟩
def calls(l:List (Ev N α)):Cs C α:=l.foldl (oZ D) ⟨0,[],λ_=>0⟩
theorem lg(l:List (Ev N α))(x:Ev N α):calls D (l++[x])=oZ D (calls D l) x:=by
 unfold calls
 grind
theorem sg(l:List (Ev N α)):(calls D l).k=l.length:=by
 have:∀(l:List (Ev N α))(s:Cs C α),(l.foldl (oZ D) s).k=s.k+l.length:=by
  intro l
  induction l with
  |nil=>intro s;rfl
  |cons x l b =>
   grind[List.length_cons,oZ]
 rw[calls,this];simp
abbrev Pe(N α:Type):=Nat->Option (N×Option α)
inductive Rn(f0:C):List (Ev N α)->C->Pe N α->Prop
 |nil:Rn f0 [] f0 (λ_=>none)
 |vO {l f p} (c:Nat) (o:N) (a:α):c<3->p c=none->Rn f0 l f p->Rn f0 (l++[⟨true,c,o,a⟩]) f (up p c (some (o,none)))
 |done {l f p} (c:Nat) (o:N):p c=some (o,none)->Rn f0 l f p->Rn f0 l (D o f).1 (up p c (some (o,some (D o f).2)))
 |fin {l f p} (c:Nat) (o:N) (o':N) (a:α):c<3->p c=some (o,some a)->Rn f0 l f p->Rn f0 (l++[⟨false,c,o',a⟩]) f (up p c none)
structure Tr(f0:C)(l:List (Ev N α))(f:C)(p:Pe N α):Prop where
 ex:∃s,Re (calls D l).cs f0 f s/\(∀(i:Nat) c e,(calls D l).cs[i]? = some c->c.e=some e->(s i).isSome=true)/\(∀i,(calls D l).cs.length<=i->s i=none)/\
  (∀(i:Nat) c,(calls D l).cs[i]? = some c->c.b<l.length)/\
  (∀c o r,p c=some (o,r)->∃k,(calls D l).cs[(calls D l).last c]? = some k/\k.run=D o/\k.e=none/\s ((calls D l).last c)=r)/\
  ∀c d,(p c).isSome=true->(p d).isSome=true->(calls D l).last c=(calls D l).last d->c=d
variable{D}
def Tr.nil(b:C):Tr D b [] b (λ_=>none):=⟨_,.nil,by simp[calls],ai,by simp[calls],ai,ai⟩
def Tr.vO{A:C}{l:List (Ev N α)}{f:C}{p:Pe N α}(h:Tr D A l f p)(c:Nat)(o:N)(a:α)(G:p c=none):Tr D A (l++[⟨true,c,o,a⟩]) f (up p c (some (o,none))):=by
 let⟨s,h1,h2,h3,h4,h5,h6⟩:=h.ex
 have e:calls D (l++[⟨true,c,o,a⟩])=⟨l.length+1,(calls D l).cs++[⟨D o,l.length,none⟩],up (calls D l).last c (calls D l).cs.length⟩:=by
  rw[lg,oZ,if_pos rfl,sg]
 have F:∀d o r,p d=some (o,r)->(calls D l).last d<(calls D l).cs.length:=λd o r v=>by
  grind
 have z:∀ {i:Nat} {k:Ca C α},((calls D l).cs++[⟨D o,l.length,none⟩])[i]? = some k->(calls D l).cs[i]? = some k\/(i=(calls D l).cs.length/\k=⟨D o,l.length,none⟩):=λ{i k} y=>by
  grind
 refine⟨s,?_⟩;rw[e];refine⟨h1.more rfl,λi k e y H=>?_,λi y=>h3 i (by simp at y;omega),λi k y=>?_,λd o' r v=>?_,λd d' v q x=>?_⟩
 .grind
 .grind
 .by_cases n : d = c
  .simp_all
  .rw[mo _ n]at v;simp only[mo _ n]
   grind
 .by_cases n : d = c
  .by_cases b : d' = c
   .rw[n,b]
   .subst n;rw[mo _ b]at q;simp only[ng,mo _ b]at x;let⟨⟨o',r⟩,E⟩:=bL.1 q
    grind
  .rw[mo _ n]at v
   by_cases b:d'=c
   .subst b;simp only[ng,mo _ n]at x;let⟨⟨o',r⟩,E⟩:=bL.1 v
    grind
   .rw[mo _ b]at q;simp only[mo _ n,mo _ b]at x;exact h6 d d' v q x
def Tr.done{x:C}{l:List (Ev N α)}{f:C}{p:Pe N α}(h:Tr D x l f p)(c:Nat)(o:N)(v:p c=some (o,none)):Tr D x l (D o f).1 (up p c (some (o,some (D o f).2))):=by
 let⟨s,h1,h2,h3,h4,h5,h6⟩:=h.ex;let⟨k,hk,y,H,hs⟩:=h5 c o none v;have z:=(aA.1 hk).1;refine⟨λj=>if j=(calls D l).last c then some (k.run f).2 else s j,?_⟩
 rw[<-y];simp only;refine⟨h1.step _ k ⟨hk,by simp[hs],λj d e n q _=>h2 j d e n q,λe q=>by grind⟩,λi d e A n=>?_,λi A=>?_,h4,λd o' r n=>?_,λd d' n E F=>?_⟩
 .grind
 .grind
 .by_cases b : d = c
  .subst b;rw[ng]at n
   grind
  .rw[mo _ b]at n
   grind
 .have G:∀ {d:Nat},(up p c (some (o,some (k.run f).2)) d).isSome=true->(p d).isSome=true:=λ{d} n=>by
   by_cases b:d=c
   .rw[b,v];rfl
   .rwa [mo _ b]at n
  grind
def Tr.fin{y:C}{l:List (Ev N α)}{f:C}{p:Pe N α}(h:Tr D y l f p)(c:Nat)(o o':N)(a:α)(E:p c=some (o,some a)):Tr D y (l++[⟨false,c,o',a⟩]) f (up p c none):=by
 let⟨s,h1,h2,h3,h4,h5,h6⟩:=h.ex;let⟨k,hk,H,L,hs⟩:=h5 c o (some a) E;have F:=(aA.1 hk).1
 have e:calls D (l++[⟨false,c,o',a⟩])=⟨l.length+1,(calls D l).cs.set ((calls D l).last c) {k with e:=some (l.length,a)},(calls D l).last⟩:=by
  rw[lg,oZ,if_neg ai,sg]
  congr 1
  exact rR hk
 have x:∀ {i:Nat} {q:Ca C α},((calls D l).cs.set ((calls D l).last c) {k with e:=some (l.length,a)})[i]? = some q->(i≠(calls D l).last c/\(calls D l).cs[i]? = some q)\/(i=(calls D l).last c/\q={k with e:=some (l.length,a)}):=λ{i q} v=>by
  grind
 refine⟨s,?_⟩;rw[e];refine⟨h1.ends hk (λj d n=>Nat.le_of_lt (h4 j d n)) (λM h'=>by grind),λi q e v A=>?_,λi v=>h3 i (an v),λi q v=>?_,λd z r n=>?_,λd d' n G A=>?_⟩
 .grind
 .grind
 .by_cases b : d = c
  .simp_all
  .rw[mo _ b]at n
   grind
 .have K:∀ {d:Nat},(up p c none d).isSome=true->(p d).isSome=true:=λ{d} n=>by
   by_cases b:d=c
   .grind
   .rwa [mo _ b]at n
  grind
def Tr.lin{n:C}{l:List (Ev N α)}{f:C}{p:Pe N α}(h:Tr D n l f p):vT (calls D l).cs n (λ_=>false):=by
 let⟨s,h1,h2,_⟩:=h.ex;refine h1.lin (.fin λi c o b=>?_)
 let⟨e,b⟩:=bL.1 b;exact h2 i c e o b
def Rn.tr{n:C}{l:List (Ev N α)}{f:C}{p:Pe N α}(h:Rn D n l f p):Tr D n l f p:=by
 induction h with
 |nil=>exact .nil n
 |vO c o a _ i _ b=>exact b.vO c o a i
 |done c o i _ b=>exact b.done c o i
 |fin c o o' a _ i _ b=>exact b.fin c o o' a i
variable{C α S:Type}
def DI(s:aB)(l:List (Ev S α)):Nat->Bool:=l.foldl (λs x=>up s x.c x.vO) s
def rk(s:aB):List (Ev S α)->Prop
 | []=>True
 |x::l=>s x.c = !x.vO/\rk (up s x.c x.vO) l
def qS(l m:List (Ev S α)):∀s,rk s (l++m)↔rk s l/\rk (DI s l) m:=by
 induction l with
 |nil=>intro s;simp[rk,DI]
 |cons x l b =>
  intro s;simp only[aI,rk,b,DI,bJ,and_assoc]
variable{D:S->C->C×α}
def Rn.right{v:C}{l:List (Ev S α)}{f:C}{p:Pe S α}(h:Rn D v l f p):rk (λ_=>false) l/\(DI (λ_=>false) l=λc=>(p c).isSome)/\∀x∈l,x.c<3:=by
 have r:∀(p:Pe S α)(c:Nat)(y:Option (S×Option α)),(λd=>(up p c y d).isSome)=up (λd=>(p d).isSome) c y.isSome:=λp c y=>by
  funext d
  unfold up;split<;>rfl
 induction h with
 |nil=>exact⟨trivial,rfl,ai⟩
 | @vO l f p c o a h3 n i b =>
  refine⟨(qS ..).2 ⟨b.1,?_,trivial⟩,?_,λx q=>?_⟩
  .grind
  .unfold DI at b⊢
   simp_all
  grind
 | @done l f p c o n i b =>
  refine⟨b.1,?_,b.2.2⟩;rw[b.2.1,r]
  funext d
  unfold up
  grind
 | @fin l f p c o o' a h3 n i b =>
  refine⟨(qS ..).2 ⟨b.1,?_,trivial⟩,?_,λx q=>?_⟩
  .grind
  .unfold DI at b⊢
   simp_all
  grind
inductive Sq(D:S->C->C×α):C->List (Ev S α)->C->Prop
 |nil {f}:Sq D f [] f
 |snoc {f l g} (c:Nat) (o o':S) (a':α):Sq D f l g->Sq D f (l++[⟨true,c,o,a'⟩,⟨false,c,o',(D o g).2⟩]) (D o g).1
def Sq.even{f g:C}{l:List (Ev S α)}(h:Sq D f l g):l.length=2*(l.length / 2)/\rk (λ_=>false) l/\DI (λ_=>false) l=λ_=>false:=by
 induction h with
 |nil=>exact⟨ai,trivial,rfl⟩
 | @snoc l g c o o' i h b =>
  let⟨h1,h2,h3⟩:=b;refine⟨ak,(qS ..).2 ⟨h2,?_⟩,?_⟩
  .rw[h3];simp[rk]
  .unfold DI at h3⊢;rw[fF,h3]
   funext d
   simp only[bJ,ir,up]
   grind
def Sq.calls{f g:C}{l:List (Ev S α)}(h:Sq D f l g):(calls D l).cs.length=l.length / 2/\∀(i:Nat) c,(calls D l).cs[i]? = some c->c.b=2*i/\∃a,c.e=some (2*i+1,a):=by
 induction h with
 |nil=>exact⟨by simp[Li.calls],by simp[Li.calls]⟩
 | @snoc l g c o o' n h q =>
  let⟨h1,h2⟩:=q;have r:=h.even.1
  have e:(Li.calls D (l++[⟨true,c,o,n⟩,⟨false,c,o',(D o g).2⟩])).cs=(Li.calls D l).cs++[⟨D o,l.length,some (l.length+1,(D o g).2)⟩]:=by
   rw[show l++[(⟨true,c,o,n⟩:Ev S α),⟨false,c,o',(D o g).2⟩]=(l++[⟨true,c,o,n⟩])++[⟨false,c,o',(D o g).2⟩] by simp,lg,lg]
   simp only[oZ,if_true,aZ,if_false,ng,sg];rw[rR (x:=⟨D o,l.length,none⟩) ai]
   simp
  grind
def Sq.lin{f g:C}{l:List (Ev S α)}(h:Sq D f l g):∀(B:List (Ca C α)),(∀c∈B,l.length<=c.b/\∀e,c.e=some e->l.length<=e.1)->
  (vT ((Li.calls D l).cs++B) f (λ_=>false)↔vT ((Li.calls D l).cs++B) g (λj=>decide (j<l.length / 2))):=by
 induction h with
 |nil =>
  intro B _;simp
 | @snoc l g c o o' A h G =>
  intro B O;have F:=h.even.1
  have e:(Li.calls D (l++[⟨true,c,o,A⟩,⟨false,c,o',(D o g).2⟩])).cs=(Li.calls D l).cs++[⟨D o,l.length,some (l.length+1,(D o g).2)⟩]:=by
   rw[show l++[(⟨true,c,o,A⟩:Ev S α),⟨false,c,o',(D o g).2⟩]=(l++[⟨true,c,o,A⟩])++[⟨false,c,o',(D o g).2⟩] by simp,lg,lg]
   simp only[oZ,if_true,aZ,if_false,ng,sg];rw[rR (x:=⟨D o,l.length,none⟩) ai]
   simp
  let⟨N,Q⟩:=h.calls;have v:(l++[(⟨true,c,o,A⟩:Ev S α),⟨false,c,o',(D o g).2⟩]).length=l.length+2:=ai
  rw[v]at O
  rw[e,cA,v,G _ (λk hk=>by
   grind)]
  have n:((Li.calls D l).cs++([⟨D o,l.length,some (l.length+1,(D o g).2)⟩]++B))[l.length / 2]? = some ⟨D o,l.length,some (l.length+1,(D o g).2)⟩:=by
   grind
  have q:put (λj=>decide (j<l.length / 2)) (l.length / 2)=λj=>decide (j<(l.length+2) / 2):=by
   funext j
   unfold put
   grind
  constructor
  .intro z
   let⟨i,k,y,z⟩:=z.cases (λH=>by
    have:=H _ _ n rfl;simp at this)
   have E:=y.no;simp only[decide_eq_false_iff_not]at E;have L:i=l.length / 2:=by
    by_cases M:l.length / 2<i
    .have r:=y.pre _ _ _ n rfl (by
      have hk:=y.at_
      grind)
     simp at r
    .omega
   subst L;have:=y.at_
   grind
  .intro z;refine .step _ _ ⟨n,ai,λj d e P F K=>?_,λe F=>by cases F;rfl⟩ (by rw[q];exact z)
   grind
def left(m:Nat)(s:aB):Nat:=((List.range m).filter λi=>!s i).length
def Nv{m i:Nat}{s:aB}(h:i<m)(hs:s i=false):left m (put s i)+1=left m s:=by
 induction m with
 |zero=>omega
 |succ m b =>
  grind[left,List.range_succ,List.length_append,List.range,List.filter_congr,put]
variable{A α C:Type}{D:C->A->A×α}
def ER{β:Type}{p:List β->Prop}(h0:p [])(h1:∀l a,p l->p (l++[a]))(l:List β):p l:=by
 have:∀l:List β,p l.reverse:=by
  intro l
  induction l with
  |nil=>exact h0
  |cons a l b=>grind
 rw[<-List.reverse_reverse l];exact this _
def Pm(D:C->A->A×α)(l:List (Ev C α))(c:Ca A α):Prop:=(∃x,l[c.b]? = some x/\x.vO=true/\c.run=D x.op)/\∀e,c.e=some e->∃x,l[e.1]? = some x/\x.vO=false/\x.PT=e.2
def Pm.more{l:List (Ev C α)}{c:Ca A α}(h:Pm D l c)(k:List (Ev C α)):Pm D (l++k) c:=by
 have g:∀ {i:Nat} {x:Ev C α},l[i]? = some x->(l++k)[i]? = some x:=λ{i x} b=>by grind
 let⟨⟨x,h1,h2⟩,h3⟩:=h;exact⟨⟨x,g h1,h2⟩,λe n=>by grind⟩
def Bv(l:List (Ev C α)):(∀c∈(calls D l).cs,Pm D l c)/\(calls D l).cs.length<=l.length:=by
 refine ER (p:=λl=>(∀c∈(calls D l).cs,Pm D l c)/\(calls D l).cs.length<=l.length) ⟨by simp[calls],by simp[calls]⟩ (λl x n=>?_) l
 let⟨n,hl⟩:=n;rw[lg,oZ];cases r:x.vO with
 |true =>
  rw[if_pos rfl];refine⟨λc h=>?_,ak⟩
  rcases aX.1 h with h | h
  .exact(n c h).more _
  .rw[bT.1 h];refine⟨⟨x,?_,r,rfl⟩,λe o=>by cases o⟩
   grind[sg]
 |false =>
  rw[if_neg ai]
  refine⟨λc h=>?_,ak⟩
  simp only at h;let⟨i,b⟩:=List.mem_iff_getElem?.1 h;rw[List.getElem?_modify]at b;cases hg:(calls D l).cs[i]? with
  |none=>rw[hg]at b;cases b
  |some d =>
   rw[hg]at b;have q:=n d (bK hg);simp only[Option.map_eq_map,cS,bh]at b;split at b
   .subst b;refine⟨(q.more _).1,λe o=>?_⟩
    cases o;simp only[sg]
    grind
   .subst b;exact q.more _
def Ic{l:List (Ev C α)}:rk (λ_=>false) l->∀c,DI (λ_=>false) l c=true->(calls D l).last c<(calls D l).cs.length:=by
 refine ER (p:=λl=>rk (λ_=>false) l->∀c,DI (λ_=>false) l c=true->(calls D l).last c<(calls D l).cs.length) (λ_ c h=>by simp[DI]at h) (λl x o b c n=>?_) l
 obtain⟨h1,h2,-⟩:=(qS ..).1 b
 have i:DI (λ_=>false) (l++[x])=up (DI (λ_=>false) l) x.c x.vO:=by
  unfold DI
  grind
 rw[i]at n;rw[lg,oZ];cases q:x.vO with
 |true =>
  rw[if_pos rfl]
  grind[List.length_append,List.length_cons,List.length_nil,ng,mo]
 |false =>
  rw[if_neg ai]
  grind[List.length_modify,ng,mo]
def SV{l:List (Ev C α)}(h:rk (λ_=>false) l){i:Nat}(b:i<l.length):DI (λ_=>false) (l.take i) l[i].c = !l[i].vO/\rk (λ_=>false) (l.take i):=by
 have e:l=l.take i++l[i]::l.drop (i+1):=by simp_all
 rw[e]at h;obtain⟨h1,h2,-⟩:=(qS ..).1 h;exact⟨h2,h1⟩
def Ib{l:List (Ev C α)}{i:Nat}(b:i<l.length):calls D (l.take (i+1))=oZ D (calls D (l.take i)) l[i]:=by
 grind[List.take_add_one,List.getElem?_eq_getElem,lg]
end Go.Li
