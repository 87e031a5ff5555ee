/- Part of the proof that TopStepsCard holds. -/
import Derived.KernelRfl
set_option linter.all false
theorem af{p:Prop}(h:p:=by omega):p:=h
theorem ah{p:Prop}(h:p:=by decide):p:=h
theorem ai{p:Prop}(h:p:=by simp):p:=h
theorem aj{p:Prop}(h:p:=by kernel_rfl):p:=h
theorem ak{p:Prop}(h:p:=by simp;omega):p:=h
theorem aq{p:Prop}(h:p:=by simp(disch:=omega)):p:=h
theorem an{a b:Prop}(h:a)(e:a=b:=by simp):b:=e▸h
abbrev au:=List UInt8
abbrev ax:=List Nat
abbrev ay:=List Int
abbrev az:=Nat->Prop
abbrev aB:=Nat->Bool
abbrev aC:=List (Nat×Nat)
abbrev aA:=@List.getElem?_eq_some_iff
abbrev aD:=@Bool.and_eq_true
abbrev aF:=@Option.bind_eq_some_iff
abbrev aG:=@List.getElem?_eq_getElem
abbrev aH:=@List.getElem?_set_ne
abbrev aI:=@List.getElem?_append_left
abbrev aJ:=@List.cons_append
abbrev aK:=@List.nil_append
abbrev aL:=@List.all_eq_true
abbrev aM:=@List.map_nil
abbrev aN:=@List.take_of_length_le
abbrev aO:=@List.getElem_mem
abbrev aP:=@List.getElem?_set_self
abbrev aQ:=@List.length_cons
abbrev aR:=@Nat.zero_le
abbrev aS:=@List.getElem?_append_right
abbrev aT:=@List.length_append
abbrev aU:=@Nat.le_refl
abbrev aV:=@Array.getElem?_eq_some_iff
abbrev aW:=@List.pairwise_iff_getElem
abbrev aX:=@Bool.false_eq_true
abbrev aY:=@List.eq_nil_of_length_eq_zero
abbrev aZ:=@Option.some.injEq
abbrev bh:=@List.mem_append
abbrev bn:=@List.mem_iff_getElem
abbrev bp:=@Nat.mul_le_mul_right
abbrev br:=@Nat.lt_of_lt_of_le
abbrev bt:=@List.length_filter_le
abbrev bu:=@List.length_nil
abbrev bw:=@List.mem_cons
abbrev bz:=@Option.some.inj
abbrev bB:=@Option.elim_some
abbrev bC:=@Array.getD_eq_getD_getElem?
abbrev bD:=@List.getElem?_toArray
abbrev bE:=@List.length_take
abbrev bF:=@Nat.le_trans
abbrev bG:=@List.getElem?_cons_zero
abbrev bH:=@List.mem_of_find?_eq_some
abbrev bI:=@List.foldl_cons
abbrev bJ:=@List.pairwise_cons
abbrev bK:=@List.mem_of_getElem?
abbrev bL:=@Option.isSome_iff_exists
abbrev bM:=@List.map_cons
abbrev bN:=@List.filter_cons
abbrev bO:=@List.filter_eq_self
abbrev bP:=@Bool.or_eq_true
abbrev bQ:=@Option.elim_none
abbrev bR:=@Nat.add_mul
abbrev bS:=@List.length_drop
abbrev bT:=@List.all_cons
abbrev bU:=@Nat.zero_add
abbrev bV:=@List.getElem?_drop
abbrev bW:=@List.getD_eq_getElem?_getD
abbrev bX:=@List.mem_cons_of_mem
abbrev bY:=@List.mem_filter
abbrev bZ:=@Option.bind_some
abbrev cg:=@List.all_append
abbrev cm:=@List.mem_singleton
abbrev cq:=@List.getElem?_map
abbrev cr:=@List.any_eq_true
abbrev ct:=@List.length_map
abbrev cv:=@List.drop_eq_getElem_cons
abbrev cw:=@List.getElem?_cons_succ
abbrev cA:=@List.find?_eq_none
abbrev cB:=@List.append_assoc
abbrev cC:=@List.mem_of_mem_drop
abbrev cD:=@Nat.add_assoc
abbrev cE:=@Array.getElem?_eq_getElem
abbrev cF:=@List.append_nil
abbrev cG:=@List.take_succ_eq_append_getElem
abbrev cH:=@Array.getElem?_setIfInBounds_ne
abbrev cI:=@Bool.not_eq_true'
abbrev cK:=@List.find?_some
abbrev cL:=@List.mem_cons_self
abbrev cM:=@Nat.add_zero
abbrev cQ:=@Array.ext'
abbrev cR:=@Option.map_some
abbrev cS:=@List.mem_map
abbrev cT:=@List.findIdx_lt_length_of_exists
abbrev cU:=@List.dropWhile_cons
abbrev cV:=@Classical.not_not
abbrev cW:=@List.getElem?_take
abbrev cZ:=@Option.getD_some
abbrev dg:=@List.take_append_drop
abbrev dh:=@List.getElem?_eq_none
abbrev dm:=@List.filter_congr
abbrev dn:=@Bool.false_and
abbrev dr:=@List.getElem?_of_mem
abbrev dw:=@List.filter_append
abbrev dx:=@List.mem_or_eq_of_mem_set
abbrev dy:=@List.takeWhile_cons
abbrev dz:=@Nat.one_mul
abbrev dA:=@Array.getElem?_toList
abbrev dB:=@List.length_singleton
abbrev dD:=@List.cons.injEq
abbrev dF:=@List.length_set
abbrev dG:=@Nat.eq_zero_or_pos
abbrev dH:=@Array.toArray_toList
abbrev dI:=@Nat.lt_or_ge
abbrev dJ:=@Array.getElem?_append_left
abbrev dK:=@Int.le_refl
abbrev dL:=@Classical.choose_spec
abbrev dM:=@Array.getElem?_modify
abbrev dN:=@List.filter_filter
abbrev dO:=@List.mem_append_left
abbrev dP:=@List.ext_getElem?
abbrev dQ:=@List.length_eq_zero_iff
abbrev dR:=@Nat.lt_trichotomy
abbrev dS:=@List.nodup_cons
abbrev dU:=@Array.getElem?_push
abbrev dV:=@List.map_congr_left
abbrev dW:=@List.length_eq_one_iff
abbrev dX:=@List.zip_cons_cons
abbrev dY:=@List.mem_of_mem_take
abbrev dZ:=@List.size_toArray
abbrev ec:=@List.set_append_left
abbrev ef:=@List.getElem_take
abbrev ei:=@List.getElem_drop
abbrev eo:=@Bool.not_false
abbrev ep:=@Array.eq_empty_of_size_eq_zero
abbrev eu:=@Bool.not_eq_true
abbrev ew:=@Nat.mul_comm
abbrev ez:=@List.drop_of_length_le
abbrev eA:=@Option.isSome_some
abbrev eB:=@List.contains_cons
abbrev eC:=@Bool.eq_iff_iff
abbrev eD:=@List.find?_cons
abbrev eE:=@Bool.not_true
abbrev eF:=@UInt8.lt_iff_toNat_lt
abbrev eG:=@List.concat_eq_append
abbrev eH:=@List.findIdx_cons
abbrev eL:=@List.exists_cons_of_ne_nil
abbrev eM:=@Array.toList_setIfInBounds
abbrev eN:=@List.getElem?_append
abbrev eO:=@Nat.pow_le_pow_right
abbrev eP:=@List.getElem_map
abbrev eR:=@Int.natCast_zero
abbrev eU:=@List.getElem_of_mem
abbrev eV:=@Array.getElem?_replicate
abbrev eW:=@List.take_left'
abbrev eX:=@List.count_eq_zero
abbrev eY:=@Nat.lt_of_le_of_lt
abbrev eZ:=@List.map_id
abbrev e9:=@List.set_eq_take_append_cons_drop
abbrev ff:=@List.mem_range
abbrev fh:=@List.getElem?_set
abbrev fm:=@Int.toNat_natCast
abbrev fq:=@List.takeWhile_sublist
abbrev fu:=@List.map_map
abbrev fA:=@List.pairwise_map
abbrev fB:=@List.take_add_one
abbrev fD:=@List.takeWhile_append_dropWhile
abbrev fE:=@List.set_append_right
abbrev fF:=@Array.getElem?_append
abbrev fG:=@Nat.lt_succ_self
abbrev fH:=@List.eq_nil_iff_forall_not_mem
abbrev fJ:=@List.drop_length
abbrev fK:=@Bool.or_false
abbrev fL:=@Bool.false_or
abbrev fM:=@Bool.or_eq_false_iff
abbrev fN:=@List.take_append_of_le_length
abbrev fQ:=@Array.getElem?_setIfInBounds
abbrev fS:=@UInt8.toNat_inj
abbrev fT:=@List.getElem?_range
abbrev fU:=@List.length_pos_iff
abbrev fV:=@List.filter_sublist
abbrev fW:=@Nat.le_total
abbrev fZ:=@Nat.zero_mul
abbrev ga:=@Option.isSome_none
abbrev gh:=@Nat.testBit_or
abbrev gj:=@List.perm_ext_iff_of_nodup
abbrev gm:=@Nat.mod_two_eq_zero_or_one
abbrev gq:=@Array.size_append
abbrev gu:=@List.nodup_append
abbrev gv:=@Nat.or_lt_two_pow
abbrev gw:=@Bool.true_and
abbrev gA:=@Nat.add_right_cancel_iff
abbrev gB:=@List.take_length
abbrev gC:=@Nat.mod_lt
abbrev gD:=@List.head?_eq_getElem?
abbrev gE:=@Nat.ne_of_lt
abbrev gF:=@Option.map_eq_some_iff
abbrev gG:=@Nat.succ_mul
abbrev gH:=@List.find?_cons_of_neg
abbrev gI:=@List.dropWhile_sublist
abbrev gJ:=@List.filter_eq_nil_iff
abbrev gK:=@List.length_pos_of_mem
abbrev gL:=@List.not_of_lt_findIdx
abbrev gM:=@List.map_set
abbrev gN:=@Nat.min_eq_left
abbrev gO:=@List.head?_cons
abbrev gP:=@Nat.testBit_and
abbrev gQ:=@List.contains_iff_mem
abbrev gR:=@Array.getElem?_mapIdx
abbrev gT:=@List.eq_nil_or_concat
abbrev gU:=@List.Pairwise.sublist
abbrev gV:=@Nat.div_lt_of_lt_mul
abbrev gW:=@List.mapM_cons
abbrev gX:=@Array.getElem_toList
abbrev gY:=@List.replicate_succ'
abbrev gZ:=@Nat.min_def
abbrev ia:=@List.take_zero
abbrev ic:=@List.foldl_nil
abbrev ig:=@List.Pairwise.filter
abbrev ij:=@List.mem_erase_of_ne
abbrev iq:=@List.findIdx_getElem
abbrev ir:=@List.take_take
abbrev iu:=@List.nodup_nil
abbrev iw:=@List.tail_cons
abbrev iy:=@List.pairwise_append
abbrev iC:=@Nat.eq_of_testBit_eq
abbrev iD:=@Nat.pow_lt_pow_right
abbrev iE:=@List.all_nil
abbrev iF:=@Nat.min_self
abbrev iG:=@List.all_map
namespace Go.Li
variable{C α:Type}
structure Ca(C α:Type) where
 run:C->C×α
 b:Nat
 e:Option (Nat×α)
structure SC(l:List (Ca C α))(f:C)(s:aB)(i:Nat)(c:Ca C α):Prop where
 at_:l[i]? = some c
 no:s i=false
 pre:∀(j:Nat) d e,l[j]? = some d->d.e=some e->e.1<c.b->s j=true
 PT:∀e,c.e=some e->(c.run f).2=e.2
def put(s:aB)(i:Nat):Nat->Bool:=λj=>s j||decide (j=i)
def Whole(l:List (Ca C α))(s:aB):Prop:=∀(i:Nat) c,l[i]? = some c->c.e.isSome=true->s i=true
inductive vT(l:List (Ca C α)):C->(Nat->Bool)->Prop
 |fin {f s}:Whole l s->vT l f s
 |step {f s} (i:Nat) (c:Ca C α):SC l f s i c->vT l (c.run f).1 (put s i)->vT l f s
def vT.cases{l:List (Ca C α)}{f:C}{s:aB}(h:vT l f s)(b:¬Whole l s):∃i c,SC l f s i c/\vT l (c.run f).1 (put s i):=by
 cases h with
 |fin h=>exact absurd h b
 |step i c h1 h2=>grind
inductive Re(l:List (Ca C α))(f0:C):C->(Nat->Option α)->Prop
 |nil:Re l f0 f0 (λ_=>none)
 |step {f s} (i:Nat) (c:Ca C α):Re l f0 f s->SC l f (λj=>(s j).isSome) i c->Re l f0 (c.run f).1 (λj=>if j=i then some (c.run f).2 else s j)
def Fi(s:Nat->Option α)(i:Nat)(a:α):(λj=>(if j=i then some a else s j).isSome)=put (λj=>(s j).isSome) i:=by
 funext j
 grind[put]
def Re.lin{l:List (Ca C α)}{b f:C}{s:Nat->Option α}(h:Re l b f s):vT l f (λj=>(s j).isSome)->vT l b (λ_=>false):=by
 induction h with
 |nil=>exact id
 |step i c h o n =>
  intro hl;rw[Fi]at hl;exact n (.step i c o hl)
def Re.more{l:List (Ca C α)}{r f:C}{s:Nat->Option α}(h:Re l r f s){n:Ca C α}(z:n.e=none):Re (l++[n]) r f s:=by
 induction h with
 |nil=>exact .nil
 |step i c h b v =>
  refine .step i c v ⟨?_,b.no,λj d e q y o=>?_,b.PT⟩
  .rw[aI (aA.1 b.at_).1];exact b.at_
  .by_cases x:j<l.length
   .rw[aI x]at q;exact b.pre j d e q y o
   grind
def Re.ends{l:List (Ca C α)}{F f:C}{s:Nat->Option α}(h:Re l F f s){k:Nat}{r:Ca C α}(hk:l[k]? = some r){t:Nat}{a:α}(G:∀(j:Nat) d,l[j]? = some d->d.b<=t):
  (∀a',s k=some a'->a'=a)->Re (l.set k {r with e:=some (t,a)}) F f s:=by
 have q:=(aA.1 hk).1
 induction h with
 |nil=>exact λ_=>.nil
 | @step f s i c h o z =>
  intro K
  have n:∀(j:Nat) d e,(l.set k {r with e:=some (t,a)})[j]? = some d->d.e=some e->e.1<c.b->(s j).isSome=true:=by
   intro j d e v E x
   by_cases A:j=k
   .subst A;rw[aP q]at v;cases v;cases E;have:=G i c o.at_
    grind
   .rw[aH (λh=>A h.symm)]at v
    exact o.pre j d e v E x
  by_cases y:i=k
  .subst y;have H:r=c:=bz (hk.symm.trans o.at_);subst H;refine Re.step i {r with e:=some (t,a)} (z λa' h'=>?_) ⟨aP q,o.no,n,?_⟩
   .have:=o.no
    grind
   grind
  .refine Re.step i c (z λa' h'=>K a' ((if_neg (λh=>y h.symm)).trans h')) ⟨?_,o.no,n,o.PT⟩
   rw[aH (λh=>y h.symm)];exact o.at_
variable{C α N:Type}
structure Ev(N α:Type) where
 vO:Bool
 c:Nat
 op:N
 PT:α
structure Cs(C α:Type) where
 k:Nat
 cs:List (Ca C α)
 last:Nat->Nat
def up{β:Type}(f:Nat->β)(c:Nat)(x:β):Nat->β:=λj=>if j=c then x else f j
@[simp]theorem ng{β:Type}(f:Nat->β)(c:Nat)(x:β):up f c x c=x:=if_pos rfl
theorem mo{β:Type}(f:Nat->β){c j:Nat}(h:j≠c)(x:β):up f c x j=f j:=if_neg h
def rR{β:Type}{l:List β}{i:Nat}{x:β}{g:β->β}(h:l[i]? = some x):l.modify i g=l.set i (g x):=by
 apply dP
 grind
variable(D:N->C->C×α)
def oZ(s:Cs C α)(x:Ev N α):Cs C α :=
 if x.vO=true then⟨s.k+1,s.cs++[⟨D x.op,s.k,none⟩],up s.last x.c s.cs.length⟩
 else⟨s.k+1,s.cs.modify (s.last x.c) λc=>{c with e:=some (s.k,x.PT)},s.last⟩
def calls(l:List (Ev N α)):Cs C α:=l.foldl (oZ D) ⟨0,[],λ_=>0⟩
theorem lg(l:List (Ev N α))(x:Ev N α):calls D (l++[x])=oZ D (calls D l) x:=by
 unfold calls
 grind
theorem sg(l:List (Ev N α)):(calls D l).k=l.length:=by
 have:∀(l:List (Ev N α))(s:Cs C α),(l.foldl (oZ D) s).k=s.k+l.length:=by
  intro l
  induction l with
  |nil=>intro s;rfl
  |cons x l b =>
   grind[List.length_cons,oZ]
 rw[calls,this];simp
abbrev Pe(N α:Type):=Nat->Option (N×Option α)
inductive Rn(f0:C):List (Ev N α)->C->Pe N α->Prop
 |nil:Rn f0 [] f0 (λ_=>none)
 |vO {l f p} (c:Nat) (o:N) (a:α):c<3->p c=none->Rn f0 l f p->Rn f0 (l++[⟨true,c,o,a⟩]) f (up p c (some (o,none)))
 |done {l f p} (c:Nat) (o:N):p c=some (o,none)->Rn f0 l f p->Rn f0 l (D o f).1 (up p c (some (o,some (D o f).2)))
 |fin {l f p} (c:Nat) (o:N) (o':N) (a:α):c<3->p c=some (o,some a)->Rn f0 l f p->Rn f0 (l++[⟨false,c,o',a⟩]) f (up p c none)
structure Tr(f0:C)(l:List (Ev N α))(f:C)(p:Pe N α):Prop where
 ex:∃s,Re (calls D l).cs f0 f s/\(∀(i:Nat) c e,(calls D l).cs[i]? = some c->c.e=some e->(s i).isSome=true)/\(∀i,(calls D l).cs.length<=i->s i=none)/\
  (∀(i:Nat) c,(calls D l).cs[i]? = some c->c.b<l.length)/\
  (∀c o r,p c=some (o,r)->∃k,(calls D l).cs[(calls D l).last c]? = some k/\k.run=D o/\k.e=none/\s ((calls D l).last c)=r)/\
  ∀c d,(p c).isSome=true->(p d).isSome=true->(calls D l).last c=(calls D l).last d->c=d
variable{D}
def Tr.nil(b:C):Tr D b [] b (λ_=>none):=⟨_,.nil,by simp[calls],ai,by simp[calls],ai,ai⟩
def Tr.vO{E:C}{l:List (Ev N α)}{f:C}{p:Pe N α}(h:Tr D E l f p)(c:Nat)(o:N)(a:α)(H:p c=none):Tr D E (l++[⟨true,c,o,a⟩]) f (up p c (some (o,none))):=by
 let⟨s,h1,h2,h3,h4,h5,h6⟩:=h.ex
 have e:calls D (l++[⟨true,c,o,a⟩])=⟨l.length+1,(calls D l).cs++[⟨D o,l.length,none⟩],up (calls D l).last c (calls D l).cs.length⟩:=by
  rw[lg,oZ,if_pos rfl,sg]
 have G:∀d o r,p d=some (o,r)->(calls D l).last d<(calls D l).cs.length:=λd o r v=>by
  grind
 have A:∀ {i:Nat} {k:Ca C α},((calls D l).cs++[⟨D o,l.length,none⟩])[i]? = some k->(calls D l).cs[i]? = some k\/(i=(calls D l).cs.length/\k=⟨D o,l.length,none⟩):=λ{i k} y=>by
  grind
 refine⟨s,?_⟩;rw[e];refine⟨h1.more rfl,λi k e y K=>?_,λi y=>h3 i (by simp at y;omega),λi k y=>?_,λd o' r v=>?_,λd z v q x=>?_⟩
 .grind
 .grind
 .by_cases n : d = c
  .simp_all
  .rw[mo _ n]at v;simp only[mo _ n]
   grind
 .by_cases n : d = c
  .by_cases b : z = c
   .rw[n,b]
   .subst n;rw[mo _ b]at q;simp only[ng,mo _ b]at x;let⟨⟨o',r⟩,F⟩:=bL.1 q
    grind
  .rw[mo _ n]at v
   by_cases b:z=c
   .subst b;simp only[ng,mo _ n]at x;let⟨⟨o',r⟩,F⟩:=bL.1 v
    grind
   .rw[mo _ b]at q;simp only[mo _ n,mo _ b]at x;exact h6 d z v q x
def Tr.done{x:C}{l:List (Ev N α)}{f:C}{p:Pe N α}(h:Tr D x l f p)(c:Nat)(o:N)(v:p c=some (o,none)):Tr D x l (D o f).1 (up p c (some (o,some (D o f).2))):=by
 let⟨s,h1,h2,h3,h4,h5,h6⟩:=h.ex;let⟨k,hk,y,H,hs⟩:=h5 c o none v;have z:=(aA.1 hk).1;refine⟨λj=>if j=(calls D l).last c then some (k.run f).2 else s j,?_⟩
 rw[<-y];simp only;refine⟨h1.step _ k ⟨hk,by simp[hs],λj d e n q _=>h2 j d e n q,λe q=>by grind⟩,λi d e A n=>?_,λi A=>?_,h4,λd o' r n=>?_,λd K n E F=>?_⟩
 .grind
 .grind
 .by_cases b : d = c
  .subst b;rw[ng]at n
   grind
  .rw[mo _ b]at n
   grind
 .have G:∀ {d:Nat},(up p c (some (o,some (k.run f).2)) d).isSome=true->(p d).isSome=true:=λ{d} n=>by
   by_cases b:d=c
   .rw[b,v];rfl
   .rwa [mo _ b]at n
  grind
def Tr.fin{y:C}{l:List (Ev N α)}{f:C}{p:Pe N α}(h:Tr D y l f p)(c:Nat)(o o':N)(a:α)(E:p c=some (o,some a)):Tr D y (l++[⟨false,c,o',a⟩]) f (up p c none):=by
 let⟨s,h1,h2,h3,h4,h5,h6⟩:=h.ex;let⟨k,hk,H,L,hs⟩:=h5 c o (some a) E;have F:=(aA.1 hk).1
 have e:calls D (l++[⟨false,c,o',a⟩])=⟨l.length+1,(calls D l).cs.set ((calls D l).last c) {k with e:=some (l.length,a)},(calls D l).last⟩:=by
  rw[lg,oZ,if_neg ai,sg]
  congr 1
  exact rR hk
 have x:∀ {i:Nat} {q:Ca C α},((calls D l).cs.set ((calls D l).last c) {k with e:=some (l.length,a)})[i]? = some q->(i≠(calls D l).last c/\(calls D l).cs[i]? = some q)\/(i=(calls D l).last c/\q={k with e:=some (l.length,a)}):=λ{i q} v=>by
  grind
 refine⟨s,?_⟩;rw[e];refine⟨h1.ends hk (λj d n=>Nat.le_of_lt (h4 j d n)) (λa' h'=>by grind),λi q e v A=>?_,λi v=>h3 i (an v),λi q v=>?_,λd z r n=>?_,λd M n G A=>?_⟩
 .grind
 .grind
 .by_cases b : d = c
  .simp_all
  .rw[mo _ b]at n
   grind
 .have K:∀ {d:Nat},(up p c none d).isSome=true->(p d).isSome=true:=λ{d} n=>by
   by_cases b:d=c
   .grind
   .rwa [mo _ b]at n
  grind
def Tr.lin{n:C}{l:List (Ev N α)}{f:C}{p:Pe N α}(h:Tr D n l f p):vT (calls D l).cs n (λ_=>false):=by
 let⟨s,h1,h2,_⟩:=h.ex;refine h1.lin (.fin λi c o b=>?_)
 let⟨e,b⟩:=bL.1 b;exact h2 i c e o b
def Rn.behind{z f1:C}{v:List (Ev N α)}{x:N×Option α}(h0:Tr D z v f1 (up (λ_=>none) 3 (some x))){l:List (Ev N α)}{f:C}{p:Pe N α}(h:Rn D f1 l f p):Tr D z (v++l) f (up p 3 (some x)):=by
 have n:∀(p:Pe N α){c:Nat}(y:Option (N×Option α)),c≠3->up (up p 3 (some x)) c y=up (up p c y) 3 (some x):=λp c y n=>by
  funext j
  unfold up
  grind
 have h3:∀ {l f p},Rn D f1 l f p->p 3=none:=λh=>by
  induction h with
  |nil=>rfl
  |vO c o a n _ _ b=>rw[mo _ af];exact b
  |done c o i _ b =>
   by_cases h:(3:Nat)=c
   .grind
   .rw[mo _ h];exact b
  |fin c o o' a n _ _ b=>rw[mo _ af];exact b
 induction h with
 |nil=>grind
 |vO c o a r i _ b =>
  rw[<-cB,<-n _ _ af]
  exact b.vO c o a (by rw[mo _ af];exact i)
 |done c o i A b =>
  have q:c≠3:=λh=>by grind
  rw[<-n _ _ q];exact b.done c o (by rw[mo _ q];exact i)
 |fin c o o' a r i _ b =>
  rw[<-cB,<-n _ _ af]
  exact b.fin c o o' a (by rw[mo _ af];exact i)
variable{C α Q:Type}
def DI(s:aB)(l:List (Ev Q α)):Nat->Bool:=l.foldl (λs x=>up s x.c x.vO) s
def rk(s:aB):List (Ev Q α)->Prop
 | []=>True
 |x::l=>s x.c = !x.vO/\rk (up s x.c x.vO) l
def qS(l m:List (Ev Q α)):∀s,rk s (l++m)↔rk s l/\rk (DI s l) m:=by
 induction l with
 |nil=>intro s;simp[rk,DI]
 |cons x l b =>
  intro s;simp only[aJ,rk,b,DI,bI,and_assoc]
variable{D:Q->C->C×α}
def Rn.right{v:C}{l:List (Ev Q α)}{f:C}{p:Pe Q α}(h:Rn D v l f p):rk (λ_=>false) l/\(DI (λ_=>false) l=λc=>(p c).isSome)/\∀x∈l,x.c<3:=by
 have r:∀(p:Pe Q α)(c:Nat)(y:Option (Q×Option α)),(λd=>(up p c y d).isSome)=up (λd=>(p d).isSome) c y.isSome:=λp c y=>by
  funext d
  unfold up;split<;>rfl
 induction h with
 |nil=>exact⟨trivial,rfl,ai⟩
 | @vO l f p c o a h3 n i b =>
  refine⟨(qS ..).2 ⟨b.1,?_,trivial⟩,?_,λx q=>?_⟩
  .grind
  .unfold DI at b⊢
   simp_all
  grind
 | @done l f p c o n i b =>
  refine⟨b.1,?_,b.2.2⟩;rw[b.2.1,r]
  funext d
  unfold up
  grind
 | @fin l f p c o o' a h3 n i b =>
  refine⟨(qS ..).2 ⟨b.1,?_,trivial⟩,?_,λx q=>?_⟩
  .grind
  .unfold DI at b⊢
   simp_all
  grind
inductive Sq(D:Q->C->C×α):C->List (Ev Q α)->C->Prop
 |nil {f}:Sq D f [] f
 |snoc {f l g} (c:Nat) (o o':Q) (a':α):Sq D f l g->Sq D f (l++[⟨true,c,o,a'⟩,⟨false,c,o',(D o g).2⟩]) (D o g).1
def Sq.even{f g:C}{l:List (Ev Q α)}(h:Sq D f l g):l.length=2*(l.length / 2)/\rk (λ_=>false) l/\DI (λ_=>false) l=λ_=>false:=by
 induction h with
 |nil=>exact⟨ai,trivial,rfl⟩
 | @snoc l g c o o' a' h b =>
  let⟨h1,h2,h3⟩:=b;refine⟨ak,(qS ..).2 ⟨h2,?_⟩,?_⟩
  .rw[h3];simp[rk]
  .unfold DI at h3⊢;rw[List.foldl_append,h3]
   funext d
   simp only[bI,ic,up]
   grind
def Sq.calls{f g:C}{l:List (Ev Q α)}(h:Sq D f l g):(calls D l).cs.length=l.length / 2/\∀(i:Nat) c,(calls D l).cs[i]? = some c->c.b=2*i/\∃a,c.e=some (2*i+1,a):=by
 induction h with
 |nil=>exact⟨by simp[Li.calls],by simp[Li.calls]⟩
 | @snoc l g c o o' a' h n =>
  let⟨h1,h2⟩:=n;have q:=h.even.1
  have e:(Li.calls D (l++[⟨true,c,o,a'⟩,⟨false,c,o',(D o g).2⟩])).cs=(Li.calls D l).cs++[⟨D o,l.length,some (l.length+1,(D o g).2)⟩]:=by
   rw[show l++[(⟨true,c,o,a'⟩:Ev Q α),⟨false,c,o',(D o g).2⟩]=(l++[⟨true,c,o,a'⟩])++[⟨false,c,o',(D o g).2⟩] by simp,lg,lg]
   simp only[oZ,if_true,aX,if_false,ng,sg];rw[rR (x:=⟨D o,l.length,none⟩) ai]
   simp
  grind
def Sq.lin{f g:C}{l:List (Ev Q α)}(h:Sq D f l g):∀(B:List (Ca C α)),(∀c∈B,l.length<=c.b/\∀e,c.e=some e->l.length<=e.1)->
  (vT ((Li.calls D l).cs++B) f (λ_=>false)↔vT ((Li.calls D l).cs++B) g (λj=>decide (j<l.length / 2))):=by
 induction h with
 |nil =>
  intro B _;simp
 | @snoc l g c o o' a' h F =>
  intro B N;have E:=h.even.1
  have e:(Li.calls D (l++[⟨true,c,o,a'⟩,⟨false,c,o',(D o g).2⟩])).cs=(Li.calls D l).cs++[⟨D o,l.length,some (l.length+1,(D o g).2)⟩]:=by
   rw[show l++[(⟨true,c,o,a'⟩:Ev Q α),⟨false,c,o',(D o g).2⟩]=(l++[⟨true,c,o,a'⟩])++[⟨false,c,o',(D o g).2⟩] by simp,lg,lg]
   simp only[oZ,if_true,aX,if_false,ng,sg];rw[rR (x:=⟨D o,l.length,none⟩) ai]
   simp
  let⟨M,P⟩:=h.calls;have v:(l++[(⟨true,c,o,a'⟩:Ev Q α),⟨false,c,o',(D o g).2⟩]).length=l.length+2:=ai
  rw[v]at N
  rw[e,cB,v,F _ (λk hk=>by
   grind)]
  have n:((Li.calls D l).cs++([⟨D o,l.length,some (l.length+1,(D o g).2)⟩]++B))[l.length / 2]? = some ⟨D o,l.length,some (l.length+1,(D o g).2)⟩:=by
   grind
  have q:put (λj=>decide (j<l.length / 2)) (l.length / 2)=λj=>decide (j<(l.length+2) / 2):=by
   funext j
   unfold put
   grind
  constructor
  .intro z
   let⟨i,k,y,z⟩:=z.cases (λG=>by
    have:=G _ _ n rfl;simp at this)
   have A:=y.no;simp only[decide_eq_false_iff_not]at A;have K:i=l.length / 2:=by
    by_cases L:l.length / 2<i
    .have r:=y.pre _ _ _ n rfl (by
      have hk:=y.at_
      grind)
     simp at r
    .omega
   subst K;have:=y.at_
   grind
  .intro z;refine .step _ _ ⟨n,ai,λj d e O E H=>?_,λe E=>by cases E;rfl⟩ (by rw[q];exact z)
   grind
def left(m:Nat)(s:aB):Nat:=((List.range m).filter λi=>!s i).length
def Nv{m i:Nat}{s:aB}(h:i<m)(hs:s i=false):left m (put s i)+1=left m s:=by
 induction m with
 |zero=>omega
 |succ m b =>
  grind[left,List.range_succ,List.length_append,List.range,List.filter_congr,put]
def vT.wrong{P:Nat->C->Prop}{l:List (Ca C α)}{b i:Nat}{c:Ca C α}{e:Nat×α}(r:l[i]? = some c)(q:c.e=some e)(A:∀n f (j:Nat) d,n<b->l[j]? = some d->P n f->P (n+1) (d.run f).1)
  (y:∀n f,n<b->P n f->(c.run f).2≠e.2) {f:C} {s:aB} (h:vT l f s):∀n,P n f->n+left l.length s<=b->s i=false->False:=by
 induction h with
 |fin h =>
  intro n _ _ hs;have:=h i c r (by rw[q];rfl)
  grind
 | @step f s j d o _ x =>
  intro n v E hs;have z:=(aA.1 o.at_).1;have hl:=Nv z o.no
  by_cases h:j=i
  .subst h;have h1:d=c:=bz (o.at_.symm.trans r);subst h1;exact y n f af v (o.PT e q)
  .exact x (n+1) (A n f j d af o.at_ v) af (by simp[put,hs];grind)
variable{A α C:Type}{D:C->A->A×α}
def ER{β:Type}{p:List β->Prop}(h0:p [])(h1:∀l a,p l->p (l++[a]))(l:List β):p l:=by
 have:∀l:List β,p l.reverse:=by
  intro l
  induction l with
  |nil=>exact h0
  |cons a l b=>grind
 rw[<-List.reverse_reverse l];exact this _
def Pm(D:C->A->A×α)(l:List (Ev C α))(c:Ca A α):Prop:=(∃x,l[c.b]? = some x/\x.vO=true/\c.run=D x.op)/\∀e,c.e=some e->∃x,l[e.1]? = some x/\x.vO=false/\x.PT=e.2
def Pm.more{l:List (Ev C α)}{c:Ca A α}(h:Pm D l c)(k:List (Ev C α)):Pm D (l++k) c:=by
 have g:∀ {i:Nat} {x:Ev C α},l[i]? = some x->(l++k)[i]? = some x:=λ{i x} b=>by grind
 let⟨⟨x,h1,h2⟩,h3⟩:=h;exact⟨⟨x,g h1,h2⟩,λe n=>by grind⟩
def Bv(l:List (Ev C α)):(∀c∈(calls D l).cs,Pm D l c)/\(calls D l).cs.length<=l.length:=by
 refine ER (p:=λl=>(∀c∈(calls D l).cs,Pm D l c)/\(calls D l).cs.length<=l.length) ⟨by simp[calls],by simp[calls]⟩ (λl x n=>?_) l
 let⟨n,hl⟩:=n;rw[lg,oZ];cases r:x.vO with
 |true =>
  rw[if_pos rfl];refine⟨λc h=>?_,ak⟩
  rcases bh.1 h with h | h
  .exact(n c h).more _
  .rw[cm.1 h];refine⟨⟨x,?_,r,rfl⟩,λe o=>by cases o⟩
   grind[sg]
 |false =>
  rw[if_neg ai]
  refine⟨λc h=>?_,ak⟩
  simp only at h;let⟨i,b⟩:=List.mem_iff_getElem?.1 h;rw[List.getElem?_modify]at b;cases hg:(calls D l).cs[i]? with
  |none=>rw[hg]at b;cases b
  |some d =>
   rw[hg]at b;have q:=n d (bK hg);simp only[Option.map_eq_map,cR,aZ]at b;split at b
   .subst b;refine⟨(q.more _).1,λe o=>?_⟩
    cases o;simp only[sg]
    grind
   .subst b;exact q.more _
def Ic{l:List (Ev C α)}:rk (λ_=>false) l->∀c,DI (λ_=>false) l c=true->(calls D l).last c<(calls D l).cs.length:=by
 refine ER (p:=λl=>rk (λ_=>false) l->∀c,DI (λ_=>false) l c=true->(calls D l).last c<(calls D l).cs.length) (λ_ c h=>by simp[DI]at h) (λl x o b c n=>?_) l
 obtain⟨h1,h2,-⟩:=(qS ..).1 b
 have i:DI (λ_=>false) (l++[x])=up (DI (λ_=>false) l) x.c x.vO:=by
  unfold DI
  grind
 rw[i]at n;rw[lg,oZ];cases q:x.vO with
 |true =>
  rw[if_pos rfl]
  grind[List.length_append,List.length_cons,List.length_nil,ng,mo]
 |false =>
  rw[if_neg ai]
  grind[List.length_modify,ng,mo]
def SV{l:List (Ev C α)}(h:rk (λ_=>false) l){i:Nat}(b:i<l.length):DI (λ_=>false) (l.take i) l[i].c = !l[i].vO/\rk (λ_=>false) (l.take i):=by
 have e:l=l.take i++l[i]::l.drop (i+1):=by simp_all
 rw[e]at h;obtain⟨h1,h2,-⟩:=(qS ..).1 h;exact⟨h2,h1⟩
def Ib{l:List (Ev C α)}{i:Nat}(b:i<l.length):calls D (l.take (i+1))=oZ D (calls D (l.take i)) l[i]:=by
 grind[List.take_add_one,List.getElem?_eq_getElem,lg]
variable{C α N:Type}{D:N->C->C×α}
def wq(l:List (Ev N α)):(calls D l).cs.length=(l.map λx=>x.vO).count true:=by
 refine ER (p:=λl=>(calls D l).cs.length=(l.map λx=>x.vO).count true) rfl (λl x b=>?_) l
 grind[lg,oZ]
def zi{c:Nat}:∀ {l:List (Ev N α)},(∀x∈l,x.c≠c)->∀s,DI s l c=s c
 | [],_,_=>rfl
 |x::l,hl,s=>by
  have:=zi (l:=l) (λy b=>hl y (bX _ b)) (up s x.c x.vO)
  unfold DI at this⊢;rw[bI,this,mo _ (λe=>hl x cL e.symm)]
def vb{P:az}:∀ {l:List (Ev N α)},(∀x∈l,P x.c)->∀ {s s':aB},(∀c,P c->s c=s' c)->rk s l->rk s' l
 | [],_,_,_,_,_=>trivial
 |x::l,hl,s,s',h,⟨h1,h2⟩=>by
  refine⟨by grind,vb (P:=P) (λy b=>hl y (bX _ b)) (λc i=>?_) h2⟩
  unfold up
  grind
abbrev p9(o o':N)(a a':α)(l:List (Ev N α)):List (Ev N α):=[⟨true,3,o,a⟩]++l++[⟨false,3,o',a'⟩]
def vU{l:List (Ev N α)}(h:rk (λ_=>false) l)(hl:∀x∈l,x.c<3)(o o':N)(a a':α):rk (λ_=>false) (p9 o o' a a' l):=by
 rw[qS,qS];refine⟨⟨⟨rfl,trivial⟩,vb (P:=λc=>c<3) hl (λc i=>?_) h⟩,?_,trivial⟩
 .show false=up (λ_=>false) 3 true c
  rw[mo _ af]
 .show DI (λ_=>false) ([⟨true,3,o,a⟩]++l) 3 = !false
  unfold DI;rw[List.foldl_append];exact(zi (c:=3) (λx b=>by have:=hl x b;omega) (up (λ_=>false) 3 true)).trans (ng ..)
def ZR{β:Type}(f:Nat->β)(c:Nat)(x y:β):up (up f c x) c y=up f c y:=by
 funext j
 unfold up;split<;>rfl
section
variable{f0 f:C}{l:List (Ev N α)}{p:Pe N α}
def Rn.first(h:Rn D f0 l f p)(o o':N)(a:α)(hs:(D o f0).1=f0):vT (calls D (p9 o o' a (D o f0).2 l)).cs f0 (λ_=>false):=by
 have h0:Tr D f0 [⟨true,3,o,a⟩] f0 (up (λ_=>none) 3 (some (o,some (D o f0).2))):=by
  have h1:=((Tr.nil (D:=D) f0).vO 3 o a rfl).done 3 o (ng ..);rw[hs,ZR]at h1;exact h1
 exact((h.behind h0).fin 3 o o' _ (ng ..)).lin
def Rn.last(h:Rn D f0 l f p)(o o':N)(a:α):vT (calls D (p9 o o' a (D o f).2 l)).cs f0 (λ_=>false) :=
 (((h.behind ((Tr.nil (D:=D) f0).vO 3 o a rfl)).done 3 o (ng ..)).fin 3 o o' _ (ng ..)).lin
def Tr.Gz(h:Tr D f0 l f p){c:Nat}{o:N}{r:Option α}(n:p c=some (o,r))(o':N)(a:α):∃(i:Nat) (k:Ca C α) (t:Nat),(calls D (l++[⟨false,c,o',a⟩])).cs[i]? = some k/\k.run=D o/\k.e=some (t,a):=by
 let⟨s,_,_,_,_,h5,_⟩:=h.ex;let⟨k,hk,b,_⟩:=h5 c o r n;refine⟨(calls D l).last c,{k with e:=some (l.length,a)},l.length,?_,b,rfl⟩
 rw[lg,oZ,if_neg ai,sg]
 grind
def Rn.bad(h:Rn D f0 l f p)(o o':N)(a a':α){P:Nat->C->Prop}{b:Nat}(r:P 0 f0)(L:(calls D (p9 o o' a a' l)).cs.length<=b)(M:∀n f x,n<b->x∈[⟨true,3,o,a⟩]++l->x.vO=true->P n f->P (n+1) (D x.op f).1)
  (H:∀n f,n<b->P n f->(D o f).2≠a'):¬vT (calls D (p9 o o' a a' l)).cs f0 (λ_=>false):=by
 intro F;let⟨i,k,t,hk,K,z⟩:=(h.behind ((Tr.nil (D:=D) f0).vO 3 o a rfl)).Gz (ng ..) o' a';refine F.wrong (P:=P) (b:=b) hk z (λn f j d y A E=>?_) (λn f y E=>by grind) 0 r ?_ rfl
 .let⟨⟨x,G,v,q⟩,_⟩:=(Bv (D:=D) _).1 d (bK A);rw[q]
  grind
 .have h0:∀m (s:aB),left m s<=m:=λm s=>bF (bt _ _) ai
  grind
end
end Go.Li
