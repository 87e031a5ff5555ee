/- Part of the proof that TopPassedCard holds. -/
import Derived.KernelRfl
set_option linter.all false
theorem aa{p:Prop}(h:p:=by omega):p:=h
theorem af{p:Prop}(h:p:=by decide):p:=h
theorem ah{p:Prop}(h:p:=by simp):p:=h
theorem ai{p:Prop}(h:p:=by kernel_rfl):p:=h
theorem aj{p:Prop}(h:p:=by simp;omega):p:=h
theorem aq{p:Prop}(h:p:=by simp(disch:=omega)):p:=h
theorem an{a b:Prop}(h:a)(e:a=b:=by simp):b:=e▸h
abbrev au:=List UInt8
abbrev ax:=List Nat
abbrev ay:=List Int
abbrev az:=Nat->Prop
abbrev aA:=Nat->Nat
abbrev aB:=Nat->Bool
abbrev aC:=List (Nat×Nat)
abbrev aD:=List (Nat×Nat×Nat)
abbrev aF:=@List.getElem?_eq_some_iff
abbrev aG:=@List.getElem?_eq_getElem
abbrev aH:=@Bool.and_eq_true
abbrev aI:=@Option.bind_eq_some_iff
abbrev aJ:=@List.getElem?_set_ne
abbrev aK:=@List.getElem?_append_left
abbrev aL:=@List.length_append
abbrev aM:=@List.mem_singleton
abbrev aN:=@Nat.le_refl
abbrev aO:=@List.all_eq_true
abbrev aP:=@List.mem_cons
abbrev aQ:=@List.length_cons
abbrev aR:=@List.mem_of_getElem?
abbrev aS:=@List.getElem_mem
abbrev aT:=@List.foldl_cons
abbrev aU:=@Bool.false_eq_true
abbrev aV:=@List.getElem?_append_right
abbrev aW:=@Array.getElem?_eq_some_iff
abbrev aX:=@List.mem_append
abbrev aY:=@List.eq_nil_of_length_eq_zero
abbrev aZ:=@List.getElem?_set_self
abbrev bh:=@List.pairwise_cons
abbrev bp:=@Option.some.injEq
abbrev bq:=@List.length_nil
abbrev br:=@List.take_of_length_le
abbrev bt:=@List.mem_cons_of_mem
abbrev bu:=@List.mem_cons_self
abbrev bw:=@Option.elim_some
abbrev bx:=@List.mem_map
abbrev bz:=@List.getElem?_cons_zero
abbrev bB:=@List.nil_append
abbrev bC:=@List.take_succ_eq_append_getElem
abbrev bD:=@Nat.mul_le_mul_right
abbrev bE:=@Nat.zero_add
abbrev bF:=@List.map_cons
abbrev bG:=@List.getElem?_cons_succ
abbrev bH:=@List.all_cons
abbrev bJ:=@Option.map_some
abbrev bK:=@List.cons_append
abbrev bL:=@List.length_set
abbrev bM:=@List.length_take
abbrev bN:=@List.getElem?_toArray
abbrev bO:=@Option.getD_some
abbrev bP:=@Array.getD_eq_getD_getElem?
abbrev bQ:=@List.map_nil
abbrev bR:=@Nat.add_mul
abbrev bS:=@Bool.or_eq_true
abbrev bT:=@Nat.lt_of_lt_of_le
abbrev bU:=@List.getElem?_drop
abbrev bV:=@List.getD_eq_getElem?_getD
abbrev bW:=@List.getElem?_map
abbrev bX:=@Option.bind_some
abbrev bY:=@List.pairwise_iff_getElem
abbrev bZ:=@List.getElem_range
abbrev b9:=@List.getElem?_eq_none
abbrev cg:=@List.mem_filter
abbrev cm:=@List.mem_of_mem_take
abbrev cq:=@List.length_drop
abbrev cr:=@List.length_filter_le
abbrev ct:=@Nat.add_zero
abbrev cu:=@Option.some.inj
abbrev cv:=@Bool.not_eq_true'
abbrev cz:=@Nat.add_assoc
abbrev cA:=@List.mem_of_mem_drop
abbrev cB:=@List.mem_append_left
abbrev cC:=@List.getElem?_take
abbrev cD:=@Array.getElem?_setIfInBounds_ne
abbrev cE:=@Array.getElem?_eq_getElem
abbrev cF:=@List.append_assoc
abbrev cG:=@Nat.lt_or_ge
abbrev cH:=@Nat.zero_le
abbrev cI:=@List.mem_iff_getElem
abbrev cK:=@Option.elim_none
abbrev cL:=@Classical.not_not
abbrev cM:=@Nat.eq_zero_or_pos
abbrev cQ:=@Nat.le_trans
abbrev cR:=@Array.getElem?_append_left
abbrev cS:=@List.map_congr_left
abbrev cT:=@Classical.byContradiction
abbrev cU:=@List.drop_eq_getElem_cons
abbrev cV:=@List.length_map
abbrev cW:=@Int.natCast_zero
abbrev cZ:=@List.map_append
abbrev dg:=@List.nodup_cons
abbrev dh:=@List.all_nil
abbrev dm:=@List.cons.injEq
abbrev dr:=@List.ext_getElem?
abbrev dw:=@List.take_append_of_le_length
abbrev dx:=@List.mem_of_find?_eq_some
abbrev dy:=@List.find?_eq_none
abbrev dz:=@List.append_nil
abbrev dA:=@Option.isSome_iff_exists
abbrev dB:=@List.take_length
abbrev dD:=@List.filter_cons
abbrev dF:=@List.take_append_drop
abbrev dG:=@List.mem_append_right
abbrev dH:=@List.findIdx_lt_length_of_exists
abbrev dI:=@Array.ext'
abbrev dJ:=@List.getElem?_of_mem
abbrev dK:=@List.map_set
abbrev dL:=@Nat.one_mul
abbrev dM:=@List.length_singleton
abbrev dN:=@Bool.and_true
abbrev dO:=@List.of_mem_zip
abbrev dP:=@Nat.mod_lt
abbrev dQ:=@Array.toArray_toList
abbrev dR:=@List.getElem?_set
abbrev dS:=@List.length_eq_one_iff
abbrev dU:=@List.length_range
abbrev dV:=@List.foldl_append
abbrev dW:=@List.getElem_of_mem
abbrev dX:=@List.length_pos_iff
abbrev dY:=@List.filter_eq_self
abbrev dZ:=@Nat.min_eq_left
abbrev ek:=@List.find?_some
abbrev en:=@Classical.choose_spec
abbrev ey:=@Array.getElem?_toList
abbrev eC:=@Array.getElem?_modify
abbrev eD:=@List.set_append_right
abbrev eE:=@Bool.or_eq_false_iff
abbrev eF:=@List.drop_append_of_le_length
abbrev eG:=@Int.toNat_natCast
abbrev eH:=@List.length_eq_zero_iff
abbrev eN:=@Nat.add_sub_cancel_left
abbrev eO:=@List.find?_cons
abbrev eP:=@Bool.true_and
abbrev eR:=@Bool.false_and
abbrev eT:=@List.mem_range
abbrev eV:=@List.filter_append
abbrev eW:=@List.foldl_nil
abbrev eX:=@UInt8.lt_iff_toNat_lt
abbrev eY:=@List.range_succ
abbrev eZ:=@List.size_toArray
abbrev e9:=@List.findIdx_cons
abbrev fm:=@List.pairwise_append
abbrev fq:=@List.nodup_append
abbrev fu:=@List.getElem?_take_of_lt
abbrev fz:=@List.eraseIdx_eq_take_drop_succ
abbrev fA:=@Array.getElem?_push
abbrev fB:=@List.dropWhile_cons
abbrev fD:=@List.any_eq_true
abbrev fE:=@List.mem_flatten
abbrev fF:=@List.map_id
abbrev fG:=@Int.le_refl
abbrev fH:=@Nat.le_succ
abbrev fJ:=@List.getLast?_eq_some_getLast
abbrev fK:=@Nat.mul_comm
abbrev fL:=@List.drop_of_length_le
abbrev fM:=@List.length_pos_of_mem
abbrev fN:=@List.not_of_lt_findIdx
abbrev fQ:=@List.all_append
abbrev fS:=@Bool.false_or
abbrev fT:=@List.map_take
abbrev fU:=@Bool.and_self
abbrev fV:=@List.concat_eq_append
abbrev fW:=@List.getElem_take
abbrev fZ:=@Nat.lt_trichotomy
abbrev ga:=@List.exists_cons_of_ne_nil
abbrev gh:=@Bool.not_false
abbrev gi:=@List.set_append_left
abbrev gj:=@Int.fdiv_eq_ediv_of_nonneg
abbrev gm:=@List.findIdx_getElem
abbrev gq:=@List.take_take
abbrev gu:=@Int.tmod_eq_emod_of_nonneg
abbrev gw:=@List.getElem_map
abbrev gy:=@List.mem_or_eq_of_mem_set
abbrev gz:=@List.getElem?_range
abbrev gA:=@Bool.not_true
abbrev gC:=@Bool.or_false
abbrev gD:=@List.getElem_append_left
abbrev gE:=@List.length_erase_of_mem
abbrev gF:=@UInt8.toNat_inj
abbrev gG:=@Nat.testBit_or
abbrev gH:=@Nat.le_total
abbrev gI:=@Nat.le_of_lt
abbrev gJ:=@List.takeWhile_sublist
abbrev gL:=@List.map_map
abbrev gM:=@List.findIdx_le_length
abbrev gN:=@List.find?_map
abbrev gO:=@List.flatten_cons
abbrev gP:=@Bool.eq_false_iff
abbrev gQ:=@List.takeWhile_append_dropWhile
abbrev gR:=@List.eq_nil_or_concat
abbrev gT:=@List.eraseIdx_sublist
abbrev gU:=@Array.eq_empty_of_size_eq_zero
abbrev gV:=@List.not_mem_nil
abbrev gW:=@List.eq_nil_iff_forall_not_mem
abbrev gX:=@List.drop_length
abbrev gY:=@Option.getD_none
abbrev ia:=@List.map_drop
abbrev ic:=@List.mem_erase_of_ne
abbrev ig:=@Option.map_none
abbrev ij:=@List.head?_cons
abbrev iq:=@Int.toNat_of_nonneg
abbrev ir:=@List.takeWhile_cons
abbrev iu:=@List.take_succ_cons
abbrev iw:=@Bool.or_true
abbrev iy:=@Array.toList_setIfInBounds
abbrev iC:=@List.zip_cons_cons
abbrev iD:=@List.tail_cons
abbrev iE:=@List.length_eraseIdx_of_lt
abbrev iF:=@List.extract_eq_take_drop
abbrev iG:=@List.getElem_append_right
abbrev iH:=@List.getElem?_eq_none_iff
abbrev iI:=@Decidable.byContradiction
abbrev iJ:=@Array.size_append
abbrev iK:=@List.pairwise_map
abbrev iL:=@List.getElem_drop
abbrev iM:=@Nat.lt_irrefl
abbrev iN:=@Nat.lt_succ_self
abbrev iO:=@Int.max_eq_right
abbrev iP:=@List.ext_getElem
abbrev iQ:=@List.getElem_zip
abbrev iR:=@List.head?_eq_getElem?
abbrev iS:=@Option.map_eq_some_iff
abbrev iT:=@List.getElem_cons_succ
abbrev iU:=@List.find?_cons_of_neg
abbrev iV:=@List.dropWhile_sublist
abbrev iW:=@List.filter_eq_nil_iff
abbrev iX:=@Int.natCast_one
abbrev iY:=@Int.max_eq_left
abbrev iZ:=@Array.getElem?_append
abbrev ja:=@List.singleton_append
abbrev jb:=@List.Pairwise.sublist
abbrev jc:=@List.set_getElem_self
abbrev jd:=@List.countP_mono_left
abbrev je:=@Nat.div_lt_of_lt_mul
abbrev jf:=@List.mapM_cons
abbrev jg:=@Array.getElem_toList
abbrev jh:=@List.getElem?_append
abbrev ji:=@Nat.min_def
abbrev jk:=@List.replicate_succ'
abbrev jl:=@List.take_zero
abbrev jm:=@List.Pairwise.filter
abbrev jo:=@List.reverse_reverse
abbrev jq:=@List.any_cons
abbrev jr:=@Nat.not_lt
abbrev js:=@Nat.sub_zero
abbrev jt:=@Int.le_total
abbrev jv:=@Nat.sub_self
abbrev jw:=@Nat.min_self
abbrev jx:=@Nat.mul_one
namespace Go.Cr
structure Mg where
 fr:Int
 to:Int
 kind:Int
 fn:Bool
 oU:ay
 fd:Bool
 data:au
structure De where
 id:Int
 fg:Bool
 jN:ay
 fp:Bool
 lu:List au
structure Ca where
 de:De
 sure:Bool
 fh:Bool
 heard:ay
structure Bo where
 id:Int
 next:Int
 fc:Bool
 cases:List Ca
structure Rd where
 id:Int
 path:au
structure Pt where
 id:Int
 fr:Bool
 ready:List Rd
 fd:Bool
 did:ay
structure Wd where
 bs:List Bo
 ps:List Pt
 jQ:List Mg
 jE:List De
 did:List (Bool×ay)
def lF(fr to kind id:Int):Mg:=⟨fr,to,kind,true,[id],true,[]⟩
def yq(fr to id:Int)(path:au):Mg:=⟨fr,to,1,true,[id],false,path⟩
def tu(b:Bo)(d:De)(k:Int):List Mg:=d.jN.map λg=>lF b.id g k d.id
def qo(l:ay)(x:Int):Nat:=l.findIdx λy=>decide (x<=y)
def yR(l:ay)(x:Int):ay:=l.take (qo l x)++x::l.drop (qo l x)
def rO(c:Ca)(g:Int):Bool:=if g∈c.heard then c.fh else false
def lH(l:ay)(g:Int):ay:=if g∈l then l else yR l g
def mb(b:Bo)(id:Int):Nat:=b.cases.findIdx λc=>decide (c.de.id=id)
def oP(b:Bo)(l:List Ca):Bo:=⟨b.id,b.next,false,l⟩
def GO(b:Bo)(i:Nat)(c:Ca)(g k:Int):Bo×List Mg :=
 if c.sure=true then
  if k=3 then(oP b b.cases,[])
  else if k=5 then
   if (lH c.heard g).length=c.de.jN.length then(oP b (b.cases.eraseIdx i),[])else(oP b (b.cases.set i {c with fh:=rO c g,heard:=lH c.heard g}),[])
  else(oP b b.cases,[lF b.id g 4 c.de.id])
 else
  if k=3 then(oP b (b.cases.eraseIdx i),tu b c.de 6)
  else if k=2 then
   if (lH c.heard g).length=c.de.jN.length then(oP b (b.cases.set i {c with sure:=true,fh:=true,heard:=[]}),tu b c.de 4)else(oP b (b.cases.set i {c with fh:=rO c g,heard:=lH c.heard g}),[])
  else(oP b b.cases,[])
def qY(b:Bo)(m:Mg):Bo×List Mg :=
 if m.to=b.id/\m.oU.length=1/\(m.kind=2\/m.kind=3\/m.kind=5\/m.kind=7)then
  match b.cases[mb b (m.oU.headD 0)]? with
  |none=>if m.kind=2\/m.kind=7 then(b,[lF b.id m.fr 6 (m.oU.headD 0)])else(b,[])
  |some c=>if m.fr∈c.de.jN then GO b (mb b (m.oU.headD 0)) c m.fr m.kind else(b,[])
 else(b,[])
def qv(b:Bo)(c:Ca)(g:Int)(p:au):List Mg:=if g∈c.heard then[]else if c.sure=true then[lF b.id g 4 c.de.id]else[yq b.id g c.de.id p]
def pM(b:Bo)(c:Ca):List Mg:=((c.de.jN.zip c.de.lu).map λx=>qv b c x.1 x.2).flatten
def lR(b:Bo):List Mg:=(b.cases.map (pM b)).flatten
def Co(b:Bo)(id:Int):Bo×List Mg:=match b.cases[mb b id]? with
 |none=>(b,[])
 |some c=>if c.sure=true then(b,[])else(oP b (b.cases.eraseIdx (mb b id)),tu b c.de 6)
def CC(b:Bo):Bo:=oP b (b.cases.filter λc=>c.sure)
section
variable(jO:au->Bool)(jD:au->au->Bool)
def W6(l:ay)(i:Nat):Bool:=decide (0<=(l[i]?).getD 0/\(l[i]?).getD 0<8)&&(decide (i=0)||decide ((l[i-1]?).getD 0<(l[i]?).getD 0))
def yD(l:ay):Bool:=(List.range l.length).all (W6 l)
def sM(b:Bo)(jN:ay)(lu:List au):Int :=
 if jN=[]\/jN.length≠lu.length then 1
 else if yD jN=false then 1
 else if (lu.all jO)=false then 60
 else if 16<=b.cases.length\/4294967296<=b.next then 76 else 0
def nX(b:Bo)(jN:ay)(lu:List au):Bo×Int×List Mg×Int :=
 if sM jO b jN lu=0 then
  (⟨b.id,b.next+1,false,b.cases++[⟨⟨8*(b.next+1)+b.id,false,jN,false,lu⟩,false,true,[]⟩]⟩,8*(b.next+1)+b.id,
   (jN.zip lu).map λx=>yq b.id x.1 (8*(b.next+1)+b.id) x.2,0)
 else(b,0,[],sM jO b jN lu)
def nj(p:Pt)(path:au):Bool:=jO path&&p.ready.any λr=>jD r.path path
def pQ(p:Pt)(m:Mg):Pt×List Mg×Int :=
 if m.to=p.id/\m.oU.length=1 then
  let id:=m.oU.headD 0
  let did:=decide (id∈p.did)
  let is:=p.ready.any λr=>decide (r.id=id)
  if m.kind=1 then
   if did=true then(p,[lF p.id m.fr 5 id],0)
   else if is=true then(p,[lF p.id m.fr 2 id],0)
   else if jO m.data=false\/nj jO jD p m.data=true then(p,[lF p.id m.fr 3 id],0)
   else(⟨p.id,false,p.ready++[⟨id,m.data⟩],p.fd,p.did⟩,[lF p.id m.fr 2 id],0)
  else if m.kind=4 then
   if is=true then(⟨p.id,false,p.ready.eraseIdx (p.ready.findIdx λr=>decide (r.id=id)),false,p.did++[id]⟩,[lF p.id m.fr 5 id],id)
   else if did=true then(p,[lF p.id m.fr 5 id],0)else(p,[],0)
  else if m.kind=6 then
   if is=true then(⟨p.id,false,p.ready.eraseIdx (p.ready.findIdx λr=>decide (r.id=id)),p.fd,p.did⟩,[],0)else(p,[],0)
  else(p,[],0)
 else(p,[],0)
def uo(p:Pt):List Mg:=p.ready.map λr=>lF p.id (r.id.tmod 8) 7 r.id
end
section
variable(jO:au->Bool)(jD:au->au->Bool)
def lV(w:List Mg)(l:List Mg):List Mg:=w++l.take (200-w.length)
def kf(w:Wd)(l:List Mg):Wd:={w with jQ:=lV w.jQ l}
def tN(w:Wd)(i:Nat):Wd:={w with jQ:=w.jQ.take i++w.jQ.drop (i+1)}
def oQ(w:Wd)(k:Nat)(b:Bo)(m:Mg):Wd:=kf {w with bs:=w.bs.set k (qY b m).1} (qY b m).2
def ng(w:Wd)(k:Nat)(d:Bool×ay)(id:Int):Wd:=if id=0 then w else{w with did:=w.did.set k (false,d.2++[id])}
def rm(w:Wd)(k:Nat)(p:Pt)(d:Bool×ay)(m:Mg):Wd :=
 kf (ng {w with ps:=w.ps.set k (pQ jO jD p m).1} k d (pQ jO jD p m).2.2) (pQ jO jD p m).2.1
def v7(w:Wd)(m:Mg):Wd :=
 if m.to<0\/4<=m.to then w else
 match w.bs[m.to.toNat]?,w.ps[m.to.toNat]?,w.did[m.to.toNat]? with
 |some b,some p,some d=>rm jO jD (oQ w m.to.toNat b m) m.to.toNat p d m
 |_,_,_=>w
def mL(w:Wd)(i:Nat)(aib:Bool):Wd:=match w.jQ[i]? with
 |none=>w
 |some m=>v7 jO jD (if aib=true then w else tN w i) m
end
structure Ac where
 op:Nat
 who:Nat
 to:Nat
 a0:Nat
 a1:Nat
 a2:Nat
def vW(n:Nat):au:=([[47,97],[47,98],[47,97,47,98],[47,99],[47,100,47,101],[47,100],[47,101],[47,102,47,103]][n%8]?).getD []
def Ac.at3(x:Ac)(k:Nat):Nat:=([x.a0,x.a1,x.a2][k%3]?).getD 0
def BR(x:Ac)(s:ay×List au×Nat)(g:Nat):ay×List au×Nat :=
 if s.2.2%2=1 then(s.1++[(g:Int)],s.2.1++[vW ((x.at3 (s.1.length+1)+g)%256)],s.2.2 / 2)else(s.1,s.2.1,s.2.2 / 2)
def yl(x:Ac):ay×List au×Nat:=[0,1,2,3].foldl (BR x) ([],[],x.to%15+1)
section
variable(jO:au->Bool)(jD:au->au->Bool)
def qF(w:Wd)(k:Nat)(b:Bo)(jN:ay)(lu:List au):Wd :=
 kf {w with bs:=w.bs.set k (nX jO b jN lu).1,jE:=if sM jO b jN lu=0 then w.jE++[⟨(nX jO b jN lu).2.1,false,jN,false,lu⟩]else w.jE} (nX jO b jN lu).2.2.1
def qO(w:Wd)(x:Ac):Wd:=match w.bs[x.who%4]? with
 |none=>w
 |some b=>qF jO w (x.who%4) b (yl x).1 (yl x).2.1
def Qw(w:Wd)(k:Nat)(b:Bo)(id:Int):Wd:=kf {w with bs:=w.bs.set k (Co b id).1} (Co b id).2
def NH(w : Wd)(x : Ac): Wd :=
 match w.bs[x.who%4]?,w.ps[x.who%4]? with
 |some b,some p =>
  if x.op%16<=2 then qO jO w x
  else if x.op%16=3 then kf w (lR b)
  else if x.op%16=4 then kf w (uo p)
  else if x.op%16=5 then match b.cases with
   | []=>w
   |c::_=>Qw w (x.who%4) b c.de.id
  else if x.op%16=6 then{w with bs:=w.bs.set (x.who%4) (CC b)}
  else if w.jQ.length=0 then w
  else if x.op%16=7 then tN w ((x.to+256*x.who)%w.jQ.length)
  else mL jO jD w ((x.to+256*x.who)%w.jQ.length) (decide (x.op%16=8))
 |_,_=>w
def mF:Nat->Wd->Wd
 |0,w=>w
 |n+1,w=>if w.jQ.length=0 then w else mF n (mL jO jD w 0 false)
def zv(w:Wd)(g:Nat):Wd :=
 match w.bs[g]? with
 |some b=>match w.ps[g]? with
  |some p=>kf (kf w (lR b)) (uo p)
  |none=>w
 |none=>w
def mD(w:Wd):Wd:=mF jO jD 2000 ([0,1,2,3].foldl zv w)
def mV:Nat->Wd->Wd
 |0,w=>w
 |n+1,w=>mV n (mD jO jD w)
end
def kQ:Wd:=⟨[⟨0,0,true,[]⟩,⟨1,0,true,[]⟩,⟨2,0,true,[]⟩,⟨3,0,true,[]⟩],[⟨0,true,[],true,[]⟩,⟨1,true,[],true,[]⟩,⟨2,true,[],true,[]⟩,⟨3,true,[],true,[]⟩],[],[],[(true,[]),(true,[]),(true,[]),(true,[])]⟩
section keys
variable{α:Type}{key:α->Int}
def key_inj:∀ {l:List α},(l.map key).Nodup->∀ {x y:α},x∈l->y∈l->key x=key y->x=y
 | [],_,_,_,h,_,_=>by cases h
 |a::l,hn,x,y,hx,hy,e=>by
  rw[bF,dg]at hn
  rcases aP.1 hx with rfl | hx
  .rcases aP.1 hy with rfl | hy
   .rfl
   .exact absurd (bx.2 ⟨y,hy,e.symm⟩) hn.1
  .rcases aP.1 hy with hy0 | hy
   .rw[<-hy0]at hn;exact absurd (bx.2 ⟨x,hx,e⟩) hn.1
   .exact key_inj hn.2 hx hy e
def pq:∀ {l:List α},(l.map key).Nodup->∀ {i:Nat} {a:α},l[i]? = some a->∀x,x∈l.eraseIdx i↔x∈l/\key x≠key a
 | [],_,i,a,h,_=>by simp at h
 |b::l,hn,0,a,h,x=>by
  simp only[bz,bp]at h;subst h;rw[bF,dg]at hn;simp only[List.eraseIdx_cons_zero,aP]
  constructor
  .intro hx;exact⟨.inr hx,λe=>hn.1 (bx.2 ⟨x,hx,e⟩)⟩
  .rintro⟨rfl | hx,h2⟩
   .exact absurd rfl h2
   .exact hx
 |b::l,hn,i+1,a,h,x=>by
  simp only[bG]at h;rw[bF,dg]at hn;simp only[List.eraseIdx_cons_succ,aP,pq hn.2 h x]
  constructor
  .rintro(rfl | ⟨h1,h2⟩)
   .exact⟨.inl rfl,λe=>hn.1 (bx.2 ⟨a,aR h,e.symm⟩)⟩
   .exact⟨.inr h1,h2⟩
  .rintro⟨rfl | h1,h2⟩
   .exact .inl rfl
   .exact .inr ⟨h1,h2⟩
def wZ:∀ {l:List α},(l.map key).Nodup->∀ {i:Nat} {a b:α},l[i]? = some a->∀x,x∈l.set i b↔x=b\/(x∈l/\key x≠key a)
 | [],_,i,a,b,h,_=>by simp at h
 |c::l,hn,0,a,b,h,x=>by
  simp only[bz,bp]at h;subst h;rw[bF,dg]at hn;simp only[List.set_cons_zero,aP]
  constructor
  .rintro(rfl | hx)
   .exact .inl rfl
   .exact .inr ⟨.inr hx,λe=>hn.1 (bx.2 ⟨x,hx,e⟩)⟩
  .rintro(rfl | ⟨rfl | hx,h2⟩)
   .exact .inl rfl
   .exact absurd rfl h2
   .exact .inr hx
 |c::l,hn,i+1,a,b,h,x=>by
  simp only[bG]at h;rw[bF,dg]at hn;simp only[List.set_cons_succ,aP,wZ hn.2 h x]
  constructor
  .rintro(rfl | rfl | ⟨h1,h2⟩)
   .exact .inr ⟨.inl rfl,λe=>hn.1 (bx.2 ⟨a,aR h,e.symm⟩)⟩
   .exact .inl rfl
   .exact .inr ⟨.inr h1,h2⟩
  .rintro(rfl | ⟨rfl | h1,h2⟩)
   .exact .inr (.inl rfl)
   .exact .inl rfl
   .exact .inr (.inr ⟨h1,h2⟩)
def LS{l:List α}{i:Nat}{a b:α}(h:l[i]? = some a)(e:key b=key a):(l.set i b).map key=l.map key:=by
 apply dr;intro j;rw[bW,bW,dR]
 by_cases hj:i=j
 .subst hj;have:=(aF.1 h).1;simp only[if_true,this,h,bJ,e]
 .rw[if_neg hj]
def KA{l:List α}{i:Int}{c:α}(h:l[l.findIdx λc=>decide (key c=i)]? = some c):key c=i:=by
 have:=(aF.1 h);let⟨h1,h2⟩:=this;have h3:=gm (w:=h1);rw[h2]at h3
 simpa using h3
def P6{l:List α}{i:Int}(h:l[l.findIdx λc=>decide (key c=i)]? = none):∀c∈l,key c≠i:=by
 intro c hc e;have h1:l.findIdx (λc=>decide (key c=i))<l.length:=dH ⟨c,hc,by simp[e]⟩
 rw[iH]at h;omega
end keys
def cs(w:Wd)(k:Nat):List Ca:=((w.bs[k]?).map λb=>b.cases).getD []
def rd(w:Wd)(k:Nat):List Rd:=((w.ps[k]?).map λp=>p.ready).getD []
def dn(w:Wd)(k:Nat):ay:=((w.ps[k]?).map λp=>p.did).getD []
def nx(w:Wd)(k:Nat):Int:=((w.bs[k]?).map λb=>b.next).getD 0
def De.bo(d:De):Nat:=(d.id%8).toNat
def mX(w:Wd)(g:Nat)(i:Int):Prop:=∃r∈rd w g,r.id=i
def unsure(w:Wd)(d:De):Prop:=∃c∈cs w d.bo,c.de.id=d.id/\c.sure=false
def oh(w:Wd)(d:De):Prop:=∃c∈cs w d.bo,c.de.id=d.id/\c.sure=true
def kz(w:Wd)(d:De):Prop:=∀c∈cs w d.bo,c.de.id≠d.id
def qP(w:Wd)(d:De):Prop:=∀g∈d.jN,d.id∈dn w g.toNat
def Ed(w:Wd)(d:De):Prop:=∀g,d.id∉dn w g
def qw(w:Wd)(m:Mg):Prop:=∃d∈w.jE,m.oU=[d.id]/\
 ((m.kind=1/\m.fr=d.bo/\(m.to,m.data)∈d.jN.zip d.lu)\/
  (m.kind=2/\m.to=d.bo/\m.fr∈d.jN/\(unsure w d->mX w m.fr.toNat d.id))\/
  (m.kind=3/\m.to=d.bo/\m.fr∈d.jN)\/
  (m.kind=4/\m.fr=d.bo/\m.to∈d.jN/\(oh w d\/kz w d/\qP w d))\/
  (m.kind=5/\m.to=d.bo/\m.fr∈d.jN/\d.id∈dn w m.fr.toNat)\/
  (m.kind=6/\m.fr=d.bo/\m.to∈d.jN/\kz w d)\/
  (m.kind=7/\m.to=d.bo/\m.fr∈d.jN))
structure TT(jO:au->Bool)(PS:List au)(d:De):Prop where
 ne:d.jN≠[]
 len:d.jN.length=d.lu.length
 up:d.jN.Pairwise (· < ·)
 le:∀g∈d.jN,0<=g/\g<4
 pa:∀p∈d.lu,jO p=true/\p∈PS
structure amH(w:Wd)(k:Nat)(c:Ca):Prop where
 de:c.de∈w.jE
 bo:c.de.bo=k
 sub:∀g∈c.heard,g∈c.de.jN
 up:c.heard.Pairwise (· < ·)
 lt:c.heard.length<c.de.jN.length
 un:c.sure=false->(Ed w c.de)/\∀g∈c.heard,mX w g.toNat c.de.id
 su:c.sure=true->(∀g∈c.de.jN,mX w g.toNat c.de.id\/c.de.id∈dn w g.toNat)/\∀g∈c.heard,c.de.id∈dn w g.toNat
structure amE(jD:au->au->Bool)(w:Wd)(g:Nat):Prop where
 nd:((rd w g).map λr=>r.id).Nodup
 ap:(rd w g).Pairwise λr s=>jD r.path s.path=false
 re:∀r∈rd w g,∃d∈w.jE,d.id=r.id/\((g:Int),r.path)∈d.jN.zip d.lu
 dd:(dn w g).Nodup
 di:∀i∈dn w g,(∃d∈w.jE,d.id=i/\(g:Int)∈d.jN)/\¬mX w g i
structure Inv(jO:au->Bool)(jD:au->au->Bool)(PS:List au)(w:Wd):Prop where
 lb:w.bs.length=4
 lp:w.ps.length=4
 ld:w.did.length=4
 wi:w.jQ.length<=200
 bi:∀(k:Nat)(b:Bo),w.bs[k]? = some b->b.id=k/\0<=b.next/\b.cases.length<=16
 pi:∀(k:Nat)(p:Pt),w.ps[k]? = some p->p.id=k
 dq:∀(k:Nat)(d:Bool×ay),w.did[k]? = some d->d.2=dn w k
 de:∀d∈w.jE,TT jO PS d
 id:∀d∈w.jE,8<=d.id/\d.bo<4/\d.id<=8*nx w d.bo+d.bo
 nd:(w.jE.map λd=>d.id).Nodup
 cn:∀k,((cs w k).map λc=>c.de.id).Nodup
 ca:∀k,∀c∈cs w k,amH w k c
 go:∀d∈w.jE,kz w d->qP w d\/Ed w d
 pt:∀g,amE jD w g
 ms:∀m∈w.jQ,qw w m
variable{b b':Bo}
section
variable{jO:au->Bool}{jD:au->au->Bool}{PS:List au}{w w':Wd}
def tT{k:Nat}(h:w.bs[k]? = some b):cs w k=b.cases:=by simp[cs,h]
def ajt{k:Nat}(h:w.bs[k]? = some b):nx w k=b.next:=by simp[nx,h]
def vV{k:Nat}{p:Pt}(h:w.ps[k]? = some p):rd w k=p.ready:=by simp[rd,h]
def HO{k:Nat}{p:Pt}(h:w.ps[k]? = some p):dn w k=p.did:=by simp[dn,h]
def QS{k:Nat}(h:w.bs[k]? = none):cs w k=[]:=by simp[cs,h]
structure Ph(w w':Wd)(d:De):Prop where
 k2:unsure w' d->unsure w d/\∀g,mX w g d.id->mX w' g d.id
 k4:(oh w d\/kz w d/\qP w d)->(oh w' d\/kz w' d/\qP w' d)
 k5:∀g,d.id∈dn w g->d.id∈dn w' g
 k6:kz w d->kz w' d
def qw.ph{m:Mg}(hm:qw w m)(h:∀d∈w.jE,d∈w'.jE/\Ph w w' d):qw w' m:=by
 let⟨d,hd,hn,hm⟩:=hm;let⟨hd',P⟩:=h d hd;refine⟨d,hd',hn,?_⟩
 rcases hm with hm | ⟨a,b,c,e⟩ | hm | ⟨a,b,c,e⟩ | ⟨a,b,c,e⟩ | ⟨a,b,c,e⟩ | hm
 .exact .inl hm
 .exact .inr (.inl ⟨a,b,c,λhu=>(P.k2 hu).2 _ (e (P.k2 hu).1)⟩)
 .exact .inr (.inr (.inl hm))
 .exact .inr (.inr (.inr (.inl ⟨a,b,c,P.k4 e⟩)))
 .exact .inr (.inr (.inr (.inr (.inl ⟨a,b,c,P.k5 _ e⟩))))
 .exact .inr (.inr (.inr (.inr (.inr (.inl ⟨a,b,c,P.k6 e⟩)))))
 .exact .inr (.inr (.inr (.inr (.inr (.inr hm)))))
def Inv.Gd(H:Inv jO jD PS w){c d:De}(hc:c∈w.jE)(hd:d∈w.jE)(e:c.id=d.id):c=d:=key_inj H.nd hc hd e
def Inv.csb(H:Inv jO jD PS w){k:Nat}{c:Ca}(hc:c∈cs w k):c∈cs w c.de.bo:=by rw[(H.ca k c hc).bo];exact hc
def Inv.oM(H:Inv jO jD PS w){d:De}(h:kz w d):¬oh w d/\¬unsure w d:=⟨λ⟨c,hc,e,_⟩=>h c hc e,λ⟨c,hc,e,_⟩=>h c hc e⟩
def Inv.CV(H:Inv jO jD PS w){d:De}(h:oh w d):¬unsure w d:=by
 rintro⟨c,hc,e,s⟩
 let⟨c',CN,e',s'⟩:=h;have:=key_inj (H.cn _) hc CN (e.trans e'.symm);rw[this,s']at s;cases s
def Inv.jQ(H:Inv jO jD PS w){l:List Mg}(hl:l.length<=200)(hm:∀m∈l,m∈w.jQ\/qw w m):Inv jO jD PS {w with jQ:=l} :=
 ⟨H.lb,H.lp,H.ld,hl,H.bi,H.pi,H.dq,H.de,H.id,H.nd,H.cn,λk c hc=>⟨(H.ca k c hc).de,(H.ca k c hc).bo,(H.ca k c hc).sub,(H.ca k c hc).up,(H.ca k c hc).lt,(H.ca k c hc).un,(H.ca k c hc).su⟩,H.go,λg=>⟨(H.pt g).nd,(H.pt g).ap,(H.pt g).re,(H.pt g).dd,(H.pt g).di⟩,λm h=>(by
  rcases hm m h with h | h
  .exact H.ms m h
  .exact h:qw w m)⟩
def Inv.send(H:Inv jO jD PS w){l:List Mg}(hm:∀m∈l,qw w m):Inv jO jD PS (kf w l) :=
 H.jQ (by have:=H.wi;unfold lV;simp;omega) λm h=>by
  unfold lV at h
  rcases aX.1 h with h | h
  .exact .inl h
  .exact .inr (hm m (cm h))
def Inv.ZR(H:Inv jO jD PS w)(i:Nat):Inv jO jD PS (tN w i) :=
 H.jQ (by have:=H.wi;simp;omega) λm h=>by
  rcases aX.1 h with h | h
  .exact .inl (cm h)
  .exact .inl (cA h)
def Ry(H:Inv jO jD PS w){k:Nat}(hb:w.bs[k]? = some b)(e1:b'.id=b.id)(e2:b'.next=b.next)(e3:b'.cases.length<=16)(hn:(b'.cases.map λc=>c.de.id).Nodup)
  (hca:∀c∈b'.cases,amH {w with bs:=w.bs.set k b'} k c) (yB:∀d∈w.jE,kz {w with bs:=w.bs.set k b'} d->qP w d\/Ed w d)
  (hph:∀d∈w.jE,Ph w {w with bs:=w.bs.set k b'} d):Inv jO jD PS {w with bs:=w.bs.set k b'}:=by
 have hk:k<w.bs.length:=(aF.1 hb).1
 have hg:∀j,(w.bs.set k b')[j]? = if j=k then some b' else w.bs[j]? := λj=>by
  by_cases e:j=k
  .subst e;simp[hk]
  .rw[if_neg e,aJ (Ne.symm e)]
 have hcs:∀j,cs {w with bs:=w.bs.set k b'} j=if j=k then b'.cases else cs w j:=λj=>by
  by_cases e:j=k
  .subst e;simp[cs,hg]
  .simp[cs,hg,e]
 have YF:∀j,nx {w with bs:=w.bs.set k b'} j=nx w j:=λj=>by
  by_cases e:j=k
  .subst e;simp[nx,hg,hb,e2]
  .simp[nx,hg,e]
 refine⟨an H.lb,H.lp,H.ld,H.wi,λj c hc=>?_,H.pi,H.dq,H.de,λd hd=>?_,H.nd,λj=>?_,λj c hc=>?_,yB,λg=>⟨(H.pt g).nd,(H.pt g).ap,(H.pt g).re,(H.pt g).dd,(H.pt g).di⟩,λm hm=>(H.ms m hm).ph λd hd=>⟨hd,hph d hd⟩⟩
 .rw[hg]at hc
  by_cases e:j=k
  .rw[if_pos e]at hc;cases hc;have:=H.bi k b hb;exact⟨by rw[e1,this.1,e],by rw[e2];exact this.2.1,e3⟩
  .rw[if_neg e]at hc;exact H.bi j c hc
 .rw[YF];exact H.id d hd
 .rw[hcs]
  by_cases e:j=k
  .rw[if_pos e];exact hn
  .rw[if_neg e];exact H.cn j
 .rw[hcs]at hc
  by_cases e:j=k
  .rw[if_pos e]at hc;subst e;exact hca c hc
  .rw[if_neg e]at hc;have:=H.ca j c hc;exact⟨this.de,this.bo,this.sub,this.up,this.lt,this.un,this.su⟩
def xC{k:Nat}(hb:w.bs[k]? = some b)(j:Nat):cs {w with bs:=w.bs.set k b'} j=if j=k then b'.cases else cs w j:=by
 have hk:k<w.bs.length:=(aF.1 hb).1
 by_cases e:j=k
 .subst e;simp[cs,hk]
 .simp only[cs];rw[aJ (Ne.symm e),if_neg e]
def Inv.Xh(H:Inv jO jD PS w){k:Nat}(hb:w.bs[k]? = some b)(e1:b'.id=b.id)(e2:b'.next=b.next)(hsub:b'.cases.Sublist b.cases)
  (hg:∀c∈b.cases,c∈b'.cases\/c.sure=false\/qP w c.de):Inv jO jD PS {w with bs:=w.bs.set k b'}:=by
 have hcs:=xC (b':=b') hb;have oV:cs w k=b.cases:=tT hb
 have sub:∀j,∀c∈cs {w with bs:=w.bs.set k b'} j,c∈cs w j:=λj c hc=>by
  rw[hcs]at hc
  by_cases e:j=k
  .rw[if_pos e]at hc;rw[e,oV];exact hsub.subset hc
  .rwa [if_neg e]at hc
 have hkeep:∀j,∀c∈cs w j,c∈cs {w with bs:=w.bs.set k b'} j\/c.sure=false\/qP w c.de:=λj c hc=>by
  rw[hcs]
  by_cases e:j=k
  .rw[if_pos e];rw[e,oV]at hc;exact hg c hc
  .rw[if_neg e];exact .inl hc
 have gone':∀c d,c∈cs w d.bo->c.de.id=d.id->c∉cs {w with bs:=w.bs.set k b'} d.bo->kz {w with bs:=w.bs.set k b'} d:=λc d hc e hn x hx ex=>by
  have:=key_inj (H.cn _) (sub _ x hx) hc (ex.trans e.symm);rw[this]at hx;exact hn hx
 refine Ry H hb e1 e2 (cQ hsub.length_le (H.bi k b hb).2.2) ?_ (λc hc=>?_) (λd hd yB=>?_) λd hd=>⟨λhu=>?_,λh=>?_,λ_ h=>h,λh c hc=>h c (sub _ c hc)⟩
 .have:=H.cn k;rw[oV]at this;exact(hsub.map _).nodup this
 .have:=H.ca k c (by rw[oV];exact hsub.subset hc)
  exact⟨this.de,this.bo,this.sub,this.up,this.lt,this.un,this.su⟩
 .by_cases h : kz w d
  .exact H.go d hd h
  .simp only[kz,Classical.not_forall]at h;let⟨c,hc,e⟩:=h;have e:c.de.id=d.id:=cL.1 e;have hcd:c.de=d:=H.Gd (H.ca _ c hc).de hd e
   rcases hkeep _ c hc with h1 | h1 | h1
   .exact absurd e (yB c h1)
   .rw[<-hcd];exact .inr ((H.ca _ c hc).un h1).1
   .rw[<-hcd];exact .inl h1
 .let⟨c,hc,e,s⟩:=hu;exact⟨⟨c,sub _ c hc,e,s⟩,λ_ h=>h⟩
 .rcases h with⟨c,hc,e,s⟩ | ⟨h1,h2⟩
  .by_cases hx : c ∈ cs { w with bs := w.bs.set k b' } d.bo
   .exact .inl ⟨c,hx,e,s⟩
   .refine .inr ⟨gone' c d hc e hx,?_⟩
    rcases hkeep _ c hc with h1 | h1 | h1
    .exact absurd h1 hx
    .rw[s]at h1;cases h1
    .have hcd:c.de=d:=H.Gd (H.ca _ c hc).de hd e;rw[hcd]at h1;exact h1
  .exact .inr ⟨λc hc=>h1 c (sub _ c hc),h2⟩
def Inv.other(H:Inv jO jD PS w){k i:Nat}{c c':Ca}(hb:w.bs[k]? = some b)(e1:b'.id=b.id)(e2:b'.next=b.next)(hi:b.cases[i]? = some c)(e3:b'.cases=b.cases.set i c')(e4:c'.de=c.de)
  (hu:c'.heard.Pairwise (· < ·)) (hs:∀g∈c'.heard,g∈c.de.jN) (hl:c'.heard.length<c.de.jN.length)
  (h1:c'.sure=false->c.sure=false/\∀g∈c'.heard,mX w g.toNat c.de.id) (h2:c'.sure=true->(∀g∈c.de.jN,mX w g.toNat c.de.id\/c.de.id∈dn w g.toNat)/\∀g∈c'.heard,c.de.id∈dn w g.toNat) :
  Inv jO jD PS {w with bs:=w.bs.set k b'}:=by
 have hcs:=xC (b':=b') hb;have oV:cs w k=b.cases:=tT hb;have hcm:c∈cs w k:=by rw[oV];exact aR hi
 have C5:(b.cases.map λc=>c.de.id).Nodup:=by have:=H.cn k;rwa [oV]at this
 have hC:=H.ca k c hcm;have mem:∀x,x∈b'.cases↔x=c'\/(x∈b.cases/\x.de.id≠c.de.id):=λx=>by rw[e3];exact wZ C5 hi x
 have ids:∀j,∀i,(∃x∈cs {w with bs:=w.bs.set k b'} j,x.de.id=i)->∃x∈cs w j,x.de.id=i:=λj i ⟨x,hx,e⟩=>by
  rw[hcs]at hx
  by_cases ej:j=k
  .rw[if_pos ej]at hx;subst ej
   rcases(mem x).1 hx with rfl | ⟨hx,_⟩
   .exact⟨c,hcm,by rw[<-e,e4]⟩
   .exact⟨x,by rw[oV];exact hx,e⟩
  .rw[if_neg ej]at hx;exact⟨x,hx,e⟩
 have back:∀j,∀x∈cs w j,x.de.id≠c.de.id\/j≠k->x∈cs {w with bs:=w.bs.set k b'} j:=λj x hx hne=>by
  rw[hcs]
  by_cases ej:j=k
  .rw[if_pos ej];rw[ej,oV]at hx;exact(mem x).2 (.inr ⟨hx,hne.resolve_right (λh=>h ej)⟩)
  .rw[if_neg ej];exact hx
 have ak9:∀d,kz {w with bs:=w.bs.set k b'} d->kz w d:=λd h x hx e=>by
  by_cases hx2:x.de.id≠c.de.id\/d.bo≠k
  .exact h x (back _ x hx hx2) e
  .have ⟨q1,q2⟩:x.de.id=c.de.id/\d.bo=k:=⟨cL.1 λh=>hx2 (.inl h),cL.1 λh=>hx2 (.inr h)⟩
   refine h c' ?_ (by rw[e4,<-q1];exact e)
   rw[hcs,if_pos q2];exact(mem c').2 (.inl rfl)
 refine Ry H hb e1 e2 ?_ ?_ (λx hx=>?_) (λd hd h=>H.go d hd (ak9 d h)) λd hd=>⟨λ⟨x,hx,e,s⟩=>⟨?_,λ_ h=>h⟩,λh=>?_,λ_ h=>h,λh x hx e=>?_⟩
 .rw[e3,bL];exact(H.bi k b hb).2.2
 .rw[e3,LS (key:=λc:Ca=>c.de.id) hi (by simp[e4])]
  exact C5
 .rcases(mem x).1 hx with rfl | ⟨hx,_⟩
  .exact⟨by rw[e4];exact hC.de,by rw[e4];exact hC.bo,by rw[e4];exact hs,hu,by rw[e4];exact hl,λs=>by rw[e4];exact⟨(hC.un (h1 s).1).1,(h1 s).2⟩,λs=>by rw[e4];exact h2 s⟩
  .have:=H.ca k x (by rw[oV];exact hx)
   exact⟨this.de,this.bo,this.sub,this.up,this.lt,this.un,this.su⟩
 .rw[hcs]at hx
  by_cases ej:d.bo=k
  .rw[if_pos ej]at hx
   rcases(mem x).1 hx with rfl | ⟨hx,_⟩
   .exact⟨c,by rw[ej];exact hcm,by rw[<-e,e4],(h1 s).1⟩
   .exact⟨x,by rw[ej,oV];exact hx,e,s⟩
  .rw[if_neg ej]at hx;exact⟨x,hx,e,s⟩
 .rcases h with⟨x,hx,e,s⟩ | ⟨q1,q2⟩
  .by_cases hx2 : x.de.id ≠ c.de.id \/ d.bo ≠ k
   .exact .inl ⟨x,back _ x hx hx2,e,s⟩
   .have ⟨q1,q2⟩:x.de.id=c.de.id/\d.bo=k:=⟨cL.1 λh=>hx2 (.inl h),cL.1 λh=>hx2 (.inr h)⟩
    refine .inl ⟨c',?_,by rw[e4,<-q1];exact e,?_⟩
    .rw[hcs,if_pos q2];exact(mem c').2 (.inl rfl)
    .have:x=c:=key_inj (H.cn k) (by rw[<-q2];exact hx) hcm q1
     rw[this]at s;cases hs':c'.sure with
     |true=>rfl
     |false=>rw[(h1 hs').1]at s;cases s
  .exact .inr ⟨λx hx e=>by
    let⟨y,hy,e'⟩:=ids _ _ ⟨x,hx,e⟩;exact q1 y hy e',q2⟩
 .let⟨y,hy,e'⟩:=ids _ _ ⟨x,hx,e⟩;exact h y hy e'
def Inv.part(H:Inv jO jD PS w){g:Nat}{p p':Pt}{dl:List (Bool×ay)}(hp:w.ps[g]? = some p)(e1:p'.id=p.id)(vu:dl.length=4)(hdq:∀(k:Nat)(d:Bool×ay),dl[k]? = some d->d.2=if k=g then p'.did else dn w k)(i:Int)
  (h0:amE jD {w with ps:=w.ps.set g p',did:=dl} g)
  (h1:∀j∈p.did,j∈p'.did)
  (h2:∀j∈p'.did,j∈p.did\/(j=i/\∀d∈w.jE,d.id=i->oh w d\/kz w d/\qP w d))
  (h3:∀r∈p.ready,(∃r'∈p'.ready,r'.id=r.id)\/(r.id=i/\((∀d∈w.jE,d.id=i->kz w d)\/(i∈p'.did/\∀d∈w.jE,d.id=i->oh w d\/kz w d/\qP w d)))) :
  Inv jO jD PS {w with ps:=w.ps.set g p',did:=dl}:=by
 have hk:g<w.ps.length:=(aF.1 hp).1
 have hg:∀j,(w.ps.set g p')[j]? = if j=g then some p' else w.ps[j]? := λj=>by
  by_cases e:j=g
  .subst e;simp[hk]
  .rw[if_neg e,aJ (Ne.symm e)]
 have hrd:∀j,rd {w with ps:=w.ps.set g p',did:=dl} j=if j=g then p'.ready else rd w j:=λj=>by
  by_cases e:j=g
  .subst e;simp[rd,hg]
  .simp[rd,hg,e]
 have hdn:∀j,dn {w with ps:=w.ps.set g p',did:=dl} j=if j=g then p'.did else dn w j:=λj=>by
  by_cases e:j=g
  .subst e;simp[dn,hg]
  .simp[dn,hg,e]
 have hrg:=vV hp;have hdg:=HO hp
 have mono:∀j i,i∈dn w j->i∈dn {w with ps:=w.ps.set g p',did:=dl} j:=λj i h=>by
  rw[hdn]
  by_cases e:j=g
  .rw[if_pos e];rw[e,hdg]at h;exact h1 i h
  .rw[if_neg e];exact h
 have more:∀j i',i'∈dn {w with ps:=w.ps.set g p',did:=dl} j->i'∈dn w j\/(i'=i/\∀d∈w.jE,d.id=i->oh w d\/kz w d/\qP w d):=λj i' h=>by
  rw[hdn]at h
  by_cases e:j=g
  .rw[if_pos e]at h;rw[e,hdg];exact h2 i' h
  .rw[if_neg e]at h;exact .inl h
 have rdy:∀j i',mX w j i'->mX {w with ps:=w.ps.set g p',did:=dl} j i'\/(i'=i/\((∀d∈w.jE,d.id=i->kz w d)\/(i∈dn {w with ps:=w.ps.set g p',did:=dl} j/\∀d∈w.jE,d.id=i->oh w d\/kz w d/\qP w d))):=λj i' h=>by
  let⟨r,hr,e⟩:=h
  by_cases ej:j=g
  .rw[ej,hrg]at hr
   rcases h3 r hr with⟨r',h4,h5⟩ | ⟨h4,h5⟩
   .exact .inl ⟨r',by rw[hrd,if_pos ej];exact h4,by rw[h5,e]⟩
   .refine .inr ⟨by rw[<-e,h4],?_⟩
    rw[hdn,if_pos ej];exact h5
  .exact .inl ⟨r,by rw[hrd,if_neg ej];exact hr,e⟩
 have all:∀d,qP w d->qP {w with ps:=w.ps.set g p',did:=dl} d:=λd h x hx=>mono _ _ (h x hx)
 have Ea:∀d∈w.jE,(oh w d\/kz w d/\qP w d)->¬unsure w d:=λd _ h=>by
  rcases h with h | h
  .exact H.CV h
  .exact(H.oM h.1).2
 refine⟨H.lb,an H.lp,vu,H.wi,H.bi,λj q hq=>?_,λk d hd=>?_,H.de,H.id,H.nd,H.cn,λk c hc=>?_,λd hd yB=>?_,λj=>?_,λm hm=>(H.ms m hm).ph λd hd=>⟨hd,λhu=>⟨hu,λj hj=>?_⟩,λh=>?_,λj h=>mono j _ h,λh=>h⟩⟩
 .rw[hg]at hq
  by_cases e:j=g
  .rw[if_pos e]at hq;cases hq;rw[e1,e];exact H.pi g p hp
  .rw[if_neg e]at hq;exact H.pi j q hq
 .rw[hdn];exact hdq k d hd
 .have C:=H.ca k c hc;refine⟨C.de,C.bo,C.sub,C.up,C.lt,λs=>⟨λj hj=>?_,λx hx=>?_⟩,λs=>⟨λx hx=>?_,λx hx=>mono _ _ ((C.su s).2 x hx)⟩⟩
  .rcases more j _ hj with h | ⟨h,h'⟩
   .exact(C.un s).1 j h
   .exact Ea c.de C.de (h' c.de C.de h) ⟨c,H.csb hc,rfl,s⟩
  .rcases rdy _ _ ((C.un s).2 x hx)with h | ⟨h,h' | ⟨_,h'⟩⟩
   .exact h
   .exact absurd rfl (h' c.de C.de h c (H.csb hc))
   .exact absurd ⟨c,H.csb hc,rfl,s⟩ (Ea c.de C.de (h' c.de C.de h))
  .rcases(C.su s).1 x hx with h | h
   .rcases rdy _ _ h with h | ⟨h,h' | ⟨h',_⟩⟩
    .exact .inl h
    .exact absurd rfl (h' c.de C.de h c (H.csb hc))
    .rw[h];exact .inr h'
   .exact .inr (mono _ _ h)
 .rcases H.go d hd yB with h | h
  .exact .inl (all d h)
  .by_cases hx : ∃ j, d.id ∈ dn { w with ps := w.ps.set g p', did := dl } j
   .let⟨j,hj⟩:=hx
    rcases more j _ hj with h' | ⟨h',h''⟩
    .exact absurd h' (h j)
    .rcases h'' d hd h' with h5 | h5
     .exact absurd h5 (H.oM yB).1
     .exact .inl (all d h5.2)
   .exact .inr λj hj=>hx ⟨j,hj⟩
 .by_cases e : j = g
  .rw[e];exact h0
  .have P:=H.pt j;have r1:rd {w with ps:=w.ps.set g p',did:=dl} j=rd w j:=by rw[hrd,if_neg e]
   have r2:dn {w with ps:=w.ps.set g p',did:=dl} j=dn w j:=by rw[hdn,if_neg e]
   refine⟨by rw[r1];exact P.nd,by rw[r1];exact P.ap,by rw[r1];exact P.re,by rw[r2];exact P.dd,λx hx=>?_⟩
   rw[r2]at hx;refine⟨(P.di x hx).1,λ⟨r,hr,e'⟩=>(P.di x hx).2 ⟨r,by rw[<-r1];exact hr,e'⟩⟩
 .rcases rdy _ _ hj with h | ⟨h,h' | ⟨_,h'⟩⟩
  .exact h
  .exact absurd hu (H.oM (h' d hd h)).2
  .exact absurd hu (Ea d hd (h' d hd h))
 .rcases h with h | ⟨h,h'⟩
  .exact .inl h
  .exact .inr ⟨h,all d h'⟩
end
variable{l:ay}{x y:Int}
section
variable{jO:au->Bool}{jD:au->au->Bool}{PS:List au}{w w':Wd}
def qc{α:Type}{l:List α}{k:Nat}{x:α}(h:l[k]? = some x):l.set k x=l:=by
 let⟨h1,h2⟩:=aF.1 h;rw[<-h2];exact jc h1
def qb:∀ {A B:ay},A.Nodup->(∀x∈A,x∈B)->A.length<=B.length
 | [],_,_,_=>cH _
 |a::A,B,hn,h=>by
  rw[dg]at hn;have ha:=h a (bu ..);have:=qb (A:=A) (B:=B.erase a) hn.2 (λx hx=>(ic (λe=>hn.1 (by rw[<-e];exact hx))).2 (h x (bt _ hx)))
  rw[gE ha]at this;have:0<B.length:=fM ha;simp only[aQ];omega
def qX(h:l.Pairwise (· < ·)):l.Nodup:=h.imp λh=>Int.ne_of_lt h
def full{A B:ay}(hA:A.Nodup)(h:∀x∈A,x∈B)(hl:B.length<=A.length):∀x∈B,x∈A:=by
 intro x hx;refine cT λhn=>?_
 have:=qb (A:=x::A) (B:=B) (dg.2 ⟨hn,hA⟩) λy hy=>by
  rcases aP.1 hy with rfl | hy
  .exact hx
  .exact h y hy
 simp only[aQ]at this;omega
def L9:y∈yR l x↔y=x\/y∈l:=by
 unfold yR
 constructor
 .intro h
  rcases aX.1 h with h | h
  .exact .inr (cm h)
  .rcases aP.1 h with h | h
   .exact .inl h
   .exact .inr (cA h)
 .rintro(rfl | h)
  .simp
  .rw[<-dF (qo l x) l]at h
   rcases aX.1 h with h | h
   .exact cB _ h
   .exact dG _ (bt _ h)
def Qk:∀ {l:ay} {x:Int},l.Pairwise (· < ·)->x∉l->(yR l x).Pairwise (· < ·)
 | [],x,_,_=>by simp[yR,qo]
 |a::l,x,h,hx=>by
  rw[bh]at h
  by_cases c:x<=a
  .have:yR (a::l) x=x::a::l:=by simp[yR,qo,e9,c]
   rw[this,bh];have hne:x≠a:=λe=>hx (by rw[e];exact bu ..)
   refine⟨λy hy=>?_,bh.2 h⟩
   rcases aP.1 hy with rfl | hy
   .omega
   .have:=h.1 y hy;omega
  .have:yR (a::l) x=a::yR l x:=by simp[yR,qo,e9,c]
   rw[this,bh];refine⟨λy hy=>?_,Qk h.2 λhh=>hx (bt _ hh)⟩
   rcases L9.1 hy with rfl | hy
   .omega
   .exact h.1 y hy
def oL:y∈lH l x↔y=x\/y∈l:=by
 unfold lH
 by_cases h:x∈l
 .rw[if_pos h];exact⟨.inr,λh'=>h'.elim (λe=>e▸h) id⟩
 .rw[if_neg h];exact L9
def Mk(h:l.Pairwise (· < ·)):(lH l x).Pairwise (· < ·):=by
 unfold lH
 by_cases c:x∈l
 .rwa [if_pos c]
 .rw[if_neg c];exact Qk h c
def qw.same{m:Mg}(hm:qw w m)(e1:w'.bs=w.bs)(e2:w'.ps=w.ps)(e3:w'.jE=w.jE):qw w' m:=by
 let⟨bs,ps,wi,de,di⟩:=w;let⟨bs',ps',wi',de',di'⟩:=w';simp only at e1 e2 e3;subst e1 e2 e3;exact hm
def Inv.amx(H:Inv jO jD PS w){d:De}(hd:d∈w.jE):(d.bo:Int)=d.id%8:=by
 unfold De.bo;have:=(H.id d hd).1;omega
def Inv.erase(H:Inv jO jD PS w){k i:Nat}{b:Bo}{c:Ca}(hb:w.bs[k]? = some b)(hi:b.cases[i]? = some c)(hc:c.sure=false\/qP w c.de):
  Inv jO jD PS {w with bs:=w.bs.set k (oP b (b.cases.eraseIdx i))}/\kz {w with bs:=w.bs.set k (oP b (b.cases.eraseIdx i))} c.de:=by
 have oV:cs w k=b.cases:=tT hb;have hcm:c∈cs w k:=by rw[oV];exact aR hi
 have C5:(b.cases.map λc=>c.de.id).Nodup:=by have:=H.cn k;rwa [oV]at this
 have mem:=pq (key:=λc:Ca=>c.de.id) C5 hi
 refine⟨H.Xh hb rfl rfl (gT ..) λx hx=>?_,λx hx e=>?_⟩
 .by_cases e:x.de.id=c.de.id
  .have:x=c:=key_inj C5 hx (aR hi) e;rw[this];exact .inr hc
  .exact .inl ((mem x).2 ⟨hx,e⟩)
 .rw[xC hb,(H.ca k c hcm).bo,if_pos rfl]at hx;exact((mem x).1 hx).2 e
def FP{b:Bo}{d:De}{k:Int}(h:∀g∈d.jN,qw w (lF b.id g k d.id)):∀m∈tu b d k,qw w m:=by
 intro m hm;unfold tu at hm;obtain⟨g,hg,rfl⟩:=bx.1 hm;exact h g hg
def Inv.tell(H:Inv jO jD PS w){k:Nat}{b:Bo}{m:Mg}(hb:w.bs[k]? = some b)(hm:qw w m):Inv jO jD PS (oQ w k b m):=by
 have same:∀l,b.cases=l->Inv jO jD PS {w with bs:=w.bs.set k (oP b l)}:=λl e=>H.Xh hb rfl rfl (by rw[<-e];exact List.Sublist.refl _) λc hc=>.inl (by rw[<-e];exact hc)
 have self:({w with bs:=w.bs.set k b}:Wd)=w:=by rw[qc hb]
 have Cm:=(H.bi k b hb).1;have oV:cs w k=b.cases:=tT hb;unfold oQ qY
 by_cases hc:m.to=b.id/\m.oU.length=1/\(m.kind=2\/m.kind=3\/m.kind=5\/m.kind=7)
 .rw[if_pos hc];let⟨c1,c2,c3⟩:=hc;let⟨d,hd,hn,hm⟩:=hm;have hh:m.oU.headD 0=d.id:=by rw[hn];rfl
  have hdk:d.bo=k/\m.fr∈d.jN:=by
   rcases hm with hm | hm | hm | hm | hm | hm | hm
   .omega
   .have:(k:Int)=d.bo:=by rw[<-Cm,<-c1];exact hm.2.1
    exact⟨aa,hm.2.2.1⟩
   .have:(k:Int)=d.bo:=by rw[<-Cm,<-c1];exact hm.2.1
    exact⟨aa,hm.2.2⟩
   .omega
   .have:(k:Int)=d.bo:=by rw[<-Cm,<-c1];exact hm.2.1
    exact⟨aa,hm.2.2.1⟩
   .omega
   .have:(k:Int)=d.bo:=by rw[<-Cm,<-c1];exact hm.2.1
    exact⟨aa,hm.2.2⟩
  let⟨hdk,hfr⟩:=hdk;have hbd:b.id=d.bo:=by rw[Cm,hdk]
  rw[hh];cases hx:b.cases[mb b d.id]? with
  |none =>
   have hg:kz w d:=by
    intro c hc;rw[hdk,oV]at hc;exact P6 (key:=λc:Ca=>c.de.id) hx c hc
   simp only
   by_cases c4:m.kind=2\/m.kind=7
   .rw[if_pos c4];dsimp only;rw[self];refine H.send λx hx=>?_
    rw[aM]at hx;subst hx;exact⟨d,hd,rfl,.inr (.inr (.inr (.inr (.inr (.inl ⟨rfl,hbd,hfr,hg⟩)))))⟩
   .rw[if_neg c4];dsimp only;rw[self];exact H.send (l:=[]) λx hx=>by cases hx
  |some c =>
   have hcm:c∈cs w k:=by rw[oV];exact aR hx
   have hid:c.de.id=d.id:=KA (key:=λc:Ca=>c.de.id) hx
   have hcd:c.de=d:=H.Gd (H.ca k c hcm).de hd hid;have C:=H.ca k c hcm;have hhu:(lH c.heard m.fr).Pairwise (· < ·):=Mk C.up
   have hhs:∀g∈lH c.heard m.fr,g∈c.de.jN:=λg hg=>by
    rcases oL.1 hg with rfl | hg
    .rw[hcd];exact hfr
    .exact C.sub g hg
   have hle:(lH c.heard m.fr).length<=c.de.jN.length:=qb (qX hhu) hhs;simp only;rw[if_pos (by rw[hcd];exact hfr)]
   unfold GO
   by_cases hs:c.sure=true
   .simp only[if_pos hs]
    by_cases k3:m.kind=3
    .simp only[if_pos k3];exact(same _ rfl).send (l:=[]) λx hx=>by cases hx
    .simp only[if_neg k3]
     by_cases k5:m.kind=5
     .simp only[if_pos k5];have Bq:d.id∈dn w m.fr.toNat:=by
       rcases hm with hm | hm | hm | hm | hm | hm | hm
       all_goals first | exact hm.2.2.2 | omega
      have abS:∀g∈lH c.heard m.fr,c.de.id∈dn w g.toNat:=λg hg=>by
       rcases oL.1 hg with rfl | hg
       .rw[hid];exact Bq
       .exact(C.su hs).2 g hg
      by_cases hf:(lH c.heard m.fr).length=c.de.jN.length
      .simp only[if_pos hf];refine(H.erase hb hx (.inr λg hg=>abS g (full (qX hhu) hhs aa g hg))).1.send (l:=[]) λx hx=>by cases hx
      .simp only[if_neg hf];exact(H.other (b':=oP b (b.cases.set (mb b d.id) {c with fh:=rO c m.fr,heard:=lH c.heard m.fr})) hb rfl rfl hx rfl rfl hhu hhs (by dsimp only;omega) (λh=>by dsimp only at h;rw[hs]at h;cases h) (λ_=>⟨(C.su hs).1,abS⟩)).send (l:=[]) λx hx=>by cases hx
     .simp only[if_neg k5];refine(same _ rfl).send λx hx=>?_
      rw[aM]at hx;subst hx;refine⟨d,hd,by rw[hid];rfl,.inr (.inr (.inr (.inl ⟨rfl,hbd,hfr,.inl ⟨c,?_,hid,hs⟩⟩)))⟩
      rw[xC hb,if_pos hdk];exact aR hx
   .have hs:c.sure=false:=by simpa using hs
    simp only[hs,aU,if_false];have hce:=H.erase hb hx (.inl hs)
    by_cases k3:m.kind=3
    .simp only[if_pos k3];have hgd:=hce.2;rw[hcd]at hgd;exact hce.1.send (FP λg hg=>⟨d,hd,by rw[hid];rfl,.inr (.inr (.inr (.inr (.inr (.inl ⟨rfl,hbd,by rw[<-hcd];exact hg,hgd⟩)))))⟩)
    .simp only[if_neg k3]
     by_cases k2:m.kind=2
     .simp only[if_pos k2];have hrd:mX w m.fr.toNat d.id:=by
       rcases hm with hm | hm | hm | hm | hm | hm | hm
       all_goals first | exact hm.2.2.2 ⟨c,by rw[hdk];exact hcm,hid,hs⟩ | omega
      have akt:∀g∈lH c.heard m.fr,mX w g.toNat c.de.id:=λg hg=>by
       rcases oL.1 hg with rfl | hg
       .rw[hid];exact hrd
       .exact(C.un hs).2 g hg
      by_cases hf:(lH c.heard m.fr).length=c.de.jN.length
      .simp only[if_pos hf];refine(H.other (b':=oP b (b.cases.set (mb b d.id) {c with sure:=true,fh:=true,heard:=[]})) hb rfl rfl hx rfl rfl List.Pairwise.nil (λg hg=>by cases hg) (by have:=C.lt;dsimp only[List.length_nil];omega) (λh=>by cases h) (λ_=>⟨λg hg=>.inl (akt g (full (qX hhu) hhs aa g hg)),λg hg=>by cases hg⟩)).send (FP λg hg=>?_)
       refine⟨d,hd,by rw[hid];rfl,.inr (.inr (.inr (.inl ⟨rfl,hbd,by rw[<-hcd];exact hg,.inl ⟨{c with sure:=true,fh:=true,heard:=[]},?_,hid,rfl⟩⟩)))⟩
       rw[xC hb,if_pos hdk];exact aR (aZ (aF.1 hx).1)
      .simp only[if_neg hf];exact(H.other (b':=oP b (b.cases.set (mb b d.id) ⟨c.de,false,rO c m.fr,lH c.heard m.fr⟩)) hb rfl rfl hx rfl rfl hhu hhs (by dsimp only;omega) (λ_=>⟨hs,akt⟩) (λh=>by cases h)).send (l:=[]) λx hx=>by cases hx
     .simp only[if_neg k2];exact(same _ rfl).send (l:=[]) λx hx=>by cases hx
 .rw[if_neg hc];dsimp only;rw[self];exact H.send (l:=[]) λx hx=>by cases hx
def Inv.ap0 (H : Inv jO jD PS w) {g : Nat} {p : Pt} {dd : Bool × ay} {m : Mg} (hp : w.ps[g]? = some p) (KT : w.did[g]? = some dd) (hm : m.kind = 1 \/ m.kind = 4 \/ m.kind = 6 -> qw w m) : Inv jO jD PS (rm jO jD w g p dd m) := by
 have self:({w with ps:=w.ps.set g p}:Wd)=w:=by rw[qc hp]
 have hpi:=H.pi g p hp;have hrd:=vV hp;have hdn:=HO hp;have P:=H.pt g;have hk:g<w.ps.length:=(aF.1 hp).1;have OI:g<w.did.length:=(aF.1 KT).1;have Ls:∀(q:Pt)(dl:List (Bool×ay)),rd {w with ps:=w.ps.set g q,did:=dl} g=q.ready:=λq dl=>by simp[rd,hk]
 have Xt:∀(q:Pt)(dl:List (Bool×ay)),dn {w with ps:=w.ps.set g q,did:=dl} g=q.did:=λq dl=>by simp[dn,hk]
 have nothing:Inv jO jD PS (kf w []):=H.send (l:=[]) λx hx=>by cases hx
 unfold rm pQ
 by_cases hc:m.to=p.id/\m.oU.length=1
 .simp only[if_pos hc];let⟨c1,c2⟩:=hc
  by_cases hk146:m.kind=1\/m.kind=4\/m.kind=6
  .obtain⟨d, hd, hn, hm⟩ := hm hk146;have hh : m.oU.headD 0 = d.id := by rw[hn]; rfl
   rw[hh];have uniq:∀x∈w.jE,x.id=d.id->x=d:=λx hx e=>H.Gd hx hd e
   have h8:=(H.id d hd).1
   have Bl:(p.ready.any (λr=>decide (r.id=d.id))=true)↔mX w g d.id:=by
    unfold mX;rw[hrd];simp
   have Bq:(decide (d.id∈p.did)=true)↔d.id∈dn w g:=by rw[hdn];simp
   by_cases k1:m.kind=1
   .simp only[if_pos k1]
    have hz:(m.fr=d.bo)/\(m.to,m.data)∈d.jN.zip d.lu:=by
     rcases hm with hm | hm | hm | hm | hm | hm | hm
     all_goals first | exact hm.2 | omega
    let⟨hfr,hz⟩:=hz;rw[c1,hpi]at hz;have hgg:(p.id:Int)∈d.jN:=by rw[hpi];exact(dO hz).1
    have NB:(p.id:Int).toNat=g:=by rw[hpi];simp
    by_cases q1:decide (d.id∈p.did)=true
    .simp only[if_pos q1,ng,if_true];rw[self];refine H.send λx hx=>?_
     rw[aM]at hx;subst hx;exact⟨d,hd,rfl,.inr (.inr (.inr (.inr (.inl ⟨rfl,hfr,hgg,by rw[show (lF p.id m.fr 5 d.id).fr.toNat=g from NB];exact Bq.1 q1⟩))))⟩
    .simp only[if_neg q1]
     by_cases q2:p.ready.any (λr=>decide (r.id=d.id))=true
     .simp only[if_pos q2,ng,if_true];rw[self];refine H.send λx hx=>?_
      rw[aM]at hx;subst hx;exact⟨d,hd,rfl,.inr (.inl ⟨rfl,hfr,hgg,λ_=>by rw[show (lF p.id m.fr 2 d.id).fr.toNat=g from NB];exact Bl.1 q2⟩)⟩
     .simp only[if_neg q2]
      by_cases q3:jO m.data=false\/nj jO jD p m.data=true
      .simp only[if_pos q3,ng,if_true];rw[self];refine H.send λx hx=>?_
       rw[aM]at hx;subst hx;exact⟨d,hd,rfl,.inr (.inr (.inl ⟨rfl,hfr,hgg⟩))⟩
      .simp only[if_neg q3,ng,if_true];have hip:jO m.data=true:=by
        cases h:jO m.data with
        |true=>rfl
        |false=>exact absurd (.inl h) q3
       have hlk:∀r∈p.ready,jD r.path m.data=false:=λr hr=>by
        cases h:jD r.path m.data with
        |false=>rfl
        |true=>exact absurd (.inr (by unfold nj;rw[hip,eP,fD];exact⟨r,hr,h⟩)) q3
       have YG:∀r∈p.ready,r.id≠d.id:=λr hr e=>q2 (by rw[fD];exact⟨r,hr,by simp[e]⟩)
       have H1:Inv jO jD PS {w with ps:=w.ps.set g ⟨p.id,false,p.ready++[⟨d.id,m.data⟩],p.fd,p.did⟩,did:=w.did}:=by
        refine H.part hp rfl H.ld (λk x hx=>?_) d.id ⟨?_,?_,λr hr=>?_,?_,λi hi=>?_⟩ (λj h=>h) (λj h=>.inl h) (λr hr=>.inl ⟨r,cB _ hr,rfl⟩)
        .rw[H.dq k x hx]
         by_cases e:k=g
         .rw[if_pos e,e,hdn]
         .rw[if_neg e]
        .rw[Ls];simp only[cZ,bF,bQ];rw[fq];refine⟨by have:=P.nd;rwa [hrd]at this,ah,λx hx y hy=>?_⟩
         obtain⟨r,hr,rfl⟩:=bx.1 hx;rw[aM]at hy;rw[hy];exact YG r hr
        .rw[Ls,fm];refine⟨by have:=P.ap;rwa [hrd]at this,ah,λx hx y hy=>?_⟩
         rw[aM]at hy;rw[hy];exact hlk x hx
        .rw[Ls]at hr
         rcases aX.1 hr with hr | hr
         .exact P.re r (by rw[hrd];exact hr)
         .rw[aM]at hr;subst hr;exact⟨d,hd,rfl,hz⟩
        .rw[Xt];have:=P.dd;rwa [hdn]at this
        .rw[Xt]at hi;have:=P.di i (by rw[hdn];exact hi)
         refine⟨this.1,λ⟨r,hr,e⟩=>?_⟩
         rw[Ls]at hr
         rcases aX.1 hr with hr | hr
         .exact this.2 ⟨r,by rw[hrd];exact hr,e⟩
         .rw[aM]at hr;subst hr;simp only at e;subst e;exact q1 (an hi)
       refine H1.send λx hx=>?_
       rw[aM]at hx;subst hx;refine⟨d,hd,rfl,.inr (.inl ⟨rfl,hfr,hgg,λ_=>?_⟩)⟩
       rw[show (lF p.id m.fr 2 d.id).fr.toNat=g from NB]
       exact⟨⟨d.id,m.data⟩,by rw[Ls];simp,rfl⟩
   .simp only[if_neg k1]
    have erd:∀i r,p.ready[i]? = some r->r.id=d.id->∀x,x∈p.ready.eraseIdx i↔x∈p.ready/\x.id≠d.id:=λi r hi e x=>by
     have:=pq (key:=λr:Rd=>r.id) (l:=p.ready) (by have:=P.nd;rwa [hrd]at this) hi x
     rw[this,e]
    have find:mX w g d.id->∃r,p.ready[p.ready.findIdx λr=>decide (r.id=d.id)]? = some r/\r.id=d.id:=λ⟨r,hr,e⟩=>by
     rw[hrd]at hr;have h1:p.ready.findIdx (λr=>decide (r.id=d.id))<p.ready.length:=dH ⟨r,hr,by simp[e]⟩
     exact⟨_,aG h1,KA (key:=λr:Rd=>r.id) (aG h1)⟩
    have sub:∀i,(p.ready.eraseIdx i).Sublist p.ready:=λi=>gT ..
    by_cases k4:m.kind=4
    .simp only[if_pos k4]
     have hz:m.fr=d.bo/\m.to∈d.jN/\(oh w d\/kz w d/\qP w d):=by
      rcases hm with hm | hm | hm | hm | hm | hm | hm
      all_goals first | exact hm.2 | omega
     let⟨hfr,hgg,hs⟩:=hz;have hgp:(p.id:Int)∈d.jN:=by rw[<-c1];exact hgg
     have NB:(p.id:Int).toNat=g:=by rw[hpi];simp
     by_cases q2:p.ready.any (λr=>decide (r.id=d.id))=true
     .simp only[if_pos q2,ng,if_neg (show ¬d.id=0 by omega)]
      let⟨r0,zV,er0⟩:=find (Bl.1 q2);have mem:=erd _ r0 zV er0;have C5:d.id∉p.did:=λh=>(P.di d.id (by rw[hdn];exact h)).2 (Bl.1 q2)
      have H1:Inv jO jD PS {w with ps:=w.ps.set g ⟨p.id,false,p.ready.eraseIdx (p.ready.findIdx λr=>decide (r.id=d.id)),false,p.did++[d.id]⟩,did:=w.did.set g (false,dd.2++[d.id])}:=by
       refine H.part hp rfl (an H.ld) (λk x hx=>?_) d.id ⟨?_,?_,λr hr=>?_,?_,λi hi=>?_⟩ (λj h=>cB _ h) (λj h=>?_) (λr hr=>?_)
       .by_cases e:k=g
        .subst e;rw[aZ OI]at hx;cases hx;simp only[if_true];rw[H.dq k dd KT,hdn]
        .rw[aJ (Ne.symm e)]at hx;rw[if_neg e];exact H.dq k x hx
       .rw[Ls];have:=P.nd;rw[hrd]at this;exact((sub _).map _).nodup this
       .rw[Ls];have:=P.ap;rw[hrd]at this;exact this.sublist (sub _)
       .rw[Ls]at hr;exact P.re r (by rw[hrd];exact(sub _).subset hr)
       .rw[Xt,fq];refine⟨by have:=P.dd;rwa [hdn]at this,ah,λx hx y hy=>?_⟩
        rw[aM]at hy;rw[hy];exact λe=>C5 (e▸hx)
       .rw[Xt]at hi
        rcases aX.1 hi with hi | hi
        .have:=P.di i (by rw[hdn];exact hi)
         exact⟨this.1,λ⟨r,hr,e⟩=>this.2 ⟨r,by rw[hrd];rw[Ls]at hr;exact(sub _).subset hr,e⟩⟩
        .rw[aM]at hi;subst hi;refine⟨⟨d,hd,rfl,by rw[<-hpi];exact hgp⟩,λ⟨r,hr,e⟩=>?_⟩
         rw[Ls]at hr;exact((mem r).1 hr).2 e
       .rcases aX.1 h with h | h
        .exact .inl h
        .rw[aM]at h;exact .inr ⟨h,λx hx e=>by rw[uniq x hx e];exact hs⟩
       .by_cases e:r.id=d.id
        .exact .inr ⟨e,.inr ⟨ah,λx hx e=>by rw[uniq x hx e];exact hs⟩⟩
        .exact .inl ⟨r,(mem r).2 ⟨hr,e⟩,rfl⟩
      refine H1.send λx hx=>?_
      rw[aM]at hx;subst hx;refine⟨d,hd,rfl,.inr (.inr (.inr (.inr (.inl ⟨rfl,hfr,hgp,?_⟩))))⟩;rw[show (lF p.id m.fr 5 d.id).fr.toNat=g from NB,Xt]
      simp
     .simp only[if_neg q2]
      by_cases q1:decide (d.id∈p.did)=true
      .simp only[if_pos q1,ng,if_true];rw[self];refine H.send λx hx=>?_
       rw[aM]at hx;subst hx;exact⟨d,hd,rfl,.inr (.inr (.inr (.inr (.inl ⟨rfl,hfr,hgp,by rw[show (lF p.id m.fr 5 d.id).fr.toNat=g from NB];exact Bq.1 q1⟩))))⟩
      .simp only[if_neg q1,ng,if_true];rw[self];exact nothing
    .simp only[if_neg k4];have k6:m.kind=6:=by omega
     simp only[if_pos k6];have hg:kz w d:=by
      rcases hm with hm | hm | hm | hm | hm | hm | hm
      all_goals first | exact hm.2.2.2 | omega
     by_cases q2:p.ready.any (λr=>decide (r.id=d.id))=true
     .simp only[if_pos q2,ng,if_true];let⟨r0,zV,er0⟩:=find (Bl.1 q2);have mem:=erd _ r0 zV er0
      have H1:Inv jO jD PS {w with ps:=w.ps.set g ⟨p.id,false,p.ready.eraseIdx (p.ready.findIdx λr=>decide (r.id=d.id)),p.fd,p.did⟩,did:=w.did}:=by
       refine H.part hp rfl H.ld (λk x hx=>?_) d.id ⟨?_,?_,λr hr=>?_,?_,λi hi=>?_⟩ (λj h=>h) (λj h=>.inl h) (λr hr=>?_)
       .rw[H.dq k x hx]
        by_cases e:k=g
        .rw[if_pos e,e,hdn]
        .rw[if_neg e]
       .rw[Ls];have:=P.nd;rw[hrd]at this;exact((sub _).map _).nodup this
       .rw[Ls];have:=P.ap;rw[hrd]at this;exact this.sublist (sub _)
       .rw[Ls]at hr;exact P.re r (by rw[hrd];exact(sub _).subset hr)
       .rw[Xt];have:=P.dd;rwa [hdn]at this
       .rw[Xt]at hi;have:=P.di i (by rw[hdn];exact hi)
        exact⟨this.1,λ⟨r,hr,e⟩=>this.2 ⟨r,by rw[hrd];rw[Ls]at hr;exact(sub _).subset hr,e⟩⟩
       .by_cases e:r.id=d.id
        .exact .inr ⟨e,.inl λx hx e=>by rw[uniq x hx e];exact hg⟩
        .exact .inl ⟨r,(mem r).2 ⟨hr,e⟩,rfl⟩
      exact H1.send (l:=[]) λx hx=>by cases hx
     .simp only[if_neg q2,ng,if_true];rw[self];exact nothing
  .have k1:¬m.kind=1:=λe=>hk146 (.inl e)
   have k4:¬m.kind=4:=λe=>hk146 (.inr (.inl e))
   have k6:¬m.kind=6:=λe=>hk146 (.inr (.inr e))
   simp only[if_neg k1,if_neg k4,if_neg k6,ng,if_true];rw[self];exact nothing
 .simp only[if_neg hc,ng,if_true];rw[self];exact nothing
end
end Go.Cr
