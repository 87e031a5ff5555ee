/- Part of the proof that TopPassedCard holds. -/
import Derived.Test.YtaepagegdgdlhaaGreatDoorAmKe
import Derived.Shelf.SlSortCmp.NoneTotal
set_option linter.all false
namespace Go.Am
open Go.Shelf Go.Lib Go.Sort Go.Proofs
def Bc(q:Nat)(x:AV):Option Int:=match x.cells[q]? with
 |some (.int .i64 n)=>some n
 |_=>none
def Gv(q:Nat)(x:AV):List AV->List AV
 | []=>[x]
 |y::l=>if (Bc q x).getD 0<=(Bc q y).getD 0 then x::y::l else y::Gv q x l
def sv(q:Nat)(es:List AV):List AV:=es.foldr (Gv q) []
def GS(q k:Nat)(gs:List FuncId):List AV->AH->Option (AV×AH)
 | [.own b v o n,.fn (.func g) [] []],h=>match h[b]? with
  |some (.row v' sz es) =>
   if v=v'/\o=0/\n=es.length/\sz=k/\n<4611686018427387904/\gs.contains g=true/\(es.all λx=>(Bc q x).isSome)=true/\(es.map λx=>(Bc q x).getD 0).Nodup then some (.kT [],h.set b (.row v sz (sv q es)))else none
  |_=>none
 |_,_=>none
abbrev Cl(q k:Nat):={l:List Value // l.length=k/\(∀v∈l,v.oneCell'=true)/\∃n,l[q]? = some (.int .i64 n)}
variable{q:Nat}
def Cl.key{k:Nat}(x:Cl q k):Int:=match x.1[q]? with
 |some (.int .i64 n)=>n
 |_=>0
def Cl.Oq{k:Nat}{x:Cl q k}{n:Int}(h:x.1[q]? = some (.int .i64 n)):x.key=n:=by unfold Cl.key;rw[h]
def amG(P:Program)(q k:Nat)(g:FuncId):Prop :=
 (∀args w,(callFunc g args).run P w = .ok (.enter g args) w)/\
 ∀(x y:Cl q k)(W:World),Calls P g #[.agg x.1.toArray,.agg y.1.toArray] W λe w'=>e = .returned (.int .i64 (Lib.compareInt x.key y.key))/\∃n os',w'=grow (W.drewN n) os'
def QY{k:Nat}(x y:Cl q k):ltOf (λx y:Cl q k=>Lib.compareInt x.key y.key) x y=decide (x.key<y.key):=by
 unfold ltOf Lib.compareInt
 by_cases h1:x.key<y.key
 .simp[h1]
 .by_cases h2:y.key<x.key<;>simp[h1,h2]
def afx{k:Nat}:SWO (ltOf λx y:Cl q k=>Lib.compareInt x.key y.key) where
 irrefl x:=by rw[QY];simp
 trans x y z h1 h2:=by rw[QY]at *;simp at *;omega
 ntrans x y z h1 h2:=by rw[QY]at *;simp at *;omega
def NV{α β:Type}(ka:α->Int)(kb:β->Int)(Rl:α->β->Prop){es:List α}{ds:List β}(hl:es.length=ds.length)(hk:es.map ka=ds.map kb)(hn:(es.map ka).Nodup)
  (hR:∀(i:Nat) x y,es[i]? = some x->ds[i]? = some y->Rl x y) {es':List α} {ds':List β} (p1:es'.Perm es) (p2:ds'.Perm ds) (s1:(es'.map ka).Pairwise (·<=·)) (s2:(ds'.map kb).Pairwise (·<=·)) :
  es'.length=ds'.length/\∀(i:Nat) x y,es'[i]? = some x->ds'[i]? = some y->Rl x y:=by
 have hp:(es'.map ka).Perm (ds'.map kb):=((p1.map ka).trans (by rw[hk])).trans (p2.map kb).symm
 have he:es'.map ka=ds'.map kb:=List.Perm.eq_of_pairwise (le:=(·<=·)) (λa b _ _ h1 h2=>Int.le_antisymm h1 h2) s1 s2 hp
 refine⟨by rw[p1.length_eq,p2.length_eq,hl],λi x y hx hy=>?_⟩
 have kxy:ka x=kb y:=by
  have h1:(es'.map ka)[i]? = some (ka x):=by rw[bW,hx];rfl
  have h2:(ds'.map kb)[i]? = some (kb y):=by rw[bW,hy];rfl
  rw[he,h2]at h1;exact(cu h1).symm
 let⟨j,hj⟩:=dJ (p1.mem_iff.1 (aR hx));let⟨j',hj'⟩:=dJ (p2.mem_iff.1 (aR hy));have e1:(es.map ka)[j]? = some (ka x):=by rw[bW,hj];rfl
 have e2:(es.map ka)[j']? = some (kb y):=by rw[hk,bW,hj'];rfl
 rw[<-kxy]at e2;have hjj:j=j':=by
  have h1:=(aF.1 e1);have h2:=(aF.1 e2);let⟨a1,a2⟩:=h1;let⟨b1,b2⟩:=h2;exact(List.getElem_inj hn).1 (a2.trans b2.symm)
 subst hjj;exact hR j x y hj hj'
section
variable{P:Program}{ρ:Ren}
def Bj(q:Nat)(x:AV):∀l:List AV,(Gv q x l).Perm (x::l)
 | []=>.refl _
 |y::l=>by
  rw[Gv];split
  .exact .refl _
  .exact((Bj q x l).cons y).trans (.swap x y l)
def vf(q:Nat):∀es:List AV,(sv q es).Perm es
 | []=>.refl _
 |x::l=>(Bj q x _).trans ((vf q l).cons x)
def NW(q:Nat)(es:List AV):((sv q es).map λx=>(Bc q x).getD 0).Pairwise (·<=·):=by
 rw[iK]
 induction es with
 |nil=>exact .nil
 |cons x l ih =>
  show (Gv q x (sv q l)).Pairwise _;generalize sv q l=m at ih
  induction m with
  |nil=>simp[Gv]
  |cons y m ih2 =>
   rw[bh]at ih;rw[Gv];split
   .rename_i hxy;rw[bh];refine⟨λz hz=>?_,bh.2 ih⟩
    rcases aP.1 hz with rfl | hz
    .exact hxy
    .have:=ih.1 z hz;omega
   .rename_i hxy;rw[bh];refine⟨λz hz=>?_,ih2 ih.2⟩
    rcases aP.1 ((Bj q x m).subset hz)with rfl | hz
    .omega
    .exact ih.1 z hz
def Uv(L:SlLaysF0.n6 P ρ){k:Nat}(hq:q<k)(aE:∀w,(isAgg (ρ.t 24)).run P w = .ok true w)(zE:∀w,(Go.sizeOf (ρ.t 24)).run P w = .ok k w)(hC:tw P (ρ.f 6)){gs:List FuncId}(hg:∀g,gs.contains g=true->amG P q k g)
  {args:List AV} {h:AH} {r:AV} {h':AH} (hr:GS q k gs args h=some (r,h')):zl P (ρ.f 6) args h r h':=by
 unfold GS at hr;split at hr
 case h_2=>cases hr
 rename_i b v o n g;split at hr
 case h_2=>cases hr
 rename_i v' sz es hb;split at hr
 case isFalse=>cases hr
 rename_i hc;obtain⟨rfl,rfl,rfl,rfl,hsz,hgs,hks,C5⟩:=hc;cases hr;let⟨hg1,hg2⟩:=hg g hgs;refine⟨hC,λZ β w vs R hl hv=>?_⟩
 obtain⟨u1,u2,rfl⟩:∃u1 u2,vs=[u1,u2]:=by
  match vs,hl with
  | [u1,u2],_=>exact⟨u1,u2,rfl⟩
 have V1:=hv 0 _ u1 rfl rfl;have V2:=hv 1 _ u2 rfl rfl;obtain⟨bd,ad,c,e1,rfl,e2⟩:=V1.mg
 obtain rfl:u2 = .func (.func g) #[] #[]:=by
  cases V2 with
  |pure _ _ h=>cases h
  |fn _ _ _ va vc q1 q2 _ _ =>
   obtain rfl:va=[]:=eH.1 q1.symm;obtain rfl:vc=[]:=eH.1 q2.symm;rfl
 let⟨hk0,zk,b1,b2,b3⟩:=R.blk b _ hb;rw[e1]at b1;cases b1;have aah:b<h.length:=(aF.1 hb).1
 by_cases lJ:es=[]
 .subst lJ;refine(AnyF.slices_SortFunc_none L ad c _ w).mono ?_
  rintro e w' ⟨rfl,rfl⟩
  have:h.set b (.row v sz (sv q []))=h:=by
   have:sv q []=[]:=by simp[sv]
   rw[this];apply dr;intro i
   by_cases hi:b=i
   .subst hi;rw[aZ aah,hb]
   .rw[aJ hi]
  rw[this];exact⟨.tuple #[],β,rfl,R,Fr.refl _ _ _ _,.kT [] [] rfl λj y u hy=>by simp at hy⟩
 .have hpos:0<es.length:=dX.2 lJ
  rcases b3 with⟨_,b3⟩ | ⟨cb,cur,elem,k1,k2,k3,k4,k5⟩
  .exact absurd b3 lJ
  rcases e2 with⟨_,e2⟩ | ⟨cb',f1,f2,f3,f4⟩
  .omega
  rw[k1]at f1;cases f1;rw[Nat.zero_mul,ct]at f2;subst f2;have oZ:cb<w.heap.size:=(aW.1 k2).1
  -- the elements as they lie
  have cell:∀i (hi:i<es.length),∃x:Cl q sz,(∀j,j<sz->x.1[j]? = cur[bd.base+(i*sz+j)]?)/\some x.key=Bc q es[i]/\∀(j:Nat)(y:AV),es[i].cells[j]? = some y->∃u,x.1[j]? = some u/\qW (Own Z β h) w y u:=by
   intro i hi;let⟨g1,g2⟩:=k5 i es[i] (aG hi)
   have all:∀j,j<sz->∃u,cur[bd.base+(i*sz+j)]? = some u/\u.oneCell'=true/\qW (Own Z β h) w (es[i].cells[j]?.getD .dead) u:=by
    intro j hj;have hj':es[i].cells[j]? = some (es[i].cells[j]'aa):=aG aa
    let⟨u,h1,h2,h3⟩:=g2 j _ hj';exact⟨u,h1,h2,by rw[hj'];exact h3⟩
   have hkey:=aO.1 hks es[i] (aS hi);let⟨n,hn⟩:=dA.1 hkey
   have hcq:es[i].cells[q]? = some (.int .i64 n):=by
    unfold Bc at hn;split at hn
    .rename_i hh;cases hn;exact hh
    .cases hn
   let l:List Value:=(List.range sz).map λj=>(cur[bd.base+(i*sz+j)]?).getD .nilFunc
   have hl:∀j,j<sz->l[j]? = cur[bd.base+(i*sz+j)]? := by
    intro j hj;let⟨u,h1,_,_⟩:=all j hj;simp only[l,bW,gz hj,bJ,h1,bO]
   have hlq:l[q]? = some (.int .i64 n):=by
    rw[hl q hq];let⟨u,h1,_,h3⟩:=all q hq;rw[hcq]at h3;simp only[bO]at h3;cases h3;exact h1
   refine⟨⟨l,by simp[l],λu hu=>?_,n,hlq⟩,hl,?_,λj y hy=>?_⟩
   .let⟨j,hj⟩:=dJ hu;have hjl:j<sz:=by
     have:=(aF.1 hj).1
     simpa[l]using this
    let⟨u',h1,h2,_⟩:=all j hjl;rw[hl j hjl,h1]at hj;cases hj;exact h2
   .rw[Cl.Oq hlq,hn]
   .have hjl:j<sz:=by
     have:=(aF.1 hy).1;omega
    let⟨u',h1,h2,h3⟩:=all j hjl;rw[hy]at h3;exact⟨u',(hl j hjl).trans h1,h3⟩
  haveI:Inhabited (Cl q sz):=⟨⟨List.replicate sz (.int .i64 0),ah,λu hu=>by rw[List.eq_of_mem_replicate hu];rfl,0,by rw[List.getElem?_replicate,if_pos hq]⟩⟩
  let d:Array (Cl q sz):=Array.ofFn λi:Fin es.length=>Classical.choose (cell i.1 i.2)
  have Tl:d.size=es.length:=by simp[d]
  have alQ:∀i (hi:i<es.length),d[i]? = some (Classical.choose (cell i hi)):=by
   intro i hi;rw[cE (by rw[Tl];exact hi)]
   simp[d]
  have alR:∀i (hi:i<es.length),d[i]! = Classical.choose (cell i hi):=by
   intro i hi;rw[getElem!_pos _ i (by rw[Tl];exact hi)]
   have:=alQ i hi;rw[cE (by rw[Tl];exact hi)]at this
   exact cu this
  have hH:HoldsK Subtype.val sz w cb bd.base d:=by
   intro t ht;rw[size_flatK,Tl]at ht;rw[get_flatK _ _ _ _ (by rw[Tl];exact ht)]
   have hti:t / sz<es.length:=je (by rw[fK];exact ht)
   have htj:t%sz<sz:=dP _ hk0;rw[alR _ hti];let⟨q1,_,_⟩:=en (cell _ hti);have hx:=q1 _ htj;have hlen:=(Classical.choose (cell _ hti)).2.1;have aeD:t / sz*sz+t%sz=t:=by rw[fK];exact Nat.div_add_mod t sz
   rw[aeD]at hx;rw[getElem!_pos _ _ (by rw[hlen];exact htj)]
   rw[aG (by rw[hlen];exact htj)]at hx
   refine⟨?_,?_⟩
   .simp only[World.cell?,k2]
    simpa using hx.symm
   .simp[World.frozen?,k2]
  have S6:=AnyQ.slices_SortFunc L sz aE zE Subtype.val (λx=>x.2.1) (λx=>x.2.2.1) (λx y:Cl q sz=>Lib.compareInt x.key y.key) afx g #[] cb bd.base c d w hg1 (λm os dk hs x y=>hg2 x y _) hH oZ (by rw[Tl];exact hsz)
  rw[Tl]at S6;refine S6.mono ?_
  rintro e w' ⟨rfl,d',m,os,⟨s1,_,s3⟩,s4,rfl⟩
  -- the sorted elements
  have akx:d'.toList.Perm d.toList:=by
   have h1:d'.extract 0 es.length=d':=by rw[<-Tl,<-s1,Array.extract_size]
   have h2:d.extract 0 es.length=d:=by rw[<-Tl,Array.extract_size]
   rwa [h1,h2]at s3
  have ab5:∀i (hi:i<es.length),d.toList[i]? = some (Classical.choose (cell i hi)):=λi hi=>by rw[ey];exact alQ i hi
  have aky:(d'.toList.map Cl.key).Pairwise (·<=·):=by
   rw[iK,bY];intro i j hi hj hij;have hi':i<d'.size:=by simpa using hi
   have hj':j<d'.size:=by simpa using hj
   have:=s4 i j (cH _) hij (by rw[<-Tl,<-s1];exact hj')
   rw[QY,getElem!_pos d' i hi',getElem!_pos d' j hj']at this;simp only[decide_eq_false_iff_not,jg]at this⊢;omega
  have hkeys:es.map (λx=>(Bc q x).getD 0)=d.toList.map Cl.key:=by
   apply dr;intro i;rw[bW,bW]
   by_cases hi:i<es.length
   .rw[aG hi,ab5 i hi];let⟨_,q2,_⟩:=en (cell i hi);exact congrArg some (by have:=congrArg (λo=>Option.getD o 0) q2;exact this.symm)
   .rw[b9 aa,b9 (by simpa[Tl]using hi)]
    rfl
  let⟨t1,t2⟩:=NV (λx=>(Bc q x).getD 0) Cl.key (λx (y:Cl q sz)=>x.cells.length=sz/\∀(j:Nat)(z:AV),x.cells[j]? = some z->∃u,y.1[j]? = some u/\qW (Own Z β h) w z u)
   (by simp[Tl]) hkeys C5 (λi x y hx hy=>by
    have hi:=(aF.1 hx).1;rw[aG hi]at hx;cases hx;rw[ab5 i hi]at hy;cases hy;let⟨_,_,q3⟩:=en (cell i hi);exact⟨(k5 i _ (aG hi)).1,q3⟩) (vf q es) akx (NW q es) aky
  have alS:d'.size=es.length:=s1.trans Tl;have aai:bd.base+es.length*sz<=cur.size:=by rw[k3];exact k4
  -- memory behind it
  have heap:∀i,i<w.heap.size->(sortWorldK Subtype.val sz w cb bd.base m d' os).heap[i]? = if i=cb then some (.cells (putCells id bd.base (flatK Subtype.val sz d') cur) elem (0,0))else w.heap[i]? := by
   intro i hi;have e0:(sortWorldK Subtype.val sz w cb bd.base m d' os).heap=(w.heap.modify cb (onCells (putCells id bd.base (flatK Subtype.val sz d'))))++os:=rfl;rw[e0,cR (an hi),eC]
   by_cases hic:i=cb
   .subst hic;rw[if_pos rfl,if_pos rfl,k2];rfl
   .rw[if_neg (Ne.symm hic),if_neg hic]
  have size:w.heap.size<=(sortWorldK Subtype.val sz w cb bd.base m d' os).heap.size:=by
   have e0:(sortWorldK Subtype.val sz w cb bd.base m d' os).heap=(w.heap.modify cb (onCells (putCells id bd.base (flatK Subtype.val sz d'))))++os:=rfl;rw[e0];simp
  have hown:owned β h b cb:=⟨_,hb,bd,k1,e1⟩
  have hblk:lS (Own Z β h) w (Own Z β (h.set b (.row v sz (sv q es)))) (sortWorldK Subtype.val sz w cb bd.base m d' os)->qR β (Own Z β (h.set b (.row v sz (sv q es)))) (sortWorldK Subtype.val sz w cb bd.base m d' os) b (.row v sz (sv q es)):=by
   intro hst;refine⟨hk0,bd,e1,b2,.inr ⟨cb,putCells id bd.base (flatK Subtype.val sz d') cur,elem,k1,?_,?_,?_,?_⟩⟩
   .rw[heap cb oZ,if_pos rfl]
   .simp[putCells,k3]
   .rw[(vf q es).length_eq];exact k4
   .intro i x hx;have hil:i<es.length:=by
     have:=(aF.1 hx).1
     rwa [(vf q es).length_eq]at this
    have hd:d'.toList[i]? = some (d'[i]'aa):=by rw[ey];exact cE _
    let⟨y1,y2⟩:=t2 i x _ hx hd;refine⟨y1,λj z hz=>?_⟩
    let⟨u,z1,z2⟩:=y2 j z hz;have hjl:j<sz:=by
     have:=(aF.1 hz).1;omega
    have hlt:i*sz+j<es.length*sz:=by
     have:(i+1)*sz<=es.length*sz:=bD _ hil;rw[bR,dL]at this;omega
    have wq:(putCells id bd.base (flatK Subtype.val sz d') cur)[bd.base+(i*sz+j)]? = some u:=by
     simp only[putCells,Array.getElem?_mapIdx];rw[cE aa,bJ,if_pos ⟨aa,by rw[size_flatK,alS];omega⟩]
     rw[show bd.base+(i*sz+j)-bd.base=i*sz+j by omega,get_flatK _ _ _ _ (by rw[alS];exact hlt)]
     have h1:(i*sz+j) / sz=i:=by rw[fK,Nat.mul_add_div hk0,Nat.div_eq_of_lt hjl,ct]
     have h2:(i*sz+j)%sz=j:=by rw[fK,Nat.mul_add_mod,Nat.mod_eq_of_lt hjl]
     rw[h1,h2,getElem!_pos d' i aa]
     have hlen:=(d'[i]'aa).2.1
     rw[getElem!_pos _ j (by rw[hlen];exact hjl)]
     rw[aG (by rw[hlen];exact hjl)]at z1
     exact z1
    refine⟨u,wq,?_,z2.mono hst⟩;exact(d'[i]'aa).2.2.1 u (aR z1)
  let⟨R',F'⟩:=R.wv (X':=.row v sz (sv q es)) (β':=β) (w':=sortWorldK Subtype.val sz w cb bd.base m d' os) aah rfl rfl rfl (λ_ _ _=>rfl) (λ_ _ e=>e)
   (λv0 Uo es0 v1 hX hlt=>by cases hX;exact R.later b v sz es v1 hb hlt)
   (λc' CN=>.inl (by let⟨CB,p1,p2⟩:=CN;exact⟨_,hb,CB,p1,p2⟩)) size
   (λb' hb' hno=>by rw[heap b' hb',if_neg (λe=>hno (by rw[e];exact hown))]) hblk
  exact⟨.tuple #[],β,rfl,R',F',.kT [] [] rfl λj y u hy=>by simp at hy⟩
end
end Go.Am
