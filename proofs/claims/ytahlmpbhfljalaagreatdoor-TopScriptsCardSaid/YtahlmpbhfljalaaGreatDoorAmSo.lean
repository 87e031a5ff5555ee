/- Part of the proof that TopScriptsCard holds. -/
import Derived.Test.YtahlmpbhfljalaaGreatDoorAmKe
import Derived.Shelf.SlSortCmp.NoneTotal
set_option linter.all false
namespace Go.Am
open Go.Shelf Go.Lib Go.Sort Go.Proofs
def C7(q:Nat)(x:AV):Option Int:=match x.cells[q]? with
 |some (.int .i64 n)=>some n
 |_=>none
def Hu(q:Nat)(x:AV):List AV->List AV
 | []=>[x]
 |y::l=>if (C7 q x).getD 0<=(C7 q y).getD 0 then x::y::l else y::Hu q x l
def pE(q:Nat)(es:List AV):List AV:=es.foldr (Hu q) []
def qb(q k:Nat)(gs:List FuncId):List AV->AH->Option (AV×AH)
 | [.own b v o n,.fn (.func g) [] []],h=>match h[b]? with
  |some (.row v' sz es) =>
   if v=v'/\o=0/\n<=es.length/\sz=k/\n<4611686018427387904/\gs.contains g=true/\((es.take n).all λx=>(C7 q x).isSome)=true/\((es.take n).map λx=>(C7 q x).getD 0).Nodup then some (.iV [],h.set b (.row v sz (pE q (es.take n)++es.drop n)))else none
  |_=>none
 | [.en _ [],.fn (.func g) [] []],h=>if gs.contains g=true then some (.iV [],h)else none
 |_,_=>none
abbrev Cl(q k:Nat):={l:List Value // l.length=k/\(∀v∈l,v.oneCell'=true)/\∃n,l[q]? = some (.int .i64 n)}
variable{q:Nat}
def Cl.key{k:Nat}(x:Cl q k):Int:=match x.1[q]? with
 |some (.int .i64 n)=>n
 |_=>0
def Cl.zC{k:Nat}{x:Cl q k}{n:Int}(h:x.1[q]? = some (.int .i64 n)):x.key=n:=by unfold Cl.key;rw[h]
def YQ(P:Program)(q k:Nat)(g:FuncId):Prop :=
 (∀args w,(callFunc g args).run P w = .ok (.enter g args) w)/\
 ∀(x y:Cl q k)(W:World),Calls P g #[.agg x.1.toArray,.agg y.1.toArray] W λe w'=>e = .returned (.int .i64 (Lib.compareInt x.key y.key))/\∃n b,w'=grow (W.drewN n) b
def Jz{k:Nat}(x y:Cl q k):ltOf (λx y:Cl q k=>Lib.compareInt x.key y.key) x y=decide (x.key<y.key):=by
 unfold ltOf Lib.compareInt
 by_cases h1:x.key<y.key
 .simp[h1]
 .by_cases h2:y.key<x.key<;>simp[h1,h2]
def XL{k:Nat}:SWO (ltOf λx y:Cl q k=>Lib.compareInt x.key y.key) where
 irrefl x:=by rw[Jz];simp
 trans x y z h1 h2:=by rw[Jz]at *;simp at *;omega
 ntrans x y z h1 h2:=by rw[Jz]at *;simp at *;omega
def GO{α β:Type}(l:α->Int)(kb:β->Int)(F:α->β->Prop){es:List α}{o:List β}(hl:es.length=o.length)(hk:es.map l=o.map kb)(K:(es.map l).Nodup)
  (M:∀(i:Nat) x y,es[i]? = some x->o[i]? = some y->F x y) {es':List α} {h:List β} (q:es'.Perm es) (p2:h.Perm o) (s1:(es'.map l).Pairwise (·<=·)) (G:(h.map kb).Pairwise (·<=·)) :
  es'.length=h.length/\∀(i:Nat) x y,es'[i]? = some x->h[i]? = some y->F x y:=by
 have H:(es'.map l).Perm (h.map kb):=((q.map l).trans (by rw[hk])).trans (p2.map kb).symm
 have L:es'.map l=h.map kb:=List.Perm.eq_of_pairwise (le:=(·<=·)) (λa b _ _ h1 h2=>Int.le_antisymm h1 h2) s1 G H
 refine⟨by rw[q.length_eq,p2.length_eq,hl],λi x y hx z=>?_⟩
 have r:l x=kb y:=by
  have h1:(es'.map l)[i]? = some (l x):=by rw[bM,hx];rfl
  have h2:(h.map kb)[i]? = some (kb y):=by rw[bM,z];rfl
  rw[L,h2]at h1;exact(bB h1).symm
 let⟨j,A⟩:=cU (q.mem_iff.1 (bE hx));let⟨j',n⟩:=cU (p2.mem_iff.1 (bE z));have e1:(es.map l)[j]? = some (l x):=by rw[bM,A];rfl
 have E:(es.map l)[j']? = some (kb y):=by rw[hk,bM,n];rfl
 rw[<-r]at E;have v:j=j':=by
  have h1:=(az.1 e1);have h2:=(az.1 E);let⟨O,a2⟩:=h1;let⟨b1,N⟩:=h2;exact(List.getElem_inj K).1 (a2.trans N.symm)
 subst v;exact M j x y A n
section
variable{P:Program}{ρ:Ren}
def wC(q:Nat)(x:AV):∀l:List AV,(Hu q x l).Perm (x::l)
 | []=>.refl _
 |y::l=>by
  rw[Hu];split
  .exact .refl _
  .exact((wC q x l).cons y).trans (.swap x y l)
def kO(q:Nat):∀es:List AV,(pE q es).Perm es
 | []=>.refl _
 |x::l=>(wC q x _).trans ((kO q l).cons x)
def GQ(q:Nat)(es:List AV):((pE q es).map λx=>(C7 q x).getD 0).Pairwise (·<=·):=by
 rw[fS]
 induction es with
 |nil=>exact .nil
 |cons x l h =>
  show (Hu q x (pE q l)).Pairwise _;generalize pE q l=m at h
  induction m with
  |nil=>simp[Hu]
  |cons y m n =>
   rw[bC]at h;rw[Hu];split
   .rename_i i;rw[bC];refine⟨λz b=>?_,bC.2 h⟩
    rcases aY.1 b with rfl | b
    .exact i
    .have:=h.1 z b;omega
   .rename_i i;rw[bC];refine⟨λz b=>?_,n h.2⟩
    rcases aY.1 ((wC q x m).subset b)with rfl | b
    .omega
    .exact h.1 z b
def Ed(L:SlLaysF0.n6 P ρ){k:Nat}(hq:q<k)(aE:∀w,(isAgg (ρ.t 24)).run P w = .ok true w)(zE:∀w,(Go.sizeOf (ρ.t 24)).run P w = .ok k w)(hC:jH P (ρ.f 6)){gs:List FuncId}(hg:∀g,gs.contains g=true->YQ P q k g)
  {args:List AV} {h:AH} {r:AV} {h':AH} (Q:qb q k gs args h=some (r,h')):nC P (ρ.f 6) args h r h':=by
 unfold qb at Q;split at Q
 case h_3=>cases Q
 case h_2 =>
  split at Q
  case isFalse=>cases Q
  cases Q;refine⟨hC,λZ β w vs R hl hv=>?_⟩
  obtain⟨u1,N,rfl⟩:∃u1 N,vs=[u1,N]:=by
   match vs,hl with
   | [u1,N],_=>exact⟨u1,N,rfl⟩
  have V1:=hv 0 _ u1 rfl rfl;obtain⟨ad,c,rfl⟩:∃ad c,u1 = .slice ad 0 c:=by
   cases V1.lS;exact⟨_,_,rfl⟩
  refine(AnyF.slices_SortFunc_none L ad c _ w).mono ?_
  rintro e w' ⟨rfl,rfl⟩
  exact⟨.tuple #[],β,rfl,R,Fr.refl _ _ _ _,.iV [] [] rfl λj y u O=>by simp at O⟩
 rename_i b v o n0 g;split at Q
 case h_2=>cases Q
 rename_i v' sz E hb;split at Q
 case isFalse=>cases Q
 rename_i hc;obtain⟨rfl,rfl,hn0,rfl,hsz,hgs,hks,hnd⟩:=hc;cases Q;obtain⟨es,M⟩:∃es,es=E.take n0:=⟨_,rfl⟩;have hel:es.length=n0:=by rw[M,bI];omega
 have hei:∀i (A:i<es.length),E[i]? = some es[i]:=λi A=>by
  have:(E.take n0)[i]? = some es[i]:=by rw[<-M];exact aF A
  rwa [cH,if_pos aa]at this
 rw[<-M]at hks hnd⊢;subst hel;let⟨hg1,hg2⟩:=hg g hgs;refine⟨hC,λZ β w vs R hl hv=>?_⟩
 obtain⟨u1,N,rfl⟩:∃u1 N,vs=[u1,N]:=by
  match vs,hl with
  | [u1,N],_=>exact⟨u1,N,rfl⟩
 have V1:=hv 0 _ u1 rfl rfl;have V2:=hv 1 _ N rfl rfl;obtain⟨bd,ad,c,e1,rfl,e2⟩:=V1.jL
 obtain rfl:N = .func (.func g) #[] #[]:=by
  cases V2 with
  |pure _ _ h=>cases h
  |fn _ _ _ va vc q1 q2 _ _ =>
   obtain rfl:va=[]:=eo.1 q1.symm;obtain rfl:vc=[]:=eo.1 q2.symm;rfl
 let⟨hk0,Lo,b1,b2,b3⟩:=R.blk b _ hb;rw[e1]at b1;cases b1;have Y:b<h.length:=(az.1 hb).1
 by_cases QI:es=[]
 .subst QI;refine(AnyF.slices_SortFunc_none L ad c _ w).mono ?_
  rintro e w' ⟨rfl,rfl⟩
  have:h.set b (.row v sz (pE q []++E.drop ([]:List AV).length))=h:=by
   have:pE q []++E.drop ([]:List AV).length=E:=by simp[pE]
   rw[this];apply dm;intro i
   by_cases A:b=i
   .subst A;rw[bh Y,hb]
   .rw[aL A]
  rw[this];exact⟨.tuple #[],β,rfl,R,Fr.refl _ _ _ _,.iV [] [] rfl λj y u O=>by simp at O⟩
 .have hpos:0<es.length:=fJ.2 QI
  rcases b3 with⟨_,b3⟩ | ⟨cb,cur,k1,k2,k3,k4,k5⟩
  .exact absurd (by rw[M,b3];simp) QI
  rcases e2 with⟨_,e2⟩ | ⟨cb',f1,f2,f3,f4⟩
  .omega
  rw[k1]at f1;cases f1;rw[gR,cK]at f2;subst f2;have hcl:cb<w.heap.size:=(aH.1 k2).1
  have cell:∀i (A:i<es.length),∃x:Cl q sz,(∀j,j<sz->x.1[j]? = cur[bd.base+(i*sz+j)]?)/\some x.key=C7 q es[i]/\∀(j:Nat)(y:AV),es[i].cells[j]? = some y->∃u,x.1[j]? = some u/\mM (Own Z β h) w y u:=by
   intro i A;let⟨g1,g2⟩:=k5 i es[i] (hei i A)
   have all:∀j,j<sz->∃u,cur[bd.base+(i*sz+j)]? = some u/\u.oneCell'=true/\mM (Own Z β h) w (es[i].cells[j]?.getD .dead) u:=by
    intro j W;have S:es[i].cells[j]? = some (es[i].cells[j]'aa):=aF aa
    let⟨u,h1,h2,h3⟩:=g2 j _ S;exact⟨u,h1,h2,by rw[S];exact h3⟩
   have hkey:=aJ.1 hks es[i] (aU A);let⟨n,hn⟩:=cC.1 hkey
   have hcq:es[i].cells[q]? = some (.int .i64 n):=by
    unfold C7 at hn;split at hn
    .rename_i hh;cases hn;exact hh
    .cases hn
   let l:List Value:=(List.range sz).map λj=>(cur[bd.base+(i*sz+j)]?).getD .nilFunc
   have hl:∀j,j<sz->l[j]? = cur[bd.base+(i*sz+j)]? := by
    intro j W;let⟨u,h1,_,_⟩:=all j W;simp only[l,bM,fH W,cB,h1,cM]
   have hlq:l[q]? = some (.int .i64 n):=by
    rw[hl q hq];let⟨u,h1,_,h3⟩:=all q hq;rw[hcq]at h3;simp only[cM]at h3;cases h3;exact h1
   refine⟨⟨l,by simp[l],λu hu=>?_,n,hlq⟩,hl,?_,λj y O=>?_⟩
   .let⟨j,W⟩:=cU hu;have H:j<sz:=by
     have:=(az.1 W).1
     simpa[l]using this
    let⟨u',h1,h2,_⟩:=all j H;rw[hl j H,h1]at W;cases W;exact h2
   .rw[Cl.zC hlq,hn]
   .have H:j<sz:=by
     have:=(az.1 O).1;omega
    let⟨u',h1,h2,h3⟩:=all j H;rw[O]at h3;exact⟨u',(hl j H).trans h1,h3⟩
  haveI:Inhabited (Cl q sz):=⟨⟨List.replicate sz (.int .i64 0),ah,λu hu=>by rw[List.eq_of_mem_replicate hu];rfl,0,by rw[List.getElem?_replicate,if_pos hq]⟩⟩
  let d:Array (Cl q sz):=Array.ofFn λi:Fin es.length=>Classical.choose (cell i.1 i.2)
  have F:d.size=es.length:=by simp[d]
  have aeR:∀i (A:i<es.length),d[i]? = some (Classical.choose (cell i A)):=by
   intro i A;rw[bT (by rw[F];exact A)]
   simp[d]
  have aeU:∀i (A:i<es.length),d[i]! = Classical.choose (cell i A):=by
   intro i A;rw[getElem!_pos _ i (by rw[F];exact A)]
   have:=aeR i A;rw[bT (by rw[F];exact A)]at this
   exact bB this
  have hH:HoldsK Subtype.val sz w cb bd.base d:=by
   intro t ht;rw[size_flatK,F]at ht;rw[get_flatK _ _ _ _ (by rw[F];exact ht)]
   have hti:t / sz<es.length:=gC (by rw[ep];exact ht)
   have htj:t%sz<sz:=gO _ hk0;rw[aeU _ hti];let⟨q1,_,_⟩:=dG (cell _ hti);have hx:=q1 _ htj;have K:=(Classical.choose (cell _ hti)).2.1;have WE:t / sz*sz+t%sz=t:=by rw[ep];exact Nat.div_add_mod t sz
   rw[WE]at hx;rw[getElem!_pos _ _ (by rw[K];exact htj)]
   rw[aF (by rw[K];exact htj)]at hx
   refine⟨?_,?_⟩
   .simp only[World.cell?,k2]
    simpa using hx.symm
   .simp[World.frozen?,k2]
  have X:=AnyQ.slices_SortFunc L sz aE zE Subtype.val (λx=>x.2.1) (λx=>x.2.2.1) (λx y:Cl q sz=>Lib.compareInt x.key y.key) XL g #[] cb bd.base c d w hg1 (λm os dk hs x y=>hg2 x y _) hH hcl (by rw[F];exact hsz)
  rw[F]at X;refine X.mono ?_
  rintro e w' ⟨rfl,G,m,os,⟨s1,_,s3⟩,s4,rfl⟩
  have adO:G.toList.Perm d.toList:=by
   have h1:G.extract 0 es.length=G:=by rw[<-F,<-s1,Array.extract_size]
   have h2:d.extract 0 es.length=d:=by rw[<-F,Array.extract_size]
   rwa [h1,h2]at s3
  have T:∀i (A:i<es.length),d.toList[i]? = some (Classical.choose (cell i A)):=λi A=>by rw[cI];exact aeR i A
  have adP:(G.toList.map Cl.key).Pairwise (·<=·):=by
   rw[fS,aW];intro i j A W hij;have hi':i<G.size:=by simpa using A
   have S:j<G.size:=by simpa using W
   have:=s4 i j (bp _) hij (by rw[<-F,<-s1];exact S)
   rw[Jz,getElem!_pos G i hi',getElem!_pos G j S]at this;simp only[decide_eq_false_iff_not,gE]at this⊢;omega
  have hkeys:es.map (λx=>(C7 q x).getD 0)=d.toList.map Cl.key:=by
   apply dm;intro i;rw[bM,bM]
   by_cases A:i<es.length
   .rw[aF A,T i A];let⟨_,q2,_⟩:=dG (cell i A);exact congrArg some (by have:=congrArg (λo=>Option.getD o 0) q2;exact this.symm)
   .rw[cS aa,cS (by simpa[F]using A)]
    rfl
  let⟨t1,t2⟩:=GO (λx=>(C7 q x).getD 0) Cl.key (λx (y:Cl q sz)=>x.cells.length=sz/\∀(j:Nat)(z:AV),x.cells[j]? = some z->∃u,y.1[j]? = some u/\mM (Own Z β h) w z u)
   (by simp[F]) hkeys hnd (λi x y hx O=>by
    have A:=(az.1 hx).1;rw[aF A]at hx;cases hx;rw[T i A]at O;cases O;let⟨_,_,q3⟩:=dG (cell i A);exact⟨(k5 i _ (hei i A)).1,q3⟩) (kO q es) adO (GQ q es) adP
  have U:G.size=es.length:=s1.trans F;have akh:bd.base+E.length*sz<=cur.size:=by rw[k3];exact k4
  have ad2:bd.base+es.length*sz<=cur.size:=by
   have:=bl sz hn0;omega
  have heap:∀i,i<w.heap.size->(sortWorldK Subtype.val sz w cb bd.base m G os).heap[i]? = if i=cb then some (.cells (putCells id bd.base (flatK Subtype.val sz G) cur) bd.ty (0,0))else w.heap[i]? := by
   intro i A;have e0:(sortWorldK Subtype.val sz w cb bd.base m G os).heap=(w.heap.modify cb (onCells (putCells id bd.base (flatK Subtype.val sz G))))++os:=rfl;rw[e0,cT (ak A),cR]
   by_cases hic:i=cb
   .subst hic;rw[if_pos rfl,if_pos rfl,k2];rfl
   .rw[if_neg (Ne.symm hic),if_neg hic]
  have size:w.heap.size<=(sortWorldK Subtype.val sz w cb bd.base m G os).heap.size:=by
   have e0:(sortWorldK Subtype.val sz w cb bd.base m G os).heap=(w.heap.modify cb (onCells (putCells id bd.base (flatK Subtype.val sz G))))++os:=rfl;rw[e0];simp
  have hown:owned β h b cb:=⟨_,hb,bd,k1,e1⟩
  have hblk:jJ (Own Z β h) w (Own Z β (h.set b (.row v sz (pE q es++E.drop es.length)))) (sortWorldK Subtype.val sz w cb bd.base m G os)->nN β (Own Z β (h.set b (.row v sz (pE q es++E.drop es.length)))) (sortWorldK Subtype.val sz w cb bd.base m G os) b (.row v sz (pE q es++E.drop es.length)):=by
   intro hst;refine⟨hk0,bd,e1,b2,.inr ⟨cb,putCells id bd.base (flatK Subtype.val sz G) cur,k1,?_,?_,?_,?_⟩⟩
   .rw[heap cb hcl,if_pos rfl]
   .simp[putCells,k3]
   .rw[aG,(kO q es).length_eq,bW,show es.length+(E.length-es.length)=E.length by omega];exact k4
   .intro i x hx
    by_cases hil:i<es.length
    case neg =>
     rw[aQ (by rw[(kO q es).length_eq];omega),(kO q es).length_eq,bR,show es.length+(i-es.length)=i by omega]at hx
     let⟨g1,g2⟩:=k5 i x hx;refine⟨g1,λj z hz=>?_⟩
     let⟨u,z0,z1,z2⟩:=g2 j z hz;refine⟨u,?_,z1,z2.mono hst⟩;have hle:es.length*sz<=i*sz:=bl _ aa
     simp only[putCells,gv,z0,cB];rw[if_neg (by rw[size_flatK,U];omega)]
    rw[aI (by rw[(kO q es).length_eq];exact hil)]at hx
    have hd:G.toList[i]? = some (G[i]'aa):=by rw[cI];exact bT _
    let⟨y1,y2⟩:=t2 i x _ hx hd;refine⟨y1,λj z hz=>?_⟩
    let⟨u,z1,z2⟩:=y2 j z hz;have H:j<sz:=by
     have:=(az.1 hz).1;omega
    have hlt:i*sz+j<es.length*sz:=by
     have:(i+1)*sz<=es.length*sz:=bl _ hil;rw[bL,dh]at this;omega
    have Di:(putCells id bd.base (flatK Subtype.val sz G) cur)[bd.base+(i*sz+j)]? = some u:=by
     simp only[putCells,gv];rw[bT aa,cB,if_pos ⟨aa,by rw[size_flatK,U];omega⟩]
     rw[show bd.base+(i*sz+j)-bd.base=i*sz+j by omega,get_flatK _ _ _ _ (by rw[U];exact hlt)]
     have h1:(i*sz+j) / sz=i:=by rw[ep,Nat.mul_add_div hk0,Nat.div_eq_of_lt H,cK]
     have h2:(i*sz+j)%sz=j:=by rw[ep,Nat.mul_add_mod,Nat.mod_eq_of_lt H]
     rw[h1,h2,getElem!_pos G i aa]
     have K:=(G[i]'aa).2.1
     rw[getElem!_pos _ j (by rw[K];exact H)]
     rw[aF (by rw[K];exact H)]at z1
     exact z1
    refine⟨u,Di,?_,z2.mono hst⟩;exact(G[i]'aa).2.2.1 u (bE z1)
  let⟨R',F'⟩:=R.Ly (X':=.row v sz (pE q es++E.drop es.length)) (β':=β) (w':=sortWorldK Subtype.val sz w cb bd.base m G os) Y rfl rfl rfl (λ_ _ _=>rfl) (λ_ _ e=>e)
   (λv0 sz0 E v1 hX hlt=>by cases hX;exact R.later b v sz E v1 hb hlt)
   (λc' hc'=>.inl (by let⟨bd2,p1,p2⟩:=hc';exact⟨_,hb,bd2,p1,p2⟩)) size
   (λb' hb' hno=>by rw[heap b' hb',if_neg (λe=>hno (by rw[e];exact hown))]) hblk
  exact⟨.tuple #[],β,rfl,R',F',.iV [] [] rfl λj y u O=>by simp at O⟩
end
end Go.Am
