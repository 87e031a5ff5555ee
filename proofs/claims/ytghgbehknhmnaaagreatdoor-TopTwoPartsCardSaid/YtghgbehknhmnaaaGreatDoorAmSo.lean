/- Part of the proof that TopTwoPartsCard holds. -/
import Derived.Test.YtghgbehknhmnaaaGreatDoorAmKe
import Derived.Shelf.SlSortCmp.NoneTotal
set_option linter.all false
namespace Go.Am
open Go.Shelf Go.Lib Go.Sort Go.Proofs
def DS(q:Nat)(x:AV):Option Int:=match x.cells[q]? with
 |some (.int .i64 n)=>some n
 |_=>none
def HH(q:Nat)(x:AV):List AV->List AV
 | []=>[x]
 |y::l=>if (DS q x).getD 0<=(DS q y).getD 0 then x::y::l else y::HH q x l
def qj(q:Nat)(es:List AV):List AV:=es.foldr (HH q) []
def qN(q k:Nat)(gs:List FuncId):List AV->AH->Option (AV×AH)
 | [.own b v o n,.fn (.func g) [] []],h=>match h[b]? with
  |some (.row v' sz es) =>
   if v=v'/\o=0/\n<=es.length/\sz=k/\n<4611686018427387904/\gs.contains g=true/\((es.take n).all λx=>(DS q x).isSome)=true/\((es.take n).map λx=>(DS q x).getD 0).Nodup then some (.jg [],h.set b (.row v sz (qj q (es.take n)++es.drop n)))else none
  |_=>none
 | [.b9 _ [],.fn (.func g) [] []],h=>if gs.contains g=true then some (.jg [],h)else none
 |_,_=>none
abbrev Cl(q k:Nat):={l:List Value // l.length=k/\(∀v∈l,v.oneCell'=true)/\∃n,l[q]? = some (.int .i64 n)}
variable{q:Nat}
def Cl.key{k:Nat}(x:Cl q k):Int:=match x.1[q]? with
 |some (.int .i64 n)=>n
 |_=>0
def Cl.AP{k:Nat}{x:Cl q k}{n:Int}(h:x.1[q]? = some (.int .i64 n)):x.key=n:=by unfold Cl.key;rw[h]
def Y4(P:Program)(q k:Nat)(g:FuncId):Prop :=
 (∀args w,(callFunc g args).run P w = .ok (.enter g args) w)/\
 ∀(x y:Cl q k)(W:World),Calls P g #[.agg x.1.toArray,.agg y.1.toArray] W λe w'=>e = .returned (.int .i64 (Lib.compareInt x.key y.key))/\∃n b,w'=grow (W.drewN n) b
def JI{k:Nat}(x y:Cl q k):ltOf (λx y:Cl q k=>Lib.compareInt x.key y.key) x y=decide (x.key<y.key):=by
 unfold ltOf Lib.compareInt
 by_cases h1:x.key<y.key
 .simp[h1]
 .by_cases h2:y.key<x.key<;>simp[h1,h2]
def XP{k:Nat}:SWO (ltOf λx y:Cl q k=>Lib.compareInt x.key y.key) where
 irrefl x:=by rw[JI];simp
 trans x y z h1 h2:=by rw[JI]at *;simp at *;omega
 ntrans x y z h1 h2:=by rw[JI]at *;simp at *;omega
def G6{α β:Type}(l:α->Int)(kb:β->Int)(G:α->β->Prop){es:List α}{o:List β}(hl:es.length=o.length)(hk:es.map l=o.map kb)(M:(es.map l).Nodup)
  (O:∀(i:Nat) x y,es[i]? = some x->o[i]? = some y->G x y) {es':List α} {h:List β} (q:es'.Perm es) (p2:h.Perm o) (K:(es'.map l).Pairwise (·<=·)) (H:(h.map kb).Pairwise (·<=·)) :
  es'.length=h.length/\∀(i:Nat) x y,es'[i]? = some x->h[i]? = some y->G x y:=by
 have L:(es'.map l).Perm (h.map kb):=((q.map l).trans (by rw[hk])).trans (p2.map kb).symm
 have N:es'.map l=h.map kb:=List.Perm.eq_of_pairwise (le:=(·<=·)) (λa b _ _ h1 h2=>Int.le_antisymm h1 h2) K H L
 refine⟨by rw[q.length_eq,p2.length_eq,hl],λi x y A z=>?_⟩
 have r:l x=kb y:=by
  have h1:(es'.map l)[i]? = some (l x):=by rw[bP,A];rfl
  have h2:(h.map kb)[i]? = some (kb y):=by rw[bP,z];rfl
  rw[N,h2]at h1;exact(bB h1).symm
 let⟨j,E⟩:=dy (q.mem_iff.1 (bL A));let⟨j',n⟩:=dy (p2.mem_iff.1 (bL z));have e1:(es.map l)[j]? = some (l x):=by rw[bP,E];rfl
 have F:(es.map l)[j']? = some (kb y):=by rw[hk,bP,n];rfl
 rw[<-r]at F;have v:j=j':=by
  have h1:=(aD.1 e1);have h2:=(aD.1 F);let⟨T,S⟩:=h1;let⟨b1,Q⟩:=h2;exact(List.getElem_inj M).1 (S.trans Q.symm)
 subst v;exact O j x y E n
section
variable{P:Program}{ρ:Ren}
def xB(q:Nat)(x:AV):∀l:List AV,(HH q x l).Perm (x::l)
 | []=>.refl _
 |y::l=>by
  rw[HH];split
  .exact .refl _
  .exact((xB q x l).cons y).trans (.swap x y l)
def lH(q:Nat):∀es:List AV,(qj q es).Perm es
 | []=>.refl _
 |x::l=>(xB q x _).trans ((lH q l).cons x)
def G8(q:Nat)(es:List AV):((qj q es).map λx=>(DS q x).getD 0).Pairwise (·<=·):=by
 rw[fG]
 induction es with
 |nil=>exact .nil
 |cons x l h =>
  show (HH q x (qj q l)).Pairwise _;generalize qj q l=m at h
  induction m with
  |nil=>simp[HH]
  |cons y m n =>
   rw[bK]at h;rw[HH];split
   .rename_i i;rw[bK];refine⟨λz b=>?_,bK.2 h⟩
    rcases bw.1 b with rfl | b
    .exact i
    .have:=h.1 z b;omega
   .rename_i i;rw[bK];refine⟨λz b=>?_,n h.2⟩
    rcases bw.1 ((xB q x m).subset b)with rfl | b
    .omega
    .exact h.1 z b
def EP(L:SlLaysF0.n6 P ρ){k:Nat}(hq:q<k)(aE:∀w,(isAgg (ρ.t 24)).run P w = .ok true w)(zE:∀w,(Go.sizeOf (ρ.t 24)).run P w = .ok k w)(hC:oO P (ρ.f 6)){gs:List FuncId}(hg:∀g,gs.contains g=true->Y4 P q k g)
  {args:List AV} {h:AH} {r:AV} {h':AH} (S:qN q k gs args h=some (r,h')):ux P (ρ.f 6) args h r h':=by
 unfold qN at S;split at S
 case h_3=>cases S
 case h_2 =>
  split at S
  case isFalse=>cases S
  cases S;refine⟨hC,λZ β w vs R hl hv=>?_⟩
  obtain⟨u1,O,rfl⟩:∃u1 O,vs=[u1,O]:=by
   match vs,hl with
   | [u1,O],_=>exact⟨u1,O,rfl⟩
  have V1:=hv 0 _ u1 rfl rfl;obtain⟨ad,c,rfl⟩:∃ad c,u1 = .slice ad 0 c:=by
   cases V1.mK;exact⟨_,_,rfl⟩
  refine(AnyF.slices_SortFunc_none L ad c _ w).mono ?_
  rintro e w' ⟨rfl,rfl⟩
  exact⟨.tuple #[],β,rfl,R,Fr.refl _ _ _ _,.jg [] [] rfl λj y u Q=>by simp at Q⟩
 rename_i b v o n0 g;split at S
 case h_2=>cases S
 rename_i v' sz E hb;split at S
 case isFalse=>cases S
 rename_i hc;obtain⟨rfl,rfl,hn0,rfl,hsz,hgs,hks,hnd⟩:=hc;cases S;obtain⟨es,M⟩:∃es,es=E.take n0:=⟨_,rfl⟩;have hel:es.length=n0:=by rw[M,bF];omega
 have hei:∀i (A:i<es.length),E[i]? = some es[i]:=λi A=>by
  have:(E.take n0)[i]? = some es[i]:=by rw[<-M];exact aH A
  rwa [dg,if_pos af]at this
 rw[<-M]at hks hnd⊢;subst hel;let⟨hg1,hg2⟩:=hg g hgs;refine⟨hC,λZ β w vs R hl hv=>?_⟩
 obtain⟨u1,O,rfl⟩:∃u1 O,vs=[u1,O]:=by
  match vs,hl with
  | [u1,O],_=>exact⟨u1,O,rfl⟩
 have V1:=hv 0 _ u1 rfl rfl;have V2:=hv 1 _ O rfl rfl;obtain⟨bd,ad,c,e1,rfl,e2⟩:=V1.kZ
 obtain rfl:O = .func (.func g) #[] #[]:=by
  cases V2 with
  |pure _ _ h=>cases h
  |fn _ _ _ va vc q1 q2 _ _ =>
   obtain rfl:va=[]:=dw.1 q1.symm;obtain rfl:vc=[]:=dw.1 q2.symm;rfl
 let⟨hk0,Sw,b1,b2,b3⟩:=R.blk b _ hb;rw[e1]at b1;cases b1;have ac9:b<h.length:=(aD.1 hb).1
 by_cases PG:es=[]
 .subst PG;refine(AnyF.slices_SortFunc_none L ad c _ w).mono ?_
  rintro e w' ⟨rfl,rfl⟩
  have:h.set b (.row v sz (qj q []++E.drop ([]:List AV).length))=h:=by
   have:qj q []++E.drop ([]:List AV).length=E:=by simp[qj]
   rw[this];apply dJ;intro i
   by_cases A:b=i
   .subst A;rw[aR ac9,hb]
   .rw[aI A]
  rw[this];exact⟨.tuple #[],β,rfl,R,Fr.refl _ _ _ _,.jg [] [] rfl λj y u Q=>by simp at Q⟩
 .have hpos:0<es.length:=gj.2 PG
  rcases b3 with⟨_,b3⟩ | ⟨cb,cur,elem,k1,k2,k3,k4,k5⟩
  .exact absurd (by rw[M,b3];simp) PG
  rcases e2 with⟨_,e2⟩ | ⟨cb',f1,f2,f3,f4⟩
  .omega
  rw[k1]at f1;cases f1;rw[gu,cI]at f2;subst f2;have vo:cb<w.heap.size:=(aW.1 k2).1
  have cell:∀i (A:i<es.length),∃x:Cl q sz,(∀j,j<sz->x.1[j]? = cur[bd.base+(i*sz+j)]?)/\some x.key=DS q es[i]/\∀(j:Nat)(y:AV),es[i].cells[j]? = some y->∃u,x.1[j]? = some u/\oF (Own Z β h) w y u:=by
   intro i A;let⟨g1,g2⟩:=k5 i es[i] (hei i A)
   have all:∀j,j<sz->∃u,cur[bd.base+(i*sz+j)]? = some u/\u.oneCell'=true/\oF (Own Z β h) w (es[i].cells[j]?.getD .dead) u:=by
    intro j X;have T:es[i].cells[j]? = some (es[i].cells[j]'af):=aH af
    let⟨u,h1,h2,h3⟩:=g2 j _ T;exact⟨u,h1,h2,by rw[T];exact h3⟩
   have hkey:=aM.1 hks es[i] (aP A);let⟨n,hn⟩:=bM.1 hkey
   have hcq:es[i].cells[q]? = some (.int .i64 n):=by
    unfold DS at hn;split at hn
    .rename_i hh;cases hn;exact hh
    .cases hn
   let l:List Value:=(List.range sz).map λj=>(cur[bd.base+(i*sz+j)]?).getD .nilFunc
   have hl:∀j,j<sz->l[j]? = cur[bd.base+(i*sz+j)]? := by
    intro j X;let⟨u,h1,_,_⟩:=all j X;simp only[l,bP,gh X,cS,h1,dh]
   have hlq:l[q]? = some (.int .i64 n):=by
    rw[hl q hq];let⟨u,h1,_,h3⟩:=all q hq;rw[hcq]at h3;simp only[dh]at h3;cases h3;exact h1
   refine⟨⟨l,by simp[l],λu hu=>?_,n,hlq⟩,hl,?_,λj y Q=>?_⟩
   .let⟨j,X⟩:=dy hu;have H:j<sz:=by
     have:=(aD.1 X).1
     simpa[l]using this
    let⟨u',h1,h2,_⟩:=all j H;rw[hl j H,h1]at X;cases X;exact h2
   .rw[Cl.AP hlq,hn]
   .have H:j<sz:=by
     have:=(aD.1 Q).1;omega
    let⟨u',h1,h2,h3⟩:=all j H;rw[Q]at h3;exact⟨u',(hl j H).trans h1,h3⟩
  haveI:Inhabited (Cl q sz):=⟨⟨List.replicate sz (.int .i64 0),ai,λu hu=>by rw[List.eq_of_mem_replicate hu];rfl,0,by rw[List.getElem?_replicate,if_pos hq]⟩⟩
  let d:Array (Cl q sz):=Array.ofFn λi:Fin es.length=>Classical.choose (cell i.1 i.2)
  have F:d.size=es.length:=by simp[d]
  have aeJ:∀i (A:i<es.length),d[i]? = some (Classical.choose (cell i A)):=by
   intro i A;rw[cF (by rw[F];exact A)]
   simp[d]
  have aeM:∀i (A:i<es.length),d[i]! = Classical.choose (cell i A):=by
   intro i A;rw[getElem!_pos _ i (by rw[F];exact A)]
   have:=aeJ i A;rw[cF (by rw[F];exact A)]at this
   exact bB this
  have hH:HoldsK Subtype.val sz w cb bd.base d:=by
   intro t ht;rw[size_flatK,F]at ht;rw[get_flatK _ _ _ _ (by rw[F];exact ht)]
   have hti:t / sz<es.length:=ia (by rw[eE];exact ht)
   have htj:t%sz<sz:=fM _ hk0;rw[aeM _ hti];let⟨q1,_,_⟩:=dN (cell _ hti);have N:=q1 _ htj;have K:=(Classical.choose (cell _ hti)).2.1;have WT:t / sz*sz+t%sz=t:=by rw[eE];exact Nat.div_add_mod t sz
   rw[WT]at N;rw[getElem!_pos _ _ (by rw[K];exact htj)]
   rw[aH (by rw[K];exact htj)]at N
   refine⟨?_,?_⟩
   .simp only[World.cell?,k2]
    simpa using N.symm
   .simp[World.frozen?,k2]
  have Y:=AnyQ.slices_SortFunc L sz aE zE Subtype.val (λx=>x.2.1) (λx=>x.2.2.1) (λx y:Cl q sz=>Lib.compareInt x.key y.key) XP g #[] cb bd.base c d w hg1 (λm os dk hs x y=>hg2 x y _) hH vo (by rw[F];exact hsz)
  rw[F]at Y;refine Y.mono ?_
  rintro e w' ⟨rfl,G,m,os,⟨s1,_,s3⟩,s4,rfl⟩
  have adP:G.toList.Perm d.toList:=by
   have h1:G.extract 0 es.length=G:=by rw[<-F,<-s1,Array.extract_size]
   have h2:d.extract 0 es.length=d:=by rw[<-F,Array.extract_size]
   rwa [h1,h2]at s3
  have U:∀i (A:i<es.length),d.toList[i]? = some (Classical.choose (cell i A)):=λi A=>by rw[dD];exact aeJ i A
  have adQ:(G.toList.map Cl.key).Pairwise (·<=·):=by
   rw[fG,aX];intro i j A X hij;have hi':i<G.size:=by simpa using A
   have T:j<G.size:=by simpa using X
   have:=s4 i j (aT _) hij (by rw[<-F,<-s1];exact T)
   rw[JI,getElem!_pos G i hi',getElem!_pos G j T]at this;simp only[decide_eq_false_iff_not,ig]at this⊢;omega
  have hkeys:es.map (λx=>(DS q x).getD 0)=d.toList.map Cl.key:=by
   apply dJ;intro i;rw[bP,bP]
   by_cases A:i<es.length
   .rw[aH A,U i A];let⟨_,q2,_⟩:=dN (cell i A);exact congrArg some (by have:=congrArg (λo=>Option.getD o 0) q2;exact this.symm)
   .rw[dn af,dn (by simpa[F]using A)]
    rfl
  let⟨t1,t2⟩:=G6 (λx=>(DS q x).getD 0) Cl.key (λx (y:Cl q sz)=>x.cells.length=sz/\∀(j:Nat)(z:AV),x.cells[j]? = some z->∃u,y.1[j]? = some u/\oF (Own Z β h) w z u)
   (by simp[F]) hkeys hnd (λi x y N Q=>by
    have A:=(aD.1 N).1;rw[aH A]at N;cases N;rw[U i A]at Q;cases Q;let⟨_,_,q3⟩:=dN (cell i A);exact⟨(k5 i _ (hei i A)).1,q3⟩) (lH q es) adP (G8 q es) adQ
  have W:G.size=es.length:=s1.trans F;have akD:bd.base+E.length*sz<=cur.size:=by rw[k3];exact k4
  have ad2:bd.base+es.length*sz<=cur.size:=by
   have:=br sz hn0;omega
  have heap:∀i,i<w.heap.size->(sortWorldK Subtype.val sz w cb bd.base m G os).heap[i]? = if i=cb then some (.cells (putCells id bd.base (flatK Subtype.val sz G) cur) elem (0,0))else w.heap[i]? := by
   intro i A;have e0:(sortWorldK Subtype.val sz w cb bd.base m G os).heap=(w.heap.modify cb (onCells (putCells id bd.base (flatK Subtype.val sz G))))++os:=rfl;rw[e0,dL (an A),dO]
   by_cases hic:i=cb
   .subst hic;rw[if_pos rfl,if_pos rfl,k2];rfl
   .rw[if_neg (Ne.symm hic),if_neg hic]
  have size:w.heap.size<=(sortWorldK Subtype.val sz w cb bd.base m G os).heap.size:=by
   have e0:(sortWorldK Subtype.val sz w cb bd.base m G os).heap=(w.heap.modify cb (onCells (putCells id bd.base (flatK Subtype.val sz G))))++os:=rfl;rw[e0];simp
  have hown:owned β h b cb:=⟨_,hb,bd,k1,e1⟩
  have hblk:kC (Own Z β h) w (Own Z β (h.set b (.row v sz (qj q es++E.drop es.length)))) (sortWorldK Subtype.val sz w cb bd.base m G os)->oA β (Own Z β (h.set b (.row v sz (qj q es++E.drop es.length)))) (sortWorldK Subtype.val sz w cb bd.base m G os) b (.row v sz (qj q es++E.drop es.length)):=by
   intro hst;refine⟨hk0,bd,e1,b2,.inr ⟨cb,putCells id bd.base (flatK Subtype.val sz G) cur,elem,k1,?_,?_,?_,?_⟩⟩
   .rw[heap cb vo,if_pos rfl]
   .simp[putCells,k3]
   .rw[aU,(lH q es).length_eq,bU,show es.length+(E.length-es.length)=E.length by omega];exact k4
   .intro i x N
    by_cases hil:i<es.length
    case neg =>
     rw[aQ (by rw[(lH q es).length_eq];omega),(lH q es).length_eq,bX,show es.length+(i-es.length)=i by omega]at N
     let⟨g1,g2⟩:=k5 i x N;refine⟨g1,λj z hz=>?_⟩
     let⟨u,z0,z1,z2⟩:=g2 j z hz;refine⟨u,?_,z1,z2.mono hst⟩;have hle:es.length*sz<=i*sz:=br _ af
     simp only[putCells,gW,z0,cS];rw[if_neg (by rw[size_flatK,W];omega)]
    rw[aJ (by rw[(lH q es).length_eq];exact hil)]at N
    have hd:G.toList[i]? = some (G[i]'af):=by rw[dD];exact cF _
    let⟨y1,y2⟩:=t2 i x _ N hd;refine⟨y1,λj z hz=>?_⟩
    let⟨u,z1,z2⟩:=y2 j z hz;have H:j<sz:=by
     have:=(aD.1 hz).1;omega
    have hlt:i*sz+j<es.length*sz:=by
     have:(i+1)*sz<=es.length*sz:=br _ hil;rw[bT,dB]at this;omega
    have NR:(putCells id bd.base (flatK Subtype.val sz G) cur)[bd.base+(i*sz+j)]? = some u:=by
     simp only[putCells,gW];rw[cF af,cS,if_pos ⟨af,by rw[size_flatK,W];omega⟩]
     rw[show bd.base+(i*sz+j)-bd.base=i*sz+j by omega,get_flatK _ _ _ _ (by rw[W];exact hlt)]
     have h1:(i*sz+j) / sz=i:=by rw[eE,Nat.mul_add_div hk0,Nat.div_eq_of_lt H,cI]
     have h2:(i*sz+j)%sz=j:=by rw[eE,Nat.mul_add_mod,Nat.mod_eq_of_lt H]
     rw[h1,h2,getElem!_pos G i af]
     have K:=(G[i]'af).2.1
     rw[getElem!_pos _ j (by rw[K];exact H)]
     rw[aH (by rw[K];exact H)]at z1
     exact z1
    refine⟨u,NR,?_,z2.mono hst⟩;exact(G[i]'af).2.2.1 u (bL z1)
  let⟨R',F'⟩:=R.PZ (X':=.row v sz (qj q es++E.drop es.length)) (β':=β) (w':=sortWorldK Subtype.val sz w cb bd.base m G os) ac9 rfl rfl rfl (λ_ _ _=>rfl) (λ_ _ e=>e)
   (λv0 sz0 E v1 hX hlt=>by cases hX;exact R.later b v sz E v1 hb hlt)
   (λc' hc'=>.inl (by let⟨bd2,p1,p2⟩:=hc';exact⟨_,hb,bd2,p1,p2⟩)) size
   (λb' hb' hno=>by rw[heap b' hb',if_neg (λe=>hno (by rw[e];exact hown))]) hblk
  exact⟨.tuple #[],β,rfl,R',F',.jg [] [] rfl λj y u Q=>by simp at Q⟩
end
end Go.Am
