/- Part of the proof that TopPassedCard holds. -/
import Derived.Test.YtaepagegdgdlhaaGreatDoorAmInsA
import Derived.Test.YtaepagegdgdlhaaGreatDoorAmEnd
set_option linter.all false
namespace Go.Am
open Go.Lib
section
variable{P:Program}{Z:az}{Γ:kP}{β:kW}{h:AH}{w:World}
def zq(b o:Nat)(cur:Array Value)(elem:TypeId)(vs:List Value)(w:World)(sS:w.heap[b]? = some (.cells cur elem (0,0)))(hl:o+vs.length<=cur.size)(h1:∀v∈vs,v.oneCell'=true):
  w.setCells b o vs=w.setRow b (over cur.toList o vs).toArray:=by
 have e1:=run_storeCells_at (P:=default) b o elem vs 0 cur w sS aa h1
 have e2:=run_storeCells_cells (P:=default) b o vs 0 w
  (λc hc=>by
   unfold World.cell?;simp only[sS,ct];simp;omega)
  (λc hc=>by
   unfold World.frozen?;simp only[sS];simp) h1
 rw[e1]at e2
 injection e2 with _ e3
 simp only[ct]at e3;rw[<-e3];rfl
def AK(w:World)(tS tR e:TypeId)(ht:P.underlying tS=some (.slice e))(size:Nat)(hz:∀w,(Go.sizeOf e).run P w = .ok size w)
  (a b:Addr) (la ca lb cb:Nat) (hne:a.block≠b.block) {x:Value} (hx:w.cell? a=some x) {cur:Array Value} {elem:TypeId} (hb:w.heap[b.block]? = some (.cells cur elem (0,0))) :
  (Extern.SlicesOverlaps.overlaps #[tS,tS] #[tR] #[.slice (some a) la ca,.slice (some b) lb cb]).run P w = .ok (.bool false) w:=by
 have hnb:(a.block != b.block)=true:=by simpa using hne
 have apP:(a.block==b.block)=false:=by simpa using hne
 obtain⟨ca',ea',fa',hha,hlt⟩:∃c e f,w.heap[a.block]? = some (.cells c e f)/\a.off<c.size:=by
  unfold World.cell? at hx;split at hx
  .rename_i c e f hh;refine⟨c,e,f,hh,?_⟩;split at hx
   .cases hx
   .exact(aW.1 hx).1
  .cases hx
 have hsa:w.shape? a.block=some (ea',ca'.size):=by simp[World.shape?,hha]
 have hsb:w.shape? b.block=some (elem,cur.size):=by simp[World.shape?,hb]
 have hfb:w.frozen? b=false:=by simp[World.frozen?,hb]
 have hfe:w.frozen? {block:=b.block,off:=cur.size}=false:=by simp[World.frozen?,hb]
 have hk:ca'.size≠0:=aa
 change Sem.run P (α:=Value) (do
  let some t:=(#[tS,tS]:Array TypeId)[0]? | stuck "slices.overlaps: no parameter types"
  let .slice elem<-underlying t | stuck "slices.overlaps: slice type expected"
  let size<-sizeOf elem
  match (some a:Option Addr),(some b:Option Addr)with
  |some a,some b =>
   if la=0\/lb=0\/size=0 then pure (Value.bool false)
   else if a.block != b.block&&(<-frozen a)&&(<-frozen b)then unsupported .addressObserved
   else do
    if a.block != b.block then do
     noView a;noView b
     if<-mayBeOne a b then return Value.bool ((<-choose (.extern "sameAddr.stringBytes" 2))==1)
    pure (Value.bool (a.block==b.block&&a.off<b.off+lb*size&&b.off<a.off+la*size))
  |_,_=>pure (Value.bool false)) w=_
 by_cases h0:la=0\/lb=0\/size=0
 .simp[run_underlying ht,hz,h0]
 .cases hca:ca'.size with
  |zero=>exact absurd hca hk
  |succ k =>
   rw[hca]at hsa;cases hfa:w.frozen? a<;>cases apX:w.frozen? {block:=a.block,off:=k+1} <;>
   simp[run_underlying ht,hz,h0,hnb,apP,frozen,noView,viewAt,mayBeOne,stringish,Sem.run,hsa,hsb,hfa,apX,hfb,hfe]
def setRow_setRow(w:World)(b:Nat)(cur:Array Value)(elem:TypeId)(X Y:Array Value)(sS:w.heap[b]? = some (.cells cur elem (0,0))):(w.setRow b X).setRow b Y=w.setRow b Y:=by
 unfold World.setRow
 congr 1
 apply Array.ext_getElem?;intro i;rw[eC,eC,eC]
 by_cases h:b=i
 .subst h;simp[sS]
 .simp[h]
def uc(b o o':Nat)(cur:Array Value)(elem:TypeId)(vs us:List Value)(w:World)(sS:w.heap[b]? = some (.cells cur elem (0,0)))(hl:o+vs.length<=cur.size)(h1:∀v∈vs,v.oneCell'=true)
  (hl':o'+us.length<=cur.size) (h1':∀v∈us,v.oneCell'=true) :
  (w.setCells b o vs).setCells b o' us=w.setRow b (over (over cur.toList o vs) o' us).toArray:=by
 rw[zq b o cur elem vs w sS hl h1];have hlen:(over cur.toList o vs).length=cur.size:=by rw[jZ _ _ _ (an hl)];simp
 rw[zq b o' (over cur.toList o vs).toArray elem us _ (setRow_heap w b cur _ elem (0,0) sS) (by simpa[hlen]using hl') h1',setRow_setRow w b cur elem _ _ sS]
def rY(sz bytes:Nat)(args:List AV)(h:AH):Option (AV×AH):=match args with
 | [.own b v o n,.int .i64 i,.jB _ [x]] =>
  match h[b]? with
  |some (.row v' sz' es) =>
   if v=v'/\sz'=sz/\x.cells.length=sz/\o+n<=es.length/\0<=i/\i<=n/\(n+1)*bytes<=140737488355328/\n+1<=140737488355328 then
    some (.own b (v+1) 0 (n+1),h.set b (.row (v+1) sz ((((es.drop o).take n).take i.toNat)++x::((es.drop o).take n).drop i.toNat)))
   else none
  |_=>none
 |_=>none
def OB{f tS tI tB tE t0 fO fR:Nat}{i0:TypeInfo}{z:Value}(L:abf P f tS tI tB tE t0 fO fR i0 z){args:List AV}{r:AV}{h':AH}(hr:rY i0.size i0.bytes args h=some (r,h')):zl P f args h r h':=by
 unfold rY at hr;split at hr
 .rename_i b v o n i fl x;split at hr
  .rename_i v' sz' es lJ;split at hr
   .rename_i nR;obtain⟨rfl,rfl,hxl,NC,hi0,hin,hby,h63⟩:=nR;cases hr;obtain⟨k,rfl⟩:∃k:Nat,i=(k:Int):=⟨i.toNat,aa⟩
    have hkn:k<=n:=aa
    simp only[eG];have hpos:=L.pos;refine⟨by let⟨nm,ta,hf,hn⟩:=L.f;exact⟨_,hf,rfl,hn⟩,λZ β w vs R hl hv=>?_⟩
    obtain⟨v1,v2,v3,rfl⟩:∃a b c,vs=[a,b,c]:=by
     match vs,hl with
     | [a,b,c],_=>exact⟨a,b,c,rfl⟩
    have Me:=hv 0 _ _ rfl rfl;have Z2:=(hv 1 _ _ rfl rfl).nr;subst Z2;have hv3:=hv 2 _ _ rfl rfl;let⟨ad3,cc3,e3,asY,_⟩:=pS R (a:=.jB fl [x]) rfl hv3;subst e3;obtain⟨bd,ad,c,hbd,rfl,h2⟩:=Me.mg;have hnc:n<=c:=by
     rcases h2 with⟨_,h2⟩ | ⟨_,_,_,h2,_⟩
     .omega
     .exact h2
    have ako:∃blk oo,ad3=some ⟨blk,oo,none⟩/\¬Own Z β h blk/\jW (Own Z β h) w (λk=>w.cell? ⟨blk,oo+k,none⟩) i0.size [x]:=by
     have hp:=hv3.oJ;generalize hlen:([x]:List AV).length=len at hp;cases hp with
     |jB _ _ _ _ blk oo sz f hf hc ha hs h1 h3 h2 =>
      let⟨e1,e2,_⟩:=ha ah
      refine⟨blk,oo,e1,e2,λj y hy=>?_⟩
      let⟨e4,_⟩:=hs j y hy;have hyx:y=x:=by
       cases j with
       |zero=>simpa using hy.symm
       |succ j=>simp at hy
      have hsz:sz=i0.size:=by rw[<-e4,hyx,hxl]
      subst hsz;refine⟨e4,λq u hu=>⟨f j q,?_,h3 j y hy q u hu,h2 j y hy q u hu⟩⟩
      have:=h1 j y hy q u hu;rw[cz]at this;exact this
    obtain⟨blk,oo,rfl,akz,Wf⟩:=ako;let⟨us,u1,u2,u3,u4⟩:=Wf.list;simp only[dM,dL]at u1;let⟨_,zk,q1,q2,q3⟩:=R.blk b _ lJ;rw[hbd]at q1;cases q1
    by_cases hkn':k=n
    · -- at the end
     subst hkn';have hlen:((es.drop o).take k).length=k:=aj
     have hap:append h i0.size i0.bytes (.own b v o k) [x]=some (.own b (v+1) 0 (k+1),h.set b (.row (v+1) i0.size ((es.drop o).take k++[x]))):=by
      simp only[append,lJ];rw[if_pos ⟨trivial,trivial,by simp[kK,hxl],NC,an hby,an h63⟩]
      rfl
     have hM:∀ty,jS P Z β h w (Builtin.append_ #[tS,tS] ty #[.slice ad k c,.slice (some ⟨blk,oo,none⟩) 1 cc3]) (.own b (v+1) 0 (k+1)) (h.set b (.row (v+1) i0.size ((es.drop o).take k++[x]))):=λty=>by
      refine FM R L.tS L.i L.iz L.zs rfl rfl hpos rfl hap Me (news:=us) (.inl ⟨tS,_,rfl,L.tS,trivial,rfl,λw' hw'=>?_⟩) (.inl ⟨tS,_,rfl,L.tS,trivial⟩) (an u1) u4 u3
      exact run_firstCells_some w' i0.size 1 ⟨blk,oo,none⟩ 1 cc3 us (an u1) (λj u hu=>by
       rw[nU];have:=u2 j u hu
       simpa[World.cell?,hw']using this)
     let⟨rv,w1,β1,e1,k1,k2,k3⟩:=hM tS;have hall:∀ty,(Builtin.append_ #[tS,tS] ty #[.slice ad k c,.slice (some ⟨blk,oo,none⟩) 1 cc3]).run P w = .ok rv w1:=λty=>e1
     refine(ZY L ad k c (some ⟨blk,oo,none⟩) cc3 w hnc hall).mono ?_
     rintro e w' ⟨rfl,rfl⟩
     have e0:∀l:List AV,l.length=k->l.take k++x::l.drop k=l++[x]:=λl hl=>by
      rw[br aa,fL aa]
     rw[e0 _ hlen];exact⟨rv,β1,rfl,k1,k2,k3⟩
    .have hlt:k<n:=by omega
     rcases h2 with⟨_,h2⟩ | ⟨cb,p1,p2,_,p4⟩
     .omega
     rcases q3 with⟨q3,_⟩ | ⟨c2,cur,elem,g1,g2,g3,g4,g5⟩
     .rw[p1]at q3;cases q3
     rw[p1]at g1;cases g1;subst p2;have hlen:((es.drop o).take n).length=n:=aj
     have hsrc:=vk (o:=o) (n:=n) g2 g5;rw[q2]at p4;let⟨olds,o1,o2,o3,o4⟩:=hsrc.list;rw[hlen]at o1;have hdist:k*i0.size+(n-k)*i0.size=n*i0.size:=by rw[<-bR];congr 1;omega
     have ND:(k+1)*i0.size=k*i0.size+i0.size:=by rw[bR,dL]
     have hn1:(n+1)*i0.size=n*i0.size+i0.size:=by rw[bR,dL]
     rw[bR]at p4;have hnb:blk≠cb:=λe=>akz (.inr ⟨b,e▸⟨_,lJ,bd,p1,hbd⟩⟩)
     have c2l:(olds.drop (k*i0.size)).length=(n-k)*i0.size:=by rw[cq,o1];omega
     have c1l:(olds.take (k*i0.size)).length=k*i0.size:=by rw[bM,o1];omega
     have sA:jW (Own Z β h) w (λj=>(olds.take (k*i0.size))[j]?) i0.size (((es.drop o).take n).take k):=(o4.take k).congr λj hj=>by
      rw[bM,hlen,dZ hkn]at hj;rw[cC,if_pos hj]
     have sB:jW (Own Z β h) w (λj=>(olds.drop (k*i0.size))[j]?) i0.size (((es.drop o).take n).drop k):=(o4.drop k).congr λj hj=>by rw[bU]
     have S0:(((es.drop o).take n).take k).length=k:=by rw[bM,hlen,dZ hkn]
     have hcell:∀j u,olds[j]? = some u->w.cell? ⟨cb,bd.base+o*i0.size+j,none⟩=some u:=o2;rw[q2]
     by_cases hroom:n+1<=c
     .have TW:(n+1)*i0.size<=c*i0.size:=bD _ hroom;have akI:bd.base+o*i0.size+(n+1)*i0.size<=cur.size:=by rw[g3];omega
      have hx0:∃u,w.cell? ⟨blk,oo,none⟩=some u:=by
       have:us[0]? = some (us[0]'aa):=aG _
       exact⟨_,u2 0 _ this⟩
      let⟨x0,hx0⟩:=hx0;let⟨fo,f1,f2,f3,f4,f5⟩:=L.o
      have hsh:=SR L cb (bd.base+o*i0.size) n c k blk oo cc3 (olds.drop (k*i0.size)) us w hlt hroom aa hnb c2l u1
        (λj u hj=>by rw[bU]at hj;have:=hcell _ _ hj;rwa [<-cz]at this)
        (λj hj=>by unfold World.cell?;simp[g2];omega) (λj hj=>by simp[World.frozen?,g2])
        u2 (λu hu=>o3 u (cA hu)) u3
        (λlb cb'=>by
        rw[run_callFunc_extern f1 f3 (by rw[f2];rfl) f4 f5,AK w tS tB tE L.tS i0.size (wO L.i) ⟨blk,oo,none⟩ ⟨cb,_,none⟩ 1 cc3 lb cb' hnb hx0 g2]
        rfl)
      refine hsh.mono ?_
      rintro e w' ⟨rfl,q,rfl⟩
      have hl1:bd.base+o*i0.size+(k+1)*i0.size+(olds.drop (k*i0.size)).length<=cur.toList.length:=by rw[c2l];simp;omega
      have tQ:bd.base+o*i0.size+k*i0.size+us.length<=(over cur.toList (bd.base+o*i0.size+(k+1)*i0.size) (olds.drop (k*i0.size))).length:=by
       rw[jZ _ _ _ hl1,u1];simp;omega
      rw[uc cb _ _ cur elem _ _ {w with drawn:=q} g2 (an hl1) (λu hu=>o3 u (cA hu)) (by rw[jZ _ _ _ hl1]at tQ;simpa using tQ) u3]
      let⟨β1,k1,k2,k3⟩:=R.vR lJ hbd p1 g2 (over (over cur.toList (bd.base+o*i0.size+(k+1)*i0.size) (olds.drop (k*i0.size))) (bd.base+o*i0.size+k*i0.size) us)
       (by rw[jZ _ _ _ tQ,jZ _ _ _ hl1];simp) o (es':=((es.drop o).take n).take k++x::((es.drop o).take n).drop k)
       (by simp only[aL,aQ,cq,S0,hlen];rw[show k+(n-k+1)=n+1 by omega];exact akI)
       (jW.append (sA.congr λj hj=>by
         rw[S0]at hj;simp only[bN];rw[kj _ _ _ tQ,if_neg aa,kj _ _ _ hl1,if_neg aa,cC,if_pos hj]
         have:olds[j]? = some (olds[j]'aa):=aG _
         rw[this];have:=hcell _ _ this;unfold World.cell? at this;simp only[g2]at this
         simpa using this.symm)
        (jW.append (es:=[x]) (u4.congr λj hj=>by
         simp only[dM,dL]at hj;simp only[bN,S0];rw[kj _ _ _ tQ,if_pos aa]
         congr 1;omega)
        (sB.congr λj hj=>by
         rw[cq,hlen]at hj;simp only[bN,S0,dM,dL];rw[kj _ _ _ tQ,if_neg aa,kj _ _ _ hl1,if_pos (by rw[c2l];omega)]
         congr 1;omega)))
      let⟨m1,m2⟩:=k1.drawn q;exact⟨_,β1,rfl,m1,k2.trans m2,(k3 (n+1) c hroom (by rw[g3];omega)).fr m2⟩
     .have Mo:c=n:=by omega
      subst Mo
      have KR:=VV L cb (bd.base+o*i0.size) c k blk oo cc3 (olds.take (k*i0.size)) (olds.drop (k*i0.size)) us w hlt hby h63 c1l c2l u1
        (λj u hj=>by
        rw[cC]at hj;split at hj
        .exact hcell _ _ hj
        .cases hj)
        (λj u hj=>by rw[bU]at hj;have:=hcell _ _ hj;rwa [<-cz]at this)
        u2 (λu hu=>o3 u (cA hu)) u3
      refine KR.mono ?_
      rintro e w' ⟨G,q,yo,hG,hRs,hR1,rfl,rfl⟩
      have hGm:(c+1)*i0.size<=G*i0.size:=bD _ hG;have hl1:k*i0.size+us.length<=yo.toList.length:=by rw[u1];simp;omega
      have tQ:(k+1)*i0.size+(olds.drop (k*i0.size)).length<=(over yo.toList (k*i0.size) us).length:=by
       rw[jZ _ _ _ hl1,c2l];simp;omega
      have hnew:({w with drawn:=q}.alloc (.cells yo tE)).heap[w.heap.size]? = some (.cells yo tE (0,0)):=heap_alloc_new {w with drawn:=q} _
      rw[uc w.heap.size _ _ yo tE _ _ _ hnew (an hl1) u3 (by rw[jZ _ _ _ hl1]at tQ;simpa using tQ) (λu hu=>o3 u (cA hu))]
      have hX:(over (over yo.toList (k*i0.size) us) ((k+1)*i0.size) (olds.drop (k*i0.size))).toArray.size=G*i0.size:=by
       rw[eZ,jZ _ _ _ tQ,jZ _ _ _ hl1];simpa using hRs
      let⟨β1,k1,k2,k3⟩:=R.FN lJ (es':=((es.drop o).take c).take k++x::((es.drop o).take c).drop k) (w':=({w with drawn:=q}.alloc (.cells yo tE)).setRow w.heap.size (over (over yo.toList (k*i0.size) us) ((k+1)*i0.size) (olds.drop (k*i0.size))).toArray)
       (cur:=(over (over yo.toList (k*i0.size) us) ((k+1)*i0.size) (olds.drop (k*i0.size))).toArray) (elem:=tE) rfl rfl rfl
       (by
        unfold World.setRow;apply Array.ext_getElem?;intro j;show ((w.heap.push (.cells yo tE)).modify w.heap.size _)[j]? = _;rw[eC,fA,fA]
        by_cases hj:j=w.heap.size
        .subst hj;simp
        .have:w.heap.size≠j:=λe=>hj e.symm
         simp[hj,this])
       (by simp only[aL,aQ,cq,S0,hlen];rw[hX,show k+(c-k+1)=c+1 by omega];exact hGm)
       (jW.append (sA.congr λj hj=>by
         rw[S0]at hj;simp only[bN,bE];rw[kj _ _ _ tQ,if_neg aa,kj _ _ _ hl1,if_neg aa,<-hR1 j hj]
         simp)
        (jW.append (es:=[x]) (u4.congr λj hj=>by
         simp only[dM,dL]at hj;simp only[bN,S0,bE];rw[kj _ _ _ tQ,if_neg aa,kj _ _ _ hl1,if_pos aa]
         congr 1;omega)
        (sB.congr λj hj=>by
         rw[cq,hlen]at hj;simp only[bN,S0,dM,dL,bE];rw[kj _ _ _ tQ,if_pos (by rw[c2l];omega)]
         congr 1;omega)))
      exact⟨_,β1,rfl,k1,k2,k3 (c+1) G hG (by rw[hX];exact aN _)⟩
   .cases hr
  .cases hr
 .cases hr
end
inductive Kd where
 |no
 |p (F:AF)
 |h (F:AF)
 |x (s:List AV->AH->Option (AV×AH))
 |y (s:List AV->Option AV)
  |r (F:AF) (d:Nat)
  |q (F:AF)
  |z (s:kP->List AV->AH->Option (AV×AH))
noncomputable def qH(Γ:kP)(f:FuncId)(F:AF):Nat->kP
 |0=>Γ
 |k+1=>⟨λg args=>if g=f then none else Γ.p g args,λg args h=>if g=f then rE (qH Γ f F k) F args h else Γ.h g args h⟩
variable{f:FuncId}{F:AF}{Γ:kP}
def ac5{g:FuncId}(hg:g≠f)(args:List AV):∀k,(qH Γ f F k).p g args=Γ.p g args
 |0=>rfl
 |k+1=>by simp only[qH,if_neg hg]
def ac6{g:FuncId}(hg:g≠f)(args:List AV)(h:AH):∀k,(qH Γ f F k).h g args h=Γ.h g args h
 |0=>rfl
 |k+1=>by simp only[qH,if_neg hg]
def Sw(k:Nat)(args:List AV)(h:AH):jM (qH Γ f F (k+1)) f args h=rE (qH Γ f F k) F args h:=by
 have hp:∀args,(qH Γ f F (k+1)).p f args=none:=λargs=>by simp only[qH,if_true]
 unfold jM;split
 .rw[hp];simp only[qH,if_true]
 .simp only[qH,if_true]
structure k8 where
 kd:FuncId->Kd
 pos:FuncId->Nat
noncomputable def k8.jG(C:k8):Nat->kP
 |0=>⟨λ_ _=>none,λ_ _ _=>none⟩
 |n+1=>⟨λg args=>if C.pos g=n then(match C.kd g with | .p F=>rV (C.jG n) F args | .y s=>s args | _=>none)else(C.jG n).p g args,
   λg args h=>if C.pos g=n then(match C.kd g with | .p F=>rE (C.jG n) F args h | .h F=>rE (C.jG n) F args h | .x s=>s args h | .r F d=>rE (qH (C.jG n) g F d) F args h | .z s=>s (C.jG n) args h | .q F=>(kY h args).bind λq=>rE (C.jG n) F q.1 q.2 | _=>none)else(C.jG n).h g args h⟩
variable{C:k8}
def k8.qZ(hk:C.kd f = .p F){k:Nat}(hp:C.pos f=k):∀ {n:Nat},k<n->∀args,(C.jG n).p f args=rV (C.jG k) F args
 |0,h,_=>aa
 |n+1,h,args=>by
  simp only[k8.jG]
  by_cases e:C.pos f=n
  .rw[if_pos e,hk];simp only;rw[<-e,hp]
  .rw[if_neg e];exact k8.qZ hk hp aa args
def k8.K8(hk:C.kd f = .h F){k:Nat}(hp:C.pos f=k):∀ {n:Nat},k<n->∀args h,(C.jG n).h f args h=rE (C.jG k) F args h
 |0,h,_,_=>aa
 |n+1,h,args,hh=>by
  simp only[k8.jG]
  by_cases e:C.pos f=n
  .rw[if_pos e,hk];simp only;rw[<-e,hp]
  .rw[if_neg e];exact k8.K8 hk hp aa args hh
def k8.NM(hk:C.kd f = .p F){k:Nat}(hp:C.pos f=k):∀ {n:Nat},k<n->∀args h,(C.jG n).h f args h=rE (C.jG k) F args h
 |0,h,_,_=>aa
 |n+1,h,args,hh=>by
  simp only[k8.jG]
  by_cases e:C.pos f=n
  .rw[if_pos e,hk];simp only;rw[<-e,hp]
  .rw[if_neg e];exact k8.NM hk hp aa args hh
def k8.Uk{d:Nat}(hk:C.kd f = .r F d){k:Nat}(hp:C.pos f=k):∀ {n:Nat},k<n->∀args h,(C.jG n).h f args h=rE (qH (C.jG k) f F d) F args h
 |0,h,_,_=>aa
 |n+1,h,args,hh=>by
  simp only[k8.jG]
  by_cases e:C.pos f=n
  .rw[if_pos e,hk];simp only;rw[<-e,hp]
  .rw[if_neg e];exact k8.Uk hk hp aa args hh
def k8.Uj{d:Nat}(hk:C.kd f = .r F d):∀(n:Nat) args,(C.jG n).p f args=none
 |0,_=>rfl
 |n+1,args=>by
  simp only[k8.jG];split
  .rw[hk]
  .exact k8.Uj hk n args
def k8.vU{s:List AV->AH->Option (AV×AH)}(hk:C.kd f = .x s){k:Nat}(hp:C.pos f=k):∀ {n:Nat},k<n->∀args h,(C.jG n).h f args h=s args h
 |0,h,_,_=>aa
 |n+1,h,args,hh=>by
  simp only[k8.jG]
  by_cases e:C.pos f=n
  .rw[if_pos e,hk]
  .rw[if_neg e];exact k8.vU hk hp aa args hh
def k8.abm{s:kP->List AV->AH->Option (AV×AH)}(hk:C.kd f = .z s){k:Nat}(hp:C.pos f=k):∀ {n:Nat},k<n->∀args h,(C.jG n).h f args h=s (C.jG k) args h
 |0,h,_,_=>aa
 |n+1,h,args,hh=>by
  simp only[k8.jG]
  by_cases e:C.pos f=n
  .rw[if_pos e,hk];simp only;rw[<-e,hp]
  .rw[if_neg e];exact k8.abm hk hp aa args hh
def k8.abn(hk:C.kd f = .q F){k:Nat}(hp:C.pos f=k):∀ {n:Nat},k<n->∀args h,(C.jG n).h f args h=(kY h args).bind λq=>rE (C.jG k) F q.1 q.2
 |0,h,_,_=>aa
 |n+1,h,args,hh=>by
  simp only[k8.jG]
  by_cases e:C.pos f=n
  .rw[if_pos e,hk];simp only;rw[<-e,hp]
  .rw[if_neg e];exact k8.abn hk hp aa args hh
def k8.Dt{s:List AV->Option AV}(hk:C.kd f = .y s){k:Nat}(hp:C.pos f=k):∀ {n:Nat},k<n->∀args,(C.jG n).p f args=s args
 |0,h,_=>aa
 |n+1,h,args=>by
  simp only[k8.jG]
  by_cases e:C.pos f=n
  .rw[if_pos e,hk]
  .rw[if_neg e];exact k8.Dt hk hp aa args
def k8.Ip(hk:C.kd f = .h F):∀(n:Nat) args,(C.jG n).p f args=none
 |0,_=>rfl
 |n+1,args=>by
  simp only[k8.jG];split
  .rw[hk]
  .exact k8.Ip hk n args
def k8.ua{s:List AV->AH->Option (AV×AH)}(hk:C.kd f = .x s):∀(n:Nat) args,(C.jG n).p f args=none
 |0,_=>rfl
 |n+1,args=>by
  simp only[k8.jG];split
  .rw[hk]
  .exact k8.ua hk n args
def Kd.ok(P:Program)(f:FuncId):Kd->Prop
 | .no=>True
 | .p F=>okF P f F=true
 | .h F=>okF P f F=true
 | .x s=>∀args h r h',s args h=some (r,h')->zl P f args h r h'
 | .y s=>∀args r h,s args=some r->zl P f args h r h
 | .r F _=>okF P f F=true
 | .q F=>okF P f F=true
 | .z s=>∀Γ,mH P Γ->∀args h r h',s Γ args h=some (r,h')->zl P f args h r h'
def nth{α:Type}:List α->Nat->α->α
 | [],_,d=>d
 |a::_,0,_=>a
 |_::l,n+1,d=>nth l n d
def Kd.okB(P:Program)(f:FuncId):Kd->Bool
 | .no=>true
 | .p F=>okF P f F
 | .h F=>okF P f F
 | .r F _=>okF P f F
 | .q F=>okF P f F
 |_=>false
def Kd.adv{P:Program}{k:Kd}(h:k.okB P f=true):k.ok P f:=by
 cases k<;>first | exact h | exact trivial | cases h
def okL(b:Nat->Kd->Bool)(E:ax):Nat->List Kd->Bool
 |_,[]=>true
 |n,k::l=>(b n k||E.contains n)&&okL b E (n+1) l
def abg(p:az):ax->Prop
 | []=>True
 |i::l=>p i/\abg p l
def abg.mem{p:az}{i:Nat}:∀ {E:ax},abg p E->i∈E->p i
 |_::_,h,hi=>by
  rcases aP.1 hi with e | e
  .exact e▸h.1
  .exact h.2.mem e
def Vo{b:Nat->Kd->Bool}{p:Nat->Kd->Prop}(hb:∀i k,b i k=true->p i k)(h0:∀i,p i .no){E:ax}:∀(l:List Kd)(n:Nat),okL b E n l=true->∀i,n+i∉E->p (n+i) (nth l i .no)
 | [],_,_,_,_=>h0 _
 |k::l,n,h,i,hi=>by
  simp only[okL,aH,bS]at h;cases i with
  |zero=>exact hb _ _ (h.1.resolve_right λc=>hi (an c))
  |succ i =>
   have:=Vo hb h0 l (n+1) h.2 i (by rwa [show n+1+i=n+(i+1) by omega])
   rwa [show n+1+i=n+(i+1) by omega]at this
def Vn{b:Nat->Kd->Bool}{p:Nat->Kd->Prop}(hb:∀i k,b i k=true->p i k)(h0:∀i,p i .no){l:List Kd}(E:ax)(h:okL b E 0 l=true)(hE:abg (λi=>p i (nth l i .no)) E):∀f,p f (nth l f .no):=λf=>by
 by_cases hf:f∈E
 .exact hE.mem hf
 .have:=Vo hb h0 l 0 h f (by rwa [bE])
  rwa [bE]at this
def PR{P:Program}(hm:P.follows .mixedOrders=true){Γ:kP}(hΓ:mH P Γ){f:FuncId}{F:AF}(ok:okF P f F=true):∀k,mH P (qH Γ f F k)
 |0=>hΓ
 |k+1=>by
  have ih:=PR hm hΓ ok k;refine⟨λg args r h ha hr=>?_,λg args h r h' hr=>?_⟩
  .simp only[qH]at hr;split at hr
   .cases hr
   .exact hΓ.p g args r h ha hr
  .simp only[qH]at hr;split at hr
   .rename_i hg;subst hg;exact sy hm ih ok hr
   .exact hΓ.h g args h r h' hr
def k8.NN{P:Program}(hm:P.follows .mixedOrders=true)(hok:∀f,(C.kd f).ok P f):∀n,mH P (C.jG n)
 |0=>PD
 |n+1=>by
  have ih:=k8.NN hm hok n;refine⟨λf args r h ha hr=>?_,λf args h r h' hr=>?_⟩
  .simp only[k8.jG]at hr;split at hr
   .have:=hok f;split at hr
    .rename_i F hF;rw[hF]at this;exact Ll hm ih this ha hr h
    .rename_i s hF;rw[hF]at this;exact this args r h hr
    .cases hr
   .exact ih.p f args r h ha hr
  .simp only[k8.jG]at hr;split at hr
   .have:=hok f;split at hr
    .rename_i F hF;rw[hF]at this;exact sy hm ih this hr
    .rename_i F hF;rw[hF]at this;exact sy hm ih this hr
    .rename_i s hF;rw[hF]at this;exact this args h r h' hr
    .rename_i F d hF;rw[hF]at this;exact sy hm (PR hm ih this d) this hr
    .rename_i s hF;rw[hF]at this;exact this _ ih args h r h' hr
    .rename_i F hF;rw[hF]at this;simp only[aI]at hr;let⟨⟨a1,h1⟩,hp,hr⟩:=hr;let⟨hc,hs⟩:=sy hm ih this hr;refine⟨hc,λZ β w vs R hl hv=>?_⟩
     let⟨k1,k2,k3,k4,k5⟩:=uF args R hp hl hv;refine(hs Z β w vs k1 k3 k4).mono ?_
     rintro e w' ⟨v,β',rfl,m1,m2,m3⟩
     exact⟨v,β',rfl,m1,k2.trans m2,m3⟩
    .cases hr
   .exact ih.h f args h r h' hr
def LD:∀ {args:List AV} (h:AH),args.all AV.lT=true->kY h args=some (args,h)
 | [],_,_=>rfl
 |a::l,h,ha=>by
  simp only[bH,aH]at ha;have e:oT h a=some (a,h):=by unfold oT;rw[if_pos ha.1]
  simp only[kY,e,bX,LD h ha.2]
def JH{args:List AV}{r:AV}{h:AH}(ha:args.all AV.lT=true)(hp:Γ.p f args=some r):jM Γ f args h=some (r,h):=by
 unfold jM;rw[LD h ha];simp only[hp]
def oO{args:List AV}{h:AH}(hp:∀args,Γ.p f args=none):jM Γ f args h=Γ.h f args h:=by
 unfold jM;split
 .rw[hp]
 .rfl
def vD(x:Option AV)(h':AH)(Γ:kP)(f:FuncId)(args:List AV)(h:AH):Option (AV×AH):=match x with
 |some r=>some (r,h')
 |none=>Γ.h f args h
def vC(x:Option (List AV×AH))(Γ:kP)(f:FuncId)(args:List AV)(h:AH):Option (AV×AH):=match x with
 |some q=>vD (Γ.p f q.1) q.2 Γ f args h
 |none=>Γ.h f args h
@[simp]theorem amK(r:AV)(h':AH)(Γ:kP)(f:FuncId)(args:List AV)(h:AH):vD (some r) h' Γ f args h=some (r,h'):=rfl
@[simp]theorem amL(h':AH)(Γ:kP)(f:FuncId)(args:List AV)(h:AH):vD none h' Γ f args h=Γ.h f args h:=rfl
@[simp]theorem amM(a':List AV)(h':AH)(Γ:kP)(f:FuncId)(args:List AV)(h:AH):vC (some (a',h')) Γ f args h=vD (Γ.p f a') h' Γ f args h:=rfl
@[simp]theorem amN(Γ:kP)(f:FuncId)(args:List AV)(h:AH):vC none Γ f args h=Γ.h f args h:=rfl
def mG(Γ:kP)(f:FuncId)(args:List AV)(h:AH):jM Γ f args h=vC (kY h args) Γ f args h:=by
 unfold jM vC vD;cases kY h args with
 |none=>rfl
 |some q=>cases Γ.p f q.1<;>rfl
@[simp]theorem afw(sz bytes:Nat)(f:Bool)(es:List AV)(h:AH):mO sz bytes [.jB f es] h =
  if kK sz es=true/\0<sz/\es.length*bytes<=140737488355328/\es.length<=140737488355328 then some (.own h.length 0 0 es.length,h++[.row 0 sz es])else none:=rfl
@[simp]def afv(sz bytes b v o n:Nat)(h:AH):mO sz bytes [.own b v o n] h=@mZ _ _ (Xq v o n h[b]?) ⟨λes =>
  if kK sz es=true/\0<sz/\es.length*bytes<=140737488355328/\es.length<=140737488355328 then some (.own h.length 0 0 es.length,h++[.row 0 sz es])else none⟩:=by
 rw[<-Tk];rfl
def qG{P:Program}(hm:P.follows .mixedOrders=true){sz bytes:Nat}{zero:AV}(ok:okF P f (qN sz bytes zero)=true):(Kd.x (mO sz bytes)).ok P f :=
 λ_ _ _ _ hr=>Tu hm PD ok hr
structure Nu(P:Program)(f:FuncId)(tS tI tB tE t0:TypeId)(fO fR:FuncId)(sz bytes:Nat):Prop where
 mixed:P.follows .mixedOrders=true
 f:∃nm ta,P.funcs[f]? = some (VY nm ta tS tI tB tE t0 fO fR)/\(nm == "runtime.NumGoroutine")=false
 o:∃fn,P.funcs[fO]? = some fn/\fn.body=none/\(fn.name == "runtime.NumGoroutine")=false/\Extern.findNext fn=none/\Extern.find fn=some (Extern.SlicesOverlaps.overlaps #[tS,tS] #[tB])
 tS:P.underlying tS=some (.slice tE)
 tI:P.underlying tI=some (.int .i64)
 tB:P.underlying tB=some .bool
 t0:P.underlying t0=some (.tuple #[])
 i:(P.info? tE).map (λi=>(i.zero.map λz=>z.cells.size,i.size,i.bytes))=some (some sz,sz,bytes)
 pos:0<sz
def vg{P:Program}{f tS tI tB tE t0 fO fR:Nat}{sz bytes:Nat}(L:Nu P f tS tI tB tE t0 fO fR sz bytes):(Kd.x (rY sz bytes)).ok P f:=by
 intro args h r h' hr;have hi:=L.i;cases hq:P.info? tE with
 |none=>rw[hq]at hi;cases hi
 |some i0 =>
  rw[hq]at hi;simp only[bJ,bp,Prod.mk.injEq]at hi;obtain⟨h1,rfl,rfl⟩:=hi;cases hz:i0.zero with
  |none=>rw[hz]at h1;cases h1
  |some z =>
   rw[hz]at h1;simp only[bJ,bp]at h1;exact OB (z:=z) ⟨L.mixed,L.f,L.o,L.tS,L.tI,L.tB,L.t0,hq,hz,h1,L.pos⟩ hr
mutual
def abb:AV->AV->Bool
 | .dead,.dead=>true
 | .undef,.undef=>true
 | .bool a,.bool b=>decide (a=b)
 | .int k n,.int k' m=>decide (k=k')&&decide (n=m)
 | .str a,.str b=>decide (a=b)
 | .oI,.oI=>true
 | .pg,.pg=>true
 | .ptr a b c d,.ptr a' b' c' d'=>decide (a=a')&&(decide (b=b')&&(decide (c=c')&&decide (d=d')))
 | .kE a,.kE b=>tq a b
 | .jB f a,.jB g b=>decide (f=g)&&tq a b
 | .own a b c d,.own a' b' c' d'=>decide (a=a')&&(decide (b=b')&&(decide (c=c')&&decide (d=d')))
 | .agg a,.agg b=>tq a b
 | .kT a,.kT b=>tq a b
 | .fn f a c,.fn g b d=>decide (f=g)&&(tq a b&&tq c d)
 | .nh,.nh=>true
 | .pn,.pn=>true
 | .nQ a,.nQ b=>decide (a=b)
 |_,_=>false
def tq:List AV->List AV->Bool
 | [],[]=>true
 |a::l,b::m=>abb a b&&tq l m
 |_,_=>false
end
theorem RP(a:AV):∀b,abb a b=true->a=b:=by
 induction a using AV.rec (motive_2:=λl=>∀m,tq l m=true->l=m)
 all_goals
  intros
  rename_i b h;cases b<;>grind[abb,tq]
theorem Nj:∀a b:List AV,tq a b=true->a=b
 | [],b,h=>by cases b<;>grind[tq]
 |a::l,b,h=>by cases b<;>grind[tq,RP,Nj l]
def BF{A:Type}[DecidableEq A]:List (A×AV)->List (A×AV)->Bool
 | [],[]=>true
 |a::l,b::m=>decide (a.1=b.1)&&(abb a.2 b.2&&BF l m)
 |_,_=>false
theorem HL{A:Type}[DecidableEq A]:∀a b:List (A×AV),BF a b=true->a=b
 | [],b,h=>by cases b<;>grind[BF]
 |(a,x)::l,b,h=>by cases b<;>grind[BF,RP,HL l]
def agm:AB->AB->Bool
 | .gone,.gone=>true
 | .var a,.var b=>tq a b
 | .row v s a,.row v' s' b=>decide (v=v')&&(decide (s=s')&&tq a b)
 | .qa v s a,.qa v' s' b=>decide (v=v')&&(decide (s=s')&&tq a b)
 | .mp a,.mp b=>BF a b
 | .mps a,.mps b=>BF a b
 |_,_=>false
theorem abe(a b:AB)(h:agm a b=true):a=b:=by
 cases a<;>cases b<;>grind[agm,Nj,HL]
def TL:AH->AH->Bool
 | [],[]=>true
 |a::l,b::m=>agm a b&&TL l m
 |_,_=>false
theorem KC:∀a b:AH,TL a b=true->a=b
 | [],b,h=>by cases b<;>grind[TL]
 |a::l,b,h=>by cases b<;>grind[TL,abe,KC l]
def Lf(h:AH):Option (AV×AH)->Option (AV×AH)
 |some (r,h')=>match TL h' h with | true=>some (r,h) | false=>none
 |none=>none
def Mw(h:AH):Option (AV×AH)->Option (AV×AH)
 |some (r,h')=>match TL (h'.take h.length) h with | true=>some (r,h') | false=>none
 |none=>none
theorem UA{h:AH}{a:Option (AV×AH)}{r:AV×AH}(e:Lf h a=some r):tH h a=some r:=by
 cases a<;>grind[Lf,tH,KC]
theorem WY{h:AH}{a:Option (AV×AH)}{r:AV×AH}(e:Mw h a=some r):uQ h a=some r:=by
 cases a<;>grind[Mw,uQ,KC]
noncomputable def HT(pk:FuncId->Bool)(Γ:kP)(f:FuncId)(args:List AV)(h:AH):Option (AV×AH):=match pk f with
 |true=>(kY h args).bind λq=>(Γ.p f q.1).bind λr=>some (r,q.2)
 |false=>Γ.h f args h
noncomputable def yX(pk:FuncId->Bool)(Γ:kP)(v:AV)(args:List AV)(h:AH):Option (AV×AH):=match v with
 | .fn g first cap=>match g with
  | .func g=>HT pk Γ g (first++args++cap) h
  |_=>none
 |_=>none
noncomputable def HK(pk:FuncId->Bool)(Γ:kP)(e:Env)(h:AH):ni->Option (AV×AH)
 | .call f args=>HT pk Γ f (getAll e args) h
 | .l8 f args=>yX pk Γ (f.get e) (getAll e args) h
 | .rR f args=>Lf h (yX pk Γ (f.get e) (getAll e args) h)
 | .qu f args=>Mw h (HT pk Γ f (getAll e args) h)
 | .calls f args=>Lf h (HT pk Γ f (getAll e args) h)
 | .rJ f args=>Mw h (yX pk Γ (f.get e) (getAll e args) h)
 |op=>exec Γ e h op
noncomputable def Ow(pk:FuncId->Bool)(Γ:kP):IT->St->Option St
 | .nil,s=>some s
 | .op d o rest,s=>match HK pk Γ s.e s.h o with
  |some (v,h)=>Ow pk Γ rest (St.put {s with h:=h} d v)
  |none=>none
 | .sc d a c lo hi l r rest,s =>
  match s.e c with
  | .bool b =>
   (if b=a then(Ow pk Γ l s).bind λs'=>match r.get s'.e with
     | .bool x=>some (AV.bool x,s'.h)
     |_=>none
    else some (AV.bool (!a),s.h)).bind λ(v,h)=>Ow pk Γ rest ⟨(s.e.kill lo hi).put d v,h⟩
  |_=>none
section
variable(pk:FuncId->Bool)(N:Nat)
noncomputable def ru(Γ:kP):AC->(Nat->Bool)->(ρ:Type)->(AX->St->Option ρ)->St->Option ρ
 | .skip,_,_,k,s=>k .normal s
 | .ops l,_,_,k,s=>(Ow pk Γ l s).bind (k .normal)
 | .seq a b,V,ρ,k,s=>ru Γ a V ρ (λx s'=>match x with
   | .normal=>ru Γ b V ρ k s'
   |x=>k x s') s
 | .cond c x y,V,ρ,k,s=>match c.get s.e with
   | .bool b=>match b with
    |true=>ru Γ x V ρ k s
    |false=>ru Γ y V ρ k s
   |_=>none
 | .block id c,V,ρ,k,s=>ru Γ c V ρ (λx s'=>match x with
   | .exit i=>if i=id then k .normal s' else k (.exit i) s'
   |x=>k x s') s
 | .loop keep wr own outs c,V,_,k,s =>
   if (rowsOf (jI own s).e own).all V=true then
   (qh (λx:List AV×AH=>ru Γ c (o9 (rowsOf (jI own s).e own) (jI own s).h.length) ((List AV×AH)⊕(AX×List AV×AH)) (λex s'=>match ex with
     | .normal=>some (.inl (head (jI own s).h.length (rowsOf (jI own s).e own) keep s'))
     |ex=>some (.inr (ex,(qf ex outs).map s'.e,s'.h))) ⟨((mj (rowsOf (jI own s).e own) (jI own s).e).rj wr).lay keep x.1,x.2⟩) N
    (head (jI own s).h.length (rowsOf (jI own s).e own) keep (jI own s))).bind λr=>mR ((mj (rowsOf (jI own s).e own) (jI own s).e).rj wr) k r outs
   else none
 | .exit id,_,_,k,s=>k (.exit id) s
 | .ret,_,_,k,s=>k .ret s
 | .scope c,V,ρ,k,s=>ru Γ c V ρ k s
 | .gho c g,V,ρ,k,s=>ru Γ c V ρ (λx s'=>match x with
   | .exit i=>k (.exit i) s'
   |x=>(OU g s').bind (k x)) s
 | .oR ad keep wr own outs c,V,_,k,s =>
   if (rowsOf (jX ad (jI own s)).e own).all V=true then
   (qh (λx:List AV×AH=>ru Γ c (o9 (tgt (jI own s).h.length ad++rowsOf (jX ad (jI own s)).e own) (jX ad (jI own s)).h.length) ((List AV×AH)⊕(AX×List AV×AH)) (λex s'=>match ex with
     | .normal=>some (.inl (head (jX ad (jI own s)).h.length (tgt (jI own s).h.length ad++rowsOf (jX ad (jI own s)).e own) keep (kO (jI own s).h.length ad s')))
     |ex=>some (.inr (ex,(qf ex outs).map s'.e,s'.h))) ⟨((mj (tgt (jI own s).h.length ad++rowsOf (jX ad (jI own s)).e own) (jX ad (jI own s)).e).rj wr).lay keep x.1,x.2⟩) N
    (head (jX ad (jI own s)).h.length (tgt (jI own s).h.length ad++rowsOf (jX ad (jI own s)).e own) keep (jX ad (jI own s)))).bind λr=>mR ((mj (tgt (jI own s).h.length ad++rowsOf (jX ad (jI own s)).e own) (jX ad (jI own s)).e).rj wr) k r outs
   else none
noncomputable def B8(Γ:kP)(f:AF)(args:List AV)(h:AH):Option (AV×AH) :=
 if args.length<=f.nt then
  ru pk N Γ f.body (λi=>decide (h.length<=i)) (AV×AH) (λx s=>match x with
   | .exit _=>none
   |_=>(Gn s f.res).bind λv=>some (v,s.h)) ⟨kR args,h⟩
 else none
noncomputable def abt(Γ:kP)(f:AF)(args:List AV):Option AV:=(B8 pk N Γ f args []).bind λ(v,h)=>(sD h v).bind λ(v,_)=>some v
noncomputable def Zn(Γ:kP)(f:FuncId)(F:AF):Nat->kP
 |0=>Γ
 |k+1=>⟨λg args=>if g=f then none else Γ.p g args,λg args h=>if g=f then B8 pk N (Zn Γ f F k) F args h else Γ.h g args h⟩
end
def Kd.jO:Kd->Bool
 | .p _=>true
 | .y _=>true
 |_=>false
noncomputable def VF(pk:FuncId->Bool)(Γ:kP):kP:=⟨Γ.p,λf a h=>match pk f with | true=>none | false=>Γ.h f a h⟩
noncomputable def k8.Gk(N:Nat)(C:k8):Nat->Nat->kP
 |0,_=>⟨λ_ _=>none,λ_ _ _=>none⟩
 |d+1,n=>⟨λg args=>if C.pos g<n then(match C.kd g with | .p F=>abt (λf=>(C.kd f).jO) N (k8.Gk N C d (C.pos g)) F args | .y s=>s args | _=>none)else none,
   λg args h=>if C.pos g<n then(match C.kd g with | .p F=>B8 (λf=>(C.kd f).jO) N (k8.Gk N C d (C.pos g)) F args h | .h F=>B8 (λf=>(C.kd f).jO) N (k8.Gk N C d (C.pos g)) F args h | .x s=>s args h | .r F k=>B8 (λf=>(C.kd f).jO) N (Zn (λf=>(C.kd f).jO) N (k8.Gk N C d (C.pos g)) g F k) F args h | .z s=>s (VF (λf=>(C.kd f).jO) (k8.Gk N C d (C.pos g))) args h | .q F=>(kY h args).bind λq=>B8 (λf=>(C.kd f).jO) N (k8.Gk N C d (C.pos g)) F q.1 q.2 | _=>none)else none⟩
structure kP.Le(pk:FuncId->Bool)(Γ Γ':kP):Prop where
 p:∀f a r,Γ.p f a=some r->Γ'.p f a=some r
 h:∀f a h r,Γ.h f a h=some r->Γ'.h f a h=some r
 n:∀f a,pk f=false->Γ'.p f a=none
variable{pk:FuncId->Bool}{Γ Γ':kP}
theorem bind_mono{α β:Type}{a b:Option α}{f g:α->Option β}{r:β}(h:a.bind f=some r)(hab:∀x,a=some x->b=some x)(hfg:∀x,f x=some r->g x=some r):b.bind g=some r:=by
 cases a with
 |none=>cases h
 |some x=>rw[hab x rfl];exact hfg x h
theorem kP.Le.call(L:kP.Le pk Γ Γ'){f:FuncId}{a:List AV}{h:AH}{r:AV×AH}(e:HT pk Γ f a h=some r):jM Γ' f a h=some r:=by
 unfold HT at e;split at e
 .simp only[aI]at e;let⟨⟨a',h'⟩,hp,v,hv,e⟩:=e;cases e;unfold jM;rw[hp];simp only[L.p _ _ _ hv]
 .rename_i hk;unfold jM;have hn:=λa=>L.n f a hk
  split
  .simp only[hn];exact L.h _ _ _ _ e
  .exact L.h _ _ _ _ e
theorem kP.Le.XI(L:kP.Le pk Γ Γ'){v:AV}{a:List AV}{h:AH}{r:AV×AH}(e:yX pk Γ v a h=some r):∃g first cap,v = .fn (.func g) first cap/\jM Γ' g (first++a++cap) h=some r:=by
 unfold yX at e;split at e
 .split at e
  .exact⟨_,_,_,rfl,L.call e⟩
  .cases e
 .cases e
theorem DG{h:AH}{a b:Option (AV×AH)}{r:AV×AH}(hab:∀r,a=some r->b=some r)(e:Lf h a=some r):tH h b=some r:=by
 cases a with
 |none=>cases e
 |some x=>rw[hab x rfl];exact UA e
theorem EI{h:AH}{a b:Option (AV×AH)}{r:AV×AH}(hab:∀r,a=some r->b=some r)(e:Mw h a=some r):uQ h b=some r:=by
 cases a with
 |none=>cases e
 |some x=>rw[hab x rfl];exact WY e
theorem kP.Le.exec(L:kP.Le pk Γ Γ'){e:Env}{h:AH}{op:ni}{r:AV×AH}(x:HK pk Γ e h op=some r):exec Γ' e h op=some r:=by
 cases op with
 |call f args=>exact L.call x
 |rS f args =>
  simp only[Am.HK,Am.exec]at x⊢;split at x
  .rename_i ha;rw[if_pos ha];unfold mc at x⊢;cases hp:Γ.p f (getAll e args)with
   |none=>rw[hp]at x;cases x
   |some v=>rw[hp]at x;rw[L.p _ _ _ hp];exact x
  .cases x
 |l8 f args =>
  let⟨g,first,cap,hf,hc⟩:=L.XI x;simp only[Am.exec,hf];exact hc
 |v8 f args =>
  simp only[Am.HK,Am.exec]at x⊢;split at x
  .rename_i ha;rw[if_pos ha];cases hp:Γ.h f (getAll e args) []with
   |none=>rw[hp]at x;cases x
   |some v=>rw[hp]at x;rw[L.h _ _ _ _ hp];exact x
  .cases x
 |rR f args =>
  simp only[Am.HK]at x;cases hc:yX pk Γ (f.get e) (getAll e args) h with
  |none=>rw[hc]at x;cases x
  |some y =>
   let⟨g,first,cap,hf,hq⟩:=L.XI hc;simp only[Am.exec,hf];rw[hc]at x;exact DG (λr hr=>by rw[hq];exact hr) x
 |yG f args=>exact bind_mono x (λ_ h=>h) λq hq=>bind_mono hq (λ_=>L.p _ _ _) λ_ h=>h
 |Aq f args=>exact bind_mono x (λ_ h=>h) λq hq=>L.h _ _ _ _ hq
 |qu f args=>exact EI (λ_=>L.call) x
 |calls f args=>exact DG (λ_=>L.call) x
 |rJ f args =>
  simp only[Am.HK]at x;cases hc:yX pk Γ (f.get e) (getAll e args) h with
  |none=>rw[hc]at x;cases x
  |some y =>
   let⟨g,first,cap,hf,hq⟩:=L.XI hc;simp only[Am.exec,hf];rw[hc]at x;exact EI (λr hr=>by rw[hq];exact hr) x
 |_=>exact x
theorem kP.Le.uZ(L:kP.Le pk Γ Γ'):∀ {l:IT} {s r:St},Ow pk Γ l s=some r->uZ Γ' l s=some r
 | .nil,_,_,h=>h
 | .op d o rest,s,_,h=>by
  rw[Ow]at h;split at h
  .rename_i v h' hx;rw[Am.uZ,L.exec hx];exact L.uZ h
  .cases h
 | .sc d a c lo hi l r rest,s,t,h=>by
  simp only[Am.Ow]at h;simp only[Am.uZ];split at h
  .rename_i b hb;simp only[hb];refine bind_mono h (λx hx=>?_) λ_=>L.uZ
   split at hx
   .rename_i hba;rw[if_pos hba];exact bind_mono hx (λ_=>L.uZ) λ_ h=>h
   .rename_i hba;rw[if_neg hba];exact hx
  .cases h
theorem Bh{E τ:Type}{f g:E->Option (E⊕τ)}(hfg:∀s r,f s=some r->g s=some r):∀ {n:Nat} {s:E} {t:τ},qh f n s=some t->iter g s=some t
 |0,_,_,h=>by cases h
 |n+1,s,t,h=>by
  rw[qh]at h;rw[iter_eq];cases hs:f s with
  |none=>rw[hs]at h;cases h
  |some r =>
   rw[hs]at h;rw[hfg _ _ hs];cases r with
   |inl s'=>exact Bh hfg h
   |inr t'=>exact h
theorem ue{ρ:Type}{e:Env}{k k':AX->St->Option ρ}{r:AX×List AV×AH}{v:ρ}(hk:∀x s,k x s=some v->k' x s=some v):∀ {l:List (AX×ax)},mR e k r l=some v->mR e k' r l=some v
 | [],h=>by cases h
 |(x,ts)::l,h=>by grind[mR,ue hk (l:=l)]
variable{N:Nat}
theorem pE(L:kP.Le pk Γ Γ'):∀(c:AC)(V:aB)(ρ:Type)(k k':AX->St->Option ρ)(s:St)(r:ρ),(∀x s,k x s=some r->k' x s=some r)->ru pk N Γ c V ρ k s=some r->eval Γ' c V ρ k' s=some r
 | .skip,_,_,_,_,_,_,hk,h=>hk _ _ h
 | .ops l,_,_,_,_,_,_,hk,h=>bind_mono h (λ_=>L.uZ) (hk _)
 | .seq a b,V,ρ,k,k',s,r,hk,h=>by
  rw[ru]at h;rw[eval];refine pE L a V ρ _ _ s r (λx s' hx=>?_) h
  cases x with
  |normal=>exact pE L b V ρ _ _ s' r hk hx
  |exit i=>exact hk _ _ hx
  |ret=>exact hk _ _ hx
 | .cond c x y,V,ρ,k,k',s,r,hk,h=>by
  rw[ru]at h;rw[eval];split at h
  .rename_i b hb;rw[hb];cases b with
   |true=>exact pE L x V ρ _ _ s r hk h
   |false=>exact pE L y V ρ _ _ s r hk h
  .cases h
 | .block id c,V,ρ,k,k',s,r,hk,h=>by
  rw[ru]at h;rw[eval];refine pE L c V ρ _ _ s r (λx s' hx=>?_) h
  cases x with
  |normal=>exact hk _ _ hx
  |ret=>exact hk _ _ hx
  |exit i =>
   dsimp only at hx⊢;split at hx
   .rename_i hi;rw[if_pos hi];exact hk _ _ hx
   .rename_i hi;rw[if_neg hi];exact hk _ _ hx
 | .loop keep wr own outs c,V,ρ,k,k',s,r,hk,h=>by
  rw[ru]at h;rw[eval];split at h
  .rename_i hV;rw[if_pos hV];refine bind_mono h (λx hx=>Bh (λy z hy=>?_) hx) λ_=>ue hk
   exact pE L c _ _ _ _ _ _ (λ_ _ h=>h) hy
  .cases h
 | .exit id,_,_,_,_,_,_,hk,h=>hk _ _ h
 | .ret,_,_,_,_,_,_,hk,h=>hk _ _ h
 | .scope c,V,ρ,k,k',s,r,hk,h=>pE L c V ρ k k' s r hk h
 | .gho c g,V,ρ,k,k',s,r,hk,h=>by
  rw[ru]at h;rw[eval];refine pE L c V ρ _ _ s r (λx s' hx=>?_) h
  cases x with
  |normal=>exact bind_mono hx (λ_ h=>h) (hk _)
  |ret=>exact bind_mono hx (λ_ h=>h) (hk _)
  |exit i=>exact hk _ _ hx
 | .oR ad keep wr own outs c,V,ρ,k,k',s,r,hk,h=>by
  rw[ru]at h;rw[eval];split at h
  .rename_i hV;rw[if_pos hV];refine bind_mono h (λx hx=>Bh (λy z hy=>?_) hx) λ_=>ue hk
   exact pE L c _ _ _ _ _ _ (λ_ _ h=>h) hy
  .cases h
theorem uC(L:kP.Le pk Γ Γ'){f:AF}{args:List AV}{h:AH}{r:AV×AH}(e:B8 pk N Γ f args h=some r):rE Γ' f args h=some r:=by
 unfold B8 at e;unfold rE;split at e
 .rename_i hl;rw[if_pos hl];exact pE L _ _ _ _ _ _ _ (λ_ _ h=>h) e
 .cases e
theorem UH(L:kP.Le pk Γ Γ'){f:AF}{args:List AV}{r:AV}(e:abt pk N Γ f args=some r):rV Γ' f args=some r :=
 bind_mono e (λ_=>uC L) λ_ h=>h
theorem PT(L:kP.Le pk Γ Γ'){f:FuncId}{F:AF}:∀k,kP.Le pk (Zn pk N Γ f F k) (qH Γ' f F k)
 |0=>L
 |k+1=>by
  have ih:=PT L (f:=f) (F:=F) k;have h0:=λa h r=>uC (N:=N) ih (f:=F) (args:=a) (h:=h) (r:=r)
  refine⟨?_,?_,?_⟩<;>grind[Zn,qH,L.p,L.h,L.n]
structure kP.LeA(Γ Γ':kP):Prop where
 p:∀f a r,Γ.p f a=some r->Γ'.p f a=some r
 h:∀f a h r,Γ.h f a h=some r->Γ'.h f a h=some r/\∀a,Γ'.p f a=none
theorem kP.LeA.call(L:kP.LeA Γ Γ'){f:FuncId}{a:List AV}{h:AH}{r:AV×AH}(e:jM Γ f a h=some r):jM Γ' f a h=some r:=by
 grind[jM,L.p,L.h]
theorem VE(L:kP.Le pk Γ Γ'):kP.LeA (VF pk Γ) Γ':=⟨L.p,λf a h r e=>by
 simp only[VF]at e;split at e
 .cases e
 .rename_i hk;exact⟨L.h _ _ _ _ e,λa=>L.n f a hk⟩⟩
def Kd.mono:Kd->Prop
 | .z s=>∀ {Γ Γ':kP},kP.LeA Γ Γ'->∀a h r,s Γ a h=some r->s Γ' a h=some r
 |_=>True
theorem k8.NO(C:k8){f:FuncId}(hk:(C.kd f).jO=false):∀n a,(C.jG n).p f a=none
 |0,_=>rfl
 |n+1,a=>by
  simp only[k8.jG];split
  .cases hq:C.kd f<;>rw[hq]at hk<;>first | rfl | cases hk
  .exact k8.NO C hk n a
theorem Iq(C:k8)(hz:∀g,(C.kd g).mono):∀d n,kP.Le (λf=>(C.kd f).jO) (k8.Gk N C d n) (C.jG n)
 |0,n=>⟨λ_ _ _ e=>(by cases e),λ_ _ _ _ e=>(by cases e),λ_ a hk=>C.NO hk n a⟩
 |d+1,n=>by
  refine⟨λg a r e=>?_,λg a h r e=>?_,λ_ a hk=>C.NO hk n a⟩
  .simp only[k8.Gk]at e;split at e
   .rename_i hlt;have ih:=Iq C hz d (C.pos g);cases hk:C.kd g with
    |p F=>rw[hk]at e;rw[k8.qZ hk rfl hlt];exact UH ih e
    |y s=>rw[hk]at e;rw[k8.Dt hk rfl hlt];exact e
    |_=>rw[hk]at e;cases e
   .cases e
  .simp only[k8.Gk]at e;split at e
   .rename_i hlt;have ih:=Iq C hz d (C.pos g);cases hk:C.kd g with
    |p F=>rw[hk]at e;rw[k8.NM hk rfl hlt];exact uC ih e
    |h F=>rw[hk]at e;rw[k8.K8 hk rfl hlt];exact uC ih e
    |x s=>rw[hk]at e;rw[k8.vU hk rfl hlt];exact e
    |r F k=>rw[hk]at e;rw[k8.Uk hk rfl hlt];exact uC (PT ih k) e
    |q F=>rw[hk]at e;rw[k8.abn hk rfl hlt];exact bind_mono e (λ_ h=>h) λ_=>uC ih
    |z s =>
     have:=hz g;rw[hk]at e this;rw[k8.abm hk rfl hlt];exact this (VE ih) _ _ _ e
    |_=>rw[hk]at e;cases e
   .cases e
open Go.Deep
def KK(sr:List TD)(cs:List AV):Prop:=cs.length=sr.length/\∀(j:Nat)(y:AV)(td:TD),cs[j]? = some y->sr[j]? = some td->pY td y
def KK.cons{td:TD}{sr:List TD}{cs:List AV}(h:KK (td::sr) cs):∃y ys,cs=y::ys/\pY td y/\KK sr ys:=by
 let⟨h1,h2⟩:=h;cases cs with
 |nil=>simp at h1
 |cons y ys=>exact⟨y,ys,rfl,h2 0 y td rfl rfl,an h1,λj z t hz ht=>h2 (j+1) z t (an hz) (an ht)⟩
def KK.nil{cs:List AV}(h:KK [] cs):cs=[]:=aY h.1
def B4.one{td:TD}{a:AV}(h:B4 false [td] a):pY td a:=by
 unfold B4 at h;simp only[aU,if_false]at h;let⟨td',h1,h2⟩:=h;simp only[dm,and_true]at h1;exact h1▸h2
def B4.agg{sr:List TD}{a:AV}(h:B4 true sr a):∃cs,a = .agg cs/\KK sr cs:=by
 unfold B4 at h;simp only[if_true]at h;let⟨cs,h1,h2,h3⟩:=h;exact⟨cs,h1,h2,h3⟩
def tZ.inv{p:Bool×List TD}{l:List (Bool×List TD)}{args:List AV}(h:tZ (p::l) args):∃a r,args=a::r/\B4 p.1 p.2 a/\tZ l r:=by
 cases h with | cons h t=>exact⟨_,_,rfl,h,t⟩
def tZ.apw{args:List AV}(h:tZ [] args):args=[]:=by cases h;rfl
def pY.int{k:IntKind}{a:AV}(h:pY (.i k) a):∃n,a = .int k n/\k.min<=n/\n<=k.max:=by cases h with | i _ n h1 h2=>exact⟨n,rfl,h1,h2⟩
def pY.bool{a:AV}(h:pY .b a):∃b,a = .bool b:=by cases h with | b x=>exact⟨x,rfl⟩
def pY.str{a:AV}(h:pY .s a):∃s,a = .str s/\s.length<=maxLen:=by cases h with | s l h=>exact⟨l,rfl,h⟩
def pY.ints{k:IntKind}{a:AV}(h:pY (.l false [.i k]) a):∃(f:Bool) (l:ay),a = .jB f (l.map (AV.int k))/\l.length<=maxLen/\∀n∈l,k.min<=n/\n<=k.max:=by
 cases h with
 |l1 td f es hl h =>
  let⟨l,hl',hp⟩:=xb (AV.int k) (λn=>k.min<=n/\n<=k.max) es λx hx=>by
   let⟨n,h1,h2⟩:=(h x hx).int;exact⟨n,h1,h2⟩
  exact⟨f,l,by rw[hl'],by rw[hl']at hl;simpa using hl,hp⟩
def pY.amC{α:Type}(F:α->AV)(p:α->Prop){sr:List TD}{a:AV}(h:pY (.l true sr) a)(hF:∀cs,KK sr cs->∃d,AV.agg cs=F d/\p d):∃(f:Bool) (l:List α),a = .jB f (l.map F)/\l.length<=maxLen/\∀d∈l,p d:=by
 cases h with
 |la sr f es hl g h0 h2 =>
  obtain⟨l,hl',hp⟩:=xb F p es λx hx=>by
   obtain⟨i,hi⟩:=dJ hx;obtain⟨e1,e2⟩:=h0 i x hi;rw[e1];exact hF _ ⟨e2,λj y td hy ht=>h2 i x hi j y td hy ht⟩
  exact⟨f,l,by rw[hl'],by rw[hl']at hl;simpa using hl,hp⟩
end Go.Am
