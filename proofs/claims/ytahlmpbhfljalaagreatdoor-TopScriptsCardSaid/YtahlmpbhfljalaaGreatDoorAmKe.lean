/- Part of the proof that TopScriptsCard holds. -/
import Derived.Test.YtahlmpbhfljalaaGreatDoorAmInsA
import Derived.Test.YtahlmpbhfljalaaGreatDoorAmEnd
set_option linter.all false
namespace Go.Am
open Go.Lib
section
variable{P:Program}{Z:ay}{Γ:ja}{β:iW}{h:AH}{w:World}
def vi(b o:Nat)(cur:Array Value)(elem:TypeId)(vs:List Value)(w:World)(i:w.heap[b]? = some (.cells cur elem (0,0)))(hl:o+vs.length<=cur.size)(h1:∀v∈vs,v.oneCell'=true):
  w.setCells b o vs=w.setRow b (over cur.toList o vs).toArray:=by
 have e1:=run_storeCells_at (P:=default) b o elem vs 0 cur w i aa h1
 have n:=run_storeCells_cells (P:=default) b o vs 0 w
  (λc q=>by
   unfold World.cell?;simp only[i,cK];simp;omega)
  (λc q=>by
   unfold World.frozen?;simp only[i];simp) h1
 rw[e1]at n
 injection n with _ l
 simp only[cK]at l;rw[<-l];rfl
def we(w:World)(tS tR e:TypeId)(K:P.underlying tS=some (.slice e))(size:Nat)(H:∀w,(Go.sizeOf e).run P w = .ok size w)
  (a b:Addr) (la ca lb cb:Nat) (n:a.block≠b.block) {x:Value} (hx:w.cell? a=some x) {cur:Array Value} {elem:TypeId} (F:w.heap[b.block]? = some (.cells cur elem (0,0))) :
  (Extern.SlicesOverlaps.overlaps #[tS,tS] #[tR] #[.slice (some a) la ca,.slice (some b) lb cb]).run P w = .ok (.bool false) w:=by
 have y:(a.block != b.block)=true:=by simpa using n
 have o:(a.block==b.block)=false:=by simpa using n
 obtain⟨i,G,N,z,L⟩:∃c e f,w.heap[a.block]? = some (.cells c e f)/\a.off<c.size:=by
  unfold World.cell? at hx;split at hx
  .rename_i c e f M;refine⟨c,e,f,M,?_⟩;split at hx
   .cases hx
   .exact(aH.1 hx).1
  .cases hx
 have l:w.shape? a.block=some (G,i.size):=by simp[World.shape?,z]
 have v:w.shape? b.block=some (elem,cur.size):=by simp[World.shape?,F]
 have A:w.frozen? b=false:=by simp[World.frozen?,F]
 have hfe:w.frozen? {block:=b.block,off:=cur.size}=false:=by simp[World.frozen?,F]
 have hk:i.size≠0:=aa
 change Sem.run P (α:=Value) (do
  let some t:=(#[tS,tS]:Array TypeId)[0]? | stuck "slices.overlaps: no parameter types"
  let .slice elem<-underlying t | stuck "slices.overlaps: slice type expected"
  let size<-sizeOf elem
  match (some a:Option Addr),(some b:Option Addr)with
  |some a,some b =>
   if la=0\/lb=0\/size=0 then pure (Value.bool false)
   else if a.block != b.block&&(<-frozen a)&&(<-frozen b)then unsupported .addressObserved
   else do
    if a.block != b.block then do
     noView a;noView b
     if<-mayBeOne a b then return Value.bool ((<-choose (.extern "sameAddr.stringBytes" 2))==1)
    pure (Value.bool (a.block==b.block&&a.off<b.off+lb*size&&b.off<a.off+la*size))
  |_,_=>pure (Value.bool false)) w=_
 by_cases h0:la=0\/lb=0\/size=0
 .simp[run_underlying K,H,h0]
 .cases r:i.size with
  |zero=>exact absurd r hk
  |succ k =>
   rw[r]at l;cases E:w.frozen? a<;>cases q:w.frozen? {block:=a.block,off:=k+1} <;>
   simp[run_underlying K,H,h0,y,o,frozen,noView,viewAt,mayBeOne,stringish,Sem.run,l,v,E,q,A,hfe]
def setRow_setRow(w:World)(b:Nat)(cur:Array Value)(elem:TypeId)(X Y:Array Value)(l:w.heap[b]? = some (.cells cur elem (0,0))):(w.setRow b X).setRow b Y=w.setRow b Y:=by
 unfold World.setRow
 congr 1
 apply Array.ext_getElem?;intro i;rw[cR,cR,cR]
 by_cases h:b=i
 .subst h;simp[l]
 .simp[h]
def pP(b o o':Nat)(cur:Array Value)(elem:TypeId)(vs l:List Value)(w:World)(i:w.heap[b]? = some (.cells cur elem (0,0)))(hl:o+vs.length<=cur.size)(h1:∀v∈vs,v.oneCell'=true)
  (q:o'+l.length<=cur.size) (r:∀v∈l,v.oneCell'=true) :
  (w.setCells b o vs).setCells b o' l=w.setRow b (over (over cur.toList o vs) o' l).toArray:=by
 rw[vi b o cur elem vs w i hl h1];have n:(over cur.toList o vs).length=cur.size:=by rw[ig _ _ _ (ak hl)];simp
 rw[vi b o' (over cur.toList o vs).toArray elem l _ (setRow_heap w b cur _ elem (0,0) i) (by simpa[n]using q) r,setRow_setRow w b cur elem _ _ i]
def kP(sz bytes:Nat)(args:List AV)(h:AH):Option (AV×AH):=match args with
 | [.own b v o n,.int .i64 i,.en _ [x]] =>
  match h[b]? with
  |some (.row v' l es) =>
   if v=v'/\l=sz/\x.cells.length=sz/\o+n<=es.length/\0<=i/\i<=n/\(n+1)*bytes<=140737488355328/\n+1<=140737488355328 then
    some (.own b (v+1) 0 (n+1),h.set b (.row (v+1) sz ((((es.drop o).take n).take i.toNat)++x::((es.drop o).take n).drop i.toNat)))
   else none
  |_=>none
 |_=>none
def Ht{f tS tI tB tE t0 fO fR:Nat}{i0:TypeInfo}{z:Value}(L:R8 P f tS tI tB tE t0 fO fR i0 z){args:List AV}{r:AV}{h':AH}(hr:kP i0.size i0.bytes args h=some (r,h')):nC P f args h r h':=by
 unfold kP at hr;split at hr
 .rename_i b v o n i fl x;split at hr
  .rename_i v' sz' es Y;split at hr
   .rename_i ad0;obtain⟨rfl,rfl,hxl,hon,hi0,hin,hby,h63⟩:=ad0;cases hr;obtain⟨k,rfl⟩:∃k:Nat,i=(k:Int):=⟨i.toNat,aa⟩
    have hkn:k<=n:=aa
    simp only[Int.toNat_natCast];have hpos:=L.pos;refine⟨by let⟨nm,ta,hf,hn⟩:=L.f;exact⟨_,hf,rfl,hn⟩,λZ β w vs R hl hv=>?_⟩
    obtain⟨v1,v2,v3,rfl⟩:∃a b c,vs=[a,b,c]:=by
     match vs,hl with
     | [a,b,c],_=>exact⟨a,b,c,rfl⟩
    have hv1:=hv 0 _ _ rfl rfl;have hv2:=(hv 1 _ _ rfl rfl).jF;subst hv2;have hv3:=hv 2 _ _ rfl rfl;let⟨ad3,S,e3,akE,_⟩:=kE R (a:=.en fl [x]) rfl hv3;subst e3;obtain⟨bd,ad,c,hbd,rfl,h2⟩:=hv1.jL;have hnc:n<=c:=by
     rcases h2 with⟨_,h2⟩ | ⟨_,_,_,h2,_⟩
     .omega
     .exact h2
    have adM:∃blk U,ad3=some ⟨blk,U,none⟩/\¬Own Z β h blk/\ic (Own Z β h) w (λk=>w.cell? ⟨blk,U+k,none⟩) i0.size [x]:=by
     have hp:=hv3.lS;generalize F:([x]:List AV).length=len at hp;cases hp with
     |en _ _ _ _ blk U sz f hf hc ha hs h1 h3 h2 =>
      let⟨e1,e2,_⟩:=ha ah
      refine⟨blk,U,e1,e2,λj y hy=>?_⟩
      let⟨e4,_⟩:=hs j y hy;have hyx:y=x:=by
       cases j with
       |zero=>simpa using hy.symm
       |succ j=>simp at hy
      have hsz:sz=i0.size:=by rw[<-e4,hyx,hxl]
      subst hsz;refine⟨e4,λq u W=>⟨f j q,?_,h3 j y hy q u W,h2 j y hy q u W⟩⟩
      have:=h1 j y hy q u W;rw[cz]at this;exact this
    obtain⟨blk,U,rfl,adQ,hs3⟩:=adM;let⟨T,u1,u2,u3,u4⟩:=hs3.list;simp only[dr,dh]at u1;let⟨_,Lo,q1,q2,q3⟩:=R.blk b _ Y;rw[hbd]at q1;cases q1
    by_cases hkn':k=n
    ·
     subst hkn';have F:((es.drop o).take k).length=k:=aj
     have hap:append h i0.size i0.bytes (.own b v o k) [x]=some (.own b (v+1) 0 (k+1),h.set b (.row (v+1) i0.size ((es.drop o).take k++[x]))):=by
      simp only[append,Y];rw[if_pos ⟨trivial,trivial,by simp[iU,hxl],hon,ak hby,ak h63⟩]
      rfl
     have hM:∀ty,gY P Z β h w (Builtin.append_ #[tS,tS] ty #[.slice ad k c,.slice (some ⟨blk,U,none⟩) 1 S]) (.own b (v+1) 0 (k+1)) (h.set b (.row (v+1) i0.size ((es.drop o).take k++[x]))):=λty=>by
      refine rz R L.tS L.i L.iz L.zs rfl rfl hpos rfl hap hv1 (news:=T) (.inl ⟨tS,_,rfl,L.tS,trivial,rfl,λw' hw'=>?_⟩) (.inl ⟨tS,_,rfl,L.tS,trivial⟩) (ak u1) u4 u3
      exact run_firstCells_some w' i0.size 1 ⟨blk,U,none⟩ 1 S T (ak u1) (λj u W=>by
       rw[addr_add];have:=u2 j u W
       simpa[World.cell?,hw']using this)
     let⟨rv,w1,β1,e1,k1,k2,k3⟩:=hM tS;have hall:∀ty,(Builtin.append_ #[tS,tS] ty #[.slice ad k c,.slice (some ⟨blk,U,none⟩) 1 S]).run P w = .ok rv w1:=λty=>e1
     refine(QD L ad k c (some ⟨blk,U,none⟩) S w hnc hall).mono ?_
     rintro e w' ⟨rfl,rfl⟩
     have e0:∀l:List AV,l.length=k->l.take k++x::l.drop k=l++[x]:=λl hl=>by
      rw[bf aa,dO aa]
     rw[e0 _ F];exact⟨rv,β1,rfl,k1,k2,k3⟩
    .have hlt:k<n:=by omega
     rcases h2 with⟨_,h2⟩ | ⟨cb,p1,p2,_,p4⟩
     .omega
     rcases q3 with⟨q3,_⟩ | ⟨c2,cur,g1,g2,g3,g4,g5⟩
     .rw[p1]at q3;cases q3
     rw[p1]at g1;cases g1;subst p2;have F:((es.drop o).take n).length=n:=aj
     have hsrc:=qQ (o:=o) (n:=n) g2 g5;rw[q2]at p4;let⟨A,o1,o2,o3,o4⟩:=hsrc.list;rw[F]at o1;have hdist:k*i0.size+(n-k)*i0.size=n*i0.size:=by rw[<-bL];congr 1;omega
     have hk1:(k+1)*i0.size=k*i0.size+i0.size:=by rw[bL,dh]
     have Wm:(n+1)*i0.size=n*i0.size+i0.size:=by rw[bL,dh]
     rw[bL]at p4;have hnb:blk≠cb:=λe=>adQ (.inr ⟨b,e▸⟨_,Y,bd,p1,hbd⟩⟩)
     have X:(A.drop (k*i0.size)).length=(n-k)*i0.size:=by rw[bW,o1];omega
     have c1l:(A.take (k*i0.size)).length=k*i0.size:=by rw[bI,o1];omega
     have sA:ic (Own Z β h) w (λj=>(A.take (k*i0.size))[j]?) i0.size (((es.drop o).take n).take k):=(o4.take k).congr λj E=>by
      rw[bI,F,gq hkn]at E;rw[cH,if_pos E]
     have sB:ic (Own Z β h) w (λj=>(A.drop (k*i0.size))[j]?) i0.size (((es.drop o).take n).drop k):=(o4.drop k).congr λj E=>by rw[bR]
     have O:(((es.drop o).take n).take k).length=k:=by rw[bI,F,gq hkn]
     have N:∀j u,A[j]? = some u->w.cell? ⟨cb,bd.base+o*i0.size+j,none⟩=some u:=o2;rw[q2]
     by_cases Q:n+1<=c
     .have hmc:(n+1)*i0.size<=c*i0.size:=bl _ Q;have adU:bd.base+o*i0.size+(n+1)*i0.size<=cur.size:=by rw[g3];omega
      have hx0:∃u,w.cell? ⟨blk,U,none⟩=some u:=by
       have:T[0]? = some (T[0]'aa):=aF _
       exact⟨_,u2 0 _ this⟩
      obtain⟨x0,hx0⟩:=hx0;let⟨fo,f1,f2,f3,f4,f5⟩:=L.o
      have hsh:=Kr L cb (bd.base+o*i0.size) n c k blk U S (A.drop (k*i0.size)) T w hlt Q aa hnb X u1
        (λj u E=>by rw[bR]at E;have:=N _ _ E;rwa [<-cz]at this)
        (λj E=>by unfold World.cell?;simp[g2];omega) (λj E=>by simp[World.frozen?,g2])
        u2 (λu W=>o3 u (cA W)) u3
        (λlb cb'=>by
        rw[run_callFunc_extern f1 f3 (by rw[f2];rfl) f4 f5,we w tS tB tE L.tS i0.size (rR L.i) ⟨blk,U,none⟩ ⟨cb,_,none⟩ 1 S lb cb' hnb hx0 g2]
        rfl)
      refine hsh.mono ?_
      rintro e w' ⟨rfl,q,rfl⟩
      have K:bd.base+o*i0.size+(k+1)*i0.size+(A.drop (k*i0.size)).length<=cur.toList.length:=by rw[X];simp;omega
      have H:bd.base+o*i0.size+k*i0.size+T.length<=(over cur.toList (bd.base+o*i0.size+(k+1)*i0.size) (A.drop (k*i0.size))).length:=by
       rw[ig _ _ _ K,u1];simp;omega
      rw[pP cb _ _ cur _ _ _ {w with drawn:=q} g2 (ak K) (λu W=>o3 u (cA W)) (by rw[ig _ _ _ K]at H;simpa using H) u3]
      obtain⟨β1,k1,k2,k3,-⟩:=R.ry Y hbd p1 g2 (over (over cur.toList (bd.base+o*i0.size+(k+1)*i0.size) (A.drop (k*i0.size))) (bd.base+o*i0.size+k*i0.size) T)
       (by rw[ig _ _ _ H,ig _ _ _ K];simp) o (es':=((es.drop o).take n).take k++x::((es.drop o).take n).drop k)
       (by simp only[aG,aK,bW,O,F];rw[show k+(n-k+1)=n+1 by omega];exact adU)
       (ic.append (sA.congr λj E=>by
         rw[O]at E;simp only[bw];rw[iG _ _ _ H,if_neg aa,iG _ _ _ K,if_neg aa,cH,if_pos E]
         have:A[j]? = some (A[j]'aa):=aF _
         rw[this];have:=N _ _ this;unfold World.cell? at this;simp only[g2]at this
         simpa using this.symm)
        (ic.append (es:=[x]) (u4.congr λj E=>by
         simp only[dr,dh]at E;simp only[bw,O];rw[iG _ _ _ H,if_pos aa]
         congr 1;omega)
        (sB.congr λj E=>by
         rw[bW,F]at E;simp only[bw,O,dr,dh];rw[iG _ _ _ H,if_neg aa,iG _ _ _ K,if_pos (by rw[X];omega)]
         congr 1;omega)))
      let⟨m1,m2⟩:=k1.drawn q;exact⟨_,β1,rfl,m1,k2.trans m2,(k3 (n+1) c Q (by rw[g3];omega)).fr m2⟩
     .have hcn:c=n:=by omega
      subst hcn
      have hgr:=Nh L cb (bd.base+o*i0.size) c k blk U S (A.take (k*i0.size)) (A.drop (k*i0.size)) T w hlt hby h63 c1l X u1
        (λj u E=>by
        rw[cH]at E;split at E
        .exact N _ _ E
        .cases E)
        (λj u E=>by rw[bR]at E;have:=N _ _ E;rwa [<-cz]at this)
        u2 (λu W=>o3 u (cA W)) u3
      refine hgr.mono ?_
      rintro e w' ⟨G,q,M,hG,hRs,hR1,rfl,rfl⟩
      have hGm:(c+1)*i0.size<=G*i0.size:=bl _ hG;have K:k*i0.size+T.length<=M.toList.length:=by rw[u1];simp;omega
      have H:(k+1)*i0.size+(A.drop (k*i0.size)).length<=(over M.toList (k*i0.size) T).length:=by
       rw[ig _ _ _ K,X];simp;omega
      have hnew:({w with drawn:=q}.alloc (.cells M tE)).heap[w.heap.size]? = some (.cells M tE (0,0)):=heap_alloc_new {w with drawn:=q} _
      rw[pP w.heap.size _ _ M tE _ _ _ hnew (ak K) u3 (by rw[ig _ _ _ K]at H;simpa using H) (λu W=>o3 u (cA W))]
      have hX:(over (over M.toList (k*i0.size) T) ((k+1)*i0.size) (A.drop (k*i0.size))).toArray.size=G*i0.size:=by
       rw[dU,ig _ _ _ H,ig _ _ _ K];simpa using hRs
      obtain⟨β1,k1,k2,k3,-⟩:=R.Ar Y (es':=((es.drop o).take c).take k++x::((es.drop o).take c).drop k) (w':=({w with drawn:=q}.alloc (.cells M tE)).setRow w.heap.size (over (over M.toList (k*i0.size) T) ((k+1)*i0.size) (A.drop (k*i0.size))).toArray)
       (cur:=(over (over M.toList (k*i0.size) T) ((k+1)*i0.size) (A.drop (k*i0.size))).toArray) (elem:=tE) rfl rfl rfl
       (by
        unfold World.setRow;apply Array.ext_getElem?;intro j;show ((w.heap.push (.cells M tE)).modify w.heap.size _)[j]? = _;rw[cR,dN,dN]
        by_cases E:j=w.heap.size
        .subst E;simp
        .have:w.heap.size≠j:=λe=>E e.symm
         simp[E,this])
       (by simp only[aG,aK,bW,O,F];rw[hX,show k+(c-k+1)=c+1 by omega];exact hGm)
       (ic.append (sA.congr λj E=>by
         rw[O]at E;simp only[bw,b8];rw[iG _ _ _ H,if_neg aa,iG _ _ _ K,if_neg aa,<-hR1 j E]
         simp)
        (ic.append (es:=[x]) (u4.congr λj E=>by
         simp only[dr,dh]at E;simp only[bw,O,b8];rw[iG _ _ _ H,if_neg aa,iG _ _ _ K,if_pos aa]
         congr 1;omega)
        (sB.congr λj E=>by
         rw[bW,F]at E;simp only[bw,O,dr,dh,b8];rw[iG _ _ _ H,if_pos (by rw[X];omega)]
         congr 1;omega)))
      exact⟨_,β1,rfl,k1,k2,k3 (c+1) G hG (by rw[hX];exact aT _)⟩
   .cases hr
  .cases hr
 .cases hr
end
structure DF where
 st:List AV->Option St
 body:AC
 res:List AR
 fin:Pn->St->Option AV
noncomputable def Es(Γ:ja)(D:DF)(args:List AV):Option AV :=
 (D.st args).bind (eval Γ D.body (λ_=>true) AV (λx s=>match x with
  | .exit _=>none
  | .mD p=>D.fin p s
  |_=>(oa s D.res).bind λv=>(lP s.h v).bind λq=>some q.1))
inductive Kd where
 |no
 |p (F:AF)
 |h (F:AF)
 |x (s:List AV->AH->Option (AV×AH))
 |y (s:List AV->Option AV)
  |r (F:AF) (d:Nat)
  |q (F:AF)
  |z (s:ja->List AV->AH->Option (AV×AH))
  |d (D:DF)
  |u (F:AF)
noncomputable def kT(Γ:ja)(f:FuncId)(F:AF):Nat->ja
 |0=>Γ
 |k+1=>⟨λg args=>if g=f then none else Γ.p g args,λg args h=>if g=f then jU (kT Γ f F k) F args h else Γ.h g args h,Γ.x⟩
variable{f:FuncId}{F:AF}{Γ:ja}
def yZ{g:FuncId}(hg:g≠f)(args:List AV):∀k,(kT Γ f F k).p g args=Γ.p g args
 |0=>rfl
 |k+1=>by simp only[kT,if_neg hg]
def UO{g:FuncId}(hg:g≠f)(args:List AV)(h:AH):∀k,(kT Γ f F k).h g args h=Γ.h g args h
 |0=>rfl
 |k+1=>by simp only[kT,if_neg hg]
def oz(k:Nat)(args:List AV)(h:AH):rF (kT Γ f F (k+1)) f args h=jU (kT Γ f F k) F args h:=by
 have b:∀args,(kT Γ f F (k+1)).p f args=none:=λargs=>by simp only[kT,if_true]
 unfold rF;split
 .rw[b];simp only[kT,if_true]
 .simp only[kT,if_true]
structure iu where
 kd:FuncId->Kd
 pos:FuncId->Nat
noncomputable def iu.fk(C:iu):Nat->ja
 |0=>⟨λ_ _=>none,λ_ _ _=>none,λ_ _ _=>none⟩
 |n+1=>⟨λg args=>if C.pos g=n then(match C.kd g with | .p F=>qP (C.fk n) F args | .y s=>s args | .d D=>Es (C.fk n) D args | _=>none)else(C.fk n).p g args,
   λg args h=>if C.pos g=n then(match C.kd g with | .p F=>jU (C.fk n) F args h | .h F=>jU (C.fk n) F args h | .x s=>s args h | .r F d=>jU (kT (C.fk n) g F d) F args h | .z s=>s (C.fk n) args h | .q F=>(jk h args).bind λq=>jU (C.fk n) F q.1 q.2 | _=>none)else(C.fk n).h g args h,
   λg args h=>if C.pos g=n then(match C.kd g with | .u F=>lZ (C.fk n) F args h | _=>none)else(C.fk n).x g args h⟩
variable{C:iu}
def iu.pZ(hk:C.kd f = .p F){k:Nat}(b:C.pos f=k):∀ {n:Nat},k<n->∀args,(C.fk n).p f args=qP (C.fk k) F args
 |0,h,_=>aa
 |n+1,h,args=>by
  simp only[iu.fk]
  by_cases e:C.pos f=n
  .rw[if_pos e,hk];simp only;rw[<-e,b]
  .rw[if_neg e];exact iu.pZ hk b aa args
def iu.LM{D:DF}(hk:C.kd f = .d D){k:Nat}(b:C.pos f=k):∀ {n:Nat},k<n->∀args,(C.fk n).p f args=Es (C.fk k) D args
 |0,h,_=>aa
 |n+1,h,args=>by
  simp only[iu.fk]
  by_cases e:C.pos f=n
  .rw[if_pos e,hk];simp only;rw[<-e,b]
  .rw[if_neg e];exact iu.LM hk b aa args
def iu.kK(hk:C.kd f = .u F){k:Nat}(b:C.pos f=k):∀ {n:Nat},k<n->∀args h,(C.fk n).x f args h=lZ (C.fk k) F args h
 |0,h,_,_=>aa
 |n+1,h,args,i=>by
  simp only[iu.fk]
  by_cases e:C.pos f=n
  .rw[if_pos e,hk];simp only;rw[<-e,b]
  .rw[if_neg e];exact iu.kK hk b aa args i
def iu.nu(hk:C.kd f = .h F){k:Nat}(b:C.pos f=k):∀ {n:Nat},k<n->∀args h,(C.fk n).h f args h=jU (C.fk k) F args h
 |0,h,_,_=>aa
 |n+1,h,args,i=>by
  simp only[iu.fk]
  by_cases e:C.pos f=n
  .rw[if_pos e,hk];simp only;rw[<-e,b]
  .rw[if_neg e];exact iu.nu hk b aa args i
def iu.LL(hk:C.kd f = .p F){k:Nat}(b:C.pos f=k):∀ {n:Nat},k<n->∀args h,(C.fk n).h f args h=jU (C.fk k) F args h
 |0,h,_,_=>aa
 |n+1,h,args,i=>by
  simp only[iu.fk]
  by_cases e:C.pos f=n
  .rw[if_pos e,hk];simp only;rw[<-e,b]
  .rw[if_neg e];exact iu.LL hk b aa args i
def iu.D8{d:Nat}(hk:C.kd f = .r F d){k:Nat}(b:C.pos f=k):∀ {n:Nat},k<n->∀args h,(C.fk n).h f args h=jU (kT (C.fk k) f F d) F args h
 |0,h,_,_=>aa
 |n+1,h,args,i=>by
  simp only[iu.fk]
  by_cases e:C.pos f=n
  .rw[if_pos e,hk];simp only;rw[<-e,b]
  .rw[if_neg e];exact iu.D8 hk b aa args i
def iu.CC{d:Nat}(hk:C.kd f = .r F d):∀(n:Nat) args,(C.fk n).p f args=none
 |0,_=>rfl
 |n+1,args=>by
  simp only[iu.fk];split
  .rw[hk]
  .exact iu.CC hk n args
def iu.lD{s:List AV->AH->Option (AV×AH)}(hk:C.kd f = .x s){k:Nat}(b:C.pos f=k):∀ {n:Nat},k<n->∀args h,(C.fk n).h f args h=s args h
 |0,h,_,_=>aa
 |n+1,h,args,i=>by
  simp only[iu.fk]
  by_cases e:C.pos f=n
  .rw[if_pos e,hk]
  .rw[if_neg e];exact iu.lD hk b aa args i
def iu.Sk{s:ja->List AV->AH->Option (AV×AH)}(hk:C.kd f = .z s){k:Nat}(b:C.pos f=k):∀ {n:Nat},k<n->∀args h,(C.fk n).h f args h=s (C.fk k) args h
 |0,h,_,_=>aa
 |n+1,h,args,i=>by
  simp only[iu.fk]
  by_cases e:C.pos f=n
  .rw[if_pos e,hk];simp only;rw[<-e,b]
  .rw[if_neg e];exact iu.Sk hk b aa args i
def iu.Sl(hk:C.kd f = .q F){k:Nat}(b:C.pos f=k):∀ {n:Nat},k<n->∀args h,(C.fk n).h f args h=(jk h args).bind λq=>jU (C.fk k) F q.1 q.2
 |0,h,_,_=>aa
 |n+1,h,args,i=>by
  simp only[iu.fk]
  by_cases e:C.pos f=n
  .rw[if_pos e,hk];simp only;rw[<-e,b]
  .rw[if_neg e];exact iu.Sl hk b aa args i
def iu.oc{s:List AV->Option AV}(hk:C.kd f = .y s){k:Nat}(b:C.pos f=k):∀ {n:Nat},k<n->∀args,(C.fk n).p f args=s args
 |0,h,_=>aa
 |n+1,h,args=>by
  simp only[iu.fk]
  by_cases e:C.pos f=n
  .rw[if_pos e,hk]
  .rw[if_neg e];exact iu.oc hk b aa args
def iu.lW(hk:C.kd f = .h F):∀(n:Nat) args,(C.fk n).p f args=none
 |0,_=>rfl
 |n+1,args=>by
  simp only[iu.fk];split
  .rw[hk]
  .exact iu.lW hk n args
def iu.kf{s:List AV->AH->Option (AV×AH)}(hk:C.kd f = .x s):∀(n:Nat) args,(C.fk n).p f args=none
 |0,_=>rfl
 |n+1,args=>by
  simp only[iu.fk];split
  .rw[hk]
  .exact iu.kf hk n args
def Kd.ok(P:Program)(f:FuncId):Kd->Prop
 | .no=>True
 | .p F=>okF P f F=true
 | .h F=>okF P f F=true
 | .x s=>∀args h r h',s args h=some (r,h')->nC P f args h r h'
 | .y s=>∀args r h,s args=some r->nC P f args h r h
 | .r F _=>okF P f F=true
 | .q F=>okF P f F=true
 | .z s=>∀Γ,js P Γ->∀args h r h',s Γ args h=some (r,h')->nC P f args h r h'
 | .d D=>∀Γ,js P Γ->∀args r h,args.all AV.jE=true->Es Γ D args=some r->nC P f args h r h
 | .u F=>okF P f F=true
def nth{α:Type}:List α->Nat->α->α
 | [],_,d=>d
 |a::_,0,_=>a
 |_::l,n+1,d=>nth l n d
def Kd.okB(P:Program)(f:FuncId):Kd->Bool
 | .no=>true
 | .p F=>okF P f F
 | .h F=>okF P f F
 | .r F _=>okF P f F
 | .q F=>okF P f F
 | .u F=>okF P f F
 |_=>false
def Kd.Vt{P:Program}{k:Kd}(h:k.okB P f=true):k.ok P f:=by
 cases k<;>first | exact h | exact trivial | cases h
def okL(b:Nat->Kd->Bool)(E:au):Nat->List Kd->Bool
 |_,[]=>true
 |n,k::l=>(b n k||E.contains n)&&okL b E (n+1) l
def Se(p:ay):au->Prop
 | []=>True
 |i::l=>p i/\Se p l
def Se.mem{p:ay}{i:Nat}:∀ {E:au},Se p E->i∈E->p i
 |_::_,h,b=>by
  rcases aY.1 b with e | e
  .exact e▸h.1
  .exact h.2.mem e
def MS{b:Nat->Kd->Bool}{p:Nat->Kd->Prop}(o:∀i k,b i k=true->p i k)(h0:∀i,p i .no){E:au}:∀(l:List Kd)(n:Nat),okL b E n l=true->∀i,n+i∉E->p (n+i) (nth l i .no)
 | [],_,_,_,_=>h0 _
 |k::l,n,h,i,q=>by
  simp only[okL,aC,bP]at h;cases i with
  |zero=>exact o _ _ (h.1.resolve_right λc=>q (ak c))
  |succ i =>
   have:=MS o h0 l (n+1) h.2 i (by rwa [show n+1+i=n+(i+1) by omega])
   rwa [show n+1+i=n+(i+1) by omega]at this
def MR{b:Nat->Kd->Bool}{p:Nat->Kd->Prop}(o:∀i k,b i k=true->p i k)(h0:∀i,p i .no){l:List Kd}(E:au)(h:okL b E 0 l=true)(q:Se (λi=>p i (nth l i .no)) E):∀f,p f (nth l f .no):=λf=>by
 by_cases n:f∈E
 .exact q.mem n
 .have:=MS o h0 l 0 h f (by rwa [b8])
  rwa [b8]at this
def IJ{P:Program}(l:P.follows .mixedOrders=true){Γ:ja}(b:js P Γ){f:FuncId}{F:AF}(ok:okF P f F=true):∀k,js P (kT Γ f F k)
 |0=>b
 |k+1=>by
  have n:=IJ l b ok k;refine⟨λg args r h o i=>?_,λg args h r h' i=>?_,λg args h r h' i=>?_⟩
  .simp only[kT]at i;split at i
   .cases i
   .exact b.p g args r h o i
  .simp only[kT]at i;split at i
   .rename_i hg;subst hg;exact oG l n ok i
   .exact b.h g args h r h' i
  .exact b.x g args h r h' i
def iu.yG{P:Program}(q:P.follows .mixedOrders=true)(o:∀f,(C.kd f).ok P f):∀n,js P (C.fk n)
 |0=>IB
 |n+1=>by
  have l:=iu.yG q o n;refine⟨λf args r h y b=>?_,λf args h r h' b=>?_,λf args h r h' b=>?_⟩
  .simp only[iu.fk]at b;split at b
   .have:=o f;split at b
    .rename_i F i;rw[i]at this;exact Ep q l this y b h
    .rename_i s i;rw[i]at this;exact this args r h b
    .rename_i s i;rw[i]at this;exact this _ l args r h y b
    .cases b
   .exact l.p f args r h y b
  .simp only[iu.fk]at b;split at b
   .have:=o f;split at b
    .rename_i F i;rw[i]at this;exact oG q l this b
    .rename_i F i;rw[i]at this;exact oG q l this b
    .rename_i s i;rw[i]at this;exact this args h r h' b
    .rename_i F d i;rw[i]at this;exact oG q (IJ q l this d) this b
    .rename_i s i;rw[i]at this;exact this _ l args h r h' b
    .rename_i F i;rw[i]at this;simp only[aD]at b;let⟨⟨Q,h1⟩,N,b⟩:=b;let⟨O,hs⟩:=oG q l this b;refine⟨O,λZ β w vs R hl M=>?_⟩
     let⟨L,K,H,G,k5⟩:=qh args R N hl M;refine(hs Z β w vs L H G).mono ?_
     rintro e w' ⟨v,β',rfl,E,A,z⟩
     exact⟨v,β',rfl,E,K.trans A,z⟩
    .cases b
   .exact l.h f args h r h' b
  .simp only[iu.fk]at b;split at b
   .have:=o f;split at b
    .rename_i F i;rw[i]at this;exact Mf q l this b
    .cases b
   .exact l.x f args h r h' b
def EG:∀ {args:List AV} (h:AH),args.all AV.jE=true->jk h args=some (args,h)
 | [],_,_=>rfl
 |a::l,h,b=>by
  simp only[cm,aC]at b;have e:lG h a=some (a,h):=by unfold lG;rw[if_pos b.1]
  simp only[jk,e,bH,EG h b.2]
def vO{args:List AV}{r:AV}{h:AH}(i:args.all AV.jE=true)(b:Γ.p f args=some r):rF Γ f args h=some (r,h):=by
 unfold rF;rw[EG h i];simp only[b]
def iE{args:List AV}{h:AH}(b:∀args,Γ.p f args=none):rF Γ f args h=Γ.h f args h:=by
 unfold rF;split
 .rw[b]
 .rfl
def vD(x:Option AV)(h':AH)(Γ:ja)(f:FuncId)(args:List AV)(h:AH):Option (AV×AH):=match x with
 |some r=>some (r,h')
 |none=>Γ.h f args h
def vC(x:Option (List AV×AH))(Γ:ja)(f:FuncId)(args:List AV)(h:AH):Option (AV×AH):=match x with
 |some q=>vD (Γ.p f q.1) q.2 Γ f args h
 |none=>Γ.h f args h
@[simp]theorem afP(r:AV)(h':AH)(Γ:ja)(f:FuncId)(args:List AV)(h:AH):vD (some r) h' Γ f args h=some (r,h'):=rfl
@[simp]theorem afQ(h':AH)(Γ:ja)(f:FuncId)(args:List AV)(h:AH):vD none h' Γ f args h=Γ.h f args h:=rfl
@[simp]theorem afR(b:List AV)(h':AH)(Γ:ja)(f:FuncId)(args:List AV)(h:AH):vC (some (b,h')) Γ f args h=vD (Γ.p f b) h' Γ f args h:=rfl
@[simp]theorem afS(Γ:ja)(f:FuncId)(args:List AV)(h:AH):vC none Γ f args h=Γ.h f args h:=rfl
def kF(Γ:ja)(f:FuncId)(args:List AV)(h:AH):rF Γ f args h=vC (jk h args) Γ f args h:=by
 unfold rF vC vD;cases jk h args with
 |none=>rfl
 |some q=>cases Γ.p f q.1<;>rfl
@[simp]theorem XJ(sz bytes:Nat)(f:Bool)(es:List AV)(h:AH):iL sz bytes [.en f es] h =
  if iU sz es=true/\0<sz/\es.length*bytes<=140737488355328/\es.length<=140737488355328 then some (.own h.length 0 0 es.length,h++[.row 0 sz es])else none:=rfl
@[simp]def XI(sz bytes b v o n:Nat)(h:AH):iL sz bytes [.own b v o n] h=@j3 _ _ (N8 v o n h[b]?) ⟨λes =>
  if iU sz es=true/\0<sz/\es.length*bytes<=140737488355328/\es.length<=140737488355328 then some (.own h.length 0 0 es.length,h++[.row 0 sz es])else none⟩:=by
 rw[<-KH];rfl
def nF{P:Program}(h:P.follows .mixedOrders=true){sz bytes:Nat}{zero:AV}(ok:okF P f (nM sz bytes zero)=true):(Kd.x (iL sz bytes)).ok P f :=
 λ_ _ _ _ b=>KR h IB ok b
structure Gu(P:Program)(f:FuncId)(tS tI tB tE t0:TypeId)(fO fR:FuncId)(sz bytes:Nat):Prop where
 mixed:P.follows .mixedOrders=true
 f:∃nm ta,P.funcs[f]? = some (Nk nm ta tS tI tB tE t0 fO fR)/\(nm == "runtime.NumGoroutine")=false
 o:∃fn,P.funcs[fO]? = some fn/\fn.body=none/\(fn.name == "runtime.NumGoroutine")=false/\Extern.findNext fn=none/\Extern.find fn=some (Extern.SlicesOverlaps.overlaps #[tS,tS] #[tB])
 tS:P.underlying tS=some (.slice tE)
 tI:P.underlying tI=some (.int .i64)
 tB:P.underlying tB=some .bool
 t0:P.underlying t0=some (.tuple #[])
 i:(P.info? tE).map (λi=>(i.zero.map λz=>z.cells.size,i.size,i.bytes))=some (some sz,sz,bytes)
 pos:0<sz
def qM{P:Program}{f tS tI tB q t0 A y:Nat}{sz bytes:Nat}(L:Gu P f tS tI tB q t0 A y sz bytes):(Kd.x (kP sz bytes)).ok P f:=by
 intro args h r h' v;have b:=L.i;cases n:P.info? q with
 |none=>rw[n]at b;cases b
 |some i0 =>
  rw[n]at b;simp only[cB,aP,Prod.mk.injEq]at b;obtain⟨h1,rfl,rfl⟩:=b;cases l:i0.zero with
  |none=>rw[l]at h1;cases h1
  |some z =>
   rw[l]at h1;simp only[cB,aP]at h1;exact Ht (z:=z) ⟨L.mixed,L.f,L.o,L.tS,L.tI,L.tB,L.t0,n,l,h1,L.pos⟩ v
mutual
def OL:AV->AV->Bool
 | .dead,.dead=>true
 | .undef,.undef=>true
 | .bool a,.bool b=>decide (a=b)
 | .int k n,.int q m=>decide (k=q)&&decide (n=m)
 | .str a,.str b=>decide (a=b)
 | .kG,.kG=>true
 | .me,.me=>true
 | .ptr a b c d,.ptr o l i h=>decide (a=o)&&(decide (b=l)&&(decide (c=i)&&decide (d=h)))
 | .iw a,.iw b=>o9 a b
 | .en f a,.en g b=>decide (f=g)&&o9 a b
 | .own a b c d,.own o l i h=>decide (a=o)&&(decide (b=l)&&(decide (c=i)&&decide (d=h)))
 | .agg a,.agg b=>o9 a b
 | .iV a,.iV b=>o9 a b
 | .fn f a c,.fn g b d=>decide (f=g)&&(o9 a b&&o9 c d)
 | .kU,.kU=>true
 | .kg,.kg=>true
 | .kZ a,.kZ b=>decide (a=b)
 |_,_=>false
def o9:List AV->List AV->Bool
 | [],[]=>true
 |a::l,b::m=>OL a b&&o9 l m
 |_,_=>false
end
theorem DI(a:AV):∀b,OL a b=true->a=b:=by
 induction a using AV.rec (motive_2:=λl=>∀m,o9 l m=true->l=m)
 all_goals
  intros
  rename_i b h;cases b<;>grind[OL,o9]
theorem Gp:∀a b:List AV,o9 a b=true->a=b
 | [],b,h=>by cases b<;>grind[o9]
 |a::l,b,h=>by cases b<;>grind[o9,DI,Gp l]
def zY{G:Type}[DecidableEq G]:List (G×AV)->List (G×AV)->Bool
 | [],[]=>true
 |a::l,b::m=>decide (a.1=b.1)&&(OL a.2 b.2&&zY l m)
 |_,_=>false
theorem B5{G:Type}[DecidableEq G]:∀a b:List (G×AV),zY a b=true->a=b
 | [],b,h=>by cases b<;>grind[zY]
 |(a,x)::l,b,h=>by cases b<;>grind[zY,DI,B5 l]
def YO:AB->AB->Bool
 | .gone,.gone=>true
 | .var a,.var b=>o9 a b
 | .row v s a,.row v' s' b=>decide (v=v')&&(decide (s=s')&&o9 a b)
 | .lu v s a,.lu v' s' b=>decide (v=v')&&(decide (s=s')&&o9 a b)
 | .mp k a,.mp h b=>decide (k=h)&&zY a b
 |_,_=>false
theorem RW(a b:AB)(h:YO a b=true):a=b:=by
 cases a<;>cases b<;>grind[YO,Gp,B5]
def Ii:AH->AH->Bool
 | [],[]=>true
 |a::l,b::m=>YO a b&&Ii l m
 |_,_=>false
theorem yA:∀a b:AH,Ii a b=true->a=b
 | [],b,h=>by cases b<;>grind[Ii]
 |a::l,b,h=>by cases b<;>grind[Ii,RW,yA l]
def Ej(h:AH):Option (AV×AH)->Option (AV×AH)
 |some (r,h')=>match Ii h' h with | true=>some (r,h) | false=>none
 |none=>none
def Ft(h:AH):Option (AV×AH)->Option (AV×AH)
 |some (r,h')=>match Ii (h'.take h.length) h with | true=>some (r,h') | false=>none
 |none=>none
theorem Mb{h:AH}{a:Option (AV×AH)}{r:AV×AH}(e:Ej h a=some r):pF h a=some r:=by
 cases a<;>grind[Ej,pF,yA]
theorem NG{h:AH}{a:Option (AV×AH)}{r:AV×AH}(e:Ft h a=some r):qu h a=some r:=by
 cases a<;>grind[Ft,qu,yA]
noncomputable def Cc(pk:FuncId->Bool)(Γ:ja)(f:FuncId)(args:List AV)(h:AH):Option (AV×AH):=match pk f with
 |true=>(jk h args).bind λq=>(Γ.p f q.1).bind λr=>some (r,q.2)
 |false=>Γ.h f args h
noncomputable def uP(pk:FuncId->Bool)(Γ:ja)(v:AV)(args:List AV)(h:AH):Option (AV×AH):=match v with
 | .fn g first cap=>match g with
  | .func g=>Cc pk Γ g (first++args++cap) h
  |_=>none
 |_=>none
noncomputable def xG(pk:FuncId->Bool)(Γ:ja)(e:Env)(h:AH):j5->Option (AV×AH)
 | .call f args=>Cc pk Γ f (getAll e args) h
 | .jS f args=>uP pk Γ (f.get e) (getAll e args) h
 | .qB f args=>Ej h (uP pk Γ (f.get e) (getAll e args) h)
 | .o8 f args=>Ft h (Cc pk Γ f (getAll e args) h)
 | .calls f args=>Ej h (Cc pk Γ f (getAll e args) h)
 | .oZ f args=>Ft h (uP pk Γ (f.get e) (getAll e args) h)
 |op=>exec Γ e h op
noncomputable def Db(pk:FuncId->Bool)(Γ:ja):IT->St->Option St
 | .nil,s=>some s
 | .op d o rest,s=>match xG pk Γ s.e s.h o with
  |some (v,h)=>Db pk Γ rest (St.put {s with h:=h} d v)
  |none=>none
 | .sc d a c i n l r rest,s =>
  match s.e c with
  | .bool b =>
   (if b=a then(Db pk Γ l s).bind λs'=>match r.get s'.e with
     | .bool x=>some (AV.bool x,s'.h)
     |_=>none
    else some (AV.bool (!a),s.h)).bind λ(v,h)=>Db pk Γ rest ⟨(s.e.kill i n).put d v,h⟩
  |_=>none
noncomputable def zW(pk:FuncId->Bool)(Γ:ja){ρ:Type}(z:XO)(next:St->Option ρ)(k:AX->St->Option ρ)(s:St):Option ρ:=match z with
 | .op d o=>match xG pk Γ s.e s.h o with
  |some r=>next (St.put ⟨s.e,r.2⟩ d r.1)
  |none=>none
 |z=>ng Γ z next k s
noncomputable def HK(pk:FuncId->Bool)(Γ:ja){ρ:Type}(last:IT)(k:AX->St->Option ρ):List (IT×XO)->St->Option ρ
 | [],s=>(Db pk Γ last s).bind (k .normal)
 |p::l,s=>(Db pk Γ p.1 s).bind (zW pk Γ p.2 (HK pk Γ last k l) k)
section
variable(pk:FuncId->Bool)(N:Nat)
noncomputable def lV(Γ:ja):AC->(Nat->Bool)->(ρ:Type)->(AX->St->Option ρ)->St->Option ρ
 | .skip,_,_,k,s=>k .normal s
 | .ops l,_,_,k,s=>(Db pk Γ l s).bind (k .normal)
 | .seq a b,V,ρ,k,s=>lV Γ a V ρ (λx s'=>match x with
   | .normal=>lV Γ b V ρ k s'
   |x=>k x s') s
 | .cond c x y,V,ρ,k,s=>match c.get s.e with
   | .bool b=>match b with
    |true=>lV Γ x V ρ k s
    |false=>lV Γ y V ρ k s
   |_=>none
 | .block id c,V,ρ,k,s=>lV Γ c V ρ (λx s'=>match x with
   | .exit i=>if i=id then k .normal s' else k (.exit i) s'
   |x=>k x s') s
 | .loop keep wr own n c,V,_,k,s =>
   if (rowsOf (iJ own s).e own).all V=true then
   (mW (λx:List AV×AH=>lV Γ c (nS (rowsOf (iJ own s).e own) (iJ own s).h.length) ((List AV×AH)⊕(AX×List AV×AH)) (λo s'=>match o with
     | .normal=>some (.inl (head (iJ own s).h.length (rowsOf (iJ own s).e own) keep s'))
     |o=>some (.inr (o,(lp o n).map s'.e,s'.h))) ⟨((nj (rowsOf (iJ own s).e own) (iJ own s).e).od wr).lay keep x.1,x.2⟩) N
    (head (iJ own s).h.length (rowsOf (iJ own s).e own) keep (iJ own s))).bind λr=>rE ((nj (rowsOf (iJ own s).e own) (iJ own s).e).od wr) k n r
   else none
 | .exit id,_,_,k,s=>k (.exit id) s
 | .ret,_,_,k,s=>k .ret s
 | .scope c,V,ρ,k,s=>lV Γ c V ρ k s
 | .QL c g,V,ρ,k,s=>lV Γ c V ρ (λx s'=>match x with
   | .exit i=>k (.exit i) s'
   | .mD p=>k (.mD p) s'
   |x=>(HD g s').bind (k x)) s
 | .qk l last,_,_,k,s=>HK pk Γ last k l s
 | .mV keep wr n c,_,_,k,s =>
   (mW (λx:List AV×AH=>lV Γ c (λi=>decide (s.h.length<=i)) ((List AV×AH)⊕(AX×List AV×AH)) (λo s'=>match o with
     | .normal=>some (.inl (keep.map s'.e,s'.h))
     |o=>some (.inr (o,(lp o n).map s'.e,s'.h))) ⟨(s.e.od wr).lay keep x.1,x.2⟩) N
    (keep.map s.e,s.h)).bind λr=>rE (s.e.od wr) k n r
noncomputable def xq(Γ:ja)(f:AF)(args:List AV)(h:AH):Option (AV×AH) :=
 if args.length<=f.nt then
  lV pk N Γ f.body (λi=>decide (h.length<=i)) (AV×AH) (λx s=>match x with
   | .exit _=>none
   | .mD _=>none
   |_=>(oa s f.res).bind λv=>some (v,s.h)) ⟨iX args,h⟩
 else none
noncomputable def Mh(Γ:ja)(f:AF)(args:List AV)(h:AH):Option ((AV⊕Pn)×AH) :=
 if args.length<=f.nt then
  lV pk N Γ f.body (λi=>decide (h.length<=i)) ((AV⊕Pn)×AH) (λx s=>match x with
   | .exit _=>none
   | .mD p=>some (.inr p,s.h)
   |_=>(oa s f.res).bind λv=>some (.inl v,s.h)) ⟨iX args,h⟩
 else none
noncomputable def Sz(Γ:ja)(D:DF)(args:List AV):Option AV :=
 (D.st args).bind (lV pk N Γ D.body (λ_=>true) AV (λx s=>match x with
  | .exit _=>none
  | .mD p=>D.fin p s
  |_=>(oa s D.res).bind λv=>(lP s.h v).bind λq=>some q.1))
noncomputable def Sy(Γ:ja)(f:AF)(args:List AV):Option AV:=(xq pk N Γ f args []).bind λ(v,h)=>(lP h v).bind λ(v,_)=>some v
noncomputable def PZ(Γ:ja)(f:FuncId)(F:AF):Nat->ja
 |0=>Γ
 |k+1=>⟨λg args=>if g=f then none else Γ.p g args,λg args h=>if g=f then xq pk N (PZ Γ f F k) F args h else Γ.h g args h,Γ.x⟩
end
def Kd.rI:Kd->Bool
 | .p _=>true
 | .y _=>true
 | .d _=>true
 |_=>false
noncomputable def M4(pk:FuncId->Bool)(Γ:ja):ja:=⟨Γ.p,λf a h=>match pk f with | true=>none | false=>Γ.h f a h,Γ.x⟩
noncomputable def iu.vg(N:Nat)(C:iu):Nat->Nat->ja
 |0,_=>⟨λ_ _=>none,λ_ _ _=>none,λ_ _ _=>none⟩
 |d+1,n=>⟨λg args=>if C.pos g<n then(match C.kd g with | .p F=>Sy (λf=>(C.kd f).rI) N (iu.vg N C d (C.pos g)) F args | .y s=>s args | .d D=>Sz (λf=>(C.kd f).rI) N (iu.vg N C d (C.pos g)) D args | _=>none)else none,
   λg args h=>if C.pos g<n then(match C.kd g with | .p F=>xq (λf=>(C.kd f).rI) N (iu.vg N C d (C.pos g)) F args h | .h F=>xq (λf=>(C.kd f).rI) N (iu.vg N C d (C.pos g)) F args h | .x s=>s args h | .r F k=>xq (λf=>(C.kd f).rI) N (PZ (λf=>(C.kd f).rI) N (iu.vg N C d (C.pos g)) g F k) F args h | .z s=>s (M4 (λf=>(C.kd f).rI) (iu.vg N C d (C.pos g))) args h | .q F=>(jk h args).bind λq=>xq (λf=>(C.kd f).rI) N (iu.vg N C d (C.pos g)) F q.1 q.2 | _=>none)else none,
   λg args h=>if C.pos g<n then(match C.kd g with | .u F=>Mh (λf=>(C.kd f).rI) N (iu.vg N C d (C.pos g)) F args h | _=>none)else none⟩
structure ja.Le(pk:FuncId->Bool)(Γ Γ':ja):Prop where
 p:∀f a r,Γ.p f a=some r->Γ'.p f a=some r
 h:∀f a h r,Γ.h f a h=some r->Γ'.h f a h=some r
 n:∀f a,pk f=false->Γ'.p f a=none
 x:∀f a h r,Γ.x f a h=some r->Γ'.x f a h=some r
variable{pk:FuncId->Bool}{Γ Γ':ja}
theorem bind_mono{α β:Type}{a b:Option α}{f g:α->Option β}{r:β}(h:a.bind f=some r)(l:∀x,a=some x->b=some x)(i:∀x,f x=some r->g x=some r):b.bind g=some r:=by
 cases a with
 |none=>cases h
 |some x=>rw[l x rfl];exact i x h
theorem ja.Le.call(L:ja.Le pk Γ Γ'){f:FuncId}{a:List AV}{h:AH}{r:AV×AH}(e:Cc pk Γ f a h=some r):rF Γ' f a h=some r:=by
 unfold Cc at e;split at e
 .simp only[aD]at e;let⟨⟨o,h'⟩,i,v,b,e⟩:=e;cases e;unfold rF;rw[i];simp only[L.p _ _ _ b]
 .rename_i hk;unfold rF;have l:=λa=>L.n f a hk
  split
  .simp only[l];exact L.h _ _ _ _ e
  .exact L.h _ _ _ _ e
theorem ja.Le.Ce(L:ja.Le pk Γ Γ'){v:AV}{a:List AV}{h:AH}{r:AV×AH}(e:uP pk Γ v a h=some r):∃g first cap,v = .fn (.func g) first cap/\rF Γ' g (first++a++cap) h=some r:=by
 unfold uP at e;split at e
 .split at e
  .exact⟨_,_,_,rfl,L.call e⟩
  .cases e
 .cases e
theorem yW{h:AH}{a b:Option (AV×AH)}{r:AV×AH}(i:∀r,a=some r->b=some r)(e:Ej h a=some r):pF h b=some r:=by
 cases a with
 |none=>cases e
 |some x=>rw[i x rfl];exact Mb e
theorem zL{h:AH}{a b:Option (AV×AH)}{r:AV×AH}(i:∀r,a=some r->b=some r)(e:Ft h a=some r):qu h b=some r:=by
 cases a with
 |none=>cases e
 |some x=>rw[i x rfl];exact NG e
theorem ja.Le.exec(L:ja.Le pk Γ Γ'){e:Env}{h:AH}{op:j5}{r:AV×AH}(x:xG pk Γ e h op=some r):exec Γ' e h op=some r:=by
 cases op with
 |call f args=>exact L.call x
 |kY f args =>
  simp only[Am.xG,Am.exec]at x⊢;split at x
  .rename_i z;rw[if_pos z];unfold jv at x⊢;cases b:Γ.p f (getAll e args)with
   |none=>rw[b]at x;cases x
   |some v=>rw[b]at x;rw[L.p _ _ _ b];exact x
  .cases x
 |ni f args =>
  simp only[Am.xG,Am.exec]at x⊢;split at x
  .split at x
   .split at x
    .rename_i z;rw[if_pos z];unfold jv at x⊢;generalize b:Γ.p _ _=q at x;cases q with
     |none=>cases x
     |some v=>rw[L.p _ _ _ b];exact x
    .cases x
   .cases x
  .cases x
 |jS f args =>
  let⟨g,first,cap,o,i⟩:=L.Ce x;simp only[Am.exec,o];exact i
 |s5 f args =>
  simp only[Am.xG,Am.exec]at x⊢;split at x
  .rename_i z;rw[if_pos z];cases b:Γ.h f (getAll e args) []with
   |none=>rw[b]at x;cases x
   |some v=>rw[b]at x;rw[L.h _ _ _ _ b];exact x
  .cases x
 |qB f args =>
  simp only[Am.xG]at x;cases i:uP pk Γ (f.get e) (getAll e args) h with
  |none=>rw[i]at x;cases x
  |some y =>
   let⟨g,first,cap,o,l⟩:=L.Ce i;simp only[Am.exec,o];rw[i]at x;exact yW (λr A=>by rw[l];exact A) x
 |vM f args=>exact bind_mono x (λ_ h=>h) λq l=>bind_mono l (λ_=>L.p _ _ _) λ_ h=>h
 |vN f args=>exact bind_mono x (λ_ h=>h) λq l=>L.h _ _ _ _ l
 |o8 f args=>exact zL (λ_=>L.call) x
 |calls f args=>exact yW (λ_=>L.call) x
 |oZ f args =>
  simp only[Am.xG]at x;cases i:uP pk Γ (f.get e) (getAll e args) h with
  |none=>rw[i]at x;cases x
  |some y =>
   let⟨g,first,cap,o,l⟩:=L.Ce i;simp only[Am.exec,o];rw[i]at x;exact zL (λr A=>by rw[l];exact A) x
 |_=>exact x
theorem ja.Le.qX(L:ja.Le pk Γ Γ'):∀ {l:IT} {s r:St},Db pk Γ l s=some r->qX Γ' l s=some r
 | .nil,_,_,h=>h
 | .op d o rest,s,_,h=>by
  rw[Db]at h;split at h
  .rename_i v h' hx;rw[Am.qX,L.exec hx];exact L.qX h
  .cases h
 | .sc d a c y z l r rest,s,t,h=>by
  simp only[Am.Db]at h;simp only[Am.qX];split at h
  .rename_i b q;simp only[q];refine bind_mono h (λx hx=>?_) λ_=>L.qX
   split at hx
   .rename_i i;rw[if_pos i];exact bind_mono hx (λ_=>L.qX) λ_ h=>h
   .rename_i i;rw[if_neg i];exact hx
  .cases h
theorem wB{H K:Type}{f g:H->Option (H⊕K)}(b:∀s r,f s=some r->g s=some r):∀ {n:Nat} {s:H} {t:K},mW f n s=some t->iter g s=some t
 |0,_,_,h=>by cases h
 |n+1,s,t,h=>by
  rw[mW]at h;rw[iter_eq];cases hs:f s with
  |none=>rw[hs]at h;cases h
  |some r =>
   rw[hs]at h;rw[b _ _ hs];cases r with
   |inl s'=>exact wB b h
   |inr i=>exact h
theorem ur{ρ:Type}{e:Env}{k b:AX->St->Option ρ}{r:AX×List AV×AH}{v:ρ}(hk:∀x s,k x s=some v->b x s=some v):∀ {l:List (AX×au)},l7 e k r l=some v->l7 e b r l=some v
 | [],h=>by cases h
 |(x,i)::l,h=>by grind[l7,ur hk (l:=l)]
theorem zg{ρ:Type}{e:Env}{k b:AX->St->Option ρ}{l:List (AX×au)}{r:AX×List AV×AH}{v:ρ}(hk:∀x s,k x s=some v->b x s=some v)(h:rE e k l r=some v):rE e b l r=some v:=by
 let⟨x,vs,i⟩:=r;cases x<;>first | exact hk _ _ h | exact ur hk h
theorem EM{ρ:Type}{d:Option Nat}{n l:St->Option ρ}{k o:AX->St->Option ρ}{s:St}{a b:Option ((AV⊕Pn)×AH)}{r:ρ}(i:∀x,a=some x->b=some x)(q:∀s,n s=some r->l s=some r)(hk:∀x s,k x s=some r->o x s=some r)(h:O8 d n k s a=some r):O8 d l o s b=some r:=by
 cases a with
 |none=>cases h
 |some x =>
  rw[i x rfl];let⟨v,y⟩:=x;cases v<;>first | exact q _ h | exact hk _ _ h
theorem ja.Le.ng(L:ja.Le pk Γ Γ'){ρ:Type}{z:XO}{n i:St->Option ρ}{k l:AX->St->Option ρ}{s:St}{r:ρ}(b:∀s,n s=some r->i s=some r)(hk:∀x s,k x s=some r->l x s=some r)(h:zW pk Γ z n k s=some r):Am.ng Γ' z i l s=some r:=by
 cases z with
 |op d o =>
  simp only[zW]at h;split at h
  .rename_i x hx;simp only[Am.ng,L.exec hx,bH];exact b _ h
  .cases h
 |call d f args=>exact EM (L.x _ _ _) b hk h
 |jS d f args =>
  simp only[zW,Am.ng]at h⊢;split at h
  .exact EM (L.x _ _ _) b hk h
  .cases h
 |mD x =>
  simp only[zW,Am.ng]at h⊢;split at h
  .exact hk _ _ h
  .cases h
theorem ja.Le.oq(L:ja.Le pk Γ Γ'){ρ:Type}{last:IT}{k b:AX->St->Option ρ}{r:ρ}(hk:∀x s,k x s=some r->b x s=some r):∀ {l:List (IT×XO)} {s:St},HK pk Γ last k l s=some r->Am.oq Γ' last b l s=some r
 | [],_,h=>bind_mono h (λ_=>L.qX) (hk _)
 |_::_,_,h=>bind_mono h (λ_=>L.qX) λ_=>L.ng (λ_=>L.oq hk) hk
variable{N:Nat}
theorem j7(L:ja.Le pk Γ Γ'):∀(c:AC)(V:aA)(ρ:Type)(k n:AX->St->Option ρ)(s:St)(r:ρ),(∀x s,k x s=some r->n x s=some r)->lV pk N Γ c V ρ k s=some r->eval Γ' c V ρ n s=some r
 | .skip,_,_,_,_,_,_,hk,h=>hk _ _ h
 | .ops l,_,_,_,_,_,_,hk,h=>bind_mono h (λ_=>L.qX) (hk _)
 | .seq a b,V,ρ,k,n,s,r,hk,h=>by
  rw[lV]at h;rw[eval];refine j7 L a V ρ _ _ s r (λx s' hx=>?_) h
  cases x with
  |normal=>exact j7 L b V ρ _ _ s' r hk hx
  |_=>exact hk _ _ hx
 | .cond c x y,V,ρ,k,n,s,r,hk,h=>by
  rw[lV]at h;rw[eval];split at h
  .rename_i b A;rw[A];cases b with
   |true=>exact j7 L x V ρ _ _ s r hk h
   |false=>exact j7 L y V ρ _ _ s r hk h
  .cases h
 | .block id c,V,ρ,k,n,s,r,hk,h=>by
  rw[lV]at h;rw[eval];refine j7 L c V ρ _ _ s r (λx s' hx=>?_) h
  cases x with
  |normal | ret | mD _=>exact hk _ _ hx
  |exit i =>
   dsimp only at hx⊢;split at hx
   .rename_i v;rw[if_pos v];exact hk _ _ hx
   .rename_i v;rw[if_neg v];exact hk _ _ hx
 | .loop keep wr own o c,V,ρ,k,n,s,r,hk,h=>by
  rw[lV]at h;rw[eval];split at h
  .rename_i E;rw[if_pos E];refine bind_mono h (λx hx=>wB (λy z q=>?_) hx) λ_=>zg hk
   exact j7 L c _ _ _ _ _ _ (λ_ _ h=>h) q
  .cases h
 | .exit id,_,_,_,_,_,_,hk,h=>hk _ _ h
 | .ret,_,_,_,_,_,_,hk,h=>hk _ _ h
 | .scope c,V,ρ,k,n,s,r,hk,h=>j7 L c V ρ k n s r hk h
 | .QL c g,V,ρ,k,n,s,r,hk,h=>by
  rw[lV]at h;rw[eval];refine j7 L c V ρ _ _ s r (λx s' hx=>?_) h
  cases x with
  |normal=>exact bind_mono hx (λ_ h=>h) (hk _)
  |ret=>exact bind_mono hx (λ_ h=>h) (hk _)
  |exit _ | mD _=>exact hk _ _ hx
 | .qk l last,V,ρ,k,n,s,r,hk,h=>by
  rw[lV]at h;rw[eval];exact L.oq hk h
 | .mV keep wr o c,V,ρ,k,n,s,r,hk,h=>by
  rw[lV]at h;rw[eval];refine bind_mono h (λx hx=>wB (λy z q=>?_) hx) λ_=>zg hk
  exact j7 L c _ _ _ _ _ _ (λ_ _ h=>h) q
theorem qe(L:ja.Le pk Γ Γ'){f:AF}{args:List AV}{h:AH}{r:AV×AH}(e:xq pk N Γ f args h=some r):jU Γ' f args h=some r:=by
 unfold xq at e;unfold jU;split at e
 .rename_i hl;rw[if_pos hl];exact j7 L _ _ _ _ _ _ _ (λ_ _ h=>h) e
 .cases e
theorem Mg(L:ja.Le pk Γ Γ'){f:AF}{args:List AV}{h:AH}{r:(AV⊕Pn)×AH}(e:Mh pk N Γ f args h=some r):lZ Γ' f args h=some r:=by
 unfold Mh at e;unfold lZ;split at e
 .rename_i hl;rw[if_pos hl];exact j7 L _ _ _ _ _ _ _ (λ_ _ h=>h) e
 .cases e
theorem Mk(L:ja.Le pk Γ Γ'){D:DF}{args:List AV}{r:AV}(e:Sz pk N Γ D args=some r):Es Γ' D args=some r :=
 bind_mono e (λ_ h=>h) λ_ e=>j7 L _ _ _ _ _ _ _ (λ_ _ h=>h) e
theorem Mj(L:ja.Le pk Γ Γ'){f:AF}{args:List AV}{r:AV}(e:Sy pk N Γ f args=some r):qP Γ' f args=some r :=
 bind_mono e (λ_=>qe L) λ_ h=>h
theorem IK(L:ja.Le pk Γ Γ'){f:FuncId}{F:AF}:∀k,ja.Le pk (PZ pk N Γ f F k) (kT Γ' f F k)
 |0=>L
 |k+1=>by
  have b:=IK L (f:=f) (F:=F) k;have h0:=λa h r=>qe (N:=N) b (f:=F) (args:=a) (h:=h) (r:=r)
  refine⟨?_,?_,?_,λf a h r=>L.x f a h r⟩<;>grind[PZ,kT,L.p,L.h,L.n]
structure ja.LeA(Γ Γ':ja):Prop where
 p:∀f a r,Γ.p f a=some r->Γ'.p f a=some r
 h:∀f a h r,Γ.h f a h=some r->Γ'.h f a h=some r/\∀a,Γ'.p f a=none
theorem ja.LeA.call(L:ja.LeA Γ Γ'){f:FuncId}{a:List AV}{h:AH}{r:AV×AH}(e:rF Γ f a h=some r):rF Γ' f a h=some r:=by
 grind[rF,L.p,L.h]
theorem M3(L:ja.Le pk Γ Γ'):ja.LeA (M4 pk Γ) Γ':=⟨L.p,λf a h r e=>by
 simp only[M4]at e;split at e
 .cases e
 .rename_i hk;exact⟨L.h _ _ _ _ e,λa=>L.n f a hk⟩⟩
def Kd.mono:Kd->Prop
 | .z s=>∀ {Γ Γ':ja},ja.LeA Γ Γ'->∀a h r,s Γ a h=some r->s Γ' a h=some r
 |_=>True
theorem iu.GG(C:iu){f:FuncId}(hk:(C.kd f).rI=false):∀n a,(C.fk n).p f a=none
 |0,_=>rfl
 |n+1,a=>by
  simp only[iu.fk];split
  .cases b:C.kd f<;>rw[b]at hk<;>first | rfl | cases hk
  .exact iu.GG C hk n a
theorem tu(C:iu)(l:∀g,(C.kd g).mono):∀d n,ja.Le (λf=>(C.kd f).rI) (iu.vg N C d n) (C.fk n)
 |0,n=>⟨λ_ _ _ e=>(by cases e),λ_ _ _ _ e=>(by cases e),λ_ a hk=>C.GG hk n a,λ_ _ _ _ e=>(by cases e)⟩
 |d+1,n=>by
  refine⟨λg a r e=>?_,λg a h r e=>?_,λ_ a hk=>C.GG hk n a,λg a h r e=>?_⟩
  .simp only[iu.vg]at e;split at e
   .rename_i b;have i:=tu C l d (C.pos g);cases hk:C.kd g with
    |p F=>rw[hk]at e;rw[iu.pZ hk rfl b];exact Mj i e
    |y s=>rw[hk]at e;rw[iu.oc hk rfl b];exact e
    |d D=>rw[hk]at e;rw[iu.LM hk rfl b];exact Mk i e
    |_=>rw[hk]at e;cases e
   .cases e
  .simp only[iu.vg]at e;split at e
   .rename_i b;have i:=tu C l d (C.pos g);cases hk:C.kd g with
    |p F=>rw[hk]at e;rw[iu.LL hk rfl b];exact qe i e
    |h F=>rw[hk]at e;rw[iu.nu hk rfl b];exact qe i e
    |x s=>rw[hk]at e;rw[iu.lD hk rfl b];exact e
    |r F k=>rw[hk]at e;rw[iu.D8 hk rfl b];exact qe (IK i k) e
    |q F=>rw[hk]at e;rw[iu.Sl hk rfl b];exact bind_mono e (λ_ h=>h) λ_=>qe i
    |z s =>
     have:=l g;rw[hk]at e this;rw[iu.Sk hk rfl b];exact this (M3 i) _ _ _ e
    |_=>rw[hk]at e;cases e
   .cases e
  .simp only[iu.vg]at e;split at e
   .rename_i b;have i:=tu C l d (C.pos g);cases hk:C.kd g with
    |u F=>rw[hk]at e;rw[iu.kK hk rfl b];exact Mg i e
    |_=>rw[hk]at e;cases e
   .cases e
open Go.Deep
def Gy(b:List TD)(cs:List AV):Prop:=cs.length=b.length/\∀(j:Nat)(y:AV)(h:TD),cs[j]? = some y->b[j]? = some h->mL h y
def Gy.cons{l:TD}{b:List TD}{cs:List AV}(h:Gy (l::b) cs):∃y i,cs=y::i/\mL l y/\Gy b i:=by
 let⟨h1,h2⟩:=h;cases cs with
 |nil=>simp at h1
 |cons y i=>exact⟨y,i,rfl,h2 0 y l rfl rfl,ak h1,λj z t n o=>h2 (j+1) z t (ak n) (ak o)⟩
def Gy.nil{cs:List AV}(h:Gy [] cs):cs=[]:=aV h.1
def xh.one{b:TD}{a:AV}(h:xh false [b] a):mL b a:=by
 unfold xh at h;simp only[bq,if_false]at h;let⟨i,h1,h2⟩:=h;simp only[fF,and_true]at h1;exact h1▸h2
def xh.agg{b:List TD}{a:AV}(h:xh true b a):∃cs,a = .agg cs/\Gy b cs:=by
 unfold xh at h;simp only[if_true]at h;let⟨cs,h1,h2,h3⟩:=h;exact⟨cs,h1,h2,h3⟩
def pO.inv{p:Bool×List TD}{l:List (Bool×List TD)}{args:List AV}(h:pO (p::l) args):∃a r,args=a::r/\xh p.1 p.2 a/\pO l r:=by
 cases h with | cons h t=>exact⟨_,_,rfl,h,t⟩
def pO.ajc{args:List AV}(h:pO [] args):args=[]:=by cases h;rfl
def mL.int{k:IntKind}{a:AV}(h:mL (.i k) a):∃n,a = .int k n/\k.min<=n/\n<=k.max:=by cases h with | i _ n h1 h2=>exact⟨n,rfl,h1,h2⟩
def mL.bool{a:AV}(h:mL .b a):∃b,a = .bool b:=by cases h with | b x=>exact⟨x,rfl⟩
def mL.str{a:AV}(h:mL .s a):∃s,a = .str s/\s.length<=maxLen:=by cases h with | s l h=>exact⟨l,rfl,h⟩
def mL.ints{k:IntKind}{a:AV}(h:mL (.l false [.i k]) a):∃(l:ax),a = .en false (l.map (AV.int k))/\l.length<=maxLen/\∀n∈l,k.min<=n/\n<=k.max:=by
 cases h with
 |l1 r es hl h =>
  let⟨l,o,q⟩:=nV (AV.int k) (λn=>k.min<=n/\n<=k.max) es λx hx=>by
   let⟨n,h1,h2⟩:=(h x hx).int;exact⟨n,h1,h2⟩
  exact⟨l,by rw[o],by rw[o]at hl;simpa using hl,q⟩
def mL.aj7{α:Type}(F:α->AV)(p:α->Prop){n:List TD}{a:AV}(h:mL (.l true n) a)(E:∀cs,Gy n cs->∃d,AV.agg cs=F d/\p d):∃(l:List α),a = .en false (l.map F)/\l.length<=maxLen/\∀d∈l,p d:=by
 cases h with
 |la n es hl g h0 h2 =>
  obtain⟨l,o,A⟩:=nV F p es λx hx=>by
   obtain⟨i,q⟩:=cU hx;obtain⟨e1,G⟩:=h0 i x q;rw[e1];exact E _ ⟨G,λj y r v z=>h2 i x q j y r v z⟩
  exact⟨l,by rw[o],by rw[o]at hl;simpa using hl,A⟩
end Go.Am
