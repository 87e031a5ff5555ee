/- Part of the proof that TopTwoPartsCard holds. -/
import Derived.Test.YtghgbehknhmnaaaGreatDoorAmInsA
import Derived.Test.YtghgbehknhmnaaaGreatDoorAmEnd
set_option linter.all false
namespace Go.Am
open Go.Lib
section
variable{P:Program}{Z:az}{Γ:jE}{β:jO}{h:AH}{w:World}
def vY(b o:Nat)(cur:Array Value)(elem:TypeId)(vs:List Value)(w:World)(i:w.heap[b]? = some (.cells cur elem (0,0)))(hl:o+vs.length<=cur.size)(h1:∀v∈vs,v.oneCell'=true):
  w.setCells b o vs=w.setRow b (over cur.toList o vs).toArray:=by
 have e1:=run_storeCells_at (P:=default) b o elem vs 0 cur w i af h1
 have n:=run_storeCells_cells (P:=default) b o vs 0 w
  (λc q=>by
   unfold World.cell?;simp only[i,cI];simp;omega)
  (λc q=>by
   unfold World.frozen?;simp only[i];simp) h1
 rw[e1]at n
 injection n with _ l
 simp only[cI]at l;rw[<-l];rfl
def xe(w:World)(tS tR e:TypeId)(L:P.underlying tS=some (.slice e))(size:Nat)(K:∀w,(Go.sizeOf e).run P w = .ok size w)
  (a b:Addr) (la ca lb cb:Nat) (o:a.block≠b.block) {x:Value} (l:w.cell? a=some x) {cur:Array Value} {elem:TypeId} (G:w.heap[b.block]? = some (.cells cur elem (0,0))) :
  (Extern.SlicesOverlaps.overlaps #[tS,tS] #[tR] #[.slice (some a) la ca,.slice (some b) lb cb]).run P w = .ok (.bool false) w:=by
 have z:(a.block != b.block)=true:=by simpa using o
 have q:(a.block==b.block)=false:=by simpa using o
 obtain⟨i,H,O,A,M⟩:∃c e f,w.heap[a.block]? = some (.cells c e f)/\a.off<c.size:=by
  unfold World.cell? at l;split at l
  .rename_i c e f N;refine⟨c,e,f,N,?_⟩;split at l
   .cases l
   .exact(aW.1 l).1
  .cases l
 have n:w.shape? a.block=some (H,i.size):=by simp[World.shape?,A]
 have y:w.shape? b.block=some (elem,cur.size):=by simp[World.shape?,G]
 have E:w.frozen? b=false:=by simp[World.frozen?,G]
 have hfe:w.frozen? {block:=b.block,off:=cur.size}=false:=by simp[World.frozen?,G]
 have hk:i.size≠0:=af
 change Sem.run P (α:=Value) (do
  let some t:=(#[tS,tS]:Array TypeId)[0]? | stuck "slices.overlaps: no parameter types"
  let .slice elem<-underlying t | stuck "slices.overlaps: slice type expected"
  let size<-sizeOf elem
  match (some a:Option Addr),(some b:Option Addr)with
  |some a,some b =>
   if la=0\/lb=0\/size=0 then pure (Value.bool false)
   else if a.block != b.block&&(<-frozen a)&&(<-frozen b)then unsupported .addressObserved
   else do
    if a.block != b.block then do
     noView a;noView b
     if<-mayBeOne a b then return Value.bool ((<-choose (.extern "sameAddr.stringBytes" 2))==1)
    pure (Value.bool (a.block==b.block&&a.off<b.off+lb*size&&b.off<a.off+la*size))
  |_,_=>pure (Value.bool false)) w=_
 by_cases h0:la=0\/lb=0\/size=0
 .simp[run_underlying L,K,h0]
 .cases v:i.size with
  |zero=>exact absurd v hk
  |succ k =>
   rw[v]at n;cases F:w.frozen? a<;>cases r:w.frozen? {block:=a.block,off:=k+1} <;>
   simp[run_underlying L,K,h0,z,q,frozen,noView,viewAt,mayBeOne,stringish,Sem.run,n,y,F,r,E,hfe]
def setRow_setRow(w:World)(b:Nat)(cur:Array Value)(elem:TypeId)(X Y:Array Value)(l:w.heap[b]? = some (.cells cur elem (0,0))):(w.setRow b X).setRow b Y=w.setRow b Y:=by
 unfold World.setRow
 congr 1
 apply Array.ext_getElem?;intro i;rw[dO,dO,dO]
 by_cases h:b=i
 .subst h;simp[l]
 .simp[h]
def qw(b o o':Nat)(cur:Array Value)(elem:TypeId)(vs l:List Value)(w:World)(i:w.heap[b]? = some (.cells cur elem (0,0)))(hl:o+vs.length<=cur.size)(h1:∀v∈vs,v.oneCell'=true)
  (q:o'+l.length<=cur.size) (r:∀v∈l,v.oneCell'=true) :
  (w.setCells b o vs).setCells b o' l=w.setRow b (over (over cur.toList o vs) o' l).toArray:=by
 rw[vY b o cur elem vs w i hl h1];have n:(over cur.toList o vs).length=cur.size:=by rw[iR _ _ _ (an hl)];simp
 rw[vY b o' (over cur.toList o vs).toArray elem l _ (setRow_heap w b cur _ elem (0,0) i) (by simpa[n]using q) r,setRow_setRow w b cur elem _ _ i]
def kO(sz bytes:Nat)(args:List AV)(h:AH):Option (AV×AH):=match args with
 | [.own b v o n,.int .i64 i,.b9 _ [x]] =>
  match h[b]? with
  |some (.row v' l es) =>
   if v=v'/\l=sz/\x.cells.length=sz/\o+n<=es.length/\0<=i/\i<=n/\(n+1)*bytes<=140737488355328/\n+1<=140737488355328 then
    some (.own b (v+1) 0 (n+1),h.set b (.row (v+1) sz ((((es.drop o).take n).take i.toNat)++x::((es.drop o).take n).drop i.toNat)))
   else none
  |_=>none
 |_=>none
def HF{f tS tI tB tE t0 fO fR:Nat}{A:TypeInfo}{z:Value}(L:SD P f tS tI tB tE t0 fO fR A z){args:List AV}{r:AV}{h':AH}(hr:kO A.size A.bytes args h=some (r,h')):ux P f args h r h':=by
 unfold kO at hr;split at hr
 .rename_i b v o n i fl x;split at hr
  .rename_i v' sz' es Y;split at hr
   .rename_i ad0;obtain⟨rfl,rfl,hxl,MX,hi0,hin,hby,h63⟩:=ad0;cases hr;obtain⟨k,rfl⟩:∃k:Nat,i=(k:Int):=⟨i.toNat,af⟩
    have hkn:k<=n:=af
    simp only[fE];have hpos:=L.pos;refine⟨by let⟨nm,ta,hf,hn⟩:=L.f;exact⟨_,hf,rfl,hn⟩,λZ β w vs R hl hv=>?_⟩
    obtain⟨v1,v2,v3,rfl⟩:∃a b c,vs=[a,b,c]:=by
     match vs,hl with
     | [a,b,c],_=>exact⟨a,b,c,rfl⟩
    have D1:=hv 0 _ _ rfl rfl;have hv2:=(hv 1 _ _ rfl rfl).kE;subst hv2;have hv3:=hv 2 _ _ rfl rfl;let⟨ad3,T,e3,ak7,_⟩:=lz R (a:=.b9 fl [x]) rfl hv3;subst e3;obtain⟨bd,ad,c,hbd,rfl,h2⟩:=D1.kZ;have hnc:n<=c:=by
     rcases h2 with⟨_,h2⟩ | ⟨_,_,_,h2,_⟩
     .omega
     .exact h2
    have adN:∃blk oo,ad3=some ⟨blk,oo,none⟩/\¬Own Z β h blk/\iO (Own Z β h) w (λk=>w.cell? ⟨blk,oo+k,none⟩) A.size [x]:=by
     have hp:=hv3.mK;generalize H:([x]:List AV).length=len at hp;cases hp with
     |b9 _ _ _ _ blk oo sz f hf hc ha hs h1 h3 h2 =>
      let⟨e1,e2,_⟩:=ha ai
      refine⟨blk,oo,e1,e2,λj y hy=>?_⟩
      let⟨e4,_⟩:=hs j y hy;have hyx:y=x:=by
       cases j with
       |zero=>simpa using hy.symm
       |succ j=>simp at hy
      have hsz:sz=A.size:=by rw[<-e4,hyx,hxl]
      subst hsz;refine⟨e4,λq u W=>⟨f j q,?_,h3 j y hy q u W,h2 j y hy q u W⟩⟩
      have:=h1 j y hy q u W;rw[cw]at this;exact this
    obtain⟨blk,oo,rfl,adR,hs3⟩:=adN;let⟨U,u1,u2,u3,u4⟩:=hs3.list;simp only[dF,dB]at u1;let⟨_,Sw,q1,q2,q3⟩:=R.blk b _ Y;rw[hbd]at q1;cases q1
    by_cases hkn':k=n
    ·
     subst hkn';have H:((es.drop o).take k).length=k:=ak
     have hap:append h A.size A.bytes (.own b v o k) [x]=some (.own b (v+1) 0 (k+1),h.set b (.row (v+1) A.size ((es.drop o).take k++[x]))):=by
      simp only[append,Y];rw[if_pos ⟨trivial,trivial,by simp[jw,hxl],MX,an hby,an h63⟩]
      rfl
     have hM:∀ty,iM P Z β h w (Builtin.append_ #[tS,tS] ty #[.slice ad k c,.slice (some ⟨blk,oo,none⟩) 1 T]) (.own b (v+1) 0 (k+1)) (h.set b (.row (v+1) A.size ((es.drop o).take k++[x]))):=λty=>by
      refine vQ R L.tS L.i L.iz L.zs rfl rfl hpos rfl hap D1 (news:=U) (.inl ⟨tS,_,rfl,L.tS,trivial,rfl,λw' hw'=>?_⟩) (.inl ⟨tS,_,rfl,L.tS,trivial⟩) (an u1) u4 u3
      exact run_firstCells_some w' A.size 1 ⟨blk,oo,none⟩ 1 T U (an u1) (λj u W=>by
       rw[lR];have:=u2 j u W
       simpa[World.cell?,hw']using this)
     let⟨rv,w1,β1,e1,k1,k2,k3⟩:=hM tS;have hall:∀ty,(Builtin.append_ #[tS,tS] ty #[.slice ad k c,.slice (some ⟨blk,oo,none⟩) 1 T]).run P w = .ok rv w1:=λty=>e1
     refine(QZ L ad k c (some ⟨blk,oo,none⟩) T w hnc hall).mono ?_
     rintro e w' ⟨rfl,rfl⟩
     have e0:∀l:List AV,l.length=k->l.take k++x::l.drop k=l++[x]:=λl hl=>by
      rw[aO af,eF af]
     rw[e0 _ H];exact⟨rv,β1,rfl,k1,k2,k3⟩
    .have hlt:k<n:=by omega
     rcases h2 with⟨_,h2⟩ | ⟨cb,p1,p2,_,p4⟩
     .omega
     rcases q3 with⟨q3,_⟩ | ⟨c2,cur,elem,g1,g2,g3,g4,g5⟩
     .rw[p1]at q3;cases q3
     rw[p1]at g1;cases g1;subst p2;have H:((es.drop o).take n).length=n:=ak
     have hsrc:=rL (o:=o) (n:=n) g2 g5;rw[q2]at p4;let⟨E,o1,o2,o3,o4⟩:=hsrc.list;rw[H]at o1;have hdist:k*A.size+(n-k)*A.size=n*A.size:=by rw[<-bT];congr 1;omega
     have hk1:(k+1)*A.size=k*A.size+A.size:=by rw[bT,dB]
     have hn1:(n+1)*A.size=n*A.size+A.size:=by rw[bT,dB]
     rw[bT]at p4;have hnb:blk≠cb:=λe=>adR (.inr ⟨b,e▸⟨_,Y,bd,p1,hbd⟩⟩)
     have X:(E.drop (k*A.size)).length=(n-k)*A.size:=by rw[bU,o1];omega
     have c1l:(E.take (k*A.size)).length=k*A.size:=by rw[bF,o1];omega
     have sA:iO (Own Z β h) w (λj=>(E.take (k*A.size))[j]?) A.size (((es.drop o).take n).take k):=(o4.take k).congr λj F=>by
      rw[bF,H,gR hkn]at F;rw[dg,if_pos F]
     have sB:iO (Own Z β h) w (λj=>(E.drop (k*A.size))[j]?) A.size (((es.drop o).take n).drop k):=(o4.drop k).congr λj F=>by rw[bX]
     have Q:(((es.drop o).take n).take k).length=k:=by rw[bF,H,gR hkn]
     have O:∀j u,E[j]? = some u->w.cell? ⟨cb,bd.base+o*A.size+j,none⟩=some u:=o2;rw[q2]
     by_cases S:n+1<=c
     .have hmc:(n+1)*A.size<=c*A.size:=br _ S;have adU:bd.base+o*A.size+(n+1)*A.size<=cur.size:=by rw[g3];omega
      have hx0:∃u,w.cell? ⟨blk,oo,none⟩=some u:=by
       have:U[0]? = some (U[0]'af):=aH _
       exact⟨_,u2 0 _ this⟩
      obtain⟨x0,hx0⟩:=hx0;let⟨fo,f1,f2,f3,f4,f5⟩:=L.o
      have hsh:=KO L cb (bd.base+o*A.size) n c k blk oo T (E.drop (k*A.size)) U w hlt S af hnb X u1
        (λj u F=>by rw[bX]at F;have:=O _ _ F;rwa [<-cw]at this)
        (λj F=>by unfold World.cell?;simp[g2];omega) (λj F=>by simp[World.frozen?,g2])
        u2 (λu W=>o3 u (cE W)) u3
        (λlb cb'=>by
        rw[run_callFunc_extern f1 f3 (by rw[f2];rfl) f4 f5,xe w tS tB tE L.tS A.size (sM L.i) ⟨blk,oo,none⟩ ⟨cb,_,none⟩ 1 T lb cb' hnb hx0 g2]
        rfl)
      refine hsh.mono ?_
      rintro e w' ⟨rfl,q,rfl⟩
      have M:bd.base+o*A.size+(k+1)*A.size+(E.drop (k*A.size)).length<=cur.toList.length:=by rw[X];simp;omega
      have K:bd.base+o*A.size+k*A.size+U.length<=(over cur.toList (bd.base+o*A.size+(k+1)*A.size) (E.drop (k*A.size))).length:=by
       rw[iR _ _ _ M,u1];simp;omega
      rw[qw cb _ _ cur elem _ _ {w with drawn:=q} g2 (an M) (λu W=>o3 u (cE W)) (by rw[iR _ _ _ M]at K;simpa using K) u3]
      let⟨β1,k1,k2,k3⟩:=R.sk Y hbd p1 g2 (over (over cur.toList (bd.base+o*A.size+(k+1)*A.size) (E.drop (k*A.size))) (bd.base+o*A.size+k*A.size) U)
       (by rw[iR _ _ _ K,iR _ _ _ M];simp) o (es':=((es.drop o).take n).take k++x::((es.drop o).take n).drop k)
       (by simp only[aU,aS,bU,Q,H];rw[show k+(n-k+1)=n+1 by omega];exact adU)
       (iO.append (sA.congr λj F=>by
         rw[Q]at F;simp only[bE];rw[jh _ _ _ K,if_neg af,jh _ _ _ M,if_neg af,dg,if_pos F]
         have:E[j]? = some (E[j]'af):=aH _
         rw[this];have:=O _ _ this;unfold World.cell? at this;simp only[g2]at this
         simpa using this.symm)
        (iO.append (es:=[x]) (u4.congr λj F=>by
         simp only[dF,dB]at F;simp only[bE,Q];rw[jh _ _ _ K,if_pos af]
         congr 1;omega)
        (sB.congr λj F=>by
         rw[bU,H]at F;simp only[bE,Q,dF,dB];rw[jh _ _ _ K,if_neg af,jh _ _ _ M,if_pos (by rw[X];omega)]
         congr 1;omega)))
      let⟨m1,m2⟩:=k1.drawn q;exact⟨_,β1,rfl,m1,k2.trans m2,(k3 (n+1) c S (by rw[g3];omega)).fr m2⟩
     .have PI:c=n:=by omega
      subst PI
      have hgr:=NF L cb (bd.base+o*A.size) c k blk oo T (E.take (k*A.size)) (E.drop (k*A.size)) U w hlt hby h63 c1l X u1
        (λj u F=>by
        rw[dg]at F;split at F
        .exact O _ _ F
        .cases F)
        (λj u F=>by rw[bX]at F;have:=O _ _ F;rwa [<-cw]at this)
        u2 (λu W=>o3 u (cE W)) u3
      refine hgr.mono ?_
      rintro e w' ⟨G,q,N,hG,hRs,hR1,rfl,rfl⟩
      have hGm:(c+1)*A.size<=G*A.size:=br _ hG;have M:k*A.size+U.length<=N.toList.length:=by rw[u1];simp;omega
      have K:(k+1)*A.size+(E.drop (k*A.size)).length<=(over N.toList (k*A.size) U).length:=by
       rw[iR _ _ _ M,X];simp;omega
      have hnew:({w with drawn:=q}.alloc (.cells N tE)).heap[w.heap.size]? = some (.cells N tE (0,0)):=heap_alloc_new {w with drawn:=q} _
      rw[qw w.heap.size _ _ N tE _ _ _ hnew (an M) u3 (by rw[iR _ _ _ M]at K;simpa using K) (λu W=>o3 u (cE W))]
      have hX:(over (over N.toList (k*A.size) U) ((k+1)*A.size) (E.drop (k*A.size))).toArray.size=G*A.size:=by
       rw[eo,iR _ _ _ K,iR _ _ _ M];simpa using hRs
      let⟨β1,k1,k2,k3⟩:=R.BO Y (es':=((es.drop o).take c).take k++x::((es.drop o).take c).drop k) (w':=({w with drawn:=q}.alloc (.cells N tE)).setRow w.heap.size (over (over N.toList (k*A.size) U) ((k+1)*A.size) (E.drop (k*A.size))).toArray)
       (cur:=(over (over N.toList (k*A.size) U) ((k+1)*A.size) (E.drop (k*A.size))).toArray) (elem:=tE) rfl rfl rfl
       (by
        unfold World.setRow;apply Array.ext_getElem?;intro j;show ((w.heap.push (.cells N tE)).modify w.heap.size _)[j]? = _;rw[dO,dS,dS]
        by_cases F:j=w.heap.size
        .subst F;simp
        .have:w.heap.size≠j:=λe=>F e.symm
         simp[F,this])
       (by simp only[aU,aS,bU,Q,H];rw[hX,show k+(c-k+1)=c+1 by omega];exact hGm)
       (iO.append (sA.congr λj F=>by
         rw[Q]at F;simp only[bE,bW];rw[jh _ _ _ K,if_neg af,jh _ _ _ M,if_neg af,<-hR1 j F]
         simp)
        (iO.append (es:=[x]) (u4.congr λj F=>by
         simp only[dF,dB]at F;simp only[bE,Q,bW];rw[jh _ _ _ K,if_neg af,jh _ _ _ M,if_pos af]
         congr 1;omega)
        (sB.congr λj F=>by
         rw[bU,H]at F;simp only[bE,Q,dF,dB,bW];rw[jh _ _ _ K,if_pos (by rw[X];omega)]
         congr 1;omega)))
      exact⟨_,β1,rfl,k1,k2,k3 (c+1) G hG (by rw[hX];exact aV _)⟩
   .cases hr
  .cases hr
 .cases hr
end
structure DF where
 st:List AV->Option St
 body:AC
 res:List AR
 fin:Pn->St->Option AV
noncomputable def Ae(Γ:jE)(D:DF)(args:List AV):Option AV :=
 (D.st args).bind (eval Γ D.body (λ_=>true) AV (λx s=>match x with
  | .exit _=>none
  | .ny p=>D.fin p s
  |_=>(pV s D.res).bind λv=>(nr s.h v).bind λq=>some q.1))
inductive Kd where
 |no
 |p (F:AF)
 |h (F:AF)
 |x (s:List AV->AH->Option (AV×AH))
 |y (s:List AV->Option AV)
  |r (F:AF) (d:Nat)
  |q (F:AF)
  |z (s:jE->List AV->AH->Option (AV×AH))
  |d (D:DF)
  |u (F:AF)
noncomputable def mG(Γ:jE)(f:FuncId)(F:AF):Nat->jE
 |0=>Γ
 |k+1=>⟨λg args=>if g=f then none else Γ.p g args,λg args h=>if g=f then kU (mG Γ f F k) F args h else Γ.h g args h,Γ.x⟩
variable{f:FuncId}{F:AF}{Γ:jE}
def DE{g:FuncId}(hg:g≠f)(args:List AV):∀k,(mG Γ f F k).p g args=Γ.p g args
 |0=>rfl
 |k+1=>by simp only[mG,if_neg hg]
def UR{g:FuncId}(hg:g≠f)(args:List AV)(h:AH):∀k,(mG Γ f F k).h g args h=Γ.h g args h
 |0=>rfl
 |k+1=>by simp only[mG,if_neg hg]
def ow(k:Nat)(args:List AV)(h:AH):eT (mG Γ f F (k+1)) f args h=kU (mG Γ f F k) F args h:=by
 have b:∀args,(mG Γ f F (k+1)).p f args=none:=λargs=>by simp only[mG,if_true]
 unfold eT;split
 .rw[b];simp only[mG,if_true]
 .simp only[mG,if_true]
structure iW where
 kd:FuncId->Kd
 pos:FuncId->Nat
noncomputable def iW.cz(C:iW):Nat->jE
 |0=>⟨λ_ _=>none,λ_ _ _=>none,λ_ _ _=>none⟩
 |n+1=>⟨λg args=>if C.pos g=n then(match C.kd g with | .p F=>pg (C.cz n) F args | .y s=>s args | .d D=>Ae (C.cz n) D args | _=>none)else(C.cz n).p g args,
   λg args h=>if C.pos g=n then(match C.kd g with | .p F=>kU (C.cz n) F args h | .h F=>kU (C.cz n) F args h | .x s=>s args h | .r F d=>kU (mG (C.cz n) g F d) F args h | .z s=>s (C.cz n) args h | .q F=>(jT h args).bind λq=>kU (C.cz n) F q.1 q.2 | _=>none)else(C.cz n).h g args h,
   λg args h=>if C.pos g=n then(match C.kd g with | .u F=>mQ (C.cz n) F args h | _=>none)else(C.cz n).x g args h⟩
variable{C:iW}
def iW.oG(hk:C.kd f = .p F){k:Nat}(b:C.pos f=k):∀ {n:Nat},k<n->∀args,(C.cz n).p f args=pg (C.cz k) F args
 |0,h,_=>af
 |n+1,h,args=>by
  simp only[iW.cz]
  by_cases e:C.pos f=n
  .rw[if_pos e,hk];simp only;rw[<-e,b]
  .rw[if_neg e];exact iW.oG hk b af args
def iW.L5{D:DF}(hk:C.kd f = .d D){k:Nat}(b:C.pos f=k):∀ {n:Nat},k<n->∀args,(C.cz n).p f args=Ae (C.cz k) D args
 |0,h,_=>af
 |n+1,h,args=>by
  simp only[iW.cz]
  by_cases e:C.pos f=n
  .rw[if_pos e,hk];simp only;rw[<-e,b]
  .rw[if_neg e];exact iW.L5 hk b af args
def iW.lG(hk:C.kd f = .u F){k:Nat}(b:C.pos f=k):∀ {n:Nat},k<n->∀args h,(C.cz n).x f args h=mQ (C.cz k) F args h
 |0,h,_,_=>af
 |n+1,h,args,i=>by
  simp only[iW.cz]
  by_cases e:C.pos f=n
  .rw[if_pos e,hk];simp only;rw[<-e,b]
  .rw[if_neg e];exact iW.lG hk b af args i
def iW.oH(hk:C.kd f = .h F){k:Nat}(b:C.pos f=k):∀ {n:Nat},k<n->∀args h,(C.cz n).h f args h=kU (C.cz k) F args h
 |0,h,_,_=>af
 |n+1,h,args,i=>by
  simp only[iW.cz]
  by_cases e:C.pos f=n
  .rw[if_pos e,hk];simp only;rw[<-e,b]
  .rw[if_neg e];exact iW.oH hk b af args i
def iW.L4(hk:C.kd f = .p F){k:Nat}(b:C.pos f=k):∀ {n:Nat},k<n->∀args h,(C.cz n).h f args h=kU (C.cz k) F args h
 |0,h,_,_=>af
 |n+1,h,args,i=>by
  simp only[iW.cz]
  by_cases e:C.pos f=n
  .rw[if_pos e,hk];simp only;rw[<-e,b]
  .rw[if_neg e];exact iW.L4 hk b af args i
def iW.EM{d:Nat}(hk:C.kd f = .r F d){k:Nat}(b:C.pos f=k):∀ {n:Nat},k<n->∀args h,(C.cz n).h f args h=kU (mG (C.cz k) f F d) F args h
 |0,h,_,_=>af
 |n+1,h,args,i=>by
  simp only[iW.cz]
  by_cases e:C.pos f=n
  .rw[if_pos e,hk];simp only;rw[<-e,b]
  .rw[if_neg e];exact iW.EM hk b af args i
def iW.Dt{d:Nat}(hk:C.kd f = .r F d):∀(n:Nat) args,(C.cz n).p f args=none
 |0,_=>rfl
 |n+1,args=>by
  simp only[iW.cz];split
  .rw[hk]
  .exact iW.Dt hk n args
def iW.mq{s:List AV->AH->Option (AV×AH)}(hk:C.kd f = .x s){k:Nat}(b:C.pos f=k):∀ {n:Nat},k<n->∀args h,(C.cz n).h f args h=s args h
 |0,h,_,_=>af
 |n+1,h,args,i=>by
  simp only[iW.cz]
  by_cases e:C.pos f=n
  .rw[if_pos e,hk]
  .rw[if_neg e];exact iW.mq hk b af args i
def iW.SK{s:jE->List AV->AH->Option (AV×AH)}(hk:C.kd f = .z s){k:Nat}(b:C.pos f=k):∀ {n:Nat},k<n->∀args h,(C.cz n).h f args h=s (C.cz k) args h
 |0,h,_,_=>af
 |n+1,h,args,i=>by
  simp only[iW.cz]
  by_cases e:C.pos f=n
  .rw[if_pos e,hk];simp only;rw[<-e,b]
  .rw[if_neg e];exact iW.SK hk b af args i
def iW.SL(hk:C.kd f = .q F){k:Nat}(b:C.pos f=k):∀ {n:Nat},k<n->∀args h,(C.cz n).h f args h=(jT h args).bind λq=>kU (C.cz k) F q.1 q.2
 |0,h,_,_=>af
 |n+1,h,args,i=>by
  simp only[iW.cz]
  by_cases e:C.pos f=n
  .rw[if_pos e,hk];simp only;rw[<-e,b]
  .rw[if_neg e];exact iW.SL hk b af args i
def iW.yH{s:List AV->Option AV}(hk:C.kd f = .y s){k:Nat}(b:C.pos f=k):∀ {n:Nat},k<n->∀args,(C.cz n).p f args=s args
 |0,h,_=>af
 |n+1,h,args=>by
  simp only[iW.cz]
  by_cases e:C.pos f=n
  .rw[if_pos e,hk]
  .rw[if_neg e];exact iW.yH hk b af args
def iW.nq(hk:C.kd f = .h F):∀(n:Nat) args,(C.cz n).p f args=none
 |0,_=>rfl
 |n+1,args=>by
  simp only[iW.cz];split
  .rw[hk]
  .exact iW.nq hk n args
def iW.k9{s:List AV->AH->Option (AV×AH)}(hk:C.kd f = .x s):∀(n:Nat) args,(C.cz n).p f args=none
 |0,_=>rfl
 |n+1,args=>by
  simp only[iW.cz];split
  .rw[hk]
  .exact iW.k9 hk n args
def Kd.ok(P:Program)(f:FuncId):Kd->Prop
 | .no=>True
 | .p F=>okF P f F=true
 | .h F=>okF P f F=true
 | .x s=>∀args h r h',s args h=some (r,h')->ux P f args h r h'
 | .y s=>∀args r h,s args=some r->ux P f args h r h
 | .r F _=>okF P f F=true
 | .q F=>okF P f F=true
 | .z s=>∀Γ,j3 P Γ->∀args h r h',s Γ args h=some (r,h')->ux P f args h r h'
 | .d D=>∀Γ,j3 P Γ->∀args r h,args.all AV.j8=true->Ae Γ D args=some r->ux P f args h r h
 | .u F=>okF P f F=true
def nth{α:Type}:List α->Nat->α->α
 | [],_,d=>d
 |a::_,0,_=>a
 |_::l,n+1,d=>nth l n d
def Kd.okB(P:Program)(f:FuncId):Kd->Bool
 | .no=>true
 | .p F=>okF P f F
 | .h F=>okF P f F
 | .r F _=>okF P f F
 | .q F=>okF P f F
 | .u F=>okF P f F
 |_=>false
def Kd.Vp{P:Program}{k:Kd}(h:k.okB P f=true):k.ok P f:=by
 cases k<;>first | exact h | exact trivial | cases h
def okL(b:Nat->Kd->Bool)(E:ax):Nat->List Kd->Bool
 |_,[]=>true
 |n,k::l=>(b n k||E.contains n)&&okL b E (n+1) l
def SE(p:az):ax->Prop
 | []=>True
 |i::l=>p i/\SE p l
def SE.mem{p:az}{i:Nat}:∀ {E:ax},SE p E->i∈E->p i
 |_::_,h,b=>by
  rcases bw.1 b with e | e
  .exact e▸h.1
  .exact h.2.mem e
def Na{b:Nat->Kd->Bool}{p:Nat->Kd->Prop}(o:∀i k,b i k=true->p i k)(h0:∀i,p i .no){E:ax}:∀(l:List Kd)(n:Nat),okL b E n l=true->∀i,n+i∉E->p (n+i) (nth l i .no)
 | [],_,_,_,_=>h0 _
 |k::l,n,h,i,q=>by
  simp only[okL,aF,bR]at h;cases i with
  |zero=>exact o _ _ (h.1.resolve_right λc=>q (an c))
  |succ i =>
   have:=Na o h0 l (n+1) h.2 i (by rwa [show n+1+i=n+(i+1) by omega])
   rwa [show n+1+i=n+(i+1) by omega]at this
def M9{b:Nat->Kd->Bool}{p:Nat->Kd->Prop}(o:∀i k,b i k=true->p i k)(h0:∀i,p i .no){l:List Kd}(E:ax)(h:okL b E 0 l=true)(q:SE (λi=>p i (nth l i .no)) E):∀f,p f (nth l f .no):=λf=>by
 by_cases n:f∈E
 .exact q.mem n
 .have:=Na o h0 l 0 h f (by rwa [bW])
  rwa [bW]at this
def IU{P:Program}(l:P.follows .mixedOrders=true){Γ:jE}(b:j3 P Γ){f:FuncId}{F:AF}(ok:okF P f F=true):∀k,j3 P (mG Γ f F k)
 |0=>b
 |k+1=>by
  have n:=IU l b ok k;refine⟨λg args r h o i=>?_,λg args h r h' i=>?_,λg args h r h' i=>?_⟩
  .simp only[mG]at i;split at i
   .cases i
   .exact b.p g args r h o i
  .simp only[mG]at i;split at i
   .rename_i hg;subst hg;exact pU l n ok i
   .exact b.h g args h r h' i
  .exact b.x g args h r h' i
def iW.GY{P:Program}(q:P.follows .mixedOrders=true)(o:∀f,(C.kd f).ok P f):∀n,j3 P (C.cz n)
 |0=>IG
 |n+1=>by
  have l:=iW.GY q o n;refine⟨λf args r h y b=>?_,λf args h r h' b=>?_,λf args h r h' b=>?_⟩
  .simp only[iW.cz]at b;split at b
   .have:=o f;split at b
    .rename_i F i;rw[i]at this;exact E9 q l this y b h
    .rename_i s i;rw[i]at this;exact this args r h b
    .rename_i s i;rw[i]at this;exact this _ l args r h y b
    .cases b
   .exact l.p f args r h y b
  .simp only[iW.cz]at b;split at b
   .have:=o f;split at b
    .rename_i F i;rw[i]at this;exact pU q l this b
    .rename_i F i;rw[i]at this;exact pU q l this b
    .rename_i s i;rw[i]at this;exact this args h r h' b
    .rename_i F d i;rw[i]at this;exact pU q (IU q l this d) this b
    .rename_i s i;rw[i]at this;exact this _ l args h r h' b
    .rename_i F i;rw[i]at this;simp only[aG]at b;let⟨⟨S,h1⟩,N,b⟩:=b;let⟨O,hs⟩:=pU q l this b;refine⟨O,λZ β w vs R hl M=>?_⟩
     let⟨L,K,H,G,Q⟩:=qU args R N hl M;refine(hs Z β w vs L H G).mono ?_
     rintro e w' ⟨v,β',rfl,E,A,z⟩
     exact⟨v,β',rfl,E,K.trans A,z⟩
    .cases b
   .exact l.h f args h r h' b
  .simp only[iW.cz]at b;split at b
   .have:=o f;split at b
    .rename_i F i;rw[i]at this;exact My q l this b
    .cases b
   .exact l.x f args h r h' b
def Fs:∀ {args:List AV} (h:AH),args.all AV.j8=true->jT h args=some (args,h)
 | [],_,_=>rfl
 |a::l,h,b=>by
  simp only[bV,aF]at b;have e:mH h a=some (a,h):=by unfold mH;rw[if_pos b.1]
  simp only[jT,e,cg,Fs h b.2]
def zL{args:List AV}{r:AV}{h:AH}(i:args.all AV.j8=true)(b:Γ.p f args=some r):eT Γ f args h=some (r,h):=by
 unfold eT;rw[Fs h i];simp only[b]
def jf{args:List AV}{h:AH}(b:∀args,Γ.p f args=none):eT Γ f args h=Γ.h f args h:=by
 unfold eT;split
 .rw[b]
 .rfl
def vD(x:Option AV)(h':AH)(Γ:jE)(f:FuncId)(args:List AV)(h:AH):Option (AV×AH):=match x with
 |some r=>some (r,h')
 |none=>Γ.h f args h
def vC(x:Option (List AV×AH))(Γ:jE)(f:FuncId)(args:List AV)(h:AH):Option (AV×AH):=match x with
 |some q=>vD (Γ.p f q.1) q.2 Γ f args h
 |none=>Γ.h f args h
@[simp]theorem agd(r:AV)(h':AH)(Γ:jE)(f:FuncId)(args:List AV)(h:AH):vD (some r) h' Γ f args h=some (r,h'):=rfl
@[simp]theorem age(h':AH)(Γ:jE)(f:FuncId)(args:List AV)(h:AH):vD none h' Γ f args h=Γ.h f args h:=rfl
@[simp]theorem agf(b:List AV)(h':AH)(Γ:jE)(f:FuncId)(args:List AV)(h:AH):vC (some (b,h')) Γ f args h=vD (Γ.p f b) h' Γ f args h:=rfl
@[simp]theorem agh(Γ:jE)(f:FuncId)(args:List AV)(h:AH):vC none Γ f args h=Γ.h f args h:=rfl
def lB(Γ:jE)(f:FuncId)(args:List AV)(h:AH):eT Γ f args h=vC (jT h args) Γ f args h:=by
 unfold eT vC vD;cases jT h args with
 |none=>rfl
 |some q=>cases Γ.p f q.1<;>rfl
@[simp]theorem XM(sz bytes:Nat)(f:Bool)(es:List AV)(h:AH):jd sz bytes [.b9 f es] h =
  if jw sz es=true/\0<sz/\es.length*bytes<=140737488355328/\es.length<=140737488355328 then some (.own h.length 0 0 es.length,h++[.row 0 sz es])else none:=rfl
@[simp]def XL(sz bytes b v o n:Nat)(h:AH):jd sz bytes [.own b v o n] h=@kW _ _ (Ox v o n h[b]?) ⟨λes =>
  if jw sz es=true/\0<sz/\es.length*bytes<=140737488355328/\es.length<=140737488355328 then some (.own h.length 0 0 es.length,h++[.row 0 sz es])else none⟩:=by
 rw[<-K0];rfl
def nw{P:Program}(h:P.follows .mixedOrders=true){sz bytes:Nat}{zero:AV}(ok:okF P f (nT sz bytes zero)=true):(Kd.x (jd sz bytes)).ok P f :=
 λ_ _ _ _ b=>Lc h IG ok b
structure Dj(P:Program)(f:FuncId)(tS tI tB tE t0:TypeId)(fO fR:FuncId)(sz bytes:Nat):Prop where
 mixed:P.follows .mixedOrders=true
 f:∃nm ta,P.funcs[f]? = some (NG nm ta tS tI tB tE t0 fO fR)/\(nm == "runtime.NumGoroutine")=false
 o:∃fn,P.funcs[fO]? = some fn/\fn.body=none/\(fn.name == "runtime.NumGoroutine")=false/\Extern.findNext fn=none/\Extern.find fn=some (Extern.SlicesOverlaps.overlaps #[tS,tS] #[tB])
 tS:P.underlying tS=some (.slice tE)
 tI:P.underlying tI=some (.int .i64)
 tB:P.underlying tB=some .bool
 t0:P.underlying t0=some (.tuple #[])
 i:(P.info? tE).map (λi=>(i.zero.map λz=>z.cells.size,i.size,i.bytes))=some (some sz,sz,bytes)
 pos:0<sz
def pS{P:Program}{f tS tI tB q t0 E A:Nat}{sz bytes:Nat}(L:Dj P f tS tI tB q t0 E A sz bytes):(Kd.x (kO sz bytes)).ok P f:=by
 intro args h r h' y;have b:=L.i;cases n:P.info? q with
 |none=>rw[n]at b;cases b
 |some v =>
  rw[n]at b;simp only[cS,bn,Prod.mk.injEq]at b;obtain⟨h1,rfl,rfl⟩:=b;cases l:v.zero with
  |none=>rw[l]at h1;cases h1
  |some z =>
   rw[l]at h1;simp only[cS,bn]at h1;exact HF (z:=z) ⟨L.mixed,L.f,L.o,L.tS,L.tI,L.tB,L.t0,n,l,h1,L.pos⟩ y
mutual
def Sx:AV->AV->Bool
 | .dead,.dead=>true
 | .undef,.undef=>true
 | .bool a,.bool b=>decide (a=b)
 | .int k n,.int o m=>decide (k=o)&&decide (n=m)
 | .str a,.str b=>decide (a=b)
 | .mT,.mT=>true
 | .nu,.nu=>true
 | .ptr a b c d,.ptr l b' i h=>decide (a=l)&&(decide (b=b')&&(decide (c=i)&&decide (d=h)))
 | .iV a,.iV b=>qf a b
 | .b9 f a,.b9 g b=>decide (f=g)&&qf a b
 | .own a b c d,.own l b' i h=>decide (a=l)&&(decide (b=b')&&(decide (c=i)&&decide (d=h)))
 | .agg a,.agg b=>qf a b
 | .jg a,.jg b=>qf a b
 | .fn f a c,.fn g b d=>decide (f=g)&&(qf a b&&qf c d)
 | .mj,.mj=>true
 | .lU,.lU=>true
 | .mb a,.mb b=>decide (a=b)
 |_,_=>false
def qf:List AV->List AV->Bool
 | [],[]=>true
 |a::l,b::m=>Sx a b&&qf l m
 |_,_=>false
end
theorem JO(a:AV):∀b,Sx a b=true->a=b:=by
 induction a using AV.rec (motive_2:=λl=>∀m,qf l m=true->l=m)
 all_goals
  intros
  rename_i b h;cases b<;>grind[Sx,qf]
theorem GN:∀a b:List AV,qf a b=true->a=b
 | [],b,h=>by cases b<;>grind[qf]
 |a::l,b,h=>by cases b<;>grind[qf,JO,GN l]
def Bq{G:Type}[DecidableEq G]:List (G×AV)->List (G×AV)->Bool
 | [],[]=>true
 |a::l,b::m=>decide (a.1=b.1)&&(Sx a.2 b.2&&Bq l m)
 |_,_=>false
theorem CU{G:Type}[DecidableEq G]:∀a b:List (G×AV),Bq a b=true->a=b
 | [],b,h=>by cases b<;>grind[Bq]
 |(a,x)::l,b,h=>by cases b<;>grind[Bq,JO,CU l]
def YW:AB->AB->Bool
 | .gone,.gone=>true
 | .var a,.var b=>qf a b
 | .row v s a,.row v' s' b=>decide (v=v')&&(decide (s=s')&&qf a b)
 | .me v s a,.me v' s' b=>decide (v=v')&&(decide (s=s')&&qf a b)
 | .mp k a,.mp h b=>decide (k=h)&&Bq a b
 |_,_=>false
theorem SA(a b:AB)(h:YW a b=true):a=b:=by
 cases a<;>cases b<;>grind[YW,GN,CU]
def Lw:AH->AH->Bool
 | [],[]=>true
 |a::l,b::m=>YW a b&&Lw l m
 |_,_=>false
theorem Ey:∀a b:AH,Lw a b=true->a=b
 | [],b,h=>by cases b<;>grind[Lw]
 |a::l,b,h=>by cases b<;>grind[Lw,SA,Ey l]
def EX(h:AH):Option (AV×AH)->Option (AV×AH)
 |some (r,h')=>match Lw h' h with | true=>some (r,h) | false=>none
 |none=>none
def FV(h:AH):Option (AV×AH)->Option (AV×AH)
 |some (r,h')=>match Lw (h'.take h.length) h with | true=>some (r,h') | false=>none
 |none=>none
theorem Mq{h:AH}{a:Option (AV×AH)}{r:AV×AH}(e:EX h a=some r):qk h a=some r:=by
 cases a<;>grind[EX,qk,Ey]
theorem N2{h:AH}{a:Option (AV×AH)}{r:AV×AH}(e:FV h a=some r):q9 h a=some r:=by
 cases a<;>grind[FV,q9,Ey]
noncomputable def C1(pk:FuncId->Bool)(Γ:jE)(f:FuncId)(args:List AV)(h:AH):Option (AV×AH):=match pk f with
 |true=>(jT h args).bind λq=>(Γ.p f q.1).bind λr=>some (r,q.2)
 |false=>Γ.h f args h
noncomputable def vu(pk:FuncId->Bool)(Γ:jE)(v:AV)(args:List AV)(h:AH):Option (AV×AH):=match v with
 | .fn g first cap=>match g with
  | .func g=>C1 pk Γ g (first++args++cap) h
  |_=>none
 |_=>none
noncomputable def Bo(pk:FuncId->Bool)(Γ:jE)(e:Env)(h:AH):kX->Option (AV×AH)
 | .call f args=>C1 pk Γ f (getAll e args) h
 | .lQ f args=>vu pk Γ (f.get e) (getAll e args) h
 | .rz f args=>EX h (vu pk Γ (f.get e) (getAll e args) h)
 | .qe f args=>FV h (C1 pk Γ f (getAll e args) h)
 | .calls f args=>EX h (C1 pk Γ f (getAll e args) h)
 | .qd f args=>FV h (vu pk Γ (f.get e) (getAll e args) h)
 |op=>exec Γ e h op
noncomputable def DW(pk:FuncId->Bool)(Γ:jE):IT->St->Option St
 | .nil,s=>some s
 | .op d o rest,s=>match Bo pk Γ s.e s.h o with
  |some (v,h)=>DW pk Γ rest (St.put {s with h:=h} d v)
  |none=>none
 | .sc d a c i n l r rest,s =>
  match s.e c with
  | .bool b =>
   (if b=a then(DW pk Γ l s).bind λs'=>match r.get s'.e with
     | .bool x=>some (AV.bool x,s'.h)
     |_=>none
    else some (AV.bool (!a),s.h)).bind λ(v,h)=>DW pk Γ rest ⟨(s.e.kill i n).put d v,h⟩
  |_=>none
noncomputable def Bp(pk:FuncId->Bool)(Γ:jE){ρ:Type}(z:XO)(next:St->Option ρ)(k:AX->St->Option ρ)(s:St):Option ρ:=match z with
 | .op d o=>match Bo pk Γ s.e s.h o with
  |some r=>next (St.put ⟨s.e,r.2⟩ d r.1)
  |none=>none
 |z=>nR Γ z next k s
noncomputable def HV(pk:FuncId->Bool)(Γ:jE){ρ:Type}(last:IT)(k:AX->St->Option ρ):List (IT×XO)->St->Option ρ
 | [],s=>(DW pk Γ last s).bind (k .normal)
 |p::l,s=>(DW pk Γ p.1 s).bind (Bp pk Γ p.2 (HV pk Γ last k l) k)
section
variable(pk:FuncId->Bool)(N:Nat)
noncomputable def nE(Γ:jE):AC->(Nat->Bool)->(ρ:Type)->(AX->St->Option ρ)->St->Option ρ
 | .skip,_,_,k,s=>k .normal s
 | .ops l,_,_,k,s=>(DW pk Γ l s).bind (k .normal)
 | .seq a b,V,ρ,k,s=>nE Γ a V ρ (λx s'=>match x with
   | .normal=>nE Γ b V ρ k s'
   |x=>k x s') s
 | .cond c x y,V,ρ,k,s=>match c.get s.e with
   | .bool b=>match b with
    |true=>nE Γ x V ρ k s
    |false=>nE Γ y V ρ k s
   |_=>none
 | .block id c,V,ρ,k,s=>nE Γ c V ρ (λx s'=>match x with
   | .exit i=>if i=id then k .normal s' else k (.exit i) s'
   |x=>k x s') s
 | .loop keep wr own n c,V,_,k,s =>
   if (rowsOf (jl own s).e own).all V=true then
   (nN (λx:List AV×AH=>nE Γ c (pO (rowsOf (jl own s).e own) (jl own s).h.length) ((List AV×AH)⊕(AX×List AV×AH)) (λex s'=>match ex with
     | .normal=>some (.inl (head (jl own s).h.length (rowsOf (jl own s).e own) keep s'))
     |ex=>some (.inr (ex,(lT ex n).map s'.e,s'.h))) ⟨((nV (rowsOf (jl own s).e own) (jl own s).e).oV wr).lay keep x.1,x.2⟩) N
    (head (jl own s).h.length (rowsOf (jl own s).e own) keep (jl own s))).bind λr=>sv ((nV (rowsOf (jl own s).e own) (jl own s).e).oV wr) k n r
   else none
 | .exit id,_,_,k,s=>k (.exit id) s
 | .ret,_,_,k,s=>k .ret s
 | .scope c,V,ρ,k,s=>nE Γ c V ρ k s
 | .Ts c g,V,ρ,k,s=>nE Γ c V ρ (λx s'=>match x with
   | .exit i=>k (.exit i) s'
   | .ny p=>k (.ny p) s'
   |x=>(HR g s').bind (k x)) s
 | .vk l last,_,_,k,s=>HV pk Γ last k l s
 | .sy keep wr n c,_,_,k,s =>
   (nN (λx:List AV×AH=>nE Γ c (λi=>decide (s.h.length<=i)) ((List AV×AH)⊕(AX×List AV×AH)) (λex s'=>match ex with
     | .normal=>some (.inl (keep.map s'.e,s'.h))
     |ex=>some (.inr (ex,(lT ex n).map s'.e,s'.h))) ⟨(s.e.oV wr).lay keep x.1,x.2⟩) N
    (keep.map s.e,s.h)).bind λr=>sv (s.e.oV wr) k n r
noncomputable def yJ(Γ:jE)(f:AF)(args:List AV)(h:AH):Option (AV×AH) :=
 if args.length<=f.nt then
  nE pk N Γ f.body (λi=>decide (h.length<=i)) (AV×AH) (λx s=>match x with
   | .exit _=>none
   | .ny _=>none
   |_=>(pV s f.res).bind λv=>some (v,s.h)) ⟨jJ args,h⟩
 else none
noncomputable def MA(Γ:jE)(f:AF)(args:List AV)(h:AH):Option ((AV⊕Pn)×AH) :=
 if args.length<=f.nt then
  nE pk N Γ f.body (λi=>decide (h.length<=i)) ((AV⊕Pn)×AH) (λx s=>match x with
   | .exit _=>none
   | .ny p=>some (.inr p,s.h)
   |_=>(pV s f.res).bind λv=>some (.inl v,s.h)) ⟨jJ args,h⟩
 else none
noncomputable def SU(Γ:jE)(D:DF)(args:List AV):Option AV :=
 (D.st args).bind (nE pk N Γ D.body (λ_=>true) AV (λx s=>match x with
  | .exit _=>none
  | .ny p=>D.fin p s
  |_=>(pV s D.res).bind λv=>(nr s.h v).bind λq=>some q.1))
noncomputable def SS(Γ:jE)(f:AF)(args:List AV):Option AV:=(yJ pk N Γ f args []).bind λ(v,h)=>(nr h v).bind λ(v,_)=>some v
noncomputable def Qo(Γ:jE)(f:FuncId)(F:AF):Nat->jE
 |0=>Γ
 |k+1=>⟨λg args=>if g=f then none else Γ.p g args,λg args h=>if g=f then yJ pk N (Qo Γ f F k) F args h else Γ.h g args h,Γ.x⟩
end
def Kd.sH:Kd->Bool
 | .p _=>true
 | .y _=>true
 | .d _=>true
 |_=>false
noncomputable def Nu(pk:FuncId->Bool)(Γ:jE):jE:=⟨Γ.p,λf a h=>match pk f with | true=>none | false=>Γ.h f a h,Γ.x⟩
noncomputable def iW.w8(N:Nat)(C:iW):Nat->Nat->jE
 |0,_=>⟨λ_ _=>none,λ_ _ _=>none,λ_ _ _=>none⟩
 |d+1,n=>⟨λg args=>if C.pos g<n then(match C.kd g with | .p F=>SS (λf=>(C.kd f).sH) N (iW.w8 N C d (C.pos g)) F args | .y s=>s args | .d D=>SU (λf=>(C.kd f).sH) N (iW.w8 N C d (C.pos g)) D args | _=>none)else none,
   λg args h=>if C.pos g<n then(match C.kd g with | .p F=>yJ (λf=>(C.kd f).sH) N (iW.w8 N C d (C.pos g)) F args h | .h F=>yJ (λf=>(C.kd f).sH) N (iW.w8 N C d (C.pos g)) F args h | .x s=>s args h | .r F k=>yJ (λf=>(C.kd f).sH) N (Qo (λf=>(C.kd f).sH) N (iW.w8 N C d (C.pos g)) g F k) F args h | .z s=>s (Nu (λf=>(C.kd f).sH) (iW.w8 N C d (C.pos g))) args h | .q F=>(jT h args).bind λq=>yJ (λf=>(C.kd f).sH) N (iW.w8 N C d (C.pos g)) F q.1 q.2 | _=>none)else none,
   λg args h=>if C.pos g<n then(match C.kd g with | .u F=>MA (λf=>(C.kd f).sH) N (iW.w8 N C d (C.pos g)) F args h | _=>none)else none⟩
structure jE.Le(pk:FuncId->Bool)(Γ Γ':jE):Prop where
 p:∀f a r,Γ.p f a=some r->Γ'.p f a=some r
 h:∀f a h r,Γ.h f a h=some r->Γ'.h f a h=some r
 n:∀f a,pk f=false->Γ'.p f a=none
 x:∀f a h r,Γ.x f a h=some r->Γ'.x f a h=some r
variable{pk:FuncId->Bool}{Γ Γ':jE}
theorem bind_mono{α β:Type}{a b:Option α}{f g:α->Option β}{r:β}(h:a.bind f=some r)(l:∀x,a=some x->b=some x)(i:∀x,f x=some r->g x=some r):b.bind g=some r:=by
 cases a with
 |none=>cases h
 |some x=>rw[l x rfl];exact i x h
theorem jE.Le.call(L:jE.Le pk Γ Γ'){f:FuncId}{a:List AV}{h:AH}{r:AV×AH}(e:C1 pk Γ f a h=some r):eT Γ' f a h=some r:=by
 unfold C1 at e;split at e
 .simp only[aG]at e;let⟨⟨o,h'⟩,i,v,b,e⟩:=e;cases e;unfold eT;rw[i];simp only[L.p _ _ _ b]
 .rename_i hk;unfold eT;have l:=λa=>L.n f a hk
  split
  .simp only[l];exact L.h _ _ _ _ e
  .exact L.h _ _ _ _ e
theorem jE.Le.C3(L:jE.Le pk Γ Γ'){v:AV}{a:List AV}{h:AH}{r:AV×AH}(e:vu pk Γ v a h=some r):∃g first cap,v = .fn (.func g) first cap/\eT Γ' g (first++a++cap) h=some r:=by
 unfold vu at e;split at e
 .split at e
  .exact⟨_,_,_,rfl,L.call e⟩
  .cases e
 .cases e
theorem zZ{h:AH}{a b:Option (AV×AH)}{r:AV×AH}(i:∀r,a=some r->b=some r)(e:EX h a=some r):qk h b=some r:=by
 cases a with
 |none=>cases e
 |some x=>rw[i x rfl];exact Mq e
theorem Bb{h:AH}{a b:Option (AV×AH)}{r:AV×AH}(i:∀r,a=some r->b=some r)(e:FV h a=some r):q9 h b=some r:=by
 cases a with
 |none=>cases e
 |some x=>rw[i x rfl];exact N2 e
theorem jE.Le.exec(L:jE.Le pk Γ Γ'){e:Env}{h:AH}{op:kX}{r:AV×AH}(x:Bo pk Γ e h op=some r):exec Γ' e h op=some r:=by
 cases op with
 |call f args=>exact L.call x
 |o8 f args =>
  simp only[Am.Bo,Am.exec]at x⊢;split at x
  .rename_i A;rw[if_pos A];unfold kG at x⊢;cases l:Γ.p f (getAll e args)with
   |none=>rw[l]at x;cases x
   |some v=>rw[l]at x;rw[L.p _ _ _ l];exact x
  .cases x
 |lQ f args =>
  let⟨g,first,cap,o,b⟩:=L.C3 x;simp only[Am.exec,o];exact b
 |tC f args =>
  simp only[Am.Bo,Am.exec]at x⊢;split at x
  .rename_i A;rw[if_pos A];cases l:Γ.h f (getAll e args) []with
   |none=>rw[l]at x;cases x
   |some v=>rw[l]at x;rw[L.h _ _ _ _ l];exact x
  .cases x
 |rz f args =>
  simp only[Am.Bo]at x;cases b:vu pk Γ (f.get e) (getAll e args) h with
  |none=>rw[b]at x;cases x
  |some y =>
   let⟨g,first,cap,o,i⟩:=L.C3 b;simp only[Am.exec,o];rw[b]at x;exact zZ (λr z=>by rw[i];exact z) x
 |u6 f args=>exact bind_mono x (λ_ h=>h) λq i=>bind_mono i (λ_=>L.p _ _ _) λ_ h=>h
 |wP f args=>exact bind_mono x (λ_ h=>h) λq i=>L.h _ _ _ _ i
 |qe f args=>exact Bb (λ_=>L.call) x
 |calls f args=>exact zZ (λ_=>L.call) x
 |qd f args =>
  simp only[Am.Bo]at x;cases b:vu pk Γ (f.get e) (getAll e args) h with
  |none=>rw[b]at x;cases x
  |some y =>
   let⟨g,first,cap,o,i⟩:=L.C3 b;simp only[Am.exec,o];rw[b]at x;exact Bb (λr z=>by rw[i];exact z) x
 |_=>exact x
theorem jE.Le.rT(L:jE.Le pk Γ Γ'):∀ {l:IT} {s r:St},DW pk Γ l s=some r->rT Γ' l s=some r
 | .nil,_,_,h=>h
 | .op d o rest,s,_,h=>by
  rw[DW]at h;split at h
  .rename_i v h' q;rw[Am.rT,L.exec q];exact L.rT h
  .cases h
 | .sc d a c z A l r rest,s,t,h=>by
  simp only[Am.DW]at h;simp only[Am.rT];split at h
  .rename_i b y;simp only[y];refine bind_mono h (λx q=>?_) λ_=>L.rT
   split at q
   .rename_i i;rw[if_pos i];exact bind_mono q (λ_=>L.rT) λ_ h=>h
   .rename_i i;rw[if_neg i];exact q
  .cases h
theorem xA{H K:Type}{f g:H->Option (H⊕K)}(b:∀s r,f s=some r->g s=some r):∀ {n:Nat} {s:H} {t:K},nN f n s=some t->iter g s=some t
 |0,_,_,h=>by cases h
 |n+1,s,t,h=>by
  rw[nN]at h;rw[iter_eq];cases hs:f s with
  |none=>rw[hs]at h;cases h
  |some r =>
   rw[hs]at h;rw[b _ _ hs];cases r with
   |inl s'=>exact xA b h
   |inr i=>exact h
theorem uM{ρ:Type}{e:Env}{k b:AX->St->Option ρ}{r:AX×List AV×AH}{v:ρ}(hk:∀x s,k x s=some v->b x s=some v):∀ {l:List (AX×ax)},mR e k r l=some v->mR e b r l=some v
 | [],h=>by cases h
 |(x,i)::l,h=>by grind[mR,uM hk (l:=l)]
theorem Ap{ρ:Type}{e:Env}{k b:AX->St->Option ρ}{l:List (AX×ax)}{r:AX×List AV×AH}{v:ρ}(hk:∀x s,k x s=some v->b x s=some v)(h:sv e k l r=some v):sv e b l r=some v:=by
 let⟨x,vs,i⟩:=r;cases x<;>first | exact hk _ _ h | exact uM hk h
theorem Fy{ρ:Type}{d:Option Nat}{n l:St->Option ρ}{k o:AX->St->Option ρ}{s:St}{a b:Option ((AV⊕Pn)×AH)}{r:ρ}(i:∀x,a=some x->b=some x)(q:∀s,n s=some r->l s=some r)(hk:∀x s,k x s=some r->o x s=some r)(h:PB d n k s a=some r):PB d l o s b=some r:=by
 cases a with
 |none=>cases h
 |some x =>
  rw[i x rfl];let⟨v,y⟩:=x;cases v<;>first | exact q _ h | exact hk _ _ h
theorem jE.Le.nR(L:jE.Le pk Γ Γ'){ρ:Type}{z:XO}{n i:St->Option ρ}{k l:AX->St->Option ρ}{s:St}{r:ρ}(b:∀s,n s=some r->i s=some r)(hk:∀x s,k x s=some r->l x s=some r)(h:Bp pk Γ z n k s=some r):Am.nR Γ' z i l s=some r:=by
 cases z with
 |op d o =>
  simp only[Bp]at h;split at h
  .rename_i x q;simp only[Am.nR,L.exec q,cg];exact b _ h
  .cases h
 |call d f args=>exact Fy (L.x _ _ _) b hk h
 |lQ d f args =>
  simp only[Bp,Am.nR]at h⊢;split at h
  .exact Fy (L.x _ _ _) b hk h
  .cases h
 |ny x =>
  simp only[Bp,Am.nR]at h⊢;split at h
  .exact hk _ _ h
  .cases h
theorem jE.Le.oW(L:jE.Le pk Γ Γ'){ρ:Type}{last:IT}{k b:AX->St->Option ρ}{r:ρ}(hk:∀x s,k x s=some r->b x s=some r):∀ {l:List (IT×XO)} {s:St},HV pk Γ last k l s=some r->Am.oW Γ' last b l s=some r
 | [],_,h=>bind_mono h (λ_=>L.rT) (hk _)
 |_::_,_,h=>bind_mono h (λ_=>L.rT) λ_=>L.nR (λ_=>L.oW hk) hk
variable{N:Nat}
theorem lN(L:jE.Le pk Γ Γ'):∀(c:AC)(V:aB)(ρ:Type)(k o:AX->St->Option ρ)(s:St)(r:ρ),(∀x s,k x s=some r->o x s=some r)->nE pk N Γ c V ρ k s=some r->eval Γ' c V ρ o s=some r
 | .skip,_,_,_,_,_,_,hk,h=>hk _ _ h
 | .ops l,_,_,_,_,_,_,hk,h=>bind_mono h (λ_=>L.rT) (hk _)
 | .seq a b,V,ρ,k,o,s,r,hk,h=>by
  rw[nE]at h;rw[eval];refine lN L a V ρ _ _ s r (λx s' n=>?_) h
  cases x with
  |normal=>exact lN L b V ρ _ _ s' r hk n
  |_=>exact hk _ _ n
 | .cond c x y,V,ρ,k,o,s,r,hk,h=>by
  rw[nE]at h;rw[eval];split at h
  .rename_i b E;rw[E];cases b with
   |true=>exact lN L x V ρ _ _ s r hk h
   |false=>exact lN L y V ρ _ _ s r hk h
  .cases h
 | .block id c,V,ρ,k,o,s,r,hk,h=>by
  rw[nE]at h;rw[eval];refine lN L c V ρ _ _ s r (λx s' n=>?_) h
  cases x with
  |normal | ret | ny _=>exact hk _ _ n
  |exit i =>
   dsimp only at n⊢;split at n
   .rename_i A;rw[if_pos A];exact hk _ _ n
   .rename_i A;rw[if_neg A];exact hk _ _ n
 | .loop keep wr own q c,V,ρ,k,o,s,r,hk,h=>by
  rw[nE]at h;rw[eval];split at h
  .rename_i F;rw[if_pos F];refine bind_mono h (λx n=>xA (λy z v=>?_) n) λ_=>Ap hk
   exact lN L c _ _ _ _ _ _ (λ_ _ h=>h) v
  .cases h
 | .exit id,_,_,_,_,_,_,hk,h=>hk _ _ h
 | .ret,_,_,_,_,_,_,hk,h=>hk _ _ h
 | .scope c,V,ρ,k,o,s,r,hk,h=>lN L c V ρ k o s r hk h
 | .Ts c g,V,ρ,k,o,s,r,hk,h=>by
  rw[nE]at h;rw[eval];refine lN L c V ρ _ _ s r (λx s' n=>?_) h
  cases x with
  |normal=>exact bind_mono n (λ_ h=>h) (hk _)
  |ret=>exact bind_mono n (λ_ h=>h) (hk _)
  |exit _ | ny _=>exact hk _ _ n
 | .vk l last,V,ρ,k,o,s,r,hk,h=>by
  rw[nE]at h;rw[eval];exact L.oW hk h
 | .sy keep wr q c,V,ρ,k,o,s,r,hk,h=>by
  rw[nE]at h;rw[eval];refine bind_mono h (λx n=>xA (λy z v=>?_) n) λ_=>Ap hk
  exact lN L c _ _ _ _ _ _ (λ_ _ h=>h) v
theorem qQ(L:jE.Le pk Γ Γ'){f:AF}{args:List AV}{h:AH}{r:AV×AH}(e:yJ pk N Γ f args h=some r):kU Γ' f args h=some r:=by
 unfold yJ at e;unfold kU;split at e
 .rename_i hl;rw[if_pos hl];exact lN L _ _ _ _ _ _ _ (λ_ _ h=>h) e
 .cases e
theorem Mz(L:jE.Le pk Γ Γ'){f:AF}{args:List AV}{h:AH}{r:(AV⊕Pn)×AH}(e:MA pk N Γ f args h=some r):mQ Γ' f args h=some r:=by
 unfold MA at e;unfold mQ;split at e
 .rename_i hl;rw[if_pos hl];exact lN L _ _ _ _ _ _ _ (λ_ _ h=>h) e
 .cases e
theorem MC(L:jE.Le pk Γ Γ'){D:DF}{args:List AV}{r:AV}(e:SU pk N Γ D args=some r):Ae Γ' D args=some r :=
 bind_mono e (λ_ h=>h) λ_ e=>lN L _ _ _ _ _ _ _ (λ_ _ h=>h) e
theorem MB(L:jE.Le pk Γ Γ'){f:AF}{args:List AV}{r:AV}(e:SS pk N Γ f args=some r):pg Γ' f args=some r :=
 bind_mono e (λ_=>qQ L) λ_ h=>h
theorem IV(L:jE.Le pk Γ Γ'){f:FuncId}{F:AF}:∀k,jE.Le pk (Qo pk N Γ f F k) (mG Γ' f F k)
 |0=>L
 |k+1=>by
  have b:=IV L (f:=f) (F:=F) k;have h0:=λa h r=>qQ (N:=N) b (f:=F) (args:=a) (h:=h) (r:=r)
  refine⟨?_,?_,?_,λf a h r=>L.x f a h r⟩<;>grind[Qo,mG,L.p,L.h,L.n]
structure jE.LeA(Γ Γ':jE):Prop where
 p:∀f a r,Γ.p f a=some r->Γ'.p f a=some r
 h:∀f a h r,Γ.h f a h=some r->Γ'.h f a h=some r/\∀a,Γ'.p f a=none
theorem jE.LeA.call(L:jE.LeA Γ Γ'){f:FuncId}{a:List AV}{h:AH}{r:AV×AH}(e:eT Γ f a h=some r):eT Γ' f a h=some r:=by
 grind[eT,L.p,L.h]
theorem Nt(L:jE.Le pk Γ Γ'):jE.LeA (Nu pk Γ) Γ':=⟨L.p,λf a h r e=>by
 simp only[Nu]at e;split at e
 .cases e
 .rename_i hk;exact⟨L.h _ _ _ _ e,λa=>L.n f a hk⟩⟩
def Kd.mono:Kd->Prop
 | .z s=>∀ {Γ Γ':jE},jE.LeA Γ Γ'->∀a h r,s Γ a h=some r->s Γ' a h=some r
 |_=>True
theorem iW.GZ(C:iW){f:FuncId}(hk:(C.kd f).sH=false):∀n a,(C.cz n).p f a=none
 |0,_=>rfl
 |n+1,a=>by
  simp only[iW.cz];split
  .cases b:C.kd f<;>rw[b]at hk<;>first | rfl | cases hk
  .exact iW.GZ C hk n a
theorem zu(C:iW)(l:∀g,(C.kd g).mono):∀d n,jE.Le (λf=>(C.kd f).sH) (iW.w8 N C d n) (C.cz n)
 |0,n=>⟨λ_ _ _ e=>(by cases e),λ_ _ _ _ e=>(by cases e),λ_ a hk=>C.GZ hk n a,λ_ _ _ _ e=>(by cases e)⟩
 |d+1,n=>by
  refine⟨λg a r e=>?_,λg a h r e=>?_,λ_ a hk=>C.GZ hk n a,λg a h r e=>?_⟩
  .simp only[iW.w8]at e;split at e
   .rename_i b;have i:=zu C l d (C.pos g);cases hk:C.kd g with
    |p F=>rw[hk]at e;rw[iW.oG hk rfl b];exact MB i e
    |y s=>rw[hk]at e;rw[iW.yH hk rfl b];exact e
    |d D=>rw[hk]at e;rw[iW.L5 hk rfl b];exact MC i e
    |_=>rw[hk]at e;cases e
   .cases e
  .simp only[iW.w8]at e;split at e
   .rename_i b;have i:=zu C l d (C.pos g);cases hk:C.kd g with
    |p F=>rw[hk]at e;rw[iW.L4 hk rfl b];exact qQ i e
    |h F=>rw[hk]at e;rw[iW.oH hk rfl b];exact qQ i e
    |x s=>rw[hk]at e;rw[iW.mq hk rfl b];exact e
    |r F k=>rw[hk]at e;rw[iW.EM hk rfl b];exact qQ (IV i k) e
    |q F=>rw[hk]at e;rw[iW.SL hk rfl b];exact bind_mono e (λ_ h=>h) λ_=>qQ i
    |z s =>
     have:=l g;rw[hk]at e this;rw[iW.SK hk rfl b];exact this (Nt i) _ _ _ e
    |_=>rw[hk]at e;cases e
   .cases e
  .simp only[iW.w8]at e;split at e
   .rename_i b;have i:=zu C l d (C.pos g);cases hk:C.kd g with
    |u F=>rw[hk]at e;rw[iW.lG hk rfl b];exact Mz i e
    |_=>rw[hk]at e;cases e
   .cases e
open Go.Deep
def EA(b:List TD)(cs:List AV):Prop:=cs.length=b.length/\∀(j:Nat)(y:AV)(h:TD),cs[j]? = some y->b[j]? = some h->nL h y
def EA.cons{l:TD}{b:List TD}{cs:List AV}(h:EA (l::b) cs):∃y i,cs=y::i/\nL l y/\EA b i:=by
 let⟨h1,h2⟩:=h;cases cs with
 |nil=>simp at h1
 |cons y i=>exact⟨y,i,rfl,h2 0 y l rfl rfl,an h1,λj z t n o=>h2 (j+1) z t (an n) (an o)⟩
def EA.nil{cs:List AV}(h:EA [] cs):cs=[]:=bh h.1
def yD.one{b:TD}{a:AV}(h:yD false [b] a):nL b a:=by
 unfold yD at h;simp only[aZ,if_false]at h;let⟨i,h1,h2⟩:=h;simp only[dM,and_true]at h1;exact h1▸h2
def yD.agg{b:List TD}{a:AV}(h:yD true b a):∃cs,a = .agg cs/\EA b cs:=by
 unfold yD at h;simp only[if_true]at h;let⟨cs,h1,h2,h3⟩:=h;exact⟨cs,h1,h2,h3⟩
def qv.inv{p:Bool×List TD}{l:List (Bool×List TD)}{args:List AV}(h:qv (p::l) args):∃a r,args=a::r/\yD p.1 p.2 a/\qv l r:=by
 cases h with | cons h t=>exact⟨_,_,rfl,h,t⟩
def qv.ajP{args:List AV}(h:qv [] args):args=[]:=by cases h;rfl
def nL.int{k:IntKind}{a:AV}(h:nL (.i k) a):∃n,a = .int k n/\k.min<=n/\n<=k.max:=by cases h with | i _ n h1 h2=>exact⟨n,rfl,h1,h2⟩
def nL.bool{a:AV}(h:nL .b a):∃b,a = .bool b:=by cases h with | b x=>exact⟨x,rfl⟩
def nL.str{a:AV}(h:nL .s a):∃s,a = .str s/\s.length<=maxLen:=by cases h with | s l h=>exact⟨l,rfl,h⟩
def nL.ints{k:IntKind}{a:AV}(h:nL (.l false [.i k]) a):∃(l:ay),a = .b9 false (l.map (AV.int k))/\l.length<=maxLen/\∀n∈l,k.min<=n/\n<=k.max:=by
 cases h with
 |l1 v es hl h =>
  let⟨l,o,r⟩:=oL (AV.int k) (λn=>k.min<=n/\n<=k.max) es λx q=>by
   let⟨n,h1,h2⟩:=(h x q).int;exact⟨n,h1,h2⟩
  exact⟨l,by rw[o],by rw[o]at hl;simpa using hl,r⟩
def nL.af6{α:Type}(F:α->AV)(p:α->Prop){n:List TD}{a:AV}(h:nL (.l true n) a)(G:∀cs,EA n cs->∃d,AV.agg cs=F d/\p d):∃(l:List α),a = .b9 false (l.map F)/\l.length<=maxLen/\∀d∈l,p d:=by
 cases h with
 |la n es hl g h0 h2 =>
  obtain⟨l,o,E⟩:=oL F p es λx z=>by
   obtain⟨i,q⟩:=dy z;obtain⟨e1,H⟩:=h0 i x q;rw[e1];exact G _ ⟨H,λj y r v A=>h2 i x q j y r v A⟩
  exact⟨l,by rw[o],by rw[o]at hl;simpa using hl,E⟩
end Go.Am
