/- Part of the proof that TopScriptsCard holds. -/
import Derived.Test.YtahlmpbhfljalaaGreatDoorAmJ
import Derived.Laws.BytesString
import Derived.Laws.Slices
set_option linter.all false
namespace Go.Am
variable{sz n len:Nat}{O:ay}
def ic.set{w:World}{vs:List Value}{es:List AV}(hs:ic O w (λk=>vs[k]?) sz es)(hl:vs.length=es.length*sz){i:Nat}(F:i<es.length){x:AV}{n:List Value}
  (hx:x.cells.length=sz) (T:n.length=sz) (h1:∀u∈n,u.oneCell'=true) (h2:∀(j:Nat)(y:AV)(u:Value),x.cells[j]? = some y->n[j]? = some u->mM O w y u) :
  ic O w (λk=>(over vs (i*sz) n)[k]?) sz (es.set i x):=by
 have z:i*sz+sz<=vs.length:=by
  have:(i+1)*sz<=es.length*sz:=bl _ F;rw[bL]at this;omega
 have b:i*sz+n.length<=vs.length:=aa
 intro r x1 l
 by_cases q:r=i
 .subst q;rw[bh F]at l;cases l;refine⟨hx,λj y v=>?_⟩
  have E:j<sz:=by rw[<-hx];exact(az.1 v).1
  dsimp only;rw[iG _ _ _ b,if_pos aa]
  have N:r*sz+j-r*sz=j:=aa
  rw[N];have o:j<n.length:=aa
  exact⟨n[j],by simp[o],h1 _ (aU o),h2 j y n[j] v (by simp[o])⟩
 .rw[aL (Ne.symm q)]at l;let⟨A,k⟩:=hs r x1 l;refine⟨A,λj y v=>?_⟩
  let⟨G,L,K,H⟩:=k j y v;have E:j<sz:=by rw[<-A];exact(az.1 v).1
  refine⟨G,?_,K,H⟩;dsimp only;rw[iG _ _ _ b,if_neg]
  .exact L
  .rintro⟨S,Q⟩
   have M:=Gk (j':=r*sz+j-i*sz) q E aa
   omega
def oy{w:World}{z:Value}{a:AV}(E:Tn z a=true)(n:Nat):ic O w (λk=>(Builtin.zeroCells z.cells n)[k]?) z.cells.size (List.replicate n a)/\a.cells.length=z.cells.size/\
  ((Builtin.zeroCells z.cells n).toList.all Value.oneCell'=true):=by
 have b:∃l,AP z.cells.toList l=true/\a.cells=l:=by
  unfold Tn at E;split at E
  .exact⟨_,E,rfl⟩
  .let⟨X,p2,p3⟩:=Dr (O:=O) (w:=w) E;refine⟨[a],?_,?_⟩
   .rw[cells_one p2];simp[AP,E]
   .cases a<;>first | rfl | (simp[AV.jD]at p3;done)
 let⟨l,hl,F⟩:=b;let⟨q1,M,Q,W⟩:=nW (O:=O) (w:=w) hl;have q:a.cells.length=z.cells.size:=by rw[F,q1];simp
 have o:∀k,k<n*z.cells.size->(Builtin.zeroCells z.cells n)[k]? = some (z.cells[k%z.cells.size]!):=by
  intro k hk;simp[Builtin.zeroCells,hk]
 refine⟨?_,q,?_⟩
 .intro i x hx;have U:i<n:=by simpa using(az.1 hx).1
  have H:x=a:=by
   have:=(az.1 hx).2
   simpa using this.symm
  subst H;refine⟨q,λj y N=>?_⟩
  have L:j<z.cells.size:=by rw[<-q];exact(az.1 N).1
  have K:i*z.cells.size+j<n*z.cells.size:=by
   have:(i+1)*z.cells.size<=n*z.cells.size:=bl _ U;rw[bL]at this;omega
  dsimp only;rw[o _ K];have T:(i*z.cells.size+j)%z.cells.size=j:=by rw[ep,Nat.mul_add_mod,Nat.mod_eq_of_lt L]
  rw[T];have G:z.cells[j]! = z.cells[j]:=by simp[L]
  rw[G];refine⟨_,rfl,M _ ah,Q j y z.cells[j] (by rw[<-F];exact N) (by simp[L])⟩
 .rw[aJ];intro u S;obtain⟨k,hk,rfl⟩:=eN S;have A:k<n*z.cells.size:=by simpa[size_zeroCells]using hk
  have:=o k A;rw[bT (ak hk)]at this
  have e:=bB this;have r:0<z.cells.size:=Nat.pos_of_ne_zero λh0=>by rw[h0]at A;omega
  have v:k%z.cells.size<z.cells.size:=gO _ r;simp only[gE];rw[e,show z.cells[k%z.cells.size]! = z.cells[k%z.cells.size] by simp[v]]
  exact M _ ah
def oM{w:World}{blk o c:Nat}{es:List AV}(n:0<sz)(E:¬O blk)(A:blk<w.heap.size)(hs:ic O w (λk=>w.cell? ⟨blk,o+k,none⟩) sz es){full:Bool}
  (v:full=true->c=es.length) (z:es.length<=c):mM O w (.en full es) (.slice (some ⟨blk,o,none⟩) es.length c):=by
 refine .en full es _ c blk o sz (λi j=>(w.cell? ⟨blk,o+(i*sz+j),none⟩).getD Go.undef) v z (λ_=>⟨rfl,E,A⟩) (λi x hx=>⟨(hs i x hx).1,n⟩) ?_ ?_ ?_
 .intro i x hx j y l;let⟨u,b,_,_⟩:=(hs i x hx).2 j y l;dsimp only at b;rw[cz,b];rfl
 .intro i x hx j y l;let⟨u,b,r,_⟩:=(hs i x hx).2 j y l;dsimp only at b;simp only[b,cM];exact r
 .intro i x hx j y l;let⟨u,b,_,q⟩:=(hs i x hx).2 j y l;dsimp only at b;simp only[b,cM];exact q
section
variable{P:Program}{Z:ay}{β:iW}{h:AH}{w:World}
def mM.cells{a:AV}{v:Value}(o:mM O w a v)(n:a.jE=true):
  ∃vs:List Value,v.cells=vs.toArray/\a.cells.length=vs.length/\(∀u∈vs,u.oneCell'=true)/\∀(j:Nat)(y:AV)(u:Value),a.cells[j]? = some y->vs[j]? = some u->mM O w y u:=by
 have b:a.cells.all AV.jD=true:=by
  by_cases i:∃cs,a = .agg cs
  .obtain⟨cs,rfl⟩:=i;exact n
  .have r:a.cells=[a]:=by cases a<;>first | rfl | (exact absurd ⟨_,rfl⟩ i)
   rw[r];cases a<;>first | rfl | (simp[AV.jE,AV.jD]at n;done) | (exact absurd ⟨_,rfl⟩ i)
 let⟨vs,e1,A,z,x⟩:=(VR.pure (β:=λ_ _=>none) a v o).cells (by
  rw[aJ]at b⊢;exact λy l=>nI (b y l))
 exact⟨vs,e1,A,z,λj y u l q=>(x j y u l q).Bu (aJ.1 b y (bE l))⟩
def lQ:List (Nat×Operand)->List (Nat×AO)->Bool
 | [],[]=>true
 |(i,x)::l,(j,y)::b=>i==j&&kj x y&&lQ l b
 |_,_=>false
def uV{e:Env}{a:Act}{n:Nat}(sz:Nat):∀(ps:List (Nat×Operand))(qs:List (Nat×AO))(es es':List AV)(vs:List Value){h h':AH}(_:Rel Z β h w)(_:iP Z β h w e a n),
  lQ ps qs=true->lz e sz qs es h=some (es',h')->vs.length=es.length*sz->ic (Own Z β h) w (λk=>vs[k]?) sz es->(∀u∈vs,u.oneCell'=true)->
  ∃b:List Value,Instr.fill (λi=>some (i*sz,sz)) vs.toArray (ps.map λp=>(p.1,a.eval p.2))=some b.toArray/\b.length=es'.length*sz/\es'.length=es.length/\ic (Own Z β h') w (λk=>b[k]?) sz es'/\
   (∀u∈b,u.oneCell'=true)/\Rel Z β h' w/\Fr Z β h w β h' w
 | [],[],es,es',vs,h,h',R,_,_,o,hl,hs,h1=>by
  simp only[lz]at o;cases o;exact⟨vs,by simp[Instr.fill],hl,rfl,hs,h1,R,Fr.refl _ _ _ _⟩
 | [],_::_,_,_,_,_,_,_,_,v,_,_,_,_=>by simp[lQ]at v
 |_::_,[],_,_,_,_,_,_,_,v,_,_,_,_=>by simp[lQ]at v
 | (i,x)::ps,(j,y)::qs,es,es',vs,h,h',R,E,v,o,hl,hs,h1=>by
  simp only[lQ,aC,beq_iff_eq]at v;obtain⟨⟨rfl,H⟩,v⟩:=v;simp only[lz,aD]at o;let⟨⟨S,h1'⟩,G,o⟩:=o;let⟨R1,K,V1,Q⟩:=vn R G (gW R.gl E H);dsimp only at o;split at o
  .rename_i z;let⟨l,M⟩:=z;let⟨L,e1,O,N,e4⟩:=(V1.Bv Q).cells Q;have r:i*sz+sz<=vs.length:=by
    have:(i+1)*sz<=es.length*sz:=bl _ M;rw[bL]at this;omega
   have A:=(hs.mono K.stay).set hl M l (O.symm.trans l) N e4;have F:L.length=sz:=O.symm.trans l
   let⟨b,k1,Y,X,W,k5,U,T⟩:=uV sz ps qs (es.set i S) es' (over vs (i*sz) L) R1 (E.fr K) v o
    (by rw[ig _ _ _ aa];simpa using hl) A (λu q=>by
     unfold over at q;simp only[aZ]at q
     rcases q with(q | q) | q
     .exact h1 u (dK q)
     .exact N u q
     .exact h1 u (cA q))
   refine⟨b,?_,Y,ak X,W,k5,U,K.trans T⟩
   simp only[bF];rw[BZ (λi=>some (i*sz,sz)) vs.toArray i (a.eval x) _ rfl (by rw[e1];simp[F]) (ak r)]
   rw[e1];exact k1
  .cases o
def tf{e:Env}{sz:Nat}(h:AH):∀(qs:List (Nat×AO))(es es':List AV),lC e sz qs es=some es'->lz e sz qs es h=some (es',h)
 | [],es,es',b=>by simp only[lC]at b;cases b;rfl
 |(i,x)::qs,es,es',b=>by
  simp only[lC]at b;split at b
  .rename_i l;simp only[lz];have:lG h (x.get e)=some (x.get e,h):=by unfold lG;rw[if_pos l.1]
   rw[this];simp only[bH];rw[if_pos l.2];exact tf h qs _ es' b
  .cases b
def zq(P:Program)(t:TypeId)(len:Nat)(ps:Array (Nat×Operand))(sz:Nat)(zero:AV)(b:Nat)(qs:List (Nat×AO)):Bool :=
 len==b&&decide (0<sz)&&decide (len*sz<=16777216)&&lQ ps.toList qs&&match P.underlying t with
 |some (.slice elem)=>jg P elem sz&&zeroV P elem zero&&zero.cells.length==sz
 |_=>false
def JA(R:Rel Z β h w){e:Env}{a:Act}(E:iP Z β h w e a n){t:TypeId}{ps:Array (Nat×Operand)}{zero:AV}{r:Nat}{qs:List (Nat×AO)}(v:zq P t len ps sz zero r qs=true)
  {es:List AV} {h':AH} {full:Bool} (hp:lz e sz qs (List.replicate r zero) h=some (es,h')):gY P Z β h w (Instr.buildSlice t len (ps.map λ(i,x)=>(i,a.eval x))) (.en full es) h':=by
 unfold zq at v;simp only[aC,beq_iff_eq,decide_eq_true_eq]at v;obtain⟨⟨⟨⟨rfl,M⟩,W⟩,q⟩,v⟩:=v;have y:(ps.map λ(i,x)=>(i,a.eval x)).toList=ps.toList.map λp=>(p.1,a.eval p.2):=ah
 split at v
 .rename_i elem Q;simp only[aC,beq_iff_eq]at v;let⟨⟨hs,G⟩,hzl⟩:=v;let⟨i,z,hi,G,he⟩:=ox G;let⟨z1,z2,z3⟩:=oy (O:=Own Z β h) (w:=w) he len;have l:z.cells.size=sz:=by omega
  rw[l]at z1
  have T:len*sz=0->(Array.range (len*sz)).map (λx=>(#[]:Array Value)[x%(#[]:Array Value).size]!)=Builtin.zeroCells z.cells len:=by
   intro h0;unfold Builtin.zeroCells;rw[l,h0];simp
  have S:(Array.range (len*sz)).map (λx=>z.cells[x%z.cells.size]!)=Builtin.zeroCells z.cells len:=by
   unfold Builtin.zeroCells;rw[l]
  let⟨b,L,k2,U,k4,k5,K,Y⟩:=uV sz ps.toList qs (List.replicate len zero) es (Builtin.zeroCells z.cells len).toList R E q hp (by simp[size_zeroCells,l]) (ak z1)
   (λu hu=>aJ.1 z3 u hu)
  simp at U;let⟨G1,X⟩:=K.pN (.cells b.toArray elem);refine⟨.slice (some ⟨w.heap.size,0,none⟩) len len,w.alloc (.cells b.toArray elem),β,?_,G1,Y.trans X,?_⟩
  .have F:¬(len*sz>2 ^ 24):=by omega
   simp only[Instr.buildSlice,Sem.run_bind,run_underlying Q,Result.andThen_ok,jr hs];rw[if_neg F];simp only[dy]at L
   by_cases h0:len*sz=0
   .rw[if_pos h0];simp only[Sem.run_bind,Sem.run_pure,Result.andThen_ok,y,T h0];rw[L];simp[newRow]
   .rw[if_neg h0];simp only[Sem.run_bind,Sem.run_pure,Result.andThen_ok,y,iF hi G,S];rw[L];simp[newRow]
  .have A:es.length=len:=U;refine .pure _ _ ?_;have H:(w.alloc (.cells b.toArray elem)).heap[w.heap.size]? = some (.cells b.toArray elem (0,0)):=heap_alloc_new w _;have N:¬Own Z β h' w.heap.size:=by
    rintro(G | ⟨j,hj⟩)
    .have:=K.xlt _ G;omega
    .have:=K.mS hj;omega
   have:=oM (O:=Own Z β h') (w:=w.alloc (.cells b.toArray elem)) (blk:=w.heap.size) (o:=0) (c:=len) (es:=es) (full:=full) M N ah
    ((ic.mono X.stay k4).congr λk hk=>by
     rw[cell_of_row _ _ _ _ _ _ H];simp) (λ_=>A.symm) aa
   rw[A]at this;exact this
 .cases v
def OB(R:Rel Z β h w){e:Env}{a:Act}(E:iP Z β h w e a n){t:TypeId}{ps:Array (Nat×Operand)}{zero:AV}{q:Nat}{qs:List (Nat×AO)}(r:zq P t len ps sz zero q qs=true)
  {es:List AV} {h':AH} (hp:lz e sz qs (List.replicate q zero) h=some (es,h')):gY P Z β h w (Instr.buildSlice t len (ps.map λ(i,x)=>(i,a.eval x))) (.own h'.length 0 0 es.length) (h'++[.row 0 sz es]):=by
 unfold zq at r;simp only[aC,beq_iff_eq,decide_eq_true_eq]at r;obtain⟨⟨⟨⟨rfl,K⟩,S⟩,o⟩,r⟩:=r;have v:(ps.map λ(i,x)=>(i,a.eval x)).toList=ps.toList.map λp=>(p.1,a.eval p.2):=ah
 split at r
 .rename_i elem L;simp only[aC,beq_iff_eq]at r;let⟨⟨hs,H⟩,hzl⟩:=r;let⟨i,z,hi,H,he⟩:=ox H;let⟨z1,z2,z3⟩:=oy (O:=Own Z β h) (w:=w) he len;have l:z.cells.size=sz:=by omega
  rw[l]at z1
  have N:len*sz=0->(Array.range (len*sz)).map (λx=>(#[]:Array Value)[x%(#[]:Array Value).size]!)=Builtin.zeroCells z.cells len:=by
   intro h0;unfold Builtin.zeroCells;rw[l,h0];simp
  have M:(Array.range (len*sz)).map (λx=>z.cells[x%z.cells.size]!)=Builtin.zeroCells z.cells len:=by
   unfold Builtin.zeroCells;rw[l]
  let⟨b,G,k2,Q,Y,k5,X,W⟩:=uV sz ps.toList qs (List.replicate len zero) es (Builtin.zeroCells z.cells len).toList R E o hp (by simp[size_zeroCells,l]) (ak z1)
   (λu hu=>aJ.1 z3 u hu)
  simp at Q;have F:es.length=len:=Q;have A:b.length=es.length*sz:=k2
  obtain⟨β',q1,U,T,-⟩:=X.y9 (w':=w.alloc (.cells b.toArray elem)) sz K es b.toArray elem rfl rfl rfl rfl (by rw[dU,A];exact aT _)
   (Y.congr λk hk=>ah)
  have hv:=T es.length es.length (aT _) (by rw[dU,A];exact aT _)
  refine⟨_,w.alloc (.cells b.toArray elem),β',?_,q1,W.trans U,hv⟩;rw[F];have y:¬(len*sz>2 ^ 24):=aa
  simp only[Instr.buildSlice,Sem.run_bind,run_underlying L,Result.andThen_ok,jr hs];rw[if_neg y];simp only[dy]at G
  by_cases h0:len*sz=0
  .rw[if_pos h0];simp only[Sem.run_bind,Sem.run_pure,Result.andThen_ok,v,N h0];rw[G];simp[newRow]
  .rw[if_neg h0];simp only[Sem.run_bind,Sem.run_pure,Result.andThen_ok,v,iF hi H,M];rw[G];simp[newRow]
 .cases r
def MQ(P:Program)(t:TypeId)(sz bytes:Nat)(zero:AV):Bool :=
 decide (0<sz)&&match P.underlying t with
 |some (.slice elem)=>jg P elem sz&&tQ P elem bytes&&zeroV P elem zero&&zero.cells.length==sz
 |_=>false
def mU{x:AV}(b:nat? x=some n){v:Value}(l:VR β (Own Z β h) w x v):∃k i,v = .int k i/\0<=i/\i.toNat=n:=by
 cases x with
 |int k i =>
  simp only[nat?]at b;split at b
  .rename_i h0;cases b;exact⟨k,i,l.jF,h0,rfl⟩
  .cases b
 |_=>simp[nat?]at b
def wrap_small{n:Int}(h1:0<=n)(h2:n<=9223372036854775807):IntKind.i64.wrap n=n:=by
 have e:IntKind.i64.wrap n=if decide (n%18446744073709551616>=9223372036854775808)=true then n%18446744073709551616-18446744073709551616 else n%18446744073709551616:=rfl
 rw[e,Int.emod_eq_of_lt h1 aa,if_neg aj]
def Qf(R:Rel Z β h w){t:TypeId}{bytes:Nat}{zero:AV}(r:MQ P t sz bytes zero=true){l c:AV}{m:Nat}(hl:nat? l=some n)(hc:nat? c=some m)(y:n<=m)
  (hb:m*bytes<=140737488355328) (hm:m<=140737488355328) {u v:Value} (hu:VR β (Own Z β h) w l u) (hv:VR β (Own Z β h) w c v) :
  gY P Z β h w (Instr.makeSlice t u v) (.own h.length 0 0 n) (h++[.row 0 sz (List.replicate n zero)]):=by
 obtain⟨k1,q,rfl,X,p2⟩:=mU hl hu;obtain⟨Y,i2,rfl,p3,p4⟩:=mU hc hv;unfold MQ at r;simp only[aC,decide_eq_true_eq]at r;let⟨F,r⟩:=r;split at r
 .rename_i elem H;simp only[aC,beq_iff_eq]at r;let⟨⟨⟨hs,M⟩,E⟩,hzl⟩:=r;let⟨i,z,G,E,N⟩:=ox E;have A:i.bytes=bytes:=by simpa[tQ,G]using M
  let⟨z1,z2,z3⟩:=oy (O:=Own Z β h) (w:=w) N n;let⟨y1,y2,y3⟩:=oy (O:=Own Z β h) (w:=w) N m;have o:z.cells.size=sz:=aa
  have b:(Builtin.zeroCells z.cells m).size=m*sz:=by rw[size_zeroCells,o]
  have S:IntKind.i64.wrap q=q:=wrap_small X aa
  have Q:IntKind.i64.wrap i2=i2:=wrap_small p3 aa
  have L:m*sz=0->(Array.range (m*sz)).map (λx=>(#[]:Array Value)[x%(#[]:Array Value).size]!)=Builtin.zeroCells z.cells m:=by
   intro h0;unfold Builtin.zeroCells;rw[o,h0];simp
  have K:(Array.range (m*sz)).map (λx=>z.cells[x%z.cells.size]!)=Builtin.zeroCells z.cells m:=by
   unfold Builtin.zeroCells;rw[o]
  obtain⟨β',q1,W,U,-⟩:=R.y9 (w':=w.alloc (.cells (Builtin.zeroCells z.cells m) elem)) sz F (List.replicate n zero) (Builtin.zeroCells z.cells m) elem rfl rfl rfl rfl
   (by rw[b];simp;exact bl _ y) (by
    have:List.replicate n zero=(List.replicate m zero).take n:=by simp[List.take_replicate];omega
    rw[this];rw[o]at y1;exact(ic.take y1 n).congr λk _=>ah)
  refine⟨.slice (some ⟨w.heap.size,0,none⟩) n m,_,β',?_,q1,W,U n m y (by rw[b];exact aT _)⟩
  have T:¬((i.bytes:Int)*i2>2 ^ 48):=by
   rw[A,<-Int.toNat_of_nonneg p3,p4];have:((bytes:Int)*(m:Int))=((m*bytes:Nat):Int):=by rw[ep];rfl
   rw[this];omega
  have t2:¬i2<0:=aa
  have t3:¬q<0:=aa
  have t4:¬q>i2:=aa
  have tl:(decide (i2<0)||decide ((i.bytes:Int)*i2>2 ^ 48)||decide (q<0)||decide (q>i2))=false:=by
   simp only[T,t2,t3,t4,decide_false,eO]
  have e1:(asInt (.int k1 q)).run P w = .ok q w:=rfl;have e2:(asInt (.int Y i2)).run P w = .ok i2 w:=rfl;simp only[Instr.makeSlice,Sem.run_bind,run_underlying H,Result.andThen_ok,e1,e2,typeInfo,run_program,G,Sem.run_pure,S,Q];rw[if_neg (by rw[tl];simp)]
  simp only[Sem.run_bind,Result.andThen_ok,run_askRoom,p4,jr hs,p2]
  by_cases h0:m*sz=0
  .rw[if_pos h0];simp only[Sem.run_bind,Sem.run_pure,Result.andThen_ok,L h0];simp[newRow]
  .rw[if_neg h0];simp only[Sem.run_bind,Sem.run_pure,Result.andThen_ok,iF G E,K];simp[newRow]
 .cases r
end
variable{n x y sz len cap off:Nat}{i l b:Option AO}
section
variable{P:Program}{Z:ay}{β:iW}{h:AH}{w:World}
def Oj(R:Rel Z β h w){s d:TypeId}{k:IntKind}(hs:(P.underlying s).isSome=true)(l:P.underlying d=some (.int k)){b:IntKind}{n:Int}{v:Value}(i:VR β (Own Z β h) w (.int b n) v):
  gY P Z β h w (convert s d v) (.int k (k.wrap n)) h:=by
 have:=i.jF;subst this;let⟨o,hs⟩:=cC.1 hs;refine gY.of R (v:=.int k (k.wrap n)) ?_ (.of_int _ _);simp only[convert,Sem.run_bind,run_underlying hs,run_underlying l,Result.andThen_ok];cases o<;>rfl
def xm:∀ {es:List AV} {s:aq},nO es=some s->∃i:ax,es=i.map (AV.int .u8)/\s=i.map λn=>UInt8.ofNat n.toNat
 | [],s,b=>by simp only[nO]at b;simp_all
 |a::es,s,b=>by
  cases a with
  |int k n =>
   cases k<;>simp only[nO]at b<;>try (cases b;done)
   simp only[aD]at b;let⟨r,l,b⟩:=b;cases b;let⟨i,e1,o⟩:=xm l;exact⟨n::i,by simp[e1],by simp[o]⟩
  |_=>simp[nO]at b
def foldl_push:∀(i:ax)(b:ByteArray),(i.foldl (λr n=>r.push (UInt8.ofNat n.toNat)) b).data.toList=b.data.toList++i.map λn=>UInt8.ofNat n.toNat
 | [],b=>ah
 |n::i,b=>by
  simp only[cE];rw[foldl_push i];simp[ByteArray.push]
def RI(R:Rel Z β h w){s d e:TypeId}(hs:P.underlying s=some (.slice e))(O:P.underlying e=some (.int .u8))(Q:P.underlying d=some .string){x:AV}{es:List AV}{l:aq}
  (hx:elems h x=some es) (hl:nO es=some l) {v:Value} (L:VR β (Own Z β h) w x v):gY P Z β h w (convert s d v) (.str l) h:=by
 obtain⟨ad,c,rfl,U,F⟩:=kE R hx L;obtain⟨b,rfl,rfl⟩:=xm hl;have H:=run_convert_bytes_string (P:=P) w s d e ad (b.map (AV.int .u8)).length c hs O Q
 by_cases h0:b=[]
 .subst h0;refine gY.of R (v:=.string ByteArray.empty) ?_ (.CU rfl);rw[H];cases ad with
  |none=>rfl
  |some a =>
   rw[run_bytesToString w a _ c [] (by simp[loadCells,loadCellsFrom])]
   rfl
 .obtain⟨blk,o,sz,M,rfl,E⟩:=F (ak h0)
  have A:iU 1 (b.map (AV.int .u8))=true:=by simp[iU,AV.cells]
  have i:=E.iU A
  have z:∀(j:Nat)(u:Value),(b.map (Value.int .u8))[j]? = some u->w.cell? ((⟨blk,o,none⟩:Addr).add j)=some u:=by
   intro j u G;rw[addr_add];simp at G;obtain⟨n,N,rfl⟩:=G;let⟨_,q⟩:=i j (.int .u8 n) (by simp[N])
   let⟨S,q1,T,K⟩:=q 0 (.int .u8 n) rfl;cases K
   simpa using q1
  have y:=run_loadCells_list (P:=P) w ⟨blk,o,none⟩ (b.map (Value.int .u8)) z;refine gY.of R (v:=.string (b.foldl (λr n=>r.push (UInt8.ofNat n.toNat)) ByteArray.empty)) ?_ (.CU ?_)
  .rw[H];have:(b.map (AV.int .u8)).length=(b.map (Value.int .u8)).length:=by simp
   rw[this];exact run_bytesToString w _ _ c b y
  .rw[foldl_push];simp
def qd{y:AO}{e:Env}{a:Act}{k:Nat}{x:Operand}(G:Gl (Own Z β h) w)(E:iP Z β h w e a n)(l:kj x y=true)(hk:nat? (y.get e)=some k)(top:Nat)(o:k<=top)(code:BoundsCode)(w':World):
  (Instr.sliceBound (a.eval x) top code).run P w' = .ok k w':=by
 let⟨b,i,e1,r,q⟩:=mU hk (gW G E l);rw[e1,run_sliceBound w' b i top code r aa,q]
def kr:Option Operand->Option AO->Bool
 |none,none=>true
 |some x,some y=>kj x y
 |_,_=>false
theorem Aj{e:Env}{a:Act}(G:Gl (Own Z β h) w)(E:iP Z β h w e a n){z A:Option Operand}(h1:kr z i=true)(h2:kr A l=true)(o:jB 0 e i=some x)(r:jB len e l=some y)
  (H:x<=y) (F:y<=cap) (isSlice:Bool) (w':World):(Instr.sliceBounds isSlice len cap (z.map a.eval) (A.map a.eval) none).run P w' = .ok (x,y,cap) w':=by
 have key:∀b:Sem Nat,b.run P w' = .ok y w'->∀c:Nat->Sem Nat,(c y).run P w' = .ok x w'->True:=λ_ _ _ _=>trivial
 have K:∀code,(match A.map a.eval with | some v=>Instr.sliceBound v cap code | none=>pure len:Sem Nat).run P w' = .ok y w':=by
  intro code;cases A with
  |none =>
   cases l with
   |none=>simp only[jB]at r;cases r;rfl
   |some _=>simp[kr]at h2
  |some p =>
   cases l with
   |none=>simp[kr]at h2
   |some q=>exact qd G E h2 r cap F code w'
 have L:∀code,(match z.map a.eval with | some v=>Instr.sliceBound v y code | none=>pure 0:Sem Nat).run P w' = .ok x w':=by
  intro code;cases z with
  |none =>
   cases i with
   |none=>simp only[jB]at o;cases o;rfl
   |some _=>simp[kr]at h1
  |some p =>
   cases i with
   |none=>simp[kr]at h1
   |some q=>exact qd G E h1 o y H code w'
 unfold Instr.sliceBounds;cases A with
 |none =>
  have e1:=K .sliceB;simp only[gp,Sem.run_pure,Result.ok.injEq,and_true]at e1;subst e1;cases z with
  |none=>simp_all
  |some p=>simp_all
 |some q =>
  have e1:=K (if isSlice then .sliceAcap else .sliceAlen)
  simp only[cB]at e1;cases z with
  |none=>simp_all
  |some p=>simp_all
def Gj{e:Env}{a:Act}(G:Gl (Own Z β h) w)(E:iP Z β h w e a n){v r:Option Operand}{L:Operand}{l:AO}(h1:kr v b=true)(h2:kr r i=true)(h3:kj L l=true){m:Nat}(H:r.isSome=true)
  (o:jB 0 e b=some x) (K:jB len e i=some y) (M:nat? (l.get e)=some m) (A:x<=y) (z:y<=m) (F:m<=cap) (isSlice:Bool) (w':World) :
  (Instr.sliceBounds isSlice len cap (v.map a.eval) (r.map a.eval) (some (a.eval L))).run P w' = .ok (x,y,m) w':=by
 unfold Instr.sliceBounds;cases r with
 |none=>cases H
 |some q =>
  cases i with
  |none=>simp[kr]at h2
  |some O =>
   have e0:=qd (P:=P) G E h3 M cap F (if isSlice then .slice3Acap else .slice3Alen) w'
   have e1:=qd (P:=P) G E h2 K m z .slice3B w';cases v with
   |none =>
    cases b with
    |none=>simp only[jB]at o;simp_all
    |some _=>simp[kr]at h1
   |some p =>
    cases b with
    |none=>simp[kr]at h1
    |some Q =>
     have N:=qd (P:=P) G E h1 o y A .slice3C w';simp[e0,e1,N]
def PL(R:Rel Z β h w){e:Env}{a:Act}(E:iP Z β h w e a n){t:TypeId}(M:P.underlying t=some .string){F G:Option Operand}(h1:kr F i=true)(h2:kr G l=true)
  {s:aq} {x y:Nat} (r:jB 0 e i=some x) (z:jB s.length e l=some y) (o:x<=y) (K:y<=s.length) {v:Value} (L:VR β (Own Z β h) w (.str s) v) :
  gY P Z β h w (Instr.sliceAt t v (F.map a.eval) (G.map a.eval) none) (.str ((s.take y).drop x)) h:=by
 obtain⟨b,rfl,H⟩:=L.lN;have q:b.size=s.length:=by rw[<-H];rfl
 refine gY.of R (v:=.string (b.extract x y)) ?_ (.CU ?_)
 .have A:=Aj (P:=P) R.gl E h1 h2 (len:=b.size) (cap:=b.size) r (by rw[q];exact z) o aa false w
  simp only[Instr.sliceAt,Instr.slice,Sem.run_bind,run_underlying M,Result.andThen_ok,A,Sem.run_pure,fL,bq,if_false]
 .rw[ByteArray.data_extract,Array.toList_extract,H,List.extract_eq_take_drop,List.take_drop]
  congr 1;congr 1;omega
def yf{e:Env}{a:Act}(G:Gl (Own Z β h) w)(E:iP Z β h w e a n){t elem:TypeId}(N:P.underlying t=some (.slice elem))(A:jg P elem sz=true){r q i:Option Operand}{o:Option AO}
  (h1:kr r l=true) (h2:kr q o=true) (h3:kr i b=true) (F:i.isSome=true->q.isSome=true)
  {len x y m:Nat} {ad:Option Addr} {cap:Nat} (K:jB 0 e l=some x) (L:jB len e o=some y) (O:jB cap e b=some m) (z:x<=y) (v:y<=m) (H:m<=cap) :
  (Instr.sliceAt t (.slice ad len cap) (r.map a.eval) (q.map a.eval) (i.map a.eval)).run P w = .ok (.slice (if m=x then ad else ad.map (·.add (x*sz))) (y-x) (m-x)) w:=by
 have M:(Instr.sliceBounds true len cap (r.map a.eval) (q.map a.eval) (i.map a.eval)).run P w = .ok (x,y,m) w:=by
  cases i with
  |none =>
   grind[jB,Aj,kr]
  |some p =>
   cases b with
   |none=>simp[kr]at h3
   |some Q=>exact Gj (P:=P) G E h1 h2 h3 (F rfl) K L O z v H true w
 simp only[Instr.sliceAt,Instr.slice,Sem.run_bind,run_underlying N,Result.andThen_ok,M,jr A,Sem.run_pure]
def I2{O:ay}{full:Bool}{es:List AV}{ad:Option Addr}{c:Nat}(G:mM O w (.en full es) (.slice ad es.length c))(n:iU sz es=true)(v:0<sz){m:Nat}(K:x<=y)(H:y<=m)(Y:y<=es.length){b:Bool}
  (hf:b=true->m=y):mM O w (.en b ((es.take y).drop x)) (.slice (if m=x then ad else ad.map (·.add (x*sz))) (y-x) (m-x)):=by
 have i:((es.take y).drop x).length=y-x:=aj
 by_cases h0:(es.take y).drop x=[]
 .rw[h0]at i⊢;rw[<-i];simp at i;refine .en b [] _ (m-x) 0 0 0 (λ_ _=>.bool true) (λF=>?_) ah ah ah ah ah ah
  grind
 .have hx:x<y:=by
   grind
  have A:es≠[]:=by rintro rfl;simp at h0
  generalize M:es.length=ce at G;cases G with
  |en _ _ U c' blk o E f L N S hs q1 W X =>
   have r:E=sz:=by
    let⟨z,l,q⟩:=eD A;have e1:=(hs 0 z (by rw[q];rfl)).1
    rw[q]at n;simp only[iU,cm,aC,beq_iff_eq]at n;omega
   subst r;obtain⟨rfl,T,Q⟩:=S A;rw[if_neg aa,<-i]
   simp only[cB,addr_add];refine oM v T Q ?_ (λF=>?_) aa
   .grind[ic,Nat.add_assoc]
   grind
def Jk{t:TypeId}{q:Array Field}{k:Nat}{f:Field}(r:P.underlying t=some (.struct q))(x:q[k]? = some f)(l:f.offset=off)(n:∃i,P.info? f.type=some i/\i.size≠0)(b o:Nat)(w:World):
  (Instr.fieldAt t (.pointer (some ⟨b,o,none⟩)) k).run P w = .ok (.pointer (some ⟨b,o+off,none⟩)) w:=by
 let⟨i,v,h0⟩:=n;simp only[Instr.fieldAt,Sem.run_bind,run_underlying r,Result.andThen_ok,x,Instr.sureAddr,Sem.run_pure,fieldPlace,sizeOf,typeInfo,run_program,v];rw[if_neg h0];simp[l,addr_add]
def yS{O:ay}{agg:Bool}{cs:List AV}{av:AV}(hs:shape sz agg (cs.drop off)=some av){t:TypeId}(q:jg P t sz=true)(o:rJ P t agg=true){vs:List Value}(hl:cs.length=vs.length)
  (h1:∀u∈vs,u.oneCell'=true) (h2:∀(j:Nat)(y:AV)(u:Value),cs[j]? = some y->vs[j]? = some u->VR β O w y u):∃v,(part t vs.toArray off).run P w = .ok v w/\VR β O w av v:=by
 unfold shape at hs;split at hs
 .cases hs
 .rename_i n;simp at n;split at hs
  .rename_i b;subst b;cases hs;refine⟨.agg (vs.toArray.extract off (off+sz)),by simp[part,tw o,jr q],?_⟩
   have:vs.toArray.extract off (off+sz)=((vs.drop off).take sz).toArray:=by
    grind
   rw[this];refine .agg _ _ aj (λu r=>h1 u (cA (dK r))) λj y u z r=>?_
   grind
  .rename_i b;have l:agg=false:=by simpa using b
   subst l;split at hs
   .rename_i x;have i:off<vs.length:=by omega
    refine⟨vs[off],by simp[part,tw o,i],h2 off av _ ?_ (by simp[i])⟩
    grind[List.head?_eq_getElem?]
   .cases hs
end
variable{sz:Nat}
section
variable{P:Program}{Z:ay}{β:iW}{h:AH}{w:World}
def Bp(R:Rel Z β h w){b v:Nat}(i:iZ h b v=some sz){bd:Bd}(x:β b v=some bd):bd.sz=sz/\0<sz:=by
  unfold iZ at i;split at i
  . rename_i v' n es l;split at i
    . rename_i o;subst o;cases i;let⟨h0,q,e1,r,_⟩:=R.blk b _ l
      grind
    . cases i
  . rename_i v' n es l;split at i
    . rename_i o;subst o;cases i;let⟨h0,q,e1,r,_⟩:=R.blk b _ l
      grind
    . cases i
  . cases i
def DN(P:Program)(w:World)(argTypes:Array TypeId)(x:Value)(size n:Nat)(news:List Value):Prop :=
  (∃u d,argTypes[1]? = some u/\P.underlying u=some d/\(match d with | .int _=>False | _=>True)/\(Builtin.lenOf x).run P w = .ok n w/\
    (∀w':World,w'.heap=w.heap->(Builtin.firstCells size n x).run P w' = .ok news.toArray w'))\/
  (∃u k b i,argTypes[1]? = some u/\P.underlying u=some (.int k)/\x = .int b i/\0<=i/\i.toNat=n/\i<=140737488355328)
def uC (t ty e:TypeId) (i:TypeInfo) (z:Value) (Y:P.underlying t=some (.slice e)) (K:P.info? e=some i) (hz:i.zero=some z) (hzs:z.cells.size=i.size)
    (argTypes:Array TypeId) (y:argTypes[0]? = some t) (ad:Option Addr) (b l:Nat) (x:Value) (n:Nat) (news A:List Value) (S4:DN P w argTypes x i.size n news)
    (hnews:(∃u d,argTypes[1]? = some u/\P.underlying u=some d/\(match d with | .int _=>False | _=>True))\/news=(Builtin.zeroCells z.cells n).toList)
    (E:∀w':World,w'.heap=w.heap->(Builtin.firstCells i.size b (.slice ad b l)).run P w' = .ok A.toArray w')
    (h63:b+n<=140737488355328) (v:(b+n)*i.bytes<=140737488355328) :
    (b+n<=l->(Builtin.append_ argTypes ty #[.slice ad b l,x]).run P w=((match ad with | some a=>storeCells (a.add (b*i.size)) news | none=>pure ():Sem Unit).run P w).andThen λ_ w'=>.ok (.slice ad (b+n) l) w')/\
    (¬b+n<=l->(Builtin.append_ argTypes ty #[.slice ad b l,x]).run P w = .ok (.slice (some ⟨w.heap.size,0,none⟩) (b+n) (grownCap w (b+n) l e))
        (w.drew.alloc (.cells (A.toArray++news.toArray++Builtin.zeroCells z.cells (grownCap w (b+n) l e-(b+n))) e))):=by
  have akg:∀x:World,x.drew.heap=x.heap:=λ_=>rfl
  have X:¬(b+n<=l)->¬(Builtin.nextslicecap (b+n) l*i.bytes>2 ^ 48):=by
    intro hg;have:=growslice_fits (need:=b+n) (old:=l) aa v
    omega
  have N:¬(((b+n:Nat):Int)>IntKind.i64.max):=by
    have:IntKind.i64.max=9223372036854775807:=by rfl
    rw[this];omega
  have L:∀(q:Question),q = .appendCap (b+n) l e->q.forced=false:=by rintro _ rfl;rfl
  rcases S4 with⟨u,d,Q,W,U,G,T⟩ | ⟨u,k,kk,ii,Q,W,rfl,h0,S,hsmall⟩
  . constructor
    . intro o;have hf:=T w rfl
      cases d<;>first
        |exact U.elim
        | (simp only [Builtin.append_, y, bw, aS, bY, Sem.run_bind, run_underlying Y, Result.andThen_ok, sizeOf, typeInfo, run_program, K, Sem.run_pure, Q, run_underlying W,
            bq,if_false,G,ef,if_true,o,hf]
           cases ad<;>simp)
    . intro o;have hf:=T {w with drawn:=w.drawn+1} rfl
      have ho:=E {w with drawn:=w.drawn+1} rfl
      have hc:=L _ rfl;have h4:=X o
      cases d<;>first
        |exact U.elim
        | (simp only [Builtin.append_, y, bw, aS, bY, Sem.run_bind, run_underlying Y, Result.andThen_ok, sizeOf, typeInfo, run_program, K, Sem.run_pure, Q, run_underlying W,
            bq,if_false,G,ef,if_true,o,N,false_and,h4,run_choose,hc,run_askRoom,ho,hf,iF K hz,newRow,run_newObj]
           simp[grownCap];rfl)
  . have r:news=(Builtin.zeroCells z.cells n).toList:=by
      grind
    subst r;have hw:IntKind.i64.wrap ii=ii:=wrap_small h0 aa
    have F:¬ii<0:=aa
    have H:¬(ii*(i.bytes:Int)>2 ^ 48):=by
      grind
    have e1:∀w',(asInt (.int kk ii)).run P w' = .ok ii w':=λ_=>rfl
    have M:∀w':World,((if n*i.size=0 then pure #[]else do pure (Builtin.zeroCells (<-zeroValue e).cells n)):Sem (Array Value)).run P w' = .ok (Builtin.zeroCells z.cells n) w':=by
      intro w'
      by_cases O:n*i.size=0
      . have:Builtin.zeroCells z.cells n = #[]:=by
          apply ei;rw[size_zeroCells,hzs];exact O
        simp[O,this]
      . simp[O,iF K hz]
    constructor
    . intro o;simp only[Builtin.append_,y,bw,aS,bY,Sem.run_bind,run_underlying Y,Result.andThen_ok,sizeOf,typeInfo,run_program,K,Sem.run_pure,Q,run_underlying W,
        if_true,e1,hw,F,if_false,H,S,eA,bq,o,M]
      cases ad with
      |none=>simp
      |some a=>simp
    . intro o;simp only[Builtin.append_,y,bw,aS,bY,Sem.run_bind,run_underlying Y,Result.andThen_ok,sizeOf,typeInfo,run_program,K,Sem.run_pure,Q,run_underlying W,
        if_true,e1,hw,F,if_false,H,S,eA,bq,o]
      simp only[N,false_and,if_false,Sem.run_bind,Sem.run_pure,Result.andThen_ok,run_program,K,X o,run_choose,L _ rfl,bq,run_askRoom,E {w with drawn:=w.drawn+1} rfl,M,
        iF K hz,newRow,run_newObj]
      simp[grownCap];rfl
def tC{O:ay}{ad:Option Addr}{n c:Nat}{es:List AV}(i:es.length=n)(l:es≠[]->∃blk o,ad=some ⟨blk,o,none⟩/\ic O w (λk=>w.cell? ⟨blk,o+k,none⟩) sz es):
    ∃b:List Value,b.length=n*sz/\(∀u∈b,u.oneCell'=true)/\ic O w (λk=>b[k]?) sz es/\∀w':World,w'.heap=w.heap->(Builtin.firstCells sz n (.slice ad n c)).run P w' = .ok b.toArray w':=by
  by_cases h0:es=[]
  . subst h0;simp at i;subst i;refine⟨[],ah,ah,.nil,λw' _=>?_⟩
    cases ad<;>simp[Builtin.firstCells,loadCells,loadCellsFrom]
  . obtain⟨blk,o,rfl,hs⟩:=l h0;let⟨vs,l1,l2,v,r⟩:=hs.list;refine⟨vs,by rw[l1,i],v,r,λw' q=>?_⟩
    exact run_firstCells_some w' sz n ⟨blk,o,none⟩ n c vs (by rw[l1,i]) (λj u x=>by
      rw[addr_add];have:=l2 j u x
      simpa[World.cell?,q]using this)
def ic.app{O:ay}{vs i:List Value}{es es':List AV}(h1:ic O w (λk=>vs[k]?) sz es)(hl:vs.length=es.length*sz)(h2:ic O w (λk=>i[k]?) sz es'):ic O w (λk=>(vs++i)[k]?) sz (es++es'):=by
  have l:∀ {b:List Value},ic O w (λk=>b[k]?) sz es'->True:=λ_=>trivial
  refine ic.append (h1.congr λk hk=>?_) (h2.congr λk _=>?_)
  . grind
  grind
def afJ(β:iW)(b v:Nat)(e:TypeId):Prop:=∀bd,β b v=some bd->bd.cb≠none->bd.ty=e/\bd.base=0
def tg (R:Rel Z β h w) {t ty e:TypeId} {bytes:Nat} (ht:P.underlying t=some (.slice e)) {i:TypeInfo} {z:Value} (hi:P.info? e=some i) (hz:i.zero=some z) (hzs:z.cells.size=i.size) (H:i.size=sz) (hby:i.bytes=bytes) (Ns:0<sz)
    {argTypes:Array TypeId} (NA:argTypes[0]? = some t) {s av:AV} {l:List AV} {h':AH} (A:append h sz bytes s l=some (av,h')) {v x:Value} (hv:VR β (Own Z β h) w s v) {news:List Value}
    (S4:DN P w argTypes x sz l.length news) (S:(∃u d,argTypes[1]? = some u/\P.underlying u=some d/\(match d with | .int _=>False | _=>True))\/news=(Builtin.zeroCells z.cells l.length).toList)
    (Q:news.length=l.length*sz) (Wl:ic (Own Z β h) w (λk=>news[k]?) sz l) (Wm:∀u∈news,u.oneCell'=true) :
    ∃v' w' β',(Builtin.append_ argTypes ty #[v,x]).run P w = .ok v' w'/\Rel Z β' h' w'/\Fr Z β h w β' h' w'/\VR β' (Own Z β' h') w' av v'/\∀r T o n,av = .own r T o n->(∀b v o n,s = .own b v o n->o=0/\afJ β b v e)->afJ β' r T e:=by
  cases s with
  |en full es =>
    cases full with
    |false=>simp[append]at A
    |true =>
      simp only[append]at A;split at A
      . rename_i N;let⟨hne,AN,adL,hb,h63⟩:=N;cases A;obtain⟨ad,c,rfl,hc,hsrc⟩:=kE R (a:=.en true es) rfl hv;have hfull:c=es.length:=by
          generalize hce:es.length=ce at hv;cases hv.lS with
          |en _ _ _ _ _ _ _ _ hf=>have:=hf rfl;omega
        subst hfull
        let⟨q,o1,o2,o3,o4⟩:=tC (P:=P) (O:=Own Z β h) (w:=w) (ad:=ad) (c:=es.length) (sz:=sz) (es:=es) rfl (λadR=>by
          let⟨blk,o,sz',_,e1,e2⟩:=hsrc adR;exact⟨blk,o,e1,e2.iU AN⟩)
        let⟨r1,r2⟩:=uC (P:=P) (w:=w) t ty e i z ht hi hz hzs argTypes NA ad es.length es.length x l.length news q (by rw[H];exact S4) S (by rw[H];exact o4) h63 (by rw[hby];exact hb)
        by_cases F:es.length+l.length<=es.length
        . have hn0:l=[]:=aV aa
          subst hn0;have M:es=[]:=by
            grind
          subst M;have G:news=[]:=aV (ak Q)
          subst G;let⟨β',Y,X,W,bd0,U,k5⟩:=R.tF sz Ns;refine⟨.slice ad 0 0,w,β',?_,ak Y,ak X,by simpa using W ad,λr T o n e _ bd y hne=>(by cases e;rw[U]at y;cases y;exact absurd k5 hne)⟩
          have:=r1 F;simp only[aR,cK]at this;simp only[aR];rw[this];cases ad<;>simp[storeCells]
        . have hr:=r2 F;have hge:=grownCap_ge w (es.length+l.length) es.length e
          have K:(q.toArray++news.toArray++Builtin.zeroCells z.cells (grownCap w (es.length+l.length) es.length e-(es.length+l.length))).size=grownCap w (es.length+l.length) es.length e*sz:=by
            simp only[fQ,dU,size_zeroCells,hzs,H,o1,Q,<-bL]
            congr 1;omega
          let⟨β',Y,X,W,bd0,U,k5⟩:=R.y9 (w':=w.drew.alloc (.cells (q.toArray++news.toArray++Builtin.zeroCells z.cells (grownCap w (es.length+l.length) es.length e-(es.length+l.length))) e)) sz Ns (es++l) _ e rfl rfl rfl rfl
            (by rw[K];simp only[aG];grind)
            ((o3.app o1 Wl).congr λk hk=>by
              have hlt:k<(q++news).length:=by simp only[aG,o1,Q,<-bL]at hk⊢;exact hk
              grind)
          exact⟨_,_,β',hr,Y,X,W _ _ hge (by grind),λr T o n e _ bd y _=>(by cases e;rw[U]at y;cases y;exact k5)⟩
      . cases A
  |own b T o n =>
    simp only[append]at A;split at A
    . rename_i v' sz' es M;split at A
      . rename_i N;obtain⟨rfl,rfl,adL,hon,hb,h63⟩:=N;cases A;obtain⟨bd,ad,c,y,rfl,h2⟩:=hv.jL;let⟨_,Lo,q1,q2,q3⟩:=R.blk b _ M;rw[y]at q1;cases q1;let⟨ad',c',e1,hc,hsrc⟩:=kE R (a:=.own b T o n) (es:=(es.drop o).take n) (by simp[elems,M,hon]) hv
        have E:((es.drop o).take n).length=n:=aj
        rw[E]at e1;cases e1
        let⟨q,o1,o2,o3,o4⟩:=tC (P:=P) (O:=Own Z β h) (w:=w) (ad:=ad) (c:=c) (sz:=sz') (es:=(es.drop o).take n) E (λadR=>by
          grind[qQ])
        let⟨r1,r2⟩:=uC (P:=P) (w:=w) t ty e i z ht hi hz hzs argTypes NA ad n c x l.length news q (by rw[H];exact S4) S (by rw[H];exact o4) h63 (by rw[hby];exact hb)
        by_cases F:n+l.length<=c
        . have hr:=r1 F
          rcases h2 with⟨hc0,hn0⟩ | ⟨cb,p1,p2,p3,p4⟩
          . subst hc0 hn0;have hnA:l=[]:=aV aa
            subst hnA;have G:news=[]:=aV (ak Q)
            subst G;let⟨β',Y,X,W,bd0,U,k5⟩:=R.Gr M;refine⟨.slice ad 0 0,w,β',?_,ak Y,ak X,by simpa using W ad,λr T o n e _ bd y hne=>(by cases e;rw[U]at y;cases y;exact absurd k5 hne)⟩
            rw[hr];cases ad<;>simp[storeCells]
          . rcases q3 with⟨q3,_⟩ | ⟨c2,cur,g1,g2,g3,g4,g5⟩
            . rw[p1]at q3;cases q3
            rw[p1]at g1;cases g1;subst q2;subst p2;have hroom:bd.base+o*bd.sz+c*bd.sz<=cur.size:=by grind
            have Wj:(n+l.length)*bd.sz<=c*bd.sz:=bl _ F;have akx:news.length=l.length*bd.sz:=Q;rw[bL]at Wj;have L:bd.base+o*bd.sz+n*bd.sz+news.length<=cur.toList.length:=aj
            have ajD:ic (Own Z β h) w (λk=>(over cur.toList (bd.base+o*bd.sz+n*bd.sz) news)[bd.base+o*bd.sz+k]?) bd.sz ((es.drop o).take n++l):=by
              refine ic.append (((ic.drop g5 o).take n).congr λk hk=>?_) (Wl.congr λk hk=>?_)
              . rw[E]at hk;rw[iG _ _ _ L,if_neg aa]
                grind
              . rw[iG _ _ _ L,E,if_pos aa]
                congr 1;omega
            let⟨β',Y,X,W,bd0,U,k5⟩:=R.ry M y p1 g2 (over cur.toList (bd.base+o*bd.sz+n*bd.sz) news) (by grind[ig]) o (es':=(es.drop o).take n++l)
              (by simp only[aG,E,bL];omega) (ajD.congr λk _=>ah)
            refine⟨_,_,β',?_,Y,X,W (n+l.length) c F hroom,λr T o' n' e hty Lo ad4 _=>(by cases e;rw[U]at ad4;cases ad4;let⟨ho,ht⟩:=hty _ _ _ _ rfl;let⟨t1,t2⟩:=ht _ y (by rw[p1];simp);exact⟨k5.1.trans t1,by rw[k5.2,t2,ho];simp⟩)⟩
            rw[hr];have hst:=run_storeCells_at P cb (bd.base+o*bd.sz+n*bd.sz) bd.ty news 0 cur w g2 (ak L) Wm
            simp only[cK]at hst;simp only[addr_add,H];rw[hst];rfl
        . have hr:=r2 F;have hge:=grownCap_ge w (n+l.length) c e
          have K:(q.toArray++news.toArray++Builtin.zeroCells z.cells (grownCap w (n+l.length) c e-(n+l.length))).size=grownCap w (n+l.length) c e*sz':=by
            simp only[fQ,dU,size_zeroCells,hzs,H,o1,Q,<-bL]
            congr 1;omega
          let⟨β',Y,X,W,bd0,U,k5⟩:=R.Ar (w':=w.drew.alloc (.cells (q.toArray++news.toArray++Builtin.zeroCells z.cells (grownCap w (n+l.length) c e-(n+l.length))) e)) (cur:=q.toArray++news.toArray++Builtin.zeroCells z.cells (grownCap w (n+l.length) c e-(n+l.length))) (elem:=e) M (es':=(es.drop o).take n++l) rfl rfl rfl rfl
            (by rw[K];simp only[aG,E];grind)
            ((o3.app (by rw[o1,E]) Wl).congr λk hk=>by
              have hlt:k<(q++news).length:=by grind[List.length_append,Nat.add_mul]
              grind)
          exact⟨_,_,β',hr,Y,X,W _ _ hge (by grind),λr T o n e _ bd y _=>(by cases e;rw[U]at y;cases y;exact k5)⟩
      . cases A
    . cases A
  |_=>simp[append]at A
def rz(R:Rel Z β h w){t ty e:TypeId}{bytes:Nat}(M:P.underlying t=some (.slice e)){i:TypeInfo}{z:Value}(N:P.info? e=some i)(K:i.zero=some z)(o:z.cells.size=i.size)(q:i.size=sz)(E:i.bytes=bytes)(n:0<sz)
    {argTypes:Array TypeId} (G:argTypes[0]? = some t) {s av:AV} {b:List AV} {h':AH} (H:append h sz bytes s b=some (av,h')) {v x:Value} (L:VR β (Own Z β h) w s v) {news:List Value}
    (F:DN P w argTypes x sz b.length news) (l:(∃u d,argTypes[1]? = some u/\P.underlying u=some d/\(match d with | .int _=>False | _=>True))\/news=(Builtin.zeroCells z.cells b.length).toList)
    (y:news.length=b.length*sz) (r:ic (Own Z β h) w (λk=>news[k]?) sz b) (A:∀u∈news,u.oneCell'=true):gY P Z β h w (Builtin.append_ argTypes ty #[v,x]) av h':=by
  obtain⟨v',w',β',h1,h2,h3,h4,_⟩:=tg R M N K o q E n G H L F l y r A;exact⟨v',w',β',h1,h2,h3,h4⟩
end
variable{sz:Nat}
section
variable{P:Program}{Z:ay}{β:iW}{h:AH}{w:World}
def EK{α:Type}(l:List α)(o:Nat):over l o []=l:=by simp[over]
theorem ic.over{O:ay}{vs l:List Value}{base:Nat}{es es':List AV}{o:Nat}(h1:ic O w (λk=>vs[base+k]?) sz es)(h2:ic O w (λk=>l[k]?) sz es')(r:l.length=es'.length*sz)(q:o+es'.length<=es.length)
  (hl:base+es.length*sz<=vs.length):ic O w (λk=>(Am.over vs (base+o*sz) l)[base+k]?) sz (Am.over es o es'):=by
 have n:(o+es'.length)*sz<=es.length*sz:=bl _ q;rw[bL]at n;have b:base+o*sz+l.length<=vs.length:=aa
 have e0:Am.over es o es'=es.take o++(es'++es.drop (o+es'.length)):=by simp[Am.over]
 rw[e0];have i:(es.take o).length=o:=aj
 refine ic.append ((h1.take o).congr λk hk=>?_) (ic.append (h2.congr λk hk=>?_) ((ic.drop h1 (o+es'.length)).congr λk hk=>?_))
 .rw[i]at hk;rw[iG _ _ _ b,if_neg aa]
 .rw[i,iG _ _ _ b,if_pos aa]
  congr 1;omega
 .rw[i,iG _ _ _ b,if_neg aa,bL]
  congr 1;omega
def Oi(R:Rel Z β h w){dT elem ty:TypeId}{argTypes:Array TypeId}(NA:argTypes[0]? = some dT)(hd:P.underlying dT=some (.slice elem))(W:jg P elem sz=true){x:AV}{i:List AV}(hs:elems h x=some i){u v:Value}(hu:VR β (Own Z β h) w x u)
  {b S o n z l:Nat} {es:List AV} (hv:VR β (Own Z β h) w (.own b S o n) v) (M:h[b]? = some (.row z l es)) (U:S=z) (E:l=sz) (Y:iU sz i=true) (hon:o+n<=es.length) :
  gY P Z β h w (Builtin.copy_ argTypes ty #[v,u]) (.int .i64 (min i.length n:Nat)) (h.set b (.row z l (Am.over es o (i.take n)))):=by
 subst U E;obtain⟨ad,c,rfl,hc,G⟩:=kE R hs hu;obtain⟨bd,r,c',N,rfl,h2⟩:=hv.jL;let⟨Ns,Lo,q1,q2,Q⟩:=R.blk b _ M;rw[N]at q1;cases q1;have hm:(i.take n).length=min i.length n:=by simp[Nat.min_comm]
 let⟨news,o1,o2,o3,o4⟩:=tC (P:=P) (O:=Own Z β h) (w:=w) (ad:=ad) (c:=c) (sz:=l) (es:=i.take n) hm (λhne=>by
  have L:i≠[]:=by rintro rfl;simp at hne
  let⟨blk,oo,sz2,_,e1,e2⟩:=G L;exact⟨blk,oo,e1,(e2.iU Y).take n⟩)
 have hf:(Builtin.firstCells l (min i.length n) (.slice ad i.length c)).run P w = .ok news.toArray w:=by
  have:=o4 w rfl;cases ad<;>simpa[Builtin.firstCells]using this
 have y:(Builtin.copy_ argTypes ty #[.slice r n c',.slice ad i.length c]).run P w=((match r with | some a=>storeCells a news | none=>pure ():Sem Unit).run P w).andThen λ_ w'=>.ok (goInt (min i.length n:Nat)) w':=by
  simp only[Builtin.copy_,NA,bw,aS,bY,Sem.run_bind,run_underlying hd,Result.andThen_ok,jr W,Builtin.lenOf,Sem.run_pure];have e1:Nat.min i.length n=min i.length n:=rfl;rw[e1,hf];cases r<;>simp
 by_cases hm0:min i.length n=0
 .have K:i.take n=[]:=aV aa
  have q:news=[]:=aV (by rw[o1,hm0];simp)
  subst q;rw[K,EK]
  have H:h.set b (.row S l es)=h:=by
   apply dm
   grind
  rw[H];refine gY.of R (v:=goInt (min i.length n:Nat)) ?_ (.of_int _ _);rw[y];cases r<;>simp[storeCells]
 .rcases h2 with⟨_,hn0⟩ | ⟨cb,T,p2,p3,p4⟩
  .omega
  .rcases Q with⟨Q,_⟩ | ⟨c2,cur,g1,g2,g3,g4,g5⟩
   .rw[T]at Q;cases Q
   rw[T]at g1;cases g1;subst q2 p2;have hle:(o+min i.length n)*bd.sz<=es.length*bd.sz:=bl _ aa
   rw[bL]at hle;have A:bd.base+o*bd.sz+news.length<=cur.toList.length:=aj
   have X:=ic.over (vs:=cur.toList) (base:=bd.base) (o:=o) (es':=i.take n) (ic.congr g5 λk _=>ah) o3 (by rw[o1,hm]) (by rw[hm];omega) aj
   let⟨W1,W2⟩:=R.vU M N T g2 (Am.over cur.toList (bd.base+o*bd.sz) news) (by grind[ig]) (es':=Am.over es o (i.take n)) (by grind[ig]) (ic.congr X λk _=>ah)
   refine⟨goInt (min i.length n:Nat),_,β,?_,W1,W2,.of_int _ _⟩;rw[y];have F:=run_storeCells_at P cb (bd.base+o*bd.sz) bd.ty news 0 cur w g2 (ak A) o2
   simp only[cK]at F;dsimp only;rw[F];rfl
def Rr(R:Rel Z β h w){t elem ty:TypeId}(hd:P.underlying t=some (.slice elem))(hsz:jg P elem sz=true){zero:AV}{i:TypeInfo}{z:Value}(hi:P.info? elem=some i)(W:i.zero=some z)(A:z.cells.size=i.size)(hev:Tn z zero=true)
  {b S o n r q:Nat} {es:List AV} {v:Value} (hv:VR β (Own Z β h) w (.own b S o n) v) (L:h[b]? = some (.row r q es)) (Y:S=r) (F:q=sz) (hon:o+n<=es.length) :
  gY P Z β h w (Builtin.clear_ #[t] ty #[v]) (.iV []) (h.set b (.row r q (Am.over es o (List.replicate n zero)))):=by
 subst Y F;obtain⟨bd,ad',c',M,rfl,h2⟩:=hv.jL;let⟨Ns,Lo,q1,q2,N⟩:=R.blk b _ L;rw[M]at q1;cases q1;have K:i.size=q:=by
  grind[jg]
 let⟨z1,z2,z3⟩:=oy (O:=Own Z β h) (w:=w) hev n;have E:VR β (Own Z β h) w (.iV []) (.tuple #[]):=.iV [] [] rfl (λj y u X=>by simp at X)
 by_cases hn0:n=0
 .subst hn0
  have H:h.set b (.row S q es)=h:=by
   apply dm
   grind
  rw[List.replicate_zero,EK,H];refine gY.of R (v:=.tuple #[]) ?_ E;cases ad'<;>simp[Builtin.clear_,run_underlying hd]
 .rcases h2 with⟨_,h2⟩ | ⟨cb,T,p2,p3,p4⟩
  .omega
  .rcases N with⟨N,_⟩ | ⟨c2,cur,g1,g2,g3,g4,g5⟩
   .rw[T]at N;cases N
   rw[T]at g1;cases g1;subst q2 p2;have hle:(o+n)*bd.sz<=es.length*bd.sz:=bl _ aa
   rw[bL]at hle;obtain⟨news,l⟩:∃news,news=(Builtin.zeroCells z.cells n).toList:=⟨_,rfl⟩;have U:z.cells.size=bd.sz:=by rw[A,K]
   .have o1:news.length=n*bd.sz:=by rw[l];simp[size_zeroCells,U]
    have x:bd.base+o*bd.sz+news.length<=cur.toList.length:=aj
    have Q:ic (Own Z β h) w (λk=>news[k]?) bd.sz (List.replicate n zero):=by
     grind
    have hsa:=ic.over (vs:=cur.toList) (base:=bd.base) (o:=o) (es':=List.replicate n zero) (ic.congr g5 λk _=>ah) Q (by rw[o1];simp) aj aj
    let⟨W1,W2⟩:=R.vU L M T g2 (Am.over cur.toList (bd.base+o*bd.sz) news) (by grind[ig]) (es':=Am.over es o (List.replicate n zero)) (by grind[ig]) (ic.congr hsa λk _=>ah)
    refine⟨.tuple #[],_,β,?_,W1,W2,.iV [] [] rfl (λj y u X=>by simp at X)⟩
    have G:=run_storeCells_at P cb (bd.base+o*bd.sz) bd.ty news 0 cur w g2 (ak x) (λu hu=>aJ.1 z3 u (l▸hu))
    simp only[cK]at G;obtain⟨n',rfl⟩:∃n',n=n'+1:=⟨n-1,aa⟩
    simp only[Builtin.clear_,bw,aS,Sem.run_bind,run_underlying hd,Result.andThen_ok,iF hi W,<-l,G,Sem.run_pure];rfl
def Om(R:Rel Z β h w){t elem ty:TypeId}(q:P.underlying t=some (.slice elem)){v:Value}{full:Bool}(n:VR β (Own Z β h) w (.en full []) v):gY P Z β h w (Builtin.clear_ #[t] ty #[v]) (.iV []) h:=by
 have i:=n.lS;generalize b:([]:List AV)=es at i;cases i with
 |en _ _ a c blk o sz f r x z hs h1 h3 h2 =>
  subst b;refine gY.of R (v:=.tuple #[]) ?_ (.iV [] [] rfl (λj y u l=>by simp at l))
  cases a<;>simp[Builtin.clear_,run_underlying q]
def KO(R:Rel Z β h w){q elem ty:TypeId}{argTypes:Array TypeId}(l:argTypes[0]? = some q)(A:P.underlying q=some (.slice elem))(i:jg P elem sz=true){x:AV}{b:List AV}(hs:elems h x=some b){u v:Value}(y:VR β (Own Z β h) w x u)
  {full:Bool} (r:VR β (Own Z β h) w (.en full []) v):gY P Z β h w (Builtin.copy_ argTypes ty #[v,u]) (.int .i64 0) h:=by
 obtain⟨ad,c,rfl,F,o⟩:=kE R hs y;obtain⟨n,G,rfl,E,_⟩:=kE R (a:=.en full []) rfl r;refine gY.of R (v:=goInt 0) ?_ (.of_int _ _)
 have z:(Builtin.firstCells sz 0 (.slice ad b.length c)).run P w = .ok #[] w:=by
  cases ad<;>simp[Builtin.firstCells,loadCells,loadCellsFrom]
 simp only[Builtin.copy_,l,bw,aS,bY,Sem.run_bind,run_underlying A,Result.andThen_ok,jr i,Builtin.lenOf,Sem.run_pure];have e1:Nat.min b.length ([]:List AV).length=0:=ah
 rw[e1,z];cases n<;>simp[storeCells]
def Qe{isMax:Bool}{x y av:AV}(hx:Z1 isMax x y=some av){u v:Value}(i:VR β (Own Z β h) w x u)(b:VR β (Own Z β h) w y v):
  ∃q,((if isMax then Builtin.max2 u v else Builtin.min2 u v):Sem Value).run P w = .ok q w/\VR β (Own Z β h) w av q:=by
 cases x<;>cases y<;>simp only[Z1]at hx<;>try (cases hx;done)
 cases hx;rw[i.jF,b.jF];refine⟨_,?_,.of_int _ _⟩;cases isMax<;>simp[Builtin.max2,Builtin.min2]
def M0{isMax:Bool}:∀(xs:List AV)(b:List Value){x av:AV}{u:Value},uv isMax x xs=some av->VR β (Own Z β h) w x u->xs.length=b.length->(∀(j:Nat)(y:AV)(q:Value),xs[j]? = some y->b[j]? = some q->VR β (Own Z β h) w y q)->
  ∃q,(b.foldlM (if isMax then Builtin.max2 else Builtin.min2) u:Sem Value).run P w = .ok q w/\VR β (Own Z β h) w av q
 | [],b,x,av,u,hx,l,hl,_=>by
  have:b=[]:=aV (ak hl.symm)
  subst this;simp only[uv]at hx;simp_all
 |y::xs,b,x,av,u,hx,l,hl,i=>by
  cases b with
  |nil=>simp at hl
  |cons q b =>
   simp only[uv,aD]at hx;let⟨z,o,hx⟩:=hx;let⟨p,A,p2⟩:=Qe (P:=P) o l (i 0 y q rfl rfl);let⟨r,v,n⟩:=M0 xs b hx p2 (ak hl) (λj y q h1 h2=>i (j+1) y q (ak h1) (ak h2))
   refine⟨r,?_,n⟩;rw[List.foldlM_cons];simp only[Sem.run_bind]
   have:((if isMax then Builtin.max2 else Builtin.min2) u q:Sem Value).run P w = .ok p w:=by
    grind
   simp_all
def jP:List Operand->List AO->Bool
 | [],[]=>true
 |x::l,y::b=>kj x y&&jP l b
 |_,_=>false
def lJ{e:Env}{a:Act}{n:Nat}(G:Gl (Own Z β h) w)(E:iP Z β h w e a n):∀ {xs:List Operand} {i:List AO},jP xs i=true->(getAll e i).length=(xs.map a.eval).length/\∀(j:Nat)(y:AV)(u:Value),(getAll e i)[j]? = some y->(xs.map a.eval)[j]? = some u->VR β (Own Z β h) w y u
 | [],[],_=>⟨rfl,by simp[getAll]⟩
 |x::xs,y::i,b=>by
  simp only[jP,aC]at b;let⟨h1,h2⟩:=b;let⟨q1,r⟩:=lJ G E h2;refine⟨by simp[getAll,q1],λj q u l o=>?_⟩
  cases j with
  |zero=>simp[getAll]at l o;subst l o;exact gW G E h1
  |succ j=>exact r j q u (by simpa[getAll]using l) (ak o)
 | [],_::_,b=>by simp[jP]at b
 |_::_,[],b=>by simp[jP]at b
end
end Go.Am
