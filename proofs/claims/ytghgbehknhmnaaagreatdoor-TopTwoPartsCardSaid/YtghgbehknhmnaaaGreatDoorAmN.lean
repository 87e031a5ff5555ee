/- Part of the proof that TopTwoPartsCard holds. -/
import Derived.Test.YtghgbehknhmnaaaGreatDoorAmJ
import Derived.Laws.BytesString
import Derived.Laws.Slices
set_option linter.all false
namespace Go.Am
variable{sz n len:Nat}{O:az}
def iO.set{w:World}{vs:List Value}{es:List AV}(hs:iO O w (λk=>vs[k]?) sz es)(hl:vs.length=es.length*sz){i:Nat}(G:i<es.length){x:AV}{n:List Value}
  (E:x.cells.length=sz) (U:n.length=sz) (h1:∀u∈n,u.oneCell'=true) (h2:∀(j:Nat)(y:AV)(u:Value),x.cells[j]? = some y->n[j]? = some u->oF O w y u) :
  iO O w (λk=>(over vs (i*sz) n)[k]?) sz (es.set i x):=by
 have z:i*sz+sz<=vs.length:=by
  have:(i+1)*sz<=es.length*sz:=br _ G;rw[bT]at this;omega
 have b:i*sz+n.length<=vs.length:=af
 intro r x1 l
 by_cases q:r=i
 .subst q;rw[aR G]at l;cases l;refine⟨E,λj y v=>?_⟩
  have F:j<sz:=by rw[<-E];exact(aD.1 v).1
  dsimp only;rw[jh _ _ _ b,if_pos af]
  have Q:r*sz+j-r*sz=j:=af
  rw[Q];have o:j<n.length:=af
  exact⟨n[j],by simp[o],h1 _ (aP o),h2 j y n[j] v (by simp[o])⟩
 .rw[aI (Ne.symm q)]at l;let⟨A,k⟩:=hs r x1 l;refine⟨A,λj y v=>?_⟩
  let⟨H,M,L,K⟩:=k j y v;have F:j<sz:=by rw[<-A];exact(aD.1 v).1
  refine⟨H,?_,L,K⟩;dsimp only;rw[jh _ _ _ b,if_neg]
  .exact M
  .rintro⟨T,S⟩
   have N:=GL (j':=r*sz+j-i*sz) q F af
   omega
def pH{w:World}{z:Value}{a:AV}(E:TE z a=true)(n:Nat):iO O w (λk=>(Builtin.zeroCells z.cells n)[k]?) z.cells.size (List.replicate n a)/\a.cells.length=z.cells.size/\
  ((Builtin.zeroCells z.cells n).toList.all Value.oneCell'=true):=by
 have b:∃l,B9 z.cells.toList l=true/\a.cells=l:=by
  unfold TE at E;split at E
  .exact⟨_,E,rfl⟩
  .let⟨Y,p2,p3⟩:=Eb (O:=O) (w:=w) E;refine⟨[a],?_,?_⟩
   .rw[cells_one p2];simp[B9,E]
   .cases a<;>first | rfl | (simp[AV.jW]at p3;done)
 let⟨l,hl,F⟩:=b;let⟨q1,M,S,X⟩:=qb (O:=O) (w:=w) hl;have q:a.cells.length=z.cells.size:=by rw[F,q1];simp
 have o:∀k,k<n*z.cells.size->(Builtin.zeroCells z.cells n)[k]? = some (z.cells[k%z.cells.size]!):=by
  intro k hk;simp[Builtin.zeroCells,hk]
 refine⟨?_,q,?_⟩
 .intro i x Q;have W:i<n:=by simpa using(aD.1 Q).1
  have H:x=a:=by
   have:=(aD.1 Q).2
   simpa using this.symm
  subst H;refine⟨q,λj y N=>?_⟩
  have L:j<z.cells.size:=by rw[<-q];exact(aD.1 N).1
  have K:i*z.cells.size+j<n*z.cells.size:=by
   have:(i+1)*z.cells.size<=n*z.cells.size:=br _ W;rw[bT]at this;omega
  dsimp only;rw[o _ K];have U:(i*z.cells.size+j)%z.cells.size=j:=by rw[eE,Nat.mul_add_mod,Nat.mod_eq_of_lt L]
  rw[U];have G:z.cells[j]! = z.cells[j]:=by simp[L]
  rw[G];refine⟨_,rfl,M _ ai,S j y z.cells[j] (by rw[<-F];exact N) (by simp[L])⟩
 .rw[aM];intro u T;obtain⟨k,hk,rfl⟩:=ff T;have A:k<n*z.cells.size:=by simpa[size_zeroCells]using hk
  have:=o k A;rw[cF (an hk)]at this
  have e:=bB this;have r:0<z.cells.size:=Nat.pos_of_ne_zero λh0=>by rw[h0]at A;omega
  have v:k%z.cells.size<z.cells.size:=fM _ r;simp only[ig];rw[e,show z.cells[k%z.cells.size]! = z.cells[k%z.cells.size] by simp[v]]
  exact M _ ai
def rS{w:World}{blk o c:Nat}{es:List AV}(q:0<sz)(F:¬O blk)(E:blk<w.heap.size)(hs:iO O w (λk=>w.cell? ⟨blk,o+k,none⟩) sz es){full:Bool}
  (z:full=true->c=es.length) (A:es.length<=c):oF O w (.b9 full es) (.slice (some ⟨blk,o,none⟩) es.length c):=by
 refine .b9 full es _ c blk o sz (λi j=>(w.cell? ⟨blk,o+(i*sz+j),none⟩).getD Go.undef) z A (λ_=>⟨rfl,F,E⟩) (λi x l=>⟨(hs i x l).1,q⟩) ?_ ?_ ?_
 .intro i x l j y n;let⟨u,b,_,_⟩:=(hs i x l).2 j y n;dsimp only at b;rw[cw,b];rfl
 .intro i x l j y n;let⟨u,b,v,_⟩:=(hs i x l).2 j y n;dsimp only at b;simp only[b,dh];exact v
 .intro i x l j y n;let⟨u,b,_,r⟩:=(hs i x l).2 j y n;dsimp only at b;simp only[b,dh];exact r
section
variable{P:Program}{Z:az}{β:jO}{h:AH}{w:World}
def oF.cells{a:AV}{v:Value}(o:oF O w a v)(n:a.j8=true):
  ∃vs:List Value,v.cells=vs.toArray/\a.cells.length=vs.length/\(∀u∈vs,u.oneCell'=true)/\∀(j:Nat)(y:AV)(u:Value),a.cells[j]? = some y->vs[j]? = some u->oF O w y u:=by
 have b:a.cells.all AV.jW=true:=by
  by_cases i:∃cs,a = .agg cs
  .obtain⟨cs,rfl⟩:=i;exact n
  .have r:a.cells=[a]:=by cases a<;>first | rfl | (exact absurd ⟨_,rfl⟩ i)
   rw[r];cases a<;>first | rfl | (simp[AV.j8,AV.jW]at n;done) | (exact absurd ⟨_,rfl⟩ i)
 let⟨vs,e1,A,z,x⟩:=(VR.pure (β:=λ_ _=>none) a v o).cells (by
  rw[aM]at b⊢;exact λy l=>oy (b y l))
 exact⟨vs,e1,A,z,λj y u l q=>(x j y u l q).Fm (aM.1 b y (bL l))⟩
def mI:List (Nat×Operand)->List (Nat×AO)->Bool
 | [],[]=>true
 |(i,x)::l,(j,y)::b=>i==j&&lD x y&&mI l b
 |_,_=>false
def vM{e:Env}{a:Act}{n:Nat}(sz:Nat):∀(ps:List (Nat×Operand))(qs:List (Nat×AO))(es es':List AV)(vs:List Value){h h':AH}(_:Rel Z β h w)(_:jt Z β h w e a n),
  mI ps qs=true->lW e sz qs es h=some (es',h')->vs.length=es.length*sz->iO (Own Z β h) w (λk=>vs[k]?) sz es->(∀u∈vs,u.oneCell'=true)->
  ∃b:List Value,Instr.fill (λi=>some (i*sz,sz)) vs.toArray (ps.map λp=>(p.1,a.eval p.2))=some b.toArray/\b.length=es'.length*sz/\es'.length=es.length/\iO (Own Z β h') w (λk=>b[k]?) sz es'/\
   (∀u∈b,u.oneCell'=true)/\Rel Z β h' w/\Fr Z β h w β h' w
 | [],[],es,es',vs,h,h',R,_,_,o,hl,hs,h1=>by
  simp only[lW]at o;cases o;exact⟨vs,by simp[Instr.fill],hl,rfl,hs,h1,R,Fr.refl _ _ _ _⟩
 | [],_::_,_,_,_,_,_,_,_,v,_,_,_,_=>by simp[mI]at v
 |_::_,[],_,_,_,_,_,_,_,v,_,_,_,_=>by simp[mI]at v
 | (i,x)::ps,(j,y)::qs,es,es',vs,h,h',R,E,v,o,hl,hs,h1=>by
  simp only[mI,aF,beq_iff_eq]at v;obtain⟨⟨rfl,H⟩,v⟩:=v;simp only[lW,aG]at o;let⟨⟨S,h1'⟩,G,o⟩:=o;let⟨R1,K,V1,Q⟩:=wj R G (hU E H);dsimp only at o;split at o
  .rename_i z;let⟨l,M⟩:=z;let⟨L,e1,O,N,e4⟩:=(V1.Cv Q).cells Q;have r:i*sz+sz<=vs.length:=by
    have:(i+1)*sz<=es.length*sz:=br _ M;rw[bT]at this;omega
   have A:=(hs.mono K.stay).set hl M l (O.symm.trans l) N e4;have F:L.length=sz:=O.symm.trans l
   let⟨b,k1,Y,X,W,U,k6,T⟩:=vM sz ps qs (es.set i S) es' (over vs (i*sz) L) R1 (E.fr K) v o
    (by rw[iR _ _ _ af];simpa using hl) A (λu q=>by
     unfold over at q;simp only[aY]at q
     rcases q with(q | q) | q
     .exact h1 u (ei q)
     .exact N u q
     .exact h1 u (cE q))
   refine⟨b,?_,Y,an X,W,U,k6,K.trans T⟩
   simp only[bN];rw[CT (λi=>some (i*sz,sz)) vs.toArray i (a.eval x) _ rfl (by rw[e1];simp[F]) (an r)]
   rw[e1];exact k1
  .cases o
def tQ{e:Env}{sz:Nat}(h:AH):∀(qs:List (Nat×AO))(es es':List AV),mh e sz qs es=some es'->lW e sz qs es h=some (es',h)
 | [],es,es',b=>by simp only[mh]at b;cases b;rfl
 |(i,x)::qs,es,es',b=>by
  simp only[mh]at b;split at b
  .rename_i l;simp only[lW];have:mH h (x.get e)=some (x.get e,h):=by unfold mH;rw[if_pos l.1]
   rw[this];simp only[cg];rw[if_pos l.2];exact tQ h qs _ es' b
  .cases b
def AA(P:Program)(t:TypeId)(len:Nat)(ps:Array (Nat×Operand))(sz:Nat)(zero:AV)(b:Nat)(qs:List (Nat×AO)):Bool :=
 len==b&&decide (0<sz)&&decide (len*sz<=16777216)&&mI ps.toList qs&&match P.underlying t with
 |some (.slice elem)=>jP P elem sz&&zeroV P elem zero&&zero.cells.length==sz
 |_=>false
def JK(R:Rel Z β h w){e:Env}{a:Act}(E:jt Z β h w e a n){t:TypeId}{ps:Array (Nat×Operand)}{zero:AV}{r:Nat}{qs:List (Nat×AO)}(v:AA P t len ps sz zero r qs=true)
  {es:List AV} {h':AH} {full:Bool} (hp:lW e sz qs (List.replicate r zero) h=some (es,h')):iM P Z β h w (Instr.buildSlice t len (ps.map λ(i,x)=>(i,a.eval x))) (.b9 full es) h':=by
 unfold AA at v;simp only[aF,beq_iff_eq,decide_eq_true_eq]at v;obtain⟨⟨⟨⟨rfl,L⟩,U⟩,q⟩,v⟩:=v;have y:(ps.map λ(i,x)=>(i,a.eval x)).toList=ps.toList.map λp=>(p.1,a.eval p.2):=ai
 split at v
 .rename_i elem N;simp only[aF,beq_iff_eq]at v;let⟨⟨hs,G⟩,hzl⟩:=v;let⟨i,z,hi,G,he⟩:=pG G;let⟨z1,z2,z3⟩:=pH (O:=Own Z β h) (w:=w) he len;have l:z.cells.size=sz:=by omega
  rw[l]at z1
  have S:len*sz=0->(Array.range (len*sz)).map (λx=>(#[]:Array Value)[x%(#[]:Array Value).size]!)=Builtin.zeroCells z.cells len:=by
   intro h0;unfold Builtin.zeroCells;rw[l,h0];simp
  have Q:(Array.range (len*sz)).map (λx=>z.cells[x%z.cells.size]!)=Builtin.zeroCells z.cells len:=by
   unfold Builtin.zeroCells;rw[l]
  let⟨b,K,k2,T,Y,k5,k6,X⟩:=vM sz ps.toList qs (List.replicate len zero) es (Builtin.zeroCells z.cells len).toList R E q hp (by simp[size_zeroCells,l]) (an z1)
   (λu hu=>aM.1 z3 u hu)
  simp at T;let⟨G1,W⟩:=k6.sZ (.cells b.toArray elem);refine⟨.slice (some ⟨w.heap.size,0,none⟩) len len,w.alloc (.cells b.toArray elem),β,?_,G1,X.trans W,?_⟩
  .have F:¬(len*sz>2 ^ 24):=by omega
   simp only[Instr.buildSlice,Sem.run_bind,run_underlying N,Result.andThen_ok,jX hs];rw[if_neg F];simp only[dI]at K
   by_cases h0:len*sz=0
   .rw[if_pos h0];simp only[Sem.run_bind,Sem.run_pure,Result.andThen_ok,y,S h0];rw[K];simp[newRow]
   .rw[if_neg h0];simp only[Sem.run_bind,Sem.run_pure,Result.andThen_ok,y,jq hi G,Q];rw[K];simp[newRow]
  .have A:es.length=len:=T;refine .pure _ _ ?_;have H:(w.alloc (.cells b.toArray elem)).heap[w.heap.size]? = some (.cells b.toArray elem (0,0)):=heap_alloc_new w _;have M:¬Own Z β h' w.heap.size:=by
    rintro(G | ⟨j,hj⟩)
    .have:=k6.xlt _ G;omega
    .have:=k6.ox hj;omega
   have:=rS (O:=Own Z β h') (w:=w.alloc (.cells b.toArray elem)) (blk:=w.heap.size) (o:=0) (c:=len) (es:=es) (full:=full) L M ai
    ((iO.mono W.stay Y).congr λk hk=>by
     rw[cell_of_row _ _ _ _ _ _ H];simp) (λ_=>A.symm) af
   rw[A]at this;exact this
 .cases v
def O3(R:Rel Z β h w){e:Env}{a:Act}(E:jt Z β h w e a n){t:TypeId}{ps:Array (Nat×Operand)}{zero:AV}{q:Nat}{qs:List (Nat×AO)}(r:AA P t len ps sz zero q qs=true)
  {es:List AV} {h':AH} (hp:lW e sz qs (List.replicate q zero) h=some (es,h')):iM P Z β h w (Instr.buildSlice t len (ps.map λ(i,x)=>(i,a.eval x))) (.own h'.length 0 0 es.length) (h'++[.row 0 sz es]):=by
 unfold AA at r;simp only[aF,beq_iff_eq,decide_eq_true_eq]at r;obtain⟨⟨⟨⟨rfl,K⟩,S⟩,o⟩,r⟩:=r;have v:(ps.map λ(i,x)=>(i,a.eval x)).toList=ps.toList.map λp=>(p.1,a.eval p.2):=ai
 split at r
 .rename_i elem L;simp only[aF,beq_iff_eq]at r;let⟨⟨hs,H⟩,hzl⟩:=r;let⟨i,z,hi,H,he⟩:=pG H;let⟨z1,z2,z3⟩:=pH (O:=Own Z β h) (w:=w) he len;have l:z.cells.size=sz:=by omega
  rw[l]at z1
  have N:len*sz=0->(Array.range (len*sz)).map (λx=>(#[]:Array Value)[x%(#[]:Array Value).size]!)=Builtin.zeroCells z.cells len:=by
   intro h0;unfold Builtin.zeroCells;rw[l,h0];simp
  have M:(Array.range (len*sz)).map (λx=>z.cells[x%z.cells.size]!)=Builtin.zeroCells z.cells len:=by
   unfold Builtin.zeroCells;rw[l]
  let⟨b,G,Y,Q,X,k5,k6,W⟩:=vM sz ps.toList qs (List.replicate len zero) es (Builtin.zeroCells z.cells len).toList R E o hp (by simp[size_zeroCells,l]) (an z1)
   (λu hu=>aM.1 z3 u hu)
  simp at Q;have F:es.length=len:=Q;have A:b.length=es.length*sz:=Y
  let⟨β',q1,U,T⟩:=k6.Ah (w':=w.alloc (.cells b.toArray elem)) sz K es b.toArray elem rfl rfl rfl rfl (by rw[eo,A];exact aV _)
   (X.congr λk hk=>ai)
  have hv:=T es.length es.length (aV _) (by rw[eo,A];exact aV _)
  refine⟨_,w.alloc (.cells b.toArray elem),β',?_,q1,W.trans U,hv⟩;rw[F];have y:¬(len*sz>2 ^ 24):=af
  simp only[Instr.buildSlice,Sem.run_bind,run_underlying L,Result.andThen_ok,jX hs];rw[if_neg y];simp only[dI]at G
  by_cases h0:len*sz=0
  .rw[if_pos h0];simp only[Sem.run_bind,Sem.run_pure,Result.andThen_ok,v,N h0];rw[G];simp[newRow]
  .rw[if_neg h0];simp only[Sem.run_bind,Sem.run_pure,Result.andThen_ok,v,jq hi H,M];rw[G];simp[newRow]
 .cases r
def M8(P:Program)(t:TypeId)(sz bytes:Nat)(zero:AV):Bool :=
 decide (0<sz)&&match P.underlying t with
 |some (.slice elem)=>jP P elem sz&&uw P elem bytes&&zeroV P elem zero&&zero.cells.length==sz
 |_=>false
def oK{x:AV}(b:nat? x=some n){v:Value}(l:VR β (Own Z β h) w x v):∃k i,v = .int k i/\0<=i/\i.toNat=n:=by
 cases x with
 |int k i =>
  simp only[nat?]at b;split at b
  .rename_i h0;cases b;exact⟨k,i,l.kE,h0,rfl⟩
  .cases b
 |_=>simp[nat?]at b
def wrap_small{n:Int}(h1:0<=n)(h2:n<=9223372036854775807):IntKind.i64.wrap n=n:=by
 have e:IntKind.i64.wrap n=if decide (n%18446744073709551616>=9223372036854775808)=true then n%18446744073709551616-18446744073709551616 else n%18446744073709551616:=rfl
 rw[e,Int.emod_eq_of_lt h1 af,if_neg ak]
def QE(R:Rel Z β h w){t:TypeId}{bytes:Nat}{zero:AV}(y:M8 P t sz bytes zero=true){l c:AV}{m:Nat}(hl:nat? l=some n)(hc:nat? c=some m)(A:n<=m)
  (hb:m*bytes<=140737488355328) (hm:m<=140737488355328) {u v:Value} (hu:VR β (Own Z β h) w l u) (hv:VR β (Own Z β h) w c v) :
  iM P Z β h w (Instr.makeSlice t u v) (.own h.length 0 0 n) (h++[.row 0 sz (List.replicate n zero)]):=by
 obtain⟨k1,r,rfl,p1,p2⟩:=oK hl hu;obtain⟨k2,o,rfl,p3,p4⟩:=oK hc hv;unfold M8 at y;simp only[aF,decide_eq_true_eq]at y;let⟨G,y⟩:=y;split at y
 .rename_i elem K;simp only[aF,beq_iff_eq]at y;let⟨⟨⟨hs,N⟩,F⟩,hzl⟩:=y;let⟨i,z,H,F,Q⟩:=pG F;have E:i.bytes=bytes:=by simpa[uw,H]using N
  let⟨z1,z2,z3⟩:=pH (O:=Own Z β h) (w:=w) Q n;let⟨y1,y2,y3⟩:=pH (O:=Own Z β h) (w:=w) Q m;have q:z.cells.size=sz:=af
  have b:(Builtin.zeroCells z.cells m).size=m*sz:=by rw[size_zeroCells,q]
  have T:IntKind.i64.wrap r=r:=wrap_small p1 af
  have S:IntKind.i64.wrap o=o:=wrap_small p3 af
  have M:m*sz=0->(Array.range (m*sz)).map (λx=>(#[]:Array Value)[x%(#[]:Array Value).size]!)=Builtin.zeroCells z.cells m:=by
   intro h0;unfold Builtin.zeroCells;rw[q,h0];simp
  have L:(Array.range (m*sz)).map (λx=>z.cells[x%z.cells.size]!)=Builtin.zeroCells z.cells m:=by
   unfold Builtin.zeroCells;rw[q]
  let⟨β',q1,Y,X⟩:=R.Ah (w':=w.alloc (.cells (Builtin.zeroCells z.cells m) elem)) sz G (List.replicate n zero) (Builtin.zeroCells z.cells m) elem rfl rfl rfl rfl
   (by rw[b];simp;exact br _ A) (by
    have:List.replicate n zero=(List.replicate m zero).take n:=by simp[List.take_replicate];omega
    rw[this];rw[q]at y1;exact(iO.take y1 n).congr λk _=>ai)
  refine⟨.slice (some ⟨w.heap.size,0,none⟩) n m,_,β',?_,q1,Y,X n m A (by rw[b];exact aV _)⟩
  have W:¬((i.bytes:Int)*o>2 ^ 48):=by
   rw[E,<-Int.toNat_of_nonneg p3,p4];have:((bytes:Int)*(m:Int))=((m*bytes:Nat):Int):=by rw[eE];rfl
   rw[this];omega
  have U:¬o<0:=af
  have t3:¬r<0:=af
  have t4:¬r>o:=af
  have tl:(decide (o<0)||decide ((i.bytes:Int)*o>2 ^ 48)||decide (r<0)||decide (r>o))=false:=by
   simp only[W,U,t3,t4,decide_false,fT]
  have e1:(asInt (.int k1 r)).run P w = .ok r w:=rfl;have e2:(asInt (.int k2 o)).run P w = .ok o w:=rfl;simp only[Instr.makeSlice,Sem.run_bind,run_underlying K,Result.andThen_ok,e1,e2,typeInfo,run_program,H,Sem.run_pure,T,S];rw[if_neg (by rw[tl];simp)]
  simp only[Sem.run_bind,Result.andThen_ok,run_askRoom,p4,jX hs,p2]
  by_cases h0:m*sz=0
  .rw[if_pos h0];simp only[Sem.run_bind,Sem.run_pure,Result.andThen_ok,M h0];simp[newRow]
  .rw[if_neg h0];simp only[Sem.run_bind,Sem.run_pure,Result.andThen_ok,jq H F,L];simp[newRow]
 .cases y
end
variable{n x y sz len cap off:Nat}{i l b:Option AO}
section
variable{P:Program}{Z:az}{β:jO}{h:AH}{w:World}
def OI(R:Rel Z β h w){s d:TypeId}{k:IntKind}(hs:(P.underlying s).isSome=true)(l:P.underlying d=some (.int k)){b:IntKind}{n:Int}{v:Value}(i:VR β (Own Z β h) w (.int b n) v):
  iM P Z β h w (convert s d v) (.int k (k.wrap n)) h:=by
 have:=i.kE;subst this;let⟨o,hs⟩:=bM.1 hs;refine iM.of R (v:=.int k (k.wrap n)) ?_ (.of_int _ _);simp only[convert,Sem.run_bind,run_underlying hs,run_underlying l,Result.andThen_ok];cases o<;>rfl
def yG:∀ {es:List AV} {s:au},oC es=some s->∃i:ay,es=i.map (AV.int .u8)/\s=i.map λn=>UInt8.ofNat n.toNat
 | [],s,b=>by simp only[oC]at b;simp_all
 |a::es,s,b=>by
  cases a with
  |int k n =>
   cases k<;>simp only[oC]at b<;>try (cases b;done)
   simp only[aG]at b;let⟨r,l,b⟩:=b;cases b;let⟨i,e1,o⟩:=yG l;exact⟨n::i,by simp[e1],by simp[o]⟩
  |_=>simp[oC]at b
def foldl_push:∀(i:ay)(b:ByteArray),(i.foldl (λr n=>r.push (UInt8.ofNat n.toNat)) b).data.toList=b.data.toList++i.map λn=>UInt8.ofNat n.toNat
 | [],b=>ai
 |n::i,b=>by
  simp only[bG];rw[foldl_push i];simp[ByteArray.push]
def Sh(R:Rel Z β h w){s d e:TypeId}(hs:P.underlying s=some (.slice e))(Q:P.underlying e=some (.int .u8))(S:P.underlying d=some .string){x:AV}{es:List AV}{l:au}
  (L:elems h x=some es) (hl:oC es=some l) {v:Value} (M:VR β (Own Z β h) w x v):iM P Z β h w (convert s d v) (.str l) h:=by
 obtain⟨ad,c,rfl,W,F⟩:=lz R L M;obtain⟨b,rfl,rfl⟩:=yG hl;have H:=run_convert_bytes_string (P:=P) w s d e ad (b.map (AV.int .u8)).length c hs Q S
 by_cases h0:b=[]
 .subst h0;refine iM.of R (v:=.string ByteArray.empty) ?_ (.DN rfl);rw[H];cases ad with
  |none=>rfl
  |some a =>
   rw[run_bytesToString w a _ c [] (by simp[loadCells,loadCellsFrom])]
   rfl
 .obtain⟨blk,o,sz,N,rfl,E⟩:=F (an h0)
  have A:jw 1 (b.map (AV.int .u8))=true:=by simp[jw,AV.cells]
  have i:=E.jw A
  have z:∀(j:Nat)(u:Value),(b.map (Value.int .u8))[j]? = some u->w.cell? ((⟨blk,o,none⟩:Addr).add j)=some u:=by
   intro j u G;rw[lR];simp at G;obtain⟨n,O,rfl⟩:=G;let⟨_,q⟩:=i j (.int .u8 n) (by simp[O])
   let⟨T,q1,U,K⟩:=q 0 (.int .u8 n) rfl;cases K
   simpa using q1
  have y:=run_loadCells_list (P:=P) w ⟨blk,o,none⟩ (b.map (Value.int .u8)) z;refine iM.of R (v:=.string (b.foldl (λr n=>r.push (UInt8.ofNat n.toNat)) ByteArray.empty)) ?_ (.DN ?_)
  .rw[H];have:(b.map (AV.int .u8)).length=(b.map (Value.int .u8)).length:=by simp
   rw[this];exact run_bytesToString w _ _ c b y
  .rw[foldl_push];simp
def qP{y:AO}{e:Env}{a:Act}{k:Nat}{x:Operand}(E:jt Z β h w e a n)(l:lD x y=true)(hk:nat? (y.get e)=some k)(top:Nat)(o:k<=top)(code:BoundsCode)(w':World):
  (Instr.sliceBound (a.eval x) top code).run P w' = .ok k w':=by
 let⟨b,i,e1,r,q⟩:=oK hk (hU E l);rw[e1,run_sliceBound w' b i top code r af,q]
def lp:Option Operand->Option AO->Bool
 |none,none=>true
 |some x,some y=>lD x y
 |_,_=>false
theorem BL{e:Env}{a:Act}(E:jt Z β h w e a n){z A:Option Operand}(h1:lp z i=true)(h2:lp A l=true)(o:jY 0 e i=some x)(r:jY len e l=some y)
  (G:x<=y) (F:y<=cap) (isSlice:Bool) (w':World):(Instr.sliceBounds isSlice len cap (z.map a.eval) (A.map a.eval) none).run P w' = .ok (x,y,cap) w':=by
 have key:∀b:Sem Nat,b.run P w' = .ok y w'->∀c:Nat->Sem Nat,(c y).run P w' = .ok x w'->True:=λ_ _ _ _=>trivial
 have H:∀code,(match A.map a.eval with | some v=>Instr.sliceBound v cap code | none=>pure len:Sem Nat).run P w' = .ok y w':=by
  intro code;cases A with
  |none =>
   cases l with
   |none=>simp only[jY]at r;cases r;rfl
   |some _=>simp[lp]at h2
  |some p =>
   cases l with
   |none=>simp[lp]at h2
   |some q=>exact qP E h2 r cap F code w'
 have K:∀code,(match z.map a.eval with | some v=>Instr.sliceBound v y code | none=>pure 0:Sem Nat).run P w' = .ok x w':=by
  intro code;cases z with
  |none =>
   cases i with
   |none=>simp only[jY]at o;cases o;rfl
   |some _=>simp[lp]at h1
  |some p =>
   cases i with
   |none=>simp[lp]at h1
   |some q=>exact qP E h1 o y G code w'
 unfold Instr.sliceBounds;cases A with
 |none =>
  have e1:=H .sliceB;simp only[Option.map_none,Sem.run_pure,Result.ok.injEq,and_true]at e1;subst e1;cases z with
  |none=>simp_all
  |some p=>simp_all
 |some q =>
  have e1:=H (if isSlice then .sliceAcap else .sliceAlen)
  simp only[cS]at e1;cases z with
  |none=>simp_all
  |some p=>simp_all
def GK{e:Env}{a:Act}(E:jt Z β h w e a n){v r:Option Operand}{K:Operand}{l:AO}(h1:lp v b=true)(h2:lp r i=true)(h3:lD K l=true){m:Nat}(G:r.isSome=true)
  (o:jY 0 e b=some x) (H:jY len e i=some y) (L:nat? (l.get e)=some m) (A:x<=y) (z:y<=m) (F:m<=cap) (isSlice:Bool) (w':World) :
  (Instr.sliceBounds isSlice len cap (v.map a.eval) (r.map a.eval) (some (a.eval K))).run P w' = .ok (x,y,m) w':=by
 unfold Instr.sliceBounds;cases r with
 |none=>cases G
 |some q =>
  cases i with
  |none=>simp[lp]at h2
  |some N =>
   have e0:=qP (P:=P) E h3 L cap F (if isSlice then .slice3Acap else .slice3Alen) w'
   have e1:=qP (P:=P) E h2 H m z .slice3B w';cases v with
   |none =>
    cases b with
    |none=>simp only[jY]at o;simp_all
    |some _=>simp[lp]at h1
   |some p =>
    cases b with
    |none=>simp[lp]at h1
    |some O =>
     have M:=qP (P:=P) E h1 o y A .slice3C w';simp[e0,e1,M]
def Qc(R:Rel Z β h w){e:Env}{a:Act}(E:jt Z β h w e a n){t:TypeId}(M:P.underlying t=some .string){F G:Option Operand}(h1:lp F i=true)(h2:lp G l=true)
  {s:au} {x y:Nat} (r:jY 0 e i=some x) (z:jY s.length e l=some y) (o:x<=y) (K:y<=s.length) {v:Value} (L:VR β (Own Z β h) w (.str s) v) :
  iM P Z β h w (Instr.sliceAt t v (F.map a.eval) (G.map a.eval) none) (.str ((s.take y).drop x)) h:=by
 obtain⟨b,rfl,H⟩:=L.oD;have q:b.size=s.length:=by rw[<-H];rfl
 refine iM.of R (v:=.string (b.extract x y)) ?_ (.DN ?_)
 .have A:=BL (P:=P) E h1 h2 (len:=b.size) (cap:=b.size) r (by rw[q];exact z) o af false w
  simp only[Instr.sliceAt,Instr.slice,Sem.run_bind,run_underlying M,Result.andThen_ok,A,Sem.run_pure,gv,aZ,if_false]
 .rw[ByteArray.data_extract,Array.toList_extract,H,List.extract_eq_take_drop,List.take_drop]
  congr 1;congr 1;omega
def zx{e:Env}{a:Act}(E:jt Z β h w e a n){t elem:TypeId}(M:P.underlying t=some (.slice elem))(A:jP P elem sz=true){r q i:Option Operand}{o:Option AO}
  (h1:lp r l=true) (h2:lp q o=true) (h3:lp i b=true) (F:i.isSome=true->q.isSome=true)
  {len x y m:Nat} {ad:Option Addr} {cap:Nat} (H:jY 0 e l=some x) (K:jY len e o=some y) (N:jY cap e b=some m) (z:x<=y) (v:y<=m) (G:m<=cap) :
  (Instr.sliceAt t (.slice ad len cap) (r.map a.eval) (q.map a.eval) (i.map a.eval)).run P w = .ok (.slice (if m=x then ad else ad.map (·.add (x*sz))) (y-x) (m-x)) w:=by
 have L:(Instr.sliceBounds true len cap (r.map a.eval) (q.map a.eval) (i.map a.eval)).run P w = .ok (x,y,m) w:=by
  cases i with
  |none =>
   grind[jY,BL,lp]
  |some p =>
   cases b with
   |none=>simp[lp]at h3
   |some O=>exact GK (P:=P) E h1 h2 h3 (F rfl) H K N z v G true w
 simp only[Instr.sliceAt,Instr.slice,Sem.run_bind,run_underlying M,Result.andThen_ok,L,jX A,Sem.run_pure]
def Ja{O:az}{full:Bool}{es:List AV}{ad:Option Addr}{c:Nat}(G:oF O w (.b9 full es) (.slice ad es.length c))(n:jw sz es=true)(v:0<sz){m:Nat}(K:x<=y)(H:y<=m)(Y:y<=es.length){b:Bool}
  (hf:b=true->m=y):oF O w (.b9 b ((es.take y).drop x)) (.slice (if m=x then ad else ad.map (·.add (x*sz))) (y-x) (m-x)):=by
 have i:((es.take y).drop x).length=y-x:=ak
 by_cases h0:(es.take y).drop x=[]
 .rw[h0]at i⊢;rw[<-i];simp at i;refine .b9 b [] _ (m-x) 0 0 0 (λ_ _=>.bool true) (λF=>?_) ai ai ai ai ai ai
  grind
 .have hx:x<y:=by
   grind
  have A:es≠[]:=by rintro rfl;simp at h0
  generalize M:es.length=ce at G;cases G with
  |b9 _ _ U c' blk o E f L N S hs q1 W X =>
   have r:E=sz:=by
    let⟨z,l,q⟩:=eU A;have e1:=(hs 0 z (by rw[q];rfl)).1
    rw[q]at n;simp only[jw,bV,aF,beq_iff_eq]at n;omega
   subst r;obtain⟨rfl,T,Q⟩:=S A;rw[if_neg af,<-i]
   simp only[cS,lR];refine rS v T Q ?_ (λF=>?_) af
   .grind[iO,Nat.add_assoc]
   grind
def Jt{t:TypeId}{q:Array Field}{k:Nat}{f:Field}(r:P.underlying t=some (.struct q))(x:q[k]? = some f)(l:f.offset=off)(n:∃i,P.info? f.type=some i/\i.size≠0)(b o:Nat)(w:World):
  (Instr.fieldAt t (.pointer (some ⟨b,o,none⟩)) k).run P w = .ok (.pointer (some ⟨b,o+off,none⟩)) w:=by
 let⟨i,v,h0⟩:=n;simp only[Instr.fieldAt,Sem.run_bind,run_underlying r,Result.andThen_ok,x,Instr.sureAddr,Sem.run_pure,fieldPlace,sizeOf,typeInfo,run_program,v];rw[if_neg h0];simp[l,lR]
def G9{O:az}{agg:Bool}{cs:List AV}{r:AV}(hs:shape sz agg (cs.drop off)=some r){t:TypeId}(q:jP P t sz=true)(o:tV P t agg=true){vs:List Value}(hl:cs.length=vs.length)
  (h1:∀u∈vs,u.oneCell'=true) (h2:∀(j:Nat)(y:AV)(u:Value),cs[j]? = some y->vs[j]? = some u->VR β O w y u):∃v,(part t vs.toArray off).run P w = .ok v w/\VR β O w r v:=by
 unfold shape at hs;split at hs
 .cases hs
 .rename_i n;simp at n;split at hs
  .rename_i b;subst b;cases hs;refine⟨.agg (vs.toArray.extract off (off+sz)),by simp[part,uc o,jX q],?_⟩
   have:vs.toArray.extract off (off+sz)=((vs.drop off).take sz).toArray:=by
    grind
   rw[this];refine .agg _ _ ak (λu x=>h1 u (cE (ei x))) λj y u A x=>?_
   grind
  .rename_i b;have l:agg=false:=by simpa using b
   subst l;split at hs
   .rename_i z;have i:off<vs.length:=by omega
    refine⟨vs[off],by simp[part,uc o,i],h2 off r _ ?_ (by simp[i])⟩
    grind[List.head?_eq_getElem?]
   .cases hs
end
variable{sz:Nat}
section
variable{P:Program}{Z:az}{β:jO}{h:AH}{w:World}
def Ct(R:Rel Z β h w){b v:Nat}(i:jb h b v=some sz){bd:Bd}(x:β b v=some bd):bd.sz=sz/\0<sz:=by
  unfold jb at i;split at i
  . rename_i v' n es l;split at i
    . rename_i o;subst o;cases i;let⟨h0,q,e1,r,_⟩:=R.blk b _ l
      grind
    . cases i
  . rename_i v' n es l;split at i
    . rename_i o;subst o;cases i;let⟨h0,q,e1,r,_⟩:=R.blk b _ l
      grind
    . cases i
  . cases i
def Pp(P:Program)(w:World)(argTypes:Array TypeId)(x:Value)(size n:Nat)(news:List Value):Prop :=
  (∃u d,argTypes[1]? = some u/\P.underlying u=some d/\(match d with | .int _=>False | _=>True)/\(Builtin.lenOf x).run P w = .ok n w/\
    (∀w':World,w'.heap=w.heap->(Builtin.firstCells size n x).run P w' = .ok news.toArray w'))\/
  (∃u k b i,argTypes[1]? = some u/\P.underlying u=some (.int k)/\x = .int b i/\0<=i/\i.toNat=n/\i<=140737488355328)
def Ad (t ty e:TypeId) (i:TypeInfo) (z:Value) (Y:P.underlying t=some (.slice e)) (K:P.info? e=some i) (hz:i.zero=some z) (hzs:z.cells.size=i.size)
    (argTypes:Array TypeId) (y:argTypes[0]? = some t) (ad:Option Addr) (b l:Nat) (x:Value) (n:Nat) (news A:List Value) (hbr:Pp P w argTypes x i.size n news)
    (hnews:(∃u d,argTypes[1]? = some u/\P.underlying u=some d/\(match d with | .int _=>False | _=>True))\/news=(Builtin.zeroCells z.cells n).toList)
    (E:∀w':World,w'.heap=w.heap->(Builtin.firstCells i.size b (.slice ad b l)).run P w' = .ok A.toArray w')
    (h63:b+n<=140737488355328) (v:(b+n)*i.bytes<=140737488355328) :
    (b+n<=l->(Builtin.append_ argTypes ty #[.slice ad b l,x]).run P w=((match ad with | some a=>storeCells (a.add (b*i.size)) news | none=>pure ():Sem Unit).run P w).andThen λ_ w'=>.ok (.slice ad (b+n) l) w')/\
    (¬b+n<=l->(Builtin.append_ argTypes ty #[.slice ad b l,x]).run P w = .ok (.slice (some ⟨w.heap.size,0,none⟩) (b+n) (grownCap w (b+n) l e))
        (w.drew.alloc (.cells (A.toArray++news.toArray++Builtin.zeroCells z.cells (grownCap w (b+n) l e-(b+n))) e))):=by
  have akC:∀x:World,x.drew.heap=x.heap:=λ_=>rfl
  have X:¬(b+n<=l)->¬(Builtin.nextslicecap (b+n) l*i.bytes>2 ^ 48):=by
    intro hg;have:=growslice_fits (need:=b+n) (old:=l) af v
    omega
  have N:¬(((b+n:Nat):Int)>IntKind.i64.max):=by
    have:IntKind.i64.max=9223372036854775807:=by rfl
    rw[this];omega
  have L:∀(q:Question),q = .appendCap (b+n) l e->q.forced=false:=by rintro _ rfl;rfl
  rcases hbr with⟨u,d,Q,W,U,G,T⟩ | ⟨u,k,kk,ii,Q,W,rfl,h0,S,hsmall⟩
  . constructor
    . intro o;have hf:=T w rfl
      cases d<;>first
        |exact U.elim
        | (simp only [Builtin.append_, y, bE, bH, cA, Sem.run_bind, run_underlying Y, Result.andThen_ok, sizeOf, typeInfo, run_program, K, Sem.run_pure, Q, run_underlying W,
            aZ,if_false,G,eA,if_true,o,hf]
           cases ad<;>simp)
    . intro o;have hf:=T {w with drawn:=w.drawn+1} rfl
      have ho:=E {w with drawn:=w.drawn+1} rfl
      have hc:=L _ rfl;have h4:=X o
      cases d<;>first
        |exact U.elim
        | (simp only [Builtin.append_, y, bE, bH, cA, Sem.run_bind, run_underlying Y, Result.andThen_ok, sizeOf, typeInfo, run_program, K, Sem.run_pure, Q, run_underlying W,
            aZ,if_false,G,eA,if_true,o,N,false_and,h4,run_choose,hc,run_askRoom,ho,hf,jq K hz,newRow,run_newObj]
           simp[grownCap];rfl)
  . have r:news=(Builtin.zeroCells z.cells n).toList:=by
      grind
    subst r;have hw:IntKind.i64.wrap ii=ii:=wrap_small h0 af
    have F:¬ii<0:=af
    have H:¬(ii*(i.bytes:Int)>2 ^ 48):=by
      grind
    have e1:∀w',(asInt (.int kk ii)).run P w' = .ok ii w':=λ_=>rfl
    have M:∀w':World,((if n*i.size=0 then pure #[]else do pure (Builtin.zeroCells (<-zeroValue e).cells n)):Sem (Array Value)).run P w' = .ok (Builtin.zeroCells z.cells n) w':=by
      intro w'
      by_cases O:n*i.size=0
      . have:Builtin.zeroCells z.cells n = #[]:=by
          apply eB;rw[size_zeroCells,hzs];exact O
        simp[O,this]
      . simp[O,jq K hz]
    constructor
    . intro o;simp only[Builtin.append_,y,bE,bH,cA,Sem.run_bind,run_underlying Y,Result.andThen_ok,sizeOf,typeInfo,run_program,K,Sem.run_pure,Q,run_underlying W,
        if_true,e1,hw,F,if_false,H,S,eM,aZ,o,M]
      cases ad with
      |none=>simp
      |some a=>simp
    . intro o;simp only[Builtin.append_,y,bE,bH,cA,Sem.run_bind,run_underlying Y,Result.andThen_ok,sizeOf,typeInfo,run_program,K,Sem.run_pure,Q,run_underlying W,
        if_true,e1,hw,F,if_false,H,S,eM,aZ,o]
      simp only[N,false_and,if_false,Sem.run_bind,Sem.run_pure,Result.andThen_ok,run_program,K,X o,run_choose,L _ rfl,aZ,run_askRoom,E {w with drawn:=w.drawn+1} rfl,M,
        jq K hz,newRow,run_newObj]
      simp[grownCap];rfl
def ud{O:az}{ad:Option Addr}{n c:Nat}{es:List AV}(i:es.length=n)(l:es≠[]->∃blk o,ad=some ⟨blk,o,none⟩/\iO O w (λk=>w.cell? ⟨blk,o+k,none⟩) sz es):
    ∃b:List Value,b.length=n*sz/\(∀u∈b,u.oneCell'=true)/\iO O w (λk=>b[k]?) sz es/\∀w':World,w'.heap=w.heap->(Builtin.firstCells sz n (.slice ad n c)).run P w' = .ok b.toArray w':=by
  by_cases h0:es=[]
  . subst h0;simp at i;subst i;refine⟨[],ai,ai,.nil,λw' _=>?_⟩
    cases ad<;>simp[Builtin.firstCells,loadCells,loadCellsFrom]
  . obtain⟨blk,o,rfl,hs⟩:=l h0;let⟨vs,l1,l2,v,r⟩:=hs.list;refine⟨vs,by rw[l1,i],v,r,λw' q=>?_⟩
    exact run_firstCells_some w' sz n ⟨blk,o,none⟩ n c vs (by rw[l1,i]) (λj u x=>by
      rw[lR];have:=l2 j u x
      simpa[World.cell?,q]using this)
def iO.app{O:az}{vs i:List Value}{es es':List AV}(h1:iO O w (λk=>vs[k]?) sz es)(hl:vs.length=es.length*sz)(h2:iO O w (λk=>i[k]?) sz es'):iO O w (λk=>(vs++i)[k]?) sz (es++es'):=by
  have l:∀ {b:List Value},iO O w (λk=>b[k]?) sz es'->True:=λ_=>trivial
  refine iO.append (h1.congr λk hk=>?_) (h2.congr λk _=>?_)
  . grind
  grind
def vQ (R:Rel Z β h w) {t ty e:TypeId} {bytes:Nat} (ht:P.underlying t=some (.slice e)) {i:TypeInfo} {z:Value} (hi:P.info? e=some i) (hz:i.zero=some z) (U:z.cells.size=i.size) (F:i.size=sz) (hby:i.bytes=bytes) (X:0<sz)
    {argTypes:Array TypeId} (PM:argTypes[0]? = some t) {s av:AV} {l:List AV} {h':AH} (r:append h sz bytes s l=some (av,h')) {v x:Value} (hv:VR β (Own Z β h) w s v) {news:List Value}
    (hbr:Pp P w argTypes x sz l.length news) (N:(∃u d,argTypes[1]? = some u/\P.underlying u=some d/\(match d with | .int _=>False | _=>True))\/news=(Builtin.zeroCells z.cells l.length).toList)
    (M:news.length=l.length*sz) (hns:iO (Own Z β h) w (λk=>news[k]?) sz l) (hn1:∀u∈news,u.oneCell'=true):iM P Z β h w (Builtin.append_ argTypes ty #[v,x]) av h':=by
  cases s with
  |b9 full es =>
    cases full with
    |false=>simp[append]at r
    |true =>
      simp only[append]at r;split at r
      . rename_i L;let⟨hne,HI,adL,hb,h63⟩:=L;cases r;obtain⟨ad,c,rfl,hc,Y⟩:=lz R (a:=.b9 true es) rfl hv;have hfull:c=es.length:=by
          generalize hce:es.length=ce at hv;cases hv.mK with
          |b9 _ _ _ _ _ _ _ _ hf=>have:=hf rfl;omega
        subst hfull
        let⟨q,o1,o2,o3,o4⟩:=ud (P:=P) (O:=Own Z β h) (w:=w) (ad:=ad) (c:=es.length) (sz:=sz) (es:=es) rfl (λadS=>by
          let⟨blk,o,sz',_,e1,e2⟩:=Y adS;exact⟨blk,o,e1,e2.jw HI⟩)
        let⟨r1,r2⟩:=Ad (P:=P) (w:=w) t ty e i z ht hi hz U argTypes PM ad es.length es.length x l.length news q (by rw[F];exact hbr) N (by rw[F];exact o4) h63 (by rw[hby];exact hb)
        by_cases A:es.length+l.length<=es.length
        . have hn0:l=[]:=bh af
          subst hn0;have K:es=[]:=by
            grind
          subst K;have E:news=[]:=bh (an M)
          subst E;let⟨β',T,S,Q⟩:=R.uf sz X;refine⟨.slice ad 0 0,w,β',?_,an T,an S,by simpa using Q ad⟩
          have:=r1 A;simp only[bt,cI]at this;simp only[bt];rw[this];cases ad<;>simp[storeCells]
        . have hr:=r2 A;have hge:=grownCap_ge w (es.length+l.length) es.length e
          have G:(q.toArray++news.toArray++Builtin.zeroCells z.cells (grownCap w (es.length+l.length) es.length e-(es.length+l.length))).size=grownCap w (es.length+l.length) es.length e*sz:=by
            simp only[gC,eo,size_zeroCells,U,F,o1,M,<-bT]
            congr 1;omega
          let⟨β',T,S,Q⟩:=R.Ah (w':=w.drew.alloc (.cells (q.toArray++news.toArray++Builtin.zeroCells z.cells (grownCap w (es.length+l.length) es.length e-(es.length+l.length))) e)) sz X (es++l) _ e rfl rfl rfl rfl
            (by rw[G];simp only[aU];grind)
            ((o3.app o1 hns).congr λk hk=>by
              have hlt:k<(q++news).length:=by simp only[aU,o1,M,<-bT]at hk⊢;exact hk
              grind)
          exact⟨_,_,β',hr,T,S,Q _ _ hge (by grind)⟩
      . cases r
  |own b vv o n =>
    simp only[append]at r;split at r
    . rename_i v' sz' es K;split at r
      . rename_i L;obtain⟨rfl,rfl,adL,MX,hb,h63⟩:=L;cases r;obtain⟨bd,ad,c,hbd,rfl,h2⟩:=hv.kZ;let⟨_,Sw,q1,q2,q3⟩:=R.blk b _ K;rw[hbd]at q1;cases q1;let⟨ad',c',e1,hc,Y⟩:=lz R (a:=.own b vv o n) (es:=(es.drop o).take n) (by simp[elems,K,MX]) hv
        have y:((es.drop o).take n).length=n:=ak
        rw[y]at e1;cases e1
        let⟨q,o1,o2,o3,o4⟩:=ud (P:=P) (O:=Own Z β h) (w:=w) (ad:=ad) (c:=c) (sz:=sz') (es:=(es.drop o).take n) y (λadS=>by
          grind[rL])
        let⟨r1,r2⟩:=Ad (P:=P) (w:=w) t ty e i z ht hi hz U argTypes PM ad n c x l.length news q (by rw[F];exact hbr) N (by rw[F];exact o4) h63 (by rw[hby];exact hb)
        by_cases A:n+l.length<=c
        . have hr:=r1 A
          rcases h2 with⟨hc0,hn0⟩ | ⟨cb,p1,p2,p3,p4⟩
          . subst hc0 hn0;have hnA:l=[]:=bh af
            subst hnA;have E:news=[]:=bh (an M)
            subst E;let⟨β',T,S,Q⟩:=R.GP K;refine⟨.slice ad 0 0,w,β',?_,an T,an S,by simpa using Q ad⟩
            rw[hr];cases ad<;>simp[storeCells]
          . rcases q3 with⟨q3,_⟩ | ⟨c2,cur,elem,g1,g2,g3,g4,g5⟩
            . rw[p1]at q3;cases q3
            rw[p1]at g1;cases g1;subst q2;subst p2;have hroom:bd.base+o*bd.sz+c*bd.sz<=cur.size:=by grind
            have W:(n+l.length)*bd.sz<=c*bd.sz:=br _ A;have akW:news.length=l.length*bd.sz:=M;rw[bT]at W;have H:bd.base+o*bd.sz+n*bd.sz+news.length<=cur.toList.length:=ak
            have akd:iO (Own Z β h) w (λk=>(over cur.toList (bd.base+o*bd.sz+n*bd.sz) news)[bd.base+o*bd.sz+k]?) bd.sz ((es.drop o).take n++l):=by
              refine iO.append (((iO.drop g5 o).take n).congr λk hk=>?_) (hns.congr λk hk=>?_)
              . rw[y]at hk;rw[jh _ _ _ H,if_neg af]
                grind
              . rw[jh _ _ _ H,y,if_pos af]
                congr 1;omega
            let⟨β',T,S,Q⟩:=R.sk K hbd p1 g2 (over cur.toList (bd.base+o*bd.sz+n*bd.sz) news) (by grind[iR]) o (es':=(es.drop o).take n++l)
              (by simp only[aU,y,bT];omega) (akd.congr λk _=>ai)
            refine⟨_,_,β',?_,T,S,Q (n+l.length) c A hroom⟩;rw[hr];have hst:=run_storeCells_at P cb (bd.base+o*bd.sz+n*bd.sz) elem news 0 cur w g2 (an H) hn1
            simp only[cI]at hst;simp only[lR,F];rw[hst];rfl
        . have hr:=r2 A;have hge:=grownCap_ge w (n+l.length) c e
          have G:(q.toArray++news.toArray++Builtin.zeroCells z.cells (grownCap w (n+l.length) c e-(n+l.length))).size=grownCap w (n+l.length) c e*sz':=by
            simp only[gC,eo,size_zeroCells,U,F,o1,M,<-bT]
            congr 1;omega
          let⟨β',T,S,Q⟩:=R.BO (w':=w.drew.alloc (.cells (q.toArray++news.toArray++Builtin.zeroCells z.cells (grownCap w (n+l.length) c e-(n+l.length))) e)) (cur:=q.toArray++news.toArray++Builtin.zeroCells z.cells (grownCap w (n+l.length) c e-(n+l.length))) (elem:=e) K (es':=(es.drop o).take n++l) rfl rfl rfl rfl
            (by rw[G];simp only[aU,y];grind)
            ((o3.app (by rw[o1,y]) hns).congr λk hk=>by
              have hlt:k<(q++news).length:=by grind[List.length_append,Nat.add_mul]
              grind)
          exact⟨_,_,β',hr,T,S,Q _ _ hge (by grind)⟩
      . cases r
    . cases r
  |_=>simp[append]at r
end
variable{sz:Nat}
section
variable{P:Program}{Z:az}{β:jO}{h:AH}{w:World}
def Fu{α:Type}(l:List α)(o:Nat):over l o []=l:=by simp[over]
theorem iO.over{O:az}{vs l:List Value}{base:Nat}{es es':List AV}{o:Nat}(h1:iO O w (λk=>vs[base+k]?) sz es)(h2:iO O w (λk=>l[k]?) sz es')(r:l.length=es'.length*sz)(q:o+es'.length<=es.length)
  (hl:base+es.length*sz<=vs.length):iO O w (λk=>(Am.over vs (base+o*sz) l)[base+k]?) sz (Am.over es o es'):=by
 have n:(o+es'.length)*sz<=es.length*sz:=br _ q;rw[bT]at n;have b:base+o*sz+l.length<=vs.length:=af
 have e0:Am.over es o es'=es.take o++(es'++es.drop (o+es'.length)):=by simp[Am.over]
 rw[e0];have i:(es.take o).length=o:=ak
 refine iO.append ((h1.take o).congr λk hk=>?_) (iO.append (h2.congr λk hk=>?_) ((iO.drop h1 (o+es'.length)).congr λk hk=>?_))
 .rw[i]at hk;rw[jh _ _ _ b,if_neg af]
 .rw[i,jh _ _ _ b,if_pos af]
  congr 1;omega
 .rw[i,jh _ _ _ b,if_neg af,bT]
  congr 1;omega
def OH(R:Rel Z β h w){dT elem ty:TypeId}{argTypes:Array TypeId}(PM:argTypes[0]? = some dT)(hd:P.underlying dT=some (.slice elem))(X:jP P elem sz=true){x:AV}{i:List AV}(hs:elems h x=some i){u v:Value}(hu:VR β (Own Z β h) w x u)
  {b T o n z l:Nat} {es:List AV} (hv:VR β (Own Z β h) w (.own b T o n) v) (N:h[b]? = some (.row z l es)) (W:T=z) (F:l=sz) (hok:jw sz i=true) (MX:o+n<=es.length) :
  iM P Z β h w (Builtin.copy_ argTypes ty #[v,u]) (.int .i64 (min i.length n:Nat)) (h.set b (.row z l (Am.over es o (i.take n)))):=by
 subst W F;obtain⟨ad,c,rfl,hc,H⟩:=lz R hs hu;obtain⟨bd,r,c',Q,rfl,h2⟩:=hv.kZ;let⟨adM,Sw,q1,q2,S⟩:=R.blk b _ N;rw[Q]at q1;cases q1;have hm:(i.take n).length=min i.length n:=by simp[Nat.min_comm]
 let⟨news,o1,o2,o3,o4⟩:=ud (P:=P) (O:=Own Z β h) (w:=w) (ad:=ad) (c:=c) (sz:=l) (es:=i.take n) hm (λhne=>by
  have M:i≠[]:=by rintro rfl;simp at hne
  let⟨blk,oo,sz2,_,e1,e2⟩:=H M;exact⟨blk,oo,e1,(e2.jw hok).take n⟩)
 have hf:(Builtin.firstCells l (min i.length n) (.slice ad i.length c)).run P w = .ok news.toArray w:=by
  have:=o4 w rfl;cases ad<;>simpa[Builtin.firstCells]using this
 have y:(Builtin.copy_ argTypes ty #[.slice r n c',.slice ad i.length c]).run P w=((match r with | some a=>storeCells a news | none=>pure ():Sem Unit).run P w).andThen λ_ w'=>.ok (goInt (min i.length n:Nat)) w':=by
  simp only[Builtin.copy_,PM,bE,bH,cA,Sem.run_bind,run_underlying hd,Result.andThen_ok,jX X,Builtin.lenOf,Sem.run_pure];have e1:Nat.min i.length n=min i.length n:=rfl;rw[e1,hf];cases r<;>simp
 by_cases hm0:min i.length n=0
 .have L:i.take n=[]:=bh af
  have q:news=[]:=bh (by rw[o1,hm0];simp)
  subst q;rw[L,Fu]
  have K:h.set b (.row T l es)=h:=by
   apply dJ
   grind
  rw[K];refine iM.of R (v:=goInt (min i.length n:Nat)) ?_ (.of_int _ _);rw[y];cases r<;>simp[storeCells]
 .rcases h2 with⟨_,hn0⟩ | ⟨cb,U,p2,p3,p4⟩
  .omega
  .rcases S with⟨S,_⟩ | ⟨c2,cur,E,g1,g2,g3,g4,g5⟩
   .rw[U]at S;cases S
   rw[U]at g1;cases g1;subst q2 p2;have hle:(o+min i.length n)*bd.sz<=es.length*bd.sz:=br _ af
   rw[bT]at hle;have A:bd.base+o*bd.sz+news.length<=cur.toList.length:=ak
   have Y:=iO.over (vs:=cur.toList) (base:=bd.base) (o:=o) (es':=i.take n) (iO.congr g5 λk _=>ai) o3 (by rw[o1,hm]) (by rw[hm];omega) ak
   let⟨W1,W2⟩:=R.wX N Q U g2 (Am.over cur.toList (bd.base+o*bd.sz) news) (by grind[iR]) (es':=Am.over es o (i.take n)) (by grind[iR]) (iO.congr Y λk _=>ai)
   refine⟨goInt (min i.length n:Nat),_,β,?_,W1,W2,.of_int _ _⟩;rw[y];have G:=run_storeCells_at P cb (bd.base+o*bd.sz) E news 0 cur w g2 (an A) o2
   simp only[cI]at G;dsimp only;rw[G];rfl
def RN(R:Rel Z β h w){t elem ty:TypeId}(hd:P.underlying t=some (.slice elem))(hsz:jP P elem sz=true){zero:AV}{i:TypeInfo}{z:Value}(hi:P.info? elem=some i)(X:i.zero=some z)(E:z.cells.size=i.size)(WE:TE z zero=true)
  {b T o n r q:Nat} {es:List AV} {v:Value} (hv:VR β (Own Z β h) w (.own b T o n) v) (M:h[b]? = some (.row r q es)) (hvv:T=r) (G:q=sz) (MX:o+n<=es.length) :
  iM P Z β h w (Builtin.clear_ #[t] ty #[v]) (.jg []) (h.set b (.row r q (Am.over es o (List.replicate n zero)))):=by
 subst hvv G;obtain⟨bd,ad',c',N,rfl,h2⟩:=hv.kZ;let⟨adM,Sw,q1,q2,Q⟩:=R.blk b _ M;rw[N]at q1;cases q1;have L:i.size=q:=by
  grind[jP]
 let⟨z1,z2,z3⟩:=pH (O:=Own Z β h) (w:=w) WE n;have F:VR β (Own Z β h) w (.jg []) (.tuple #[]):=.jg [] [] rfl (λj y u Y=>by simp at Y)
 by_cases hn0:n=0
 .subst hn0
  have K:h.set b (.row T q es)=h:=by
   apply dJ
   grind
  rw[List.replicate_zero,Fu,K];refine iM.of R (v:=.tuple #[]) ?_ F;cases ad'<;>simp[Builtin.clear_,run_underlying hd]
 .rcases h2 with⟨_,h2⟩ | ⟨cb,U,p2,p3,p4⟩
  .omega
  .rcases Q with⟨Q,_⟩ | ⟨c2,cur,A,g1,g2,g3,g4,g5⟩
   .rw[U]at Q;cases Q
   rw[U]at g1;cases g1;subst q2 p2;have hle:(o+n)*bd.sz<=es.length*bd.sz:=br _ af
   rw[bT]at hle;obtain⟨news,l⟩:∃news,news=(Builtin.zeroCells z.cells n).toList:=⟨_,rfl⟩;have W:z.cells.size=bd.sz:=by rw[E,L]
   .have o1:news.length=n*bd.sz:=by rw[l];simp[size_zeroCells,W]
    have x:bd.base+o*bd.sz+news.length<=cur.toList.length:=ak
    have S:iO (Own Z β h) w (λk=>news[k]?) bd.sz (List.replicate n zero):=by
     grind
    have hsa:=iO.over (vs:=cur.toList) (base:=bd.base) (o:=o) (es':=List.replicate n zero) (iO.congr g5 λk _=>ai) S (by rw[o1];simp) ak ak
    let⟨W1,W2⟩:=R.wX M N U g2 (Am.over cur.toList (bd.base+o*bd.sz) news) (by grind[iR]) (es':=Am.over es o (List.replicate n zero)) (by grind[iR]) (iO.congr hsa λk _=>ai)
    refine⟨.tuple #[],_,β,?_,W1,W2,.jg [] [] rfl (λj y u Y=>by simp at Y)⟩
    have H:=run_storeCells_at P cb (bd.base+o*bd.sz) A news 0 cur w g2 (an x) (λu hu=>aM.1 z3 u (l▸hu))
    simp only[cI]at H;obtain⟨n',rfl⟩:∃n',n=n'+1:=⟨n-1,af⟩
    simp only[Builtin.clear_,bE,bH,Sem.run_bind,run_underlying hd,Result.andThen_ok,jq hi X,<-l,H,Sem.run_pure];rfl
def OL(R:Rel Z β h w){t elem ty:TypeId}(q:P.underlying t=some (.slice elem)){v:Value}{full:Bool}(n:VR β (Own Z β h) w (.b9 full []) v):iM P Z β h w (Builtin.clear_ #[t] ty #[v]) (.jg []) h:=by
 have i:=n.mK;generalize b:([]:List AV)=es at i;cases i with
 |b9 _ _ a c blk o sz f r x z hs h1 h3 h2 =>
  subst b;refine iM.of R (v:=.tuple #[]) ?_ (.jg [] [] rfl (λj y u l=>by simp at l))
  cases a<;>simp[Builtin.clear_,run_underlying q]
def K9(R:Rel Z β h w){q elem ty:TypeId}{argTypes:Array TypeId}(l:argTypes[0]? = some q)(A:P.underlying q=some (.slice elem))(i:jP P elem sz=true){x:AV}{b:List AV}(hs:elems h x=some b){u v:Value}(y:VR β (Own Z β h) w x u)
  {full:Bool} (r:VR β (Own Z β h) w (.b9 full []) v):iM P Z β h w (Builtin.copy_ argTypes ty #[v,u]) (.int .i64 0) h:=by
 obtain⟨ad,c,rfl,F,o⟩:=lz R hs y;obtain⟨n,G,rfl,E,_⟩:=lz R (a:=.b9 full []) rfl r;refine iM.of R (v:=goInt 0) ?_ (.of_int _ _)
 have z:(Builtin.firstCells sz 0 (.slice ad b.length c)).run P w = .ok #[] w:=by
  cases ad<;>simp[Builtin.firstCells,loadCells,loadCellsFrom]
 simp only[Builtin.copy_,l,bE,bH,cA,Sem.run_bind,run_underlying A,Result.andThen_ok,jX i,Builtin.lenOf,Sem.run_pure];have e1:Nat.min b.length ([]:List AV).length=0:=ai
 rw[e1,z];cases n<;>simp[storeCells]
def QD{isMax:Bool}{x y i:AV}(b:mm2 isMax x y=some i){u v:Value}(n:VR β (Own Z β h) w x u)(l:VR β (Own Z β h) w y v):
  ∃q,((if isMax then Builtin.max2 u v else Builtin.min2 u v):Sem Value).run P w = .ok q w/\VR β (Own Z β h) w i q:=by
 cases x<;>cases y<;>simp only[mm2]at b<;>try (cases b;done)
 cases b;rw[n.kE,l.kE];refine⟨_,?_,.of_int _ _⟩;cases isMax<;>simp[Builtin.max2,Builtin.min2]
def Nq{isMax:Bool}:∀(xs:List AV)(b:List Value){x n:AV}{u:Value},uR isMax x xs=some n->VR β (Own Z β h) w x u->xs.length=b.length->(∀(j:Nat)(y:AV)(q:Value),xs[j]? = some y->b[j]? = some q->VR β (Own Z β h) w y q)->
  ∃q,(b.foldlM (if isMax then Builtin.max2 else Builtin.min2) u:Sem Value).run P w = .ok q w/\VR β (Own Z β h) w n q
 | [],b,x,n,u,l,o,hl,_=>by
  have:b=[]:=bh (an hl.symm)
  subst this;simp only[uR]at l;simp_all
 |y::xs,b,x,n,u,l,o,hl,i=>by
  cases b with
  |nil=>simp at hl
  |cons q b =>
   simp only[uR,aG]at l;let⟨z,A,l⟩:=l;let⟨p,F,p2⟩:=QD (P:=P) A o (i 0 y q rfl rfl);let⟨r,E,v⟩:=Nq xs b l p2 (an hl) (λj y q h1 h2=>i (j+1) y q (an h1) (an h2))
   refine⟨r,?_,v⟩;rw[List.foldlM_cons];simp only[Sem.run_bind]
   have:((if isMax then Builtin.max2 else Builtin.min2) u q:Sem Value).run P w = .ok p w:=by
    grind
   simp_all
def kK:List Operand->List AO->Bool
 | [],[]=>true
 |x::l,y::b=>lD x y&&kK l b
 |_,_=>false
def mC{e:Env}{a:Act}{n:Nat}(E:jt Z β h w e a n):∀ {xs:List Operand} {i:List AO},kK xs i=true->(getAll e i).length=(xs.map a.eval).length/\∀(j:Nat)(y:AV)(u:Value),(getAll e i)[j]? = some y->(xs.map a.eval)[j]? = some u->VR β (Own Z β h) w y u
 | [],[],_=>⟨rfl,by simp[getAll]⟩
 |x::xs,y::i,b=>by
  simp only[kK,aF]at b;let⟨h1,h2⟩:=b;let⟨q1,r⟩:=mC E h2;refine⟨by simp[getAll,q1],λj q u l o=>?_⟩
  cases j with
  |zero=>simp[getAll]at l o;subst l o;exact hU E h1
  |succ j=>exact r j q u (by simpa[getAll]using l) (an o)
 | [],_::_,b=>by simp[kK]at b
 |_::_,[],b=>by simp[kK]at b
end
end Go.Am
