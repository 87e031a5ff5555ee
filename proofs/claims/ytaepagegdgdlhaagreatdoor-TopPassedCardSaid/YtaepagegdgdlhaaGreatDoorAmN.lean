/- Part of the proof that TopPassedCard holds. -/
import Derived.Test.YtaepagegdgdlhaaGreatDoorAmJ
import Derived.Laws.BytesString
import Derived.Laws.Slices
set_option linter.all false
namespace Go.Am
variable{sz n len:Nat}{O:az}
def jW.set{w:World}{vs:List Value}{es:List AV}(hs:jW O w (λk=>vs[k]?) sz es)(hl:vs.length=es.length*sz){i:Nat}(hi:i<es.length){x:AV}{us:List Value}
    (hx:x.cells.length=sz) (hu:us.length=sz) (h1:∀u∈us,u.oneCell'=true) (h2:∀(j:Nat)(y:AV)(u:Value),x.cells[j]? = some y->us[j]? = some u->qW O w y u) :
    jW O w (λk=>(over vs (i*sz) us)[k]?) sz (es.set i x):=by
  have Ey:i*sz+sz<=vs.length:=by
    have:(i+1)*sz<=es.length*sz:=bD _ hi;rw[bR]at this;omega
  have oS:i*sz+us.length<=vs.length:=aa
  intro i1 x1 hx1
  by_cases hi1:i1=i
  . subst hi1;rw[aZ hi]at hx1;cases hx1;refine⟨hx,λj y hy=>?_⟩
    have hj:j<sz:=by rw[<-hx];exact(aF.1 hy).1
    dsimp only;rw[kj _ _ _ oS,if_pos aa]
    have ej:i1*sz+j-i1*sz=j:=aa
    rw[ej];have hlt:j<us.length:=aa
    exact⟨us[j],by simp[hlt],h1 _ (aS hlt),h2 j y us[j] hy (by simp[hlt])⟩
  . rw[aJ (Ne.symm hi1)]at hx1;let⟨k0,k⟩:=hs i1 x1 hx1;refine⟨k0,λj y hy=>?_⟩
    let⟨u',k1,k2,k3⟩:=k j y hy;have hj:j<sz:=by rw[<-k0];exact(aF.1 hy).1
    refine⟨u',?_,k2,k3⟩;dsimp only;rw[kj _ _ _ oS,if_neg]
    . exact k1
    . rintro⟨m1,m2⟩
      have xl:=M4 (j':=i1*sz+j-i*sz) hi1 hj aa
      omega
def ux{w:World}{z:Value}{a:AV}(he:eqV z a=true)(n:Nat):jW O w (λk=>(Builtin.zeroCells z.cells n)[k]?) z.cells.size (List.replicate n a)/\a.cells.length=z.cells.size/\
    ((Builtin.zeroCells z.cells n).toList.all Value.oneCell'=true):=by
  have hcells:∃l,GC z.cells.toList l=true/\a.cells=l:=by
    unfold eqV at he;split at he
    . exact⟨_,he,rfl⟩
    . let⟨p1,p2,p3⟩:=Ju (O:=O) (w:=w) he;refine⟨[a],?_,?_⟩
      . rw[cells_one p2];simp[GC,he]
      . cases a<;>first | rfl | (simp[AV.kZ]at p3;done)
  let⟨l,hl,hal⟩:=hcells;let⟨q1,q2,q3,q4⟩:=tc (O:=O) (w:=w) hl;have hsz:a.cells.length=z.cells.size:=by rw[hal,q1];simp
  have wq:∀k,k<n*z.cells.size->(Builtin.zeroCells z.cells n)[k]? = some (z.cells[k%z.cells.size]!):=by
    intro k hk;simp[Builtin.zeroCells,hk]
  refine⟨?_,hsz,?_⟩
  . intro i x hx;have hi:i<n:=by simpa using(aF.1 hx).1
    have hxa:x=a:=by
      have:=(aF.1 hx).2
      simpa using this.symm
    subst hxa;refine⟨hsz,λj y hy=>?_⟩
    have hj:j<z.cells.size:=by rw[<-hsz];exact(aF.1 hy).1
    have hlt:i*z.cells.size+j<n*z.cells.size:=by
      have:(i+1)*z.cells.size<=n*z.cells.size:=bD _ hi;rw[bR]at this;omega
    dsimp only;rw[wq _ hlt];have hm:(i*z.cells.size+j)%z.cells.size=j:=by rw[fK,Nat.mul_add_mod,Nat.mod_eq_of_lt hj]
    rw[hm];have hzj:z.cells[j]! = z.cells[j]:=by simp[hj]
    rw[hzj];refine⟨_,rfl,q2 _ ah,q3 j y z.cells[j] (by rw[<-hal];exact hy) (by simp[hj])⟩
  . rw[aO];intro u hu;obtain⟨k,hk,rfl⟩:=dW hu;have hk':k<n*z.cells.size:=by simpa[size_zeroCells]using hk
    have:=wq k hk';rw[cE (an hk)]at this
    have e:=cu this
    have hpos : 0 < z.cells.size := by rcases cM z.cells.size with h0 | h0; · rw [h0] at hk'; omega
                                       . exact h0
    have hmod:k%z.cells.size<z.cells.size:=dP _ hpos;simp only[jg];rw[e,show z.cells[k%z.cells.size]! = z.cells[k%z.cells.size] by simp[hmod]]
    exact q2 _ ah
def vo{w:World}{blk o c:Nat}{es:List AV}(hsz:0<sz)(hO:¬O blk)(hb:blk<w.heap.size)(hs:jW O w (λk=>w.cell? ⟨blk,o+k,none⟩) sz es){full:Bool}
    (hf:full=true->c=es.length) (hc:es.length<=c):qW O w (.jB full es) (.slice (some ⟨blk,o,none⟩) es.length c):=by
  refine .jB full es _ c blk o sz (λi j=>(w.cell? ⟨blk,o+(i*sz+j),none⟩).getD Go.undef) hf hc (λ_=>⟨rfl,hO,hb⟩) (λi x hx=>⟨(hs i x hx).1,hsz⟩) ?_ ?_ ?_
  . intro i x hx j y hy;let⟨u,k1,_,_⟩:=(hs i x hx).2 j y hy;dsimp only at k1;rw[cz,k1];rfl
  . intro i x hx j y hy;let⟨u,k1,k2,_⟩:=(hs i x hx).2 j y hy;dsimp only at k1;simp only[k1,bO];exact k2
  . intro i x hx j y hy;let⟨u,k1,_,k3⟩:=(hs i x hx).2 j y hy;dsimp only at k1;simp only[k1,bO];exact k3
section
variable{P:Program}{Z:az}{β:kW}{h:AH}{w:World}
def qW.cells{a:AV}{v:Value}(hv:qW O w a v)(ha:a.lT=true):
    ∃vs:List Value,v.cells=vs.toArray/\a.cells.length=vs.length/\(∀u∈vs,u.oneCell'=true)/\∀(j:Nat)(y:AV)(u:Value),a.cells[j]? = some y->vs[j]? = some u->qW O w y u:=by
  have hok:a.cells.all AV.kZ=true:=by
    by_cases hag:∃cs,a = .agg cs
    . obtain⟨cs,rfl⟩:=hag;exact ha
    . have hc:a.cells=[a]:=by cases a<;>first | rfl | (exact absurd ⟨_,rfl⟩ hag)
      rw[hc];cases a<;>first | rfl | (simp[AV.lT,AV.kZ]at ha;done) | (exact absurd ⟨_,rfl⟩ hag)
  let⟨vs,e1,e2,e3,e4⟩:=(VR.pure (β:=λ_ _=>none) a v hv).cells (by
    rw[aO]at hok⊢;exact λy hy=>yM (hok y hy))
  exact⟨vs,e1,e2,e3,λj y u hy hu=>(e4 j y u hy hu).Lx (aO.1 hok y (aR hy))⟩
def oF:List (Nat×Operand)->List (Nat×AO)->Bool
  | [],[]=>true
  |(i,x)::l,(j,y)::l'=>i==j&&nW x y&&oF l l'
  |_,_=>false
def yZ{e:Env}{a:Act}{n:Nat}(sz:Nat):∀(ps:List (Nat×Operand))(qs:List (Nat×AO))(es es':List AV)(vs:List Value){h h':AH}(_:Rel Z β h w)(_:kF Z β h w e a n),
    oF ps qs=true->nZ e sz qs es h=some (es',h')->vs.length=es.length*sz->jW (Own Z β h) w (λk=>vs[k]?) sz es->(∀u∈vs,u.oneCell'=true)->
    ∃vs':List Value,Instr.fill (λi=>some (i*sz,sz)) vs.toArray (ps.map λp=>(p.1,a.eval p.2))=some vs'.toArray/\vs'.length=es'.length*sz/\es'.length=es.length/\jW (Own Z β h') w (λk=>vs'[k]?) sz es'/\
      (∀u∈vs',u.oneCell'=true)/\Rel Z β h' w/\Fr Z β h w β h' w
  | [],[],es,es',vs,h,h',R,_,_,hp,hl,hs,h1=>by
    simp only[nZ]at hp;cases hp;exact⟨vs,by simp[Instr.fill],hl,rfl,hs,h1,R,Fr.refl _ _ _ _⟩
  | [],_::_,_,_,_,_,_,_,_,ho,_,_,_,_=>by simp[oF]at ho
  |_::_,[],_,_,_,_,_,_,_,ho,_,_,_,_=>by simp[oF]at ho
  |(i,x)::ps,(j,y)::qs,es,es',vs,h,h',R,E,ho,hp,hl,hs,h1=>by
    simp only[oF,aH,beq_iff_eq]at ho;obtain⟨⟨rfl,hoo⟩,ho⟩:=ho;simp only[nZ,aI]at hp;let⟨⟨x',h1'⟩,hp1,hp⟩:=hp;let⟨R1,F1,V1,S1⟩:=zA R hp1 (jR E hoo);dsimp only at hp;split at hp
    . rename_i nR;let⟨hlen,hi⟩:=nR;let⟨us,e1,e2,e3,e4⟩:=(V1.B9 S1).cells S1;have Ey:i*sz+sz<=vs.length:=by
        have:(i+1)*sz<=es.length*sz:=bD _ hi;rw[bR]at this;omega
      have qy:=(hs.mono F1.stay).set hl hi hlen (e2.symm.trans hlen) e3 e4;have hus:us.length=sz:=e2.symm.trans hlen
      let⟨vs',k1,k2,k3,k4,k5,k6,k7⟩:=yZ sz ps qs (es.set i x') es' (over vs (i*sz) us) R1 (E.fr F1) ho hp
        (by rw[jZ _ _ _ aa];simpa using hl) qy (λu hu=>by
          unfold over at hu;simp only[aX]at hu
          rcases hu with(hu | hu) | hu
          . exact h1 u (cm hu)
          . exact e3 u hu
          . exact h1 u (cA hu))
      refine⟨vs',?_,k2,an k3,k4,k5,k6,F1.trans k7⟩
      simp only[bF];rw[HJ (λi=>some (i*sz,sz)) vs.toArray i (a.eval x) _ rfl (by rw[e1];simp[hus]) (an Ey)]
      rw[e1];exact k1
    . cases hp
def xF{e:Env}{sz:Nat}(h:AH):∀(qs:List (Nat×AO))(es es':List AV),oc e sz qs es=some es'->nZ e sz qs es h=some (es',h)
  | [],es,es',hp=>by simp only[oc]at hp;cases hp;rfl
  |(i,x)::qs,es,es',hp=>by
    simp only[oc]at hp;split at hp
    . rename_i hc;simp only[nZ];have:oT h (x.get e)=some (x.get e,h):=by unfold oT;rw[if_pos hc.1]
      rw[this];simp only[bX];rw[if_pos hc.2];exact xF h qs _ es' hp
    . cases hp
def D9(P:Program)(t:TypeId)(len:Nat)(ps:Array (Nat×Operand))(sz:Nat)(zero:AV)(len':Nat)(qs:List (Nat×AO)):Bool :=
  len==len'&&decide (0<sz)&&decide (len*sz<=16777216)&&oF ps.toList qs&&match P.underlying t with
  |some (.slice elem)=>lC P elem sz&&zeroV P elem zero&&zero.cells.length==sz
  |_=>false
def Rx (R:Rel Z β h w) {e:Env} {a:Act} (E:kF Z β h w e a n) {t:TypeId} {ps:Array (Nat×Operand)} {zero:AV} {len':Nat} {qs:List (Nat×AO)} (ho:D9 P t len ps sz zero len' qs=true)
    {es:List AV} {h':AH} (hp:nZ e sz qs (List.replicate len' zero) h=some (es,h')):jS P Z β h w (Instr.buildSlice t len (ps.map λ(i,x)=>(i,a.eval x))) (.jB true es) h':=by
  unfold D9 at ho;simp only[aH,beq_iff_eq,decide_eq_true_eq]at ho;obtain⟨⟨⟨⟨rfl,hsz⟩,aai⟩,Ez⟩,ho⟩:=ho;have hmap:(ps.map λ(i,x)=>(i,a.eval x)).toList=ps.toList.map λp=>(p.1,a.eval p.2):=ah
  split at ho
  . rename_i elem hel;simp only[aH,beq_iff_eq]at ho;let⟨⟨hs,hz⟩,hzl⟩:=ho;let⟨i,z,hi,hz,he⟩:=uw hz;let⟨z1,z2,z3⟩:=ux (O:=Own Z β h) (w:=w) he len;have hzs:z.cells.size=sz:=by omega
    rw[hzs]at z1
    have hc0:len*sz=0->(Array.range (len*sz)).map (λx=>(#[]:Array Value)[x%(#[]:Array Value).size]!)=Builtin.zeroCells z.cells len:=by
      intro h0;unfold Builtin.zeroCells;rw[hzs,h0];simp
    have hc1:(Array.range (len*sz)).map (λx=>z.cells[x%z.cells.size]!)=Builtin.zeroCells z.cells len:=by
      unfold Builtin.zeroCells;rw[hzs]
    let⟨vs',k1,k2,k3,k4,k5,k6,k7⟩:=yZ sz ps.toList qs (List.replicate len zero) es (Builtin.zeroCells z.cells len).toList R E Ez hp (by simp[size_zeroCells,hzs]) (an z1)
      (λu hu=>aO.1 z3 u hu)
    simp at k3;let⟨G1,G2⟩:=k6.Cn (.cells vs'.toArray elem);refine⟨.slice (some ⟨w.heap.size,0,none⟩) len len,w.alloc (.cells vs'.toArray elem),β,?_,G1,k7.trans G2,?_⟩
    . have WE:¬(len*sz>2 ^ 24):=by omega
      simp only[Instr.buildSlice,Sem.run_bind,run_underlying hel,Result.andThen_ok,mo hs];rw[if_neg WE];simp only[dQ]at k1
      by_cases h0:len*sz=0
      . rw[if_pos h0];simp only[Sem.run_bind,Sem.run_pure,Result.andThen_ok,hmap,hc0 h0];rw[k1];simp[newRow]
      . rw[if_neg h0];simp only[Sem.run_bind,Sem.run_pure,Result.andThen_ok,hmap,kC hi hz,hc1];rw[k1];simp[newRow]
    . have hlen:es.length=len:=k3;refine .pure _ _ ?_;have hnew:(w.alloc (.cells vs'.toArray elem)).heap[w.heap.size]? = some (.cells vs'.toArray elem (0,0)):=heap_alloc_new w _;have hnO:¬Own Z β h' w.heap.size:=by
        rintro(hz | ⟨j,hj⟩)
        . have:=k6.xlt _ hz;omega
        . have:=k6.qI hj;omega
      have:=vo (O:=Own Z β h') (w:=w.alloc (.cells vs'.toArray elem)) (blk:=w.heap.size) (o:=0) (c:=len) (es:=es) (full:=true) hsz hnO ah
        ((jW.mono G2.stay k4).congr λk hk=>by
          rw[cell_of_row _ _ _ _ _ _ hnew];simp) (λ_=>hlen.symm) aa
      rw[hlen]at this;exact this
  . cases ho
def XW(R:Rel Z β h w){e:Env}{a:Act}(E:kF Z β h w e a n){t:TypeId}{ps:Array (Nat×Operand)}{zero:AV}{len':Nat}{qs:List (Nat×AO)}(ho:D9 P t len ps sz zero len' qs=true)
    {es:List AV} {h':AH} (hp:nZ e sz qs (List.replicate len' zero) h=some (es,h')):jS P Z β h w (Instr.buildSlice t len (ps.map λ(i,x)=>(i,a.eval x))) (.own h'.length 0 0 es.length) (h'++[.row 0 sz es]):=by
  unfold D9 at ho;simp only[aH,beq_iff_eq,decide_eq_true_eq]at ho;obtain⟨⟨⟨⟨rfl,hsz⟩,aai⟩,Ez⟩,ho⟩:=ho;have hmap:(ps.map λ(i,x)=>(i,a.eval x)).toList=ps.toList.map λp=>(p.1,a.eval p.2):=ah
  split at ho
  . rename_i elem hel;simp only[aH,beq_iff_eq]at ho;let⟨⟨hs,hz⟩,hzl⟩:=ho;let⟨i,z,hi,hz,he⟩:=uw hz;let⟨z1,z2,z3⟩:=ux (O:=Own Z β h) (w:=w) he len;have hzs:z.cells.size=sz:=by omega
    rw[hzs]at z1
    have hc0:len*sz=0->(Array.range (len*sz)).map (λx=>(#[]:Array Value)[x%(#[]:Array Value).size]!)=Builtin.zeroCells z.cells len:=by
      intro h0;unfold Builtin.zeroCells;rw[hzs,h0];simp
    have hc1:(Array.range (len*sz)).map (λx=>z.cells[x%z.cells.size]!)=Builtin.zeroCells z.cells len:=by
      unfold Builtin.zeroCells;rw[hzs]
    let⟨vs',k1,k2,k3,k4,k5,k6,k7⟩:=yZ sz ps.toList qs (List.replicate len zero) es (Builtin.zeroCells z.cells len).toList R E Ez hp (by simp[size_zeroCells,hzs]) (an z1)
      (λu hu=>aO.1 z3 u hu)
    simp at k3;have hlen:es.length=len:=k3;have hvl:vs'.length=es.length*sz:=k2
    let⟨β',q1,q2,q3⟩:=k6.DU (w':=w.alloc (.cells vs'.toArray elem)) sz hsz es vs'.toArray elem rfl rfl rfl rfl (by rw[eZ,hvl];exact aN _)
      (k4.congr λk hk=>ah)
    have hv:=q3 es.length es.length (aN _) (by rw[eZ,hvl];exact aN _)
    refine⟨_,w.alloc (.cells vs'.toArray elem),β',?_,q1,k7.trans q2,hv⟩;rw[hlen];have WE:¬(len*sz>2 ^ 24):=aa
    simp only[Instr.buildSlice,Sem.run_bind,run_underlying hel,Result.andThen_ok,mo hs];rw[if_neg WE];simp only[dQ]at k1
    by_cases h0:len*sz=0
    . rw[if_pos h0];simp only[Sem.run_bind,Sem.run_pure,Result.andThen_ok,hmap,hc0 h0];rw[k1];simp[newRow]
    . rw[if_neg h0];simp only[Sem.run_bind,Sem.run_pure,Result.andThen_ok,hmap,kC hi hz,hc1];rw[k1];simp[newRow]
  . cases ho
def Vm(P:Program)(t:TypeId)(sz bytes:Nat)(zero:AV):Bool :=
  decide (0<sz)&&match P.underlying t with
  |some (.slice elem)=>lC P elem sz&&Db P elem bytes&&zeroV P elem zero&&zero.cells.length==sz
  |_=>false
def sK{x:AV}(hn:nat? x=some n){v:Value}(hv:VR β (Own Z β h) w x v):∃k i,v = .int k i/\0<=i/\i.toNat=n:=by
  cases x with
  |int k i =>
    simp only[nat?]at hn;split at hn
    . rename_i h0;cases hn;exact⟨k,i,hv.nr,h0,rfl⟩
    . cases hn
  |_=>simp[nat?]at hn
def wrap_small{n:Int}(h1:0<=n)(h2:n<=9223372036854775807):IntKind.i64.wrap n=n:=by
  have e:IntKind.i64.wrap n=if decide (n%18446744073709551616>=9223372036854775808)=true then n%18446744073709551616-18446744073709551616 else n%18446744073709551616:=rfl
  rw[e,Int.emod_eq_of_lt h1 aa,if_neg aj]
def ZM (R:Rel Z β h w) {t:TypeId} {bytes:Nat} {zero:AV} (ho:Vm P t sz bytes zero=true) {l c:AV} {m:Nat} (hl:nat? l=some n) (hc:nat? c=some m) (hnm:n<=m)
    (hb:m*bytes<=140737488355328) (hm:m<=140737488355328) {u v:Value} (hu:VR β (Own Z β h) w l u) (hv:VR β (Own Z β h) w c v) :
    jS P Z β h w (Instr.makeSlice t u v) (.own h.length 0 0 n) (h++[.row 0 sz (List.replicate n zero)]):=by
  obtain⟨k1,i1,rfl,p1,p2⟩:=sK hl hu;obtain⟨k2,i2,rfl,p3,p4⟩:=sK hc hv;unfold Vm at ho;simp only[aH,decide_eq_true_eq]at ho;let⟨hsz,ho⟩:=ho;split at ho
  . rename_i elem hel;simp only[aH,beq_iff_eq]at ho;let⟨⟨⟨hs,hby⟩,hz⟩,hzl⟩:=ho;let⟨i,z,hi,hz,he⟩:=uw hz;have ap8:i.bytes=bytes:=by simpa[Db,hi]using hby
    let⟨z1,z2,z3⟩:=ux (O:=Own Z β h) (w:=w) he n;let⟨y1,y2,y3⟩:=ux (O:=Own Z β h) (w:=w) he m;have hzs:z.cells.size=sz:=aa
    have Wc:(Builtin.zeroCells z.cells m).size=m*sz:=by rw[size_zeroCells,hzs]
    have w1:IntKind.i64.wrap i1=i1:=wrap_small p1 aa
    have w2:IntKind.i64.wrap i2=i2:=wrap_small p3 aa
    have hc0:m*sz=0->(Array.range (m*sz)).map (λx=>(#[]:Array Value)[x%(#[]:Array Value).size]!)=Builtin.zeroCells z.cells m:=by
      intro h0;unfold Builtin.zeroCells;rw[hzs,h0];simp
    have hc1:(Array.range (m*sz)).map (λx=>z.cells[x%z.cells.size]!)=Builtin.zeroCells z.cells m:=by
      unfold Builtin.zeroCells;rw[hzs]
    let⟨β',q1,q2,q3⟩:=R.DU (w':=w.alloc (.cells (Builtin.zeroCells z.cells m) elem)) sz hsz (List.replicate n zero) (Builtin.zeroCells z.cells m) elem rfl rfl rfl rfl
      (by rw[Wc];simp;exact bD _ hnm) (by
        have:List.replicate n zero=(List.replicate m zero).take n:=by simp[List.take_replicate];omega
        rw[this];rw[hzs]at y1;exact(jW.take y1 n).congr λk _=>ah)
    refine⟨.slice (some ⟨w.heap.size,0,none⟩) n m,_,β',?_,q1,q2,q3 n m hnm (by rw[Wc];exact aN _)⟩
    have t1:¬((i.bytes:Int)*i2>2 ^ 48):=by
      rw[ap8,<-iq p3,p4];have:((bytes:Int)*(m:Int))=((m*bytes:Nat):Int):=by rw[fK];rfl
      rw[this];omega
    have t2:¬i2<0:=aa
    have t3:¬i1<0:=aa
    have t4:¬i1>i2:=aa
    have tl:(decide (i2<0)||decide ((i.bytes:Int)*i2>2 ^ 48)||decide (i1<0)||decide (i1>i2))=false:=by
      simp only[t1,t2,t3,t4,decide_false,gC]
    have e1:(asInt (.int k1 i1)).run P w = .ok i1 w:=rfl;have e2:(asInt (.int k2 i2)).run P w = .ok i2 w:=rfl;simp only[Instr.makeSlice,Sem.run_bind,run_underlying hel,Result.andThen_ok,e1,e2,typeInfo,run_program,hi,Sem.run_pure,w1,w2];rw[if_neg (by rw[tl];simp)]
    simp only[Sem.run_bind,Result.andThen_ok,run_askRoom,p4,mo hs,p2]
    by_cases h0:m*sz=0
    . rw[if_pos h0];simp only[Sem.run_bind,Sem.run_pure,Result.andThen_ok,hc0 h0];simp[newRow]
    . rw[if_neg h0];simp only[Sem.run_bind,Sem.run_pure,Result.andThen_ok,kC hi hz,hc1];simp[newRow]
  . cases ho
end
variable{n x y sz len cap off:Nat}{lo hi:Option Operand}{lo' hi':Option AO}
section
variable{P:Program}{Z:az}{β:kW}{h:AH}{w:World}
def XB(R:Rel Z β h w){s d:TypeId}{k:IntKind}(hs:(P.underlying s).isSome=true)(hd:P.underlying d=some (.int k)){kk:IntKind}{n:Int}{v:Value}(hv:VR β (Own Z β h) w (.int kk n) v):
  jS P Z β h w (convert s d v) (.int k (k.wrap n)) h:=by
 have:=hv.nr;subst this;let⟨ds,hs⟩:=dA.1 hs;refine jS.of R (v:=.int k (k.wrap n)) ?_ (.of_int _ _);simp only[convert,Sem.run_bind,run_underlying hs,run_underlying hd,Result.andThen_ok];cases ds<;>rfl
def B6:∀ {es:List AV} {s:au},pG es=some s->∃ns:ay,es=ns.map (AV.int .u8)/\s=ns.map λn=>UInt8.ofNat n.toNat
 | [],s,hb=>by simp only[pG]at hb;cases hb;exact⟨[],rfl,rfl⟩
 |a::es,s,hb=>by
  cases a with
  |int k n =>
   cases k<;>simp only[pG]at hb<;>try (cases hb;done)
   simp only[aI]at hb;let⟨r,hr,hb⟩:=hb;cases hb;let⟨ns,e1,e2⟩:=B6 hr;exact⟨n::ns,by simp[e1],by simp[e2]⟩
  |_=>simp[pG]at hb
def foldl_push:∀(ns:ay)(b:ByteArray),(ns.foldl (λr n=>r.push (UInt8.ofNat n.toNat)) b).data.toList=b.data.toList++ns.map λn=>UInt8.ofNat n.toNat
 | [],b=>ah
 |n::ns,b=>by
  simp only[aT];rw[foldl_push ns];simp[ByteArray.push]
def aa4(R:Rel Z β h w){s d e:TypeId}(hs:P.underlying s=some (.slice e))(he:P.underlying e=some (.int .u8))(hd:P.underlying d=some .string){x:AV}{es:List AV}{l:au}
  (hx:elems h x=some es) (hl:pG es=some l) {v:Value} (hv:VR β (Own Z β h) w x v):jS P Z β h w (convert s d v) (.str l) h:=by
 obtain⟨ad,c,rfl,hc,hne⟩:=pS R hx hv;obtain⟨ns,rfl,rfl⟩:=B6 hl;have hr:=run_convert_bytes_string (P:=P) w s d e ad (ns.map (AV.int .u8)).length c hs he hd
 by_cases h0:ns=[]
 .subst h0;refine jS.of R (v:=.string ByteArray.empty) ?_ (.IQ rfl);rw[hr];cases ad with
  |none=>rfl
  |some a =>
   rw[run_bytesToString w a _ c [] (by simp[loadCells,loadCellsFrom])]
   rfl
 .obtain⟨blk,o,sz,hsz,rfl,hsrc⟩:=hne (an h0)
  have CM:kK 1 (ns.map (AV.int .u8))=true:=by simp[kK,AV.cells]
  have akp:=hsrc.kK CM
  have hcell:∀(j:Nat)(u:Value),(ns.map (Value.int .u8))[j]? = some u->w.cell? ((⟨blk,o,none⟩:Addr).add j)=some u:=by
   intro j u hu;rw[nU];simp at hu;obtain⟨n,hn,rfl⟩:=hu;let⟨_,q⟩:=akp j (.int .u8 n) (by simp[hn])
   let⟨u',q1,q2,q3⟩:=q 0 (.int .u8 n) rfl;cases q3
   simpa using q1
  have Qp:=run_loadCells_list (P:=P) w ⟨blk,o,none⟩ (ns.map (Value.int .u8)) hcell;refine jS.of R (v:=.string (ns.foldl (λr n=>r.push (UInt8.ofNat n.toNat)) ByteArray.empty)) ?_ (.IQ ?_)
  .rw[hr];have:(ns.map (AV.int .u8)).length=(ns.map (Value.int .u8)).length:=by simp
   rw[this];exact run_bytesToString w _ _ c ns Qp
  .rw[foldl_push];simp
def uB{y:AO}{e:Env}{a:Act}{k:Nat}{x:Operand}(E:kF Z β h w e a n)(ho:nW x y=true)(hk:nat? (y.get e)=some k)(top:Nat)(hle:k<=top)(code:BoundsCode)(w':World):
  (Instr.sliceBound (a.eval x) top code).run P w' = .ok k w':=by
 let⟨kk,i,e1,e2,e3⟩:=sK hk (jR E ho);rw[e1,run_sliceBound w' kk i top code e2 aa,e3]
def nw:Option Operand->Option AO->Bool
 |none,none=>true
 |some x,some y=>nW x y
 |_,_=>false
def Fh{e:Env}{a:Act}(E:kF Z β h w e a n)(h1:nw lo lo'=true)(h2:nw hi hi'=true)(hlo:lI 0 e lo'=some x)(hhi:lI len e hi'=some y)
  (hxy:x<=y) (hyc:y<=cap) (isSlice:Bool) (w':World):(Instr.sliceBounds isSlice len cap (lo.map a.eval) (hi.map a.eval) none).run P w' = .ok (x,y,cap) w':=by
 have key:∀b:Sem Nat,b.run P w' = .ok y w'->∀c:Nat->Sem Nat,(c y).run P w' = .ok x w'->True:=λ_ _ _ _=>trivial
 have hH:∀code,(match hi.map a.eval with | some v=>Instr.sliceBound v cap code | none=>pure len:Sem Nat).run P w' = .ok y w':=by
  intro code;cases hi with
  |none =>
   cases hi' with
   |none=>simp only[lI]at hhi;cases hhi;rfl
   |some _=>simp[nw]at h2
  |some p =>
   cases hi' with
   |none=>simp[nw]at h2
   |some q=>exact uB E h2 hhi cap hyc code w'
 have hL:∀code,(match lo.map a.eval with | some v=>Instr.sliceBound v y code | none=>pure 0:Sem Nat).run P w' = .ok x w':=by
  intro code;cases lo with
  |none =>
   cases lo' with
   |none=>simp only[lI]at hlo;cases hlo;rfl
   |some _=>simp[nw]at h1
  |some p =>
   cases lo' with
   |none=>simp[nw]at h1
   |some q=>exact uB E h1 hlo y hxy code w'
 unfold Instr.sliceBounds;cases hi with
 |none =>
  have e1:=hH .sliceB;simp only[ig,Sem.run_pure,Result.ok.injEq,and_true]at e1;subst e1;cases lo with
  |none=>have e2:=hL .sliceB;simp only[ig,Sem.run_pure,Result.ok.injEq,and_true]at e2;subst e2;simp
  |some p=>have e2:=hL .sliceB;simp only[bJ]at e2;simp[e2]
 |some q =>
  have e1:=hH (if isSlice then .sliceAcap else .sliceAlen)
  simp only[bJ]at e1;cases lo with
  |none=>have e2:=hL .sliceB;simp only[ig,Sem.run_pure,Result.ok.injEq,and_true]at e2;subst e2;simp[e1]
  |some p=>have e2:=hL .sliceB;simp only[bJ]at e2;simp[e1,e2]
def M1{e:Env}{a:Act}(E:kF Z β h w e a n){mx:Operand}{SG:AO}(h1:nw lo lo'=true)(h2:nw hi hi'=true)(h3:nW mx SG=true){m:Nat}(hhs:hi.isSome=true)
  (hlo:lI 0 e lo'=some x) (hhi:lI len e hi'=some y) (hm:nat? (SG.get e)=some m) (hxy:x<=y) (hym:y<=m) (TW:m<=cap) (isSlice:Bool) (w':World) :
  (Instr.sliceBounds isSlice len cap (lo.map a.eval) (hi.map a.eval) (some (a.eval mx))).run P w' = .ok (x,y,m) w':=by
 unfold Instr.sliceBounds;cases hi with
 |none=>cases hhs
 |some q =>
  cases hi' with
  |none=>simp[nw]at h2
  |some q' =>
   have e0:=uB (P:=P) E h3 hm cap TW (if isSlice then .slice3Acap else .slice3Alen) w'
   have e1:=uB (P:=P) E h2 hhi m hym .slice3B w';cases lo with
   |none =>
    cases lo' with
    |none=>simp only[lI]at hlo;cases hlo;simp[e0,e1]
    |some _=>simp[nw]at h1
   |some p =>
    cases lo' with
    |none=>simp[nw]at h1
    |some p' =>
     have e2:=uB (P:=P) E h1 hlo y hxy .slice3C w';simp[e0,e1,e2]
def Za(R:Rel Z β h w){e:Env}{a:Act}(E:kF Z β h w e a n){t:TypeId}(ht:P.underlying t=some .string)(h1:nw lo lo'=true)(h2:nw hi hi'=true)
  {s:au} {x y:Nat} (hlo:lI 0 e lo'=some x) (hhi:lI s.length e hi'=some y) (hxy:x<=y) (hys:y<=s.length) {v:Value} (hv:VR β (Own Z β h) w (.str s) v) :
  jS P Z β h w (Instr.sliceAt t v (lo.map a.eval) (hi.map a.eval) none) (.str ((s.take y).drop x)) h:=by
 obtain⟨b,rfl,hb⟩:=hv.pH;have hsz:b.size=s.length:=by rw[<-hb];rfl
 refine jS.of R (v:=.string (b.extract x y)) ?_ (.IQ ?_)
 .have hbd:=Fh (P:=P) E h1 h2 (len:=b.size) (cap:=b.size) hlo (by rw[hsz];exact hhi) hxy aa false w
  simp only[Instr.sliceAt,Instr.slice,Sem.run_bind,run_underlying ht,Result.andThen_ok,hbd,Sem.run_pure,Option.isSome_none,aU,if_false]
 .rw[ByteArray.data_extract,Array.toList_extract,hb,iF,List.take_drop]
  congr 1;congr 1;omega
def CY{e:Env}{a:Act}(E:kF Z β h w e a n){t elem:TypeId}(ht:P.underlying t=some (.slice elem))(hsz:lC P elem sz=true){mx:Option Operand}{SG:Option AO}
  (h1:nw lo lo'=true) (h2:nw hi hi'=true) (h3:nw mx SG=true) (Mi:mx.isSome=true->hi.isSome=true)
  {len x y m:Nat} {ad:Option Addr} {cap:Nat} (hlo:lI 0 e lo'=some x) (hhi:lI len e hi'=some y) (hm:lI cap e SG=some m) (hxy:x<=y) (hym:y<=m) (TW:m<=cap) :
  (Instr.sliceAt t (.slice ad len cap) (lo.map a.eval) (hi.map a.eval) (mx.map a.eval)).run P w = .ok (.slice (if m=x then ad else ad.map (·.add (x*sz))) (y-x) (m-x)) w:=by
 have hbd:(Instr.sliceBounds true len cap (lo.map a.eval) (hi.map a.eval) (mx.map a.eval)).run P w = .ok (x,y,m) w:=by
  cases mx with
  |none =>
   cases SG with
   |none =>
    simp only[lI]at hm;cases hm;exact Fh (P:=P) E h1 h2 hlo hhi hxy hym true w
   |some _=>simp[nw]at h3
  |some p =>
   cases SG with
   |none=>simp[nw]at h3
   |some p'=>exact M1 (P:=P) E h1 h2 h3 (Mi rfl) hlo hhi hm hxy hym TW true w
 simp only[Instr.sliceAt,Instr.slice,Sem.run_bind,run_underlying ht,Result.andThen_ok,hbd,mo hsz,Sem.run_pure]
def P9{O:az}{full:Bool}{es:List AV}{ad:Option Addr}{c:Nat}(hv:qW O w (.jB full es) (.slice ad es.length c))(CM:kK sz es=true)(SX:0<sz){m:Nat}(hxy:x<=y)(hym:y<=m)(hy:y<=es.length){full':Bool}
  (hf:full'=true->m=y):qW O w (.jB full' ((es.take y).drop x)) (.slice (if m=x then ad else ad.map (·.add (x*sz))) (y-x) (m-x)):=by
 have hlen:((es.take y).drop x).length=y-x:=aj
 by_cases h0:(es.take y).drop x=[]
 .rw[h0]at hlen⊢;rw[<-hlen];simp at hlen;refine .jB full' [] _ (m-x) 0 0 0 (λ_ _=>.bool true) (λhft=>?_) ah ah ah ah ah ah
  have:=hf hft;simp;omega
 .have hx:x<y:=by
   rcases cG x y with h' | h'
   .exact h'
   .exact absurd (aY aa) h0
  have hne:es≠[]:=by rintro rfl;simp at h0
  generalize hce:es.length=ce at hv;cases hv with
  |jB _ _ ad' c' blk o sz' f hf' CN ha hs q1 q3 q2 =>
   have aeg:sz'=sz:=by
    let⟨z,l,hzl⟩:=ga hne;have e1:=(hs 0 z (by rw[hzl];rfl)).1
    rw[hzl]at CM;simp only[kK,bH,aH,beq_iff_eq]at CM;omega
   subst aeg;obtain⟨rfl,hO,hb⟩:=ha hne;rw[if_neg aa,<-hlen]
   simp only[bJ,nU];refine vo SX hO hb ?_ (λhft=>?_) aa
   .have hsrc:jW O w (λk=>w.cell? ⟨blk,o+k,none⟩) sz' es:=λi z hz=>⟨(hs i z hz).1,λj yy NA=>⟨f i j,by have:=q1 i z hz j yy NA;rw[cz]at this;exact this,q3 i z hz j yy NA,q2 i z hz j yy NA⟩⟩
    refine((hsrc.take y).drop x).congr λk _=>?_
    rw[cz]
   .have:=hf hft;omega
def QH{t:TypeId}{fs:Array Field}{k:Nat}{f:Field}(ht:P.underlying t=some (.struct fs))(hf:fs[k]? = some f)(hoff:f.offset=off)(hsz:∃i,P.info? f.type=some i/\i.size≠0)(b o:Nat)(w:World):
  (Instr.fieldAt t (.pointer (some ⟨b,o,none⟩)) k).run P w = .ok (.pointer (some ⟨b,o+off,none⟩)) w:=by
 let⟨i,hi,h0⟩:=hsz;simp only[Instr.fieldAt,Sem.run_bind,run_underlying ht,Result.andThen_ok,hf,Instr.sureAddr,Sem.run_pure,fieldPlace,sizeOf,typeInfo,run_program,hi];rw[if_neg h0];simp[hoff,nU]
def NX{O:az}{agg:Bool}{cs:List AV}{av:AV}(hs:shape sz agg (cs.drop off)=some av){t:TypeId}(hsz:lC P t sz=true)(hag:we P t agg=true){vs:List Value}(hl:cs.length=vs.length)
  (h1:∀u∈vs,u.oneCell'=true) (h2:∀(j:Nat)(y:AV)(u:Value),cs[j]? = some y->vs[j]? = some u->VR β O w y u):∃v,(part t vs.toArray off).run P w = .ok v w/\VR β O w av v:=by
 unfold shape at hs;split at hs
 .cases hs
 .rename_i hlen;simp at hlen;split at hs
  .rename_i hagg;subst hagg;cases hs;refine⟨.agg (vs.toArray.extract off (off+sz)),by simp[part,xP hag,mo hsz],?_⟩
   have:vs.toArray.extract off (off+sz)=((vs.drop off).take sz).toArray:=by
    apply dI;simp[iF]
   rw[this];refine .agg _ _ aj (λu hu=>h1 u (cA (cm hu))) λj y u hy hu=>?_
   rw[cC]at hy hu;split at hy
   .rename_i hj;rw[if_pos hj]at hu;rw[bU]at hy hu;exact h2 _ y u hy hu
   .cases hy
  .rename_i hagg;have WK:agg=false:=by simpa using hagg
   subst WK;split at hs
   .rename_i akm;have hoff:off<vs.length:=by omega
    refine⟨vs[off],by simp[part,xP hag,hoff],h2 off av _ ?_ (by simp[hoff])⟩
    rw[iR,bU]at hs
    simpa using hs
   .cases hs
end
variable{sz:Nat}
section
variable{P:Program}{Z:az}{β:kW}{h:AH}{w:World}
def G0(R:Rel Z β h w){b v:Nat}(hr:kX h b v=some sz){bd:Bd}(hb:β b v=some bd):bd.sz=sz/\0<sz:=by
  unfold kX at hr;split at hr
  . rename_i v' sz' es lJ;split at hr
    . rename_i hv;subst hv;cases hr;let⟨h0,zk,e1,e2,_⟩:=R.blk b _ lJ;rw[hb]at e1;cases e1;exact⟨e2,h0⟩
    . cases hr
  . rename_i v' sz' es lJ;split at hr
    . rename_i hv;subst hv;cases hr;let⟨h0,zk,e1,e2,_⟩:=R.blk b _ lJ;rw[hb]at e1;cases e1;exact⟨e2,h0⟩
    . cases hr
  . cases hr
def Yp(P:Program)(w:World)(argTypes:Array TypeId)(x:Value)(size n:Nat)(news:List Value):Prop :=
  (∃u d,argTypes[1]? = some u/\P.underlying u=some d/\(match d with | .int _=>False | _=>True)/\(Builtin.lenOf x).run P w = .ok n w/\
    (∀w':World,w'.heap=w.heap->(Builtin.firstCells size n x).run P w' = .ok news.toArray w'))\/
  (∃u k kk i,argTypes[1]? = some u/\P.underlying u=some (.int k)/\x = .int kk i/\0<=i/\i.toNat=n/\i<=140737488355328)
def DK (t ty e:TypeId) (i:TypeInfo) (z:Value) (ht:P.underlying t=some (.slice e)) (hi:P.info? e=some i) (hz:i.zero=some z) (hzs:z.cells.size=i.size)
    (argTypes:Array TypeId) (WI:argTypes[0]? = some t) (ad:Option Addr) (sLen sCap:Nat) (x:Value) (n:Nat) (news olds:List Value) (hbr:Yp P w argTypes x i.size n news)
    (hnews:(∃u d,argTypes[1]? = some u/\P.underlying u=some d/\(match d with | .int _=>False | _=>True))\/news=(Builtin.zeroCells z.cells n).toList)
    (hold:∀w':World,w'.heap=w.heap->(Builtin.firstCells i.size sLen (.slice ad sLen sCap)).run P w' = .ok olds.toArray w')
    (h63:sLen+n<=140737488355328) (hbytes:(sLen+n)*i.bytes<=140737488355328) :
    (sLen+n<=sCap->(Builtin.append_ argTypes ty #[.slice ad sLen sCap,x]).run P w=((match ad with | some a=>storeCells (a.add (sLen*i.size)) news | none=>pure ():Sem Unit).run P w).andThen λ_ w'=>.ok (.slice ad (sLen+n) sCap) w')/\
    (¬sLen+n<=sCap->(Builtin.append_ argTypes ty #[.slice ad sLen sCap,x]).run P w = .ok (.slice (some ⟨w.heap.size,0,none⟩) (sLen+n) (grownCap w (sLen+n) sCap e))
        (w.drew.alloc (.cells (olds.toArray++news.toArray++Builtin.zeroCells z.cells (grownCap w (sLen+n) sCap e-(sLen+n))) e))):=by
  have ar4:∀x:World,x.drew.heap=x.heap:=λ_=>rfl
  have h48:¬(sLen+n<=sCap)->¬(Builtin.nextslicecap (sLen+n) sCap*i.bytes>2 ^ 48):=by
    intro hg;have:=growslice_fits (need:=sLen+n) (old:=sCap) aa hbytes
    omega
  have h63':¬(((sLen+n:Nat):Int)>IntKind.i64.max):=by
    have:IntKind.i64.max=9223372036854775807:=by rfl
    rw[this];omega
  have aac:∀(q:Question),q = .appendCap (sLen+n) sCap e->q.forced=false:=by rintro _ rfl;rfl
  rcases hbr with⟨u,d,hu,hd,Ww,hlen,hfc⟩ | ⟨u,k,kk,ii,hu,hd,rfl,h0,hin,hsmall⟩
  . constructor
    . intro hfit;have hf:=hfc w rfl
      cases d<;>first
        |exact Ww.elim
        | (simp only [Builtin.append_, WI, bN, bz, bG, Sem.run_bind, run_underlying ht, Result.andThen_ok, sizeOf, typeInfo, run_program, hi, Sem.run_pure, hu, run_underlying hd,
            aU,if_false,hlen,gh,if_true,hfit,hf]
           cases ad<;>simp)
    . intro hfit;have hf:=hfc {w with drawn:=w.drawn+1} rfl
      have ho:=hold {w with drawn:=w.drawn+1} rfl
      have hc:=aac _ rfl;have h4:=h48 hfit
      cases d<;>first
        |exact Ww.elim
        | (simp only [Builtin.append_, WI, bN, bz, bG, Sem.run_bind, run_underlying ht, Result.andThen_ok, sizeOf, typeInfo, run_program, hi, Sem.run_pure, hu, run_underlying hd,
            aU,if_false,hlen,gh,if_true,hfit,h63',false_and,h4,run_choose,hc,run_askRoom,ho,hf,kC hi hz,newRow,run_newObj]
           simp[grownCap];rfl)
  . have aeo:news=(Builtin.zeroCells z.cells n).toList:=by
      rcases hnews with⟨u',d',e1,e2,e3⟩ | hnews
      . rw[hu]at e1;cases e1;rw[hd]at e2;cases e2;exact e3.elim
      . exact hnews
    subst aeo;have hw:IntKind.i64.wrap ii=ii:=wrap_small h0 aa
    have hneg:¬ii<0:=aa
    have akG:¬(ii*(i.bytes:Int)>2 ^ 48):=by
      have e1:ii=(n:Int):=aa
      rw[e1];have e2:(n*i.bytes:Nat)<=(sLen+n)*i.bytes:=bD _ aa
      have e3:((n:Int)*(i.bytes:Int))=((n*i.bytes:Nat):Int):=ah
      rw[e3];omega
    have e1:∀w',(asInt (.int kk ii)).run P w' = .ok ii w':=λ_=>rfl
    have WJ:∀w':World,((if n*i.size=0 then pure #[]else do pure (Builtin.zeroCells (<-zeroValue e).cells n)):Sem (Array Value)).run P w' = .ok (Builtin.zeroCells z.cells n) w':=by
      intro w'
      by_cases hz0:n*i.size=0
      . have:Builtin.zeroCells z.cells n = #[]:=by
          apply gU;rw[size_zeroCells,hzs];exact hz0
        simp[hz0,this]
      . simp[hz0,kC hi hz]
    constructor
    . intro hfit;simp only[Builtin.append_,WI,bN,bz,bG,Sem.run_bind,run_underlying ht,Result.andThen_ok,sizeOf,typeInfo,run_program,hi,Sem.run_pure,hu,run_underlying hd,
        if_true,e1,hw,hneg,if_false,akG,hin,gA,aU,hfit,WJ]
      cases ad with
      |none=>simp
      |some a=>simp
    . intro hfit;simp only[Builtin.append_,WI,bN,bz,bG,Sem.run_bind,run_underlying ht,Result.andThen_ok,sizeOf,typeInfo,run_program,hi,Sem.run_pure,hu,run_underlying hd,
        if_true,e1,hw,hneg,if_false,akG,hin,gA,aU,hfit]
      simp only[h63',false_and,if_false,Sem.run_bind,Sem.run_pure,Result.andThen_ok,run_program,hi,h48 hfit,run_choose,aac _ rfl,aU,run_askRoom,hold {w with drawn:=w.drawn+1} rfl,WJ,
        kC hi hz,newRow,run_newObj]
      simp[grownCap];rfl
def AL{O:az}{ad:Option Addr}{n c:Nat}{es:List AV}(hlen:es.length=n)(hsrc:es≠[]->∃blk o,ad=some ⟨blk,o,none⟩/\jW O w (λk=>w.cell? ⟨blk,o+k,none⟩) sz es):
    ∃olds:List Value,olds.length=n*sz/\(∀u∈olds,u.oneCell'=true)/\jW O w (λk=>olds[k]?) sz es/\∀w':World,w'.heap=w.heap->(Builtin.firstCells sz n (.slice ad n c)).run P w' = .ok olds.toArray w':=by
  by_cases h0:es=[]
  . subst h0;simp at hlen;subst hlen;refine⟨[],ah,ah,.nil,λw' _=>?_⟩
    cases ad<;>simp[Builtin.firstCells,loadCells,loadCellsFrom]
  . obtain⟨blk,o,rfl,hs⟩:=hsrc h0;let⟨vs,l1,l2,l3,l4⟩:=hs.list;refine⟨vs,by rw[l1,hlen],l3,l4,λw' hw'=>?_⟩
    exact run_firstCells_some w' sz n ⟨blk,o,none⟩ n c vs (by rw[l1,hlen]) (λj u hu=>by
      rw[nU];have:=l2 j u hu
      simpa[World.cell?,hw']using this)
def jW.app{O:az}{vs us:List Value}{es es':List AV}(h1:jW O w (λk=>vs[k]?) sz es)(hl:vs.length=es.length*sz)(h2:jW O w (λk=>us[k]?) sz es'):jW O w (λk=>(vs++us)[k]?) sz (es++es'):=by
  have tQ:∀ {us':List Value},jW O w (λk=>us'[k]?) sz es'->True:=λ_=>trivial
  refine jW.append (h1.congr λk hk=>?_) (h2.congr λk _=>?_)
  . rw[aK aa]
  . rw[aV aa,hl]
    congr 1;omega
def FM (R:Rel Z β h w) {t ty e:TypeId} {bytes:Nat} (ht:P.underlying t=some (.slice e)) {i:TypeInfo} {z:Value} (hi:P.info? e=some i) (hz:i.zero=some z) (hzs:z.cells.size=i.size) (hsz:i.size=sz) (hby:i.bytes=bytes) (SX:0<sz)
    {argTypes:Array TypeId} (WI:argTypes[0]? = some t) {s av:AV} {mu:List AV} {h':AH} (hap:append h sz bytes s mu=some (av,h')) {v x:Value} (hv:VR β (Own Z β h) w s v) {news:List Value}
    (hbr:Yp P w argTypes x sz mu.length news) (hnews:(∃u d,argTypes[1]? = some u/\P.underlying u=some d/\(match d with | .int _=>False | _=>True))\/news=(Builtin.zeroCells z.cells mu.length).toList)
    (hnl:news.length=mu.length*sz) (Mh:jW (Own Z β h) w (λk=>news[k]?) sz mu) (hn1:∀u∈news,u.oneCell'=true):jS P Z β h w (Builtin.append_ argTypes ty #[v,x]) av h':=by
  cases s with
  |jB full es =>
    cases full with
    |false=>simp[append]at hap
    |true =>
      simp only[append]at hap;split at hap
      . rename_i nR;let⟨hne,CM,akl,hb,h63⟩:=nR;cases hap;obtain⟨ad,c,rfl,hc,hsrc⟩:=pS R (a:=.jB true es) rfl hv;have hfull:c=es.length:=by
          generalize hce:es.length=ce at hv;cases hv.oJ with
          |jB _ _ _ _ _ _ _ _ hf=>have:=hf rfl;omega
        subst hfull
        let⟨olds,o1,o2,o3,o4⟩:=AL (P:=P) (O:=Own Z β h) (w:=w) (ad:=ad) (c:=es.length) (sz:=sz) (es:=es) rfl (λGx=>by
          let⟨blk,o,sz',_,e1,e2⟩:=hsrc Gx;exact⟨blk,o,e1,e2.kK CM⟩)
        let⟨r1,r2⟩:=DK (P:=P) (w:=w) t ty e i z ht hi hz hzs argTypes WI ad es.length es.length x mu.length news olds (by rw[hsz];exact hbr) hnews (by rw[hsz];exact o4) h63 (by rw[hby];exact hb)
        by_cases hfit:es.length+mu.length<=es.length
        . have hn0:mu=[]:=aY aa
          subst hn0;have lJ:es=[]:=by
            rcases hne with h0 | h0
            . exact h0
            . exact absurd rfl h0
          subst lJ;have OG:news=[]:=aY (an hnl)
          subst OG;let⟨β',k1,k2,k3⟩:=R.sg sz SX;refine⟨.slice ad 0 0,w,β',?_,an k1,an k2,by simpa using k3 ad⟩
          have:=r1 hfit;simp only[bq,ct]at this;simp only[bq];rw[this];cases ad<;>simp[storeCells]
        . have hr:=r2 hfit;have hge:=grownCap_ge w (es.length+mu.length) es.length e
          have hsize:(olds.toArray++news.toArray++Builtin.zeroCells z.cells (grownCap w (es.length+mu.length) es.length e-(es.length+mu.length))).size=grownCap w (es.length+mu.length) es.length e*sz:=by
            simp only[iJ,eZ,size_zeroCells,hzs,hsz,o1,hnl,<-bR]
            congr 1;omega
          let⟨β',k1,k2,k3⟩:=R.DU (w':=w.drew.alloc (.cells (olds.toArray++news.toArray++Builtin.zeroCells z.cells (grownCap w (es.length+mu.length) es.length e-(es.length+mu.length))) e)) sz SX (es++mu) _ e rfl rfl rfl rfl
            (by rw[hsize];simp only[aL];exact bD _ hge)
            ((o3.app o1 Mh).congr λk hk=>by
              have hlt:k<(olds++news).length:=by simp only[aL,o1,hnl,<-bR]at hk⊢;exact hk
              have e2:olds.toArray++news.toArray=(olds++news).toArray:=ah
              rw[e2,bE,cR (an hlt)]
              simp)
          exact⟨_,_,β',hr,k1,k2,k3 _ _ hge (by rw[hsize];exact aN _)⟩
      . cases hap
  |own b vv o n =>
    simp only[append]at hap;split at hap
    . rename_i v' sz' es lJ;split at hap
      . rename_i nR;obtain⟨rfl,rfl,akl,NC,hb,h63⟩:=nR;cases hap;obtain⟨bd,ad,c,hbd,rfl,h2⟩:=hv.mg;let⟨_,zk,q1,q2,q3⟩:=R.blk b _ lJ;rw[hbd]at q1;cases q1;let⟨ad',c',e1,hc,hsrc⟩:=pS R (a:=.own b vv o n) (es:=(es.drop o).take n) (by simp[elems,lJ,NC]) hv
        have hlen:((es.drop o).take n).length=n:=aj
        rw[hlen]at e1;cases e1
        let⟨olds,o1,o2,o3,o4⟩:=AL (P:=P) (O:=Own Z β h) (w:=w) (ad:=ad) (c:=c) (sz:=sz') (es:=(es.drop o).take n) hlen (λGx=>by
          let⟨blk,oo,sz2,_,e1,e2⟩:=hsrc Gx
          rcases h2 with⟨_,h2⟩ | ⟨cb,p1,p2,_,_⟩
          . subst h2;simp at Gx
          . rcases q3 with⟨q3,_⟩ | ⟨c2,cur,elem,g1,g2,g3,g4,g5⟩
            . rw[p1]at q3;cases q3
            . rw[p1]at g1;cases g1;rw[q2]at p2;exact⟨cb,_,p2,vk g2 g5⟩)
        let⟨r1,r2⟩:=DK (P:=P) (w:=w) t ty e i z ht hi hz hzs argTypes WI ad n c x mu.length news olds (by rw[hsz];exact hbr) hnews (by rw[hsz];exact o4) h63 (by rw[hby];exact hb)
        by_cases hfit:n+mu.length<=c
        . have hr:=r1 hfit
          rcases h2 with⟨hc0,hn0⟩ | ⟨cb,p1,p2,p3,p4⟩
          . subst hc0 hn0;have hnA:mu=[]:=aY aa
            subst hnA;have OG:news=[]:=aY (an hnl)
            subst OG;let⟨β',k1,k2,k3⟩:=R.Nn lJ;refine⟨.slice ad 0 0,w,β',?_,an k1,an k2,by simpa using k3 ad⟩
            rw[hr];cases ad<;>simp[storeCells]
          . rcases q3 with⟨q3,_⟩ | ⟨c2,cur,elem,g1,g2,g3,g4,g5⟩
            . rw[p1]at q3;cases q3
            rw[p1]at g1;cases g1;subst q2;subst p2;have hroom:bd.base+o*bd.sz+c*bd.sz<=cur.size:=by rw[g3];rw[bR]at p4;omega
            have aem:(n+mu.length)*bd.sz<=c*bd.sz:=bD _ hfit;have asK:news.length=mu.length*bd.sz:=hnl;rw[bR]at aem;have oS:bd.base+o*bd.sz+n*bd.sz+news.length<=cur.toList.length:=aj
            have sS:jW (Own Z β h) w (λk=>(over cur.toList (bd.base+o*bd.sz+n*bd.sz) news)[bd.base+o*bd.sz+k]?) bd.sz ((es.drop o).take n++mu):=by
              refine jW.append (((jW.drop g5 o).take n).congr λk hk=>?_) (Mh.congr λk hk=>?_)
              . rw[hlen]at hk;rw[kj _ _ _ oS,if_neg aa]
                simp only[ey]
                congr 1;omega
              . rw[kj _ _ _ oS,hlen,if_pos aa]
                congr 1;omega
            let⟨β',k1,k2,k3⟩:=R.vR lJ hbd p1 g2 (over cur.toList (bd.base+o*bd.sz+n*bd.sz) news) (by rw[jZ _ _ _ oS];simp) o (es':=(es.drop o).take n++mu)
              (by simp only[aL,hlen,bR];omega) (sS.congr λk _=>ah)
            refine⟨_,_,β',?_,k1,k2,k3 (n+mu.length) c hfit hroom⟩;rw[hr];have hst:=run_storeCells_at P cb (bd.base+o*bd.sz+n*bd.sz) elem news 0 cur w g2 (an oS) hn1
            simp only[ct]at hst;simp only[nU,hsz];rw[hst];rfl
        . have hr:=r2 hfit;have hge:=grownCap_ge w (n+mu.length) c e
          have hsize:(olds.toArray++news.toArray++Builtin.zeroCells z.cells (grownCap w (n+mu.length) c e-(n+mu.length))).size=grownCap w (n+mu.length) c e*sz':=by
            simp only[iJ,eZ,size_zeroCells,hzs,hsz,o1,hnl,<-bR]
            congr 1;omega
          let⟨β',k1,k2,k3⟩:=R.FN (w':=w.drew.alloc (.cells (olds.toArray++news.toArray++Builtin.zeroCells z.cells (grownCap w (n+mu.length) c e-(n+mu.length))) e)) (cur:=olds.toArray++news.toArray++Builtin.zeroCells z.cells (grownCap w (n+mu.length) c e-(n+mu.length))) (elem:=e) lJ (es':=(es.drop o).take n++mu) rfl rfl rfl rfl
            (by rw[hsize];simp only[aL,hlen];exact bD _ hge)
            ((o3.app (by rw[o1,hlen]) Mh).congr λk hk=>by
              have hlt:k<(olds++news).length:=by simp only[aL,o1,hnl,hlen,<-bR]at hk⊢;exact hk
              have e2:olds.toArray++news.toArray=(olds++news).toArray:=ah
              rw[e2,bE,cR (an hlt)]
              simp)
          exact⟨_,_,β',hr,k1,k2,k3 _ _ hge (by rw[hsize];exact aN _)⟩
      . cases hap
    . cases hap
  |_=>simp[append]at hap
end
section
variable{P:Program}{Z:az}{β:kW}{h:AH}{w:World}
def Vf{α:Type}(l:List α)(o:Nat):over l o []=l:=by simp[over]
def jW.over{O:az}{vs us:List Value}{base sz:Nat}{es es':List AV}{o:Nat}(h1:jW O w (λk=>vs[base+k]?) sz es)(h2:jW O w (λk=>us[k]?) sz es')(hu:us.length=es'.length*sz)(ho:o+es'.length<=es.length)
  (hl:base+es.length*sz<=vs.length):jW O w (λk=>(Am.over vs (base+o*sz) us)[base+k]?) sz (Am.over es o es'):=by
 have hle:(o+es'.length)*sz<=es.length*sz:=bD _ ho;rw[bR]at hle;have oS:base+o*sz+us.length<=vs.length:=aa
 have e0:Am.over es o es'=es.take o++(es'++es.drop (o+es'.length)):=by simp[Am.over]
 rw[e0];have hto:(es.take o).length=o:=aj
 refine jW.append ((h1.take o).congr λk hk=>?_) (jW.append (h2.congr λk hk=>?_) ((jW.drop h1 (o+es'.length)).congr λk hk=>?_))
 .rw[hto]at hk;rw[kj _ _ _ oS,if_neg aa]
 .rw[hto,kj _ _ _ oS,if_pos aa]
  congr 1;omega
 .rw[hto,kj _ _ _ oS,if_neg aa,bR]
  congr 1;omega
def aaN(R:Rel Z β h w){t elem ty:TypeId}(hd:P.underlying t=some (.slice elem)){sz:Nat}(hsz:lC P elem sz=true){zero:AV}{i:TypeInfo}{z:Value}(hi:P.info? elem=some i)(hzi:i.zero=some z)(apA:z.cells.size=i.size)(YL:eqV z zero=true)
  {b vv o n vv' sz':Nat} {es:List AV} {v:Value} (hv:VR β (Own Z β h) w (.own b vv o n) v) (lJ:h[b]? = some (.row vv' sz' es)) (hvv:vv=vv') (apF:sz'=sz) (NC:o+n<=es.length) :
  jS P Z β h w (Builtin.clear_ #[t] ty #[v]) (.kT []) (h.set b (.row vv' sz' (Am.over es o (List.replicate n zero)))):=by
 subst hvv apF;obtain⟨bd,ad',c',hbd,rfl,h2⟩:=hv.mg;let⟨SX,zk,q1,q2,q3⟩:=R.blk b _ lJ;rw[hbd]at q1;cases q1;have apV:i.size=sz':=by
  unfold lC at hsz;rw[hi]at hsz
  simpa using hsz
 let⟨z1,z2,z3⟩:=ux (O:=Own Z β h) (w:=w) YL n;have apD:VR β (Own Z β h) w (.kT []) (.tuple #[]):=.kT [] [] rfl (λj y u hy=>by simp at hy)
 by_cases hn0:n=0
 .subst hn0
  have qy:h.set b (.row vv sz' es)=h:=by
   apply dr;intro k
   by_cases hk:k=b
   .subst hk;rw[aZ (aF.1 lJ).1,lJ]
   .rw[aJ (Ne.symm hk)]
  rw[List.replicate_zero,Vf,qy];refine jS.of R (v:=.tuple #[]) ?_ apD;cases ad'<;>simp[Builtin.clear_,run_underlying hd]
 .rcases h2 with⟨_,h2⟩ | ⟨cb,p1,p2,p3,p4⟩
  .omega
  .rcases q3 with⟨q3,_⟩ | ⟨c2,cur,elem',g1,g2,g3,g4,g5⟩
   .rw[p1]at q3;cases q3
   rw[p1]at g1;cases g1;subst q2 p2;have hle:(o+n)*bd.sz<=es.length*bd.sz:=bD _ aa
   rw[bR]at hle;obtain⟨news,hnews⟩:∃news,news=(Builtin.zeroCells z.cells n).toList:=⟨_,rfl⟩;have hzs:z.cells.size=bd.sz:=by rw[apA,apV]
   .have o1:news.length=n*bd.sz:=by rw[hnews];simp[size_zeroCells,hzs]
    have oS:bd.base+o*bd.sz+news.length<=cur.toList.length:=aj
    have z1':jW (Own Z β h) w (λk=>news[k]?) bd.sz (List.replicate n zero):=by
     rw[hzs]at z1;exact z1.congr λk _=>by rw[hnews];simp
    have hsa:=jW.over (vs:=cur.toList) (base:=bd.base) (o:=o) (es':=List.replicate n zero) (jW.congr g5 λk _=>ah) z1' (by rw[o1];simp) aj aj
    let⟨W1,W2⟩:=R.GI lJ hbd p1 g2 (Am.over cur.toList (bd.base+o*bd.sz) news) (by rw[jZ _ _ _ oS];simp) (es':=Am.over es o (List.replicate n zero)) (by rw[jZ _ _ _ aj]) (jW.congr hsa λk _=>ah)
    refine⟨.tuple #[],_,β,?_,W1,W2,.kT [] [] rfl (λj y u hy=>by simp at hy)⟩
    have hst:=run_storeCells_at P cb (bd.base+o*bd.sz) elem' news 0 cur w g2 (an oS) (λu hu=>aO.1 z3 u (hnews▸hu))
    simp only[ct]at hst;obtain⟨n',rfl⟩:∃n',n=n'+1:=⟨n-1,aa⟩
    simp only[Builtin.clear_,bN,bz,Sem.run_bind,run_underlying hd,Result.andThen_ok,kC hi hzi,<-hnews,hst,Sem.run_pure];rfl
def XF(R:Rel Z β h w){t elem ty:TypeId}(hd:P.underlying t=some (.slice elem)){v:Value}{full:Bool}(hv:VR β (Own Z β h) w (.jB full []) v):jS P Z β h w (Builtin.clear_ #[t] ty #[v]) (.kT []) h:=by
 have hp:=hv.oJ;generalize lJ:([]:List AV)=es at hp;cases hp with
 |jB _ _ a c blk o sz f hf hc ha hs h1 h3 h2 =>
  subst lJ;refine jS.of R (v:=.tuple #[]) ?_ (.kT [] [] rfl (λj y u hy=>by simp at hy))
  cases a<;>simp[Builtin.clear_,run_underlying hd]
def ZL{isMax:Bool}{x y av:AV}(hx:mm2 isMax x y=some av){u v:Value}(hu:VR β (Own Z β h) w x u)(hv:VR β (Own Z β h) w y v):
  ∃q,((if isMax then Builtin.max2 u v else Builtin.min2 u v):Sem Value).run P w = .ok q w/\VR β (Own Z β h) w av q:=by
 cases x<;>cases y<;>simp only[mm2]at hx<;>try (cases hx;done)
 cases hx;rw[hu.nr,hv.nr];refine⟨_,?_,.of_int _ _⟩;cases isMax<;>simp[Builtin.max2,Builtin.min2]
def Vx{isMax:Bool}:∀(xs:List AV)(us:List Value){x av:AV}{u:Value},yx isMax x xs=some av->VR β (Own Z β h) w x u->xs.length=us.length->(∀(j:Nat)(y:AV)(q:Value),xs[j]? = some y->us[j]? = some q->VR β (Own Z β h) w y q)->
  ∃q,(us.foldlM (if isMax then Builtin.max2 else Builtin.min2) u:Sem Value).run P w = .ok q w/\VR β (Own Z β h) w av q
 | [],us,x,av,u,hx,hu,hl,_=>by
  have:us=[]:=aY (an hl.symm)
  subst this;simp only[yx]at hx;cases hx;exact⟨u,ah,hu⟩
 |y::xs,us,x,av,u,hx,hu,hl,hall=>by
  cases us with
  |nil=>simp at hl
  |cons q us =>
   simp only[yx,aI]at hx;let⟨z,hz,hx⟩:=hx;let⟨p,p1,p2⟩:=ZL (P:=P) hz hu (hall 0 y q rfl rfl);let⟨r,r1,r2⟩:=Vx xs us hx p2 (an hl) (λj y q h1 h2=>hall (j+1) y q (an h1) (an h2))
   refine⟨r,?_,r2⟩;rw[List.foldlM_cons];simp only[Sem.run_bind]
   have:((if isMax then Builtin.max2 else Builtin.min2) u q:Sem Value).run P w = .ok p w:=by
    cases isMax<;>simpa using p1
   rw[this];exact r1
def ny:List Operand->List AO->Bool
 | [],[]=>true
 |x::l,y::l'=>nW x y&&ny l l'
 |_,_=>false
def qJ{e:Env}{a:Act}{n:Nat}(E:kF Z β h w e a n):∀ {xs:List Operand} {ys:List AO},ny xs ys=true->(getAll e ys).length=(xs.map a.eval).length/\∀(j:Nat)(y:AV)(u:Value),(getAll e ys)[j]? = some y->(xs.map a.eval)[j]? = some u->VR β (Own Z β h) w y u
 | [],[],_=>⟨rfl,by simp[getAll]⟩
 |x::xs,y::ys,ho=>by
  simp only[ny,aH]at ho;let⟨h1,h2⟩:=ho;let⟨q1,q2⟩:=qJ E h2;refine⟨by simp[getAll,q1],λj y' u hy hu=>?_⟩
  cases j with
  |zero=>simp[getAll]at hy hu;subst hy hu;exact jR E h1
  |succ j=>exact q2 j y' u (by simpa[getAll]using hy) (an hu)
 | [],_::_,ho=>by simp[ny]at ho
 |_::_,[],ho=>by simp[ny]at ho
end
end Go.Am
