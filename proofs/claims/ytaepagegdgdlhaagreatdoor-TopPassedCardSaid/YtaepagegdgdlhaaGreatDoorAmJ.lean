/- Part of the proof that TopPassedCard holds. -/
import Derived.ChangeKeysEq
import Derived.Test.YtaepagegdgdlhaaGreatDoorAmH
set_option linter.all false
namespace Go.Am
section
variable{P:Program}{Z:az}{β:kW}{h:AH}{w:World}
def Rel.grown(R:Rel Z β h w){w':World}(hos:w'.os=w.os)(zU:w'.tape=w.tape)(hout:w'.output=w.output)(hsize:w.heap.size<=w'.heap.size)
  (hkeep:∀b,b<w.heap.size->w'.heap[b]? = w.heap[b]?):Rel Z β h w'/\Fr Z β h w β h w':=by
 have hst:lS (Own Z β h) w (Own Z β h) w':=⟨hsize,λb hb hO=>⟨hkeep b hb,hO⟩⟩
 exact⟨⟨λc hc=>bT (R.xlt c hc) hsize,R.CG,R.fresh,R.later,λi X hX=>(R.blk i X hX).mono hst (λ_ _ _ e=>e) (λc hc=>hkeep c (R.qI ⟨X,hX,hc⟩)),R.apart⟩,⟨λb hb _=>hkeep b hb,hos,zU,hout,λ_ _ _ e=>e,hst⟩⟩
def Rel.Cn(R:Rel Z β h w)(o:Obj):Rel Z β h (w.alloc o)/\Fr Z β h w β h (w.alloc o) :=
 R.grown rfl rfl rfl ah λb hb=>heap_alloc_old w o b hb
def kC{t:TypeId}{i:TypeInfo}{z:Value}(hi:P.info? t=some i)(hz:i.zero=some z)(w:World):(zeroValue t).run P w = .ok z w:=by
 simp[zeroValue,typeInfo,hi,hz]
def yI{t:TypeId}{cs:List AV}(hz:Dh P t cs=true):∃i z,P.info? t=some i/\i.zero=some z/\GC z.cells.toList cs=true:=by
 unfold Dh at hz;split at hz
 .rename_i i hi;split at hz
  .rename_i z OD;exact⟨i,z,hi,OD,hz⟩
  .cases hz
 .cases hz
def uw{t:TypeId}{a:AV}(hz:zeroV P t a=true):∃i z,P.info? t=some i/\i.zero=some z/\eqV z a=true:=by
 unfold zeroV at hz;split at hz
 .rename_i i hi;split at hz
  .rename_i z OD;exact⟨i,z,hi,OD,hz⟩
  .cases hz
 .cases hz
def TK(R:Rel Z β h w){t:TypeId}{zero:List AV}(hz:Dh P t zero=true):jS P Z β h w (Instr.alloc t true (.tuple #[])) (.ptr h.length 0 0 0) (h++[.var zero]):=by
 let⟨i,z,hi,hz,he⟩:=yI hz;let⟨q1,q2,q3,_⟩:=tc (O:=Own Z β h) (w:=w) he;let⟨β',k1,k2,k3⟩:=R.Lu t zero z.cells.toList q1 q2 (λj y u hy hu=>.pure _ _ (q3 j y u hy hu))
 refine⟨_,_,β',?_,k1,k2,k3⟩;simp[Instr.alloc,kC hi hz,newVar,newRow]
def aa7(R:Rel Z β h w)(t:TypeId){x:AV}(hok:x.cells.all AV.tF=true){v:Value}(hv:VR β (Own Z β h) w x v):
  jS P Z β h w (Instr.box t v) (.ptr h.length 0 0 0) (h++[.var x.cells]):=by
 let⟨vs,e1,e2,e3,e4⟩:=hv.cells hok;let⟨β',k1,k2,k3⟩:=R.Lu t x.cells vs e2 e3 e4;refine⟨_,_,β',?_,k1,k2,k3⟩;simp[Instr.box,newVar,newRow,e1]
def UW(R:Rel Z β h w)(t:TypeId){x:AV}(hok:x.cells.all AV.kZ=true){v:Value}(hv:VR β (Own Z β h) w x v):
  jS P Z β h w (Instr.box t v) (.kE x.cells) h:=by
 have Wl:x.cells.all AV.tF=true:=by
  rw[aO]at hok⊢;exact λy hy=>yM (hok y hy)
 let⟨vs,e1,e2,e3,e4⟩:=hv.cells Wl;let⟨R1,F1⟩:=R.Cn (.cells vs.toArray t (0,0));refine⟨.pointer (some ⟨w.heap.size,0,none⟩),w.alloc (.cells vs.toArray t (0,0)),β,by simp[Instr.box,newVar,newRow,e1],R1,F1,?_⟩
 have hnew:(w.alloc (.cells vs.toArray t (0,0))).heap[w.heap.size]? = some (.cells vs.toArray t (0,0)):=heap_alloc_new w _;have hnO:¬Own Z β h w.heap.size:=by
  rintro(hz | ⟨i,hz⟩)
  .have:=R.xlt _ hz;omega
  .have:=R.qI hz;omega
 refine .kE x.cells w.heap.size 0 (λj=>vs.getD j undef) hnO ah (λj y hy=>?_) (λj y hy=>?_) (λj y hy=>?_)
 all_goals
  have hj:j<vs.length:=by rw[<-e2];exact(aF.1 hy).1
  have hg:vs[j]? = some vs[j]:=aG hj;simp only[bV,hg,bO]
 .simp only[World.cell?,hnew];simp[hj]
 .exact e3 _ (aS hj)
 .have h1:=e4 j y _ hy hg;exact(h1.Lx (aO.1 hok y (aR hy))).mono F1.stay
def Er(P:Program)(t:TypeId)(k:Nat):Bool :=
 match P.underlying t with
 |some (.int _)=>k==0
 |some .string=>k==1
 |some .bool=>k==2
 |_=>false
def pN(P:Program):List Field->ax->Nat->Bool
 | [],[],_=>true
 |f::fs,k::ks,n=>f.offset==n&&f.name != "_" && Er P f.type k&&pN P fs ks (n+1)
 |_,_,_=>false
def run_part_plain{t:TypeId}{d:TypeDesc}(hd:P.underlying t=some d)(hn:(match d with | .struct _ | .array _ _=>False | _=>True))(cs:Array Value)(k:Nat)(u:Value)(hu:cs[k]? = some u)(w:World):
  (part t cs k).run P w = .ok u w:=by
 have:(isAgg t).run P w = .ok false w:=by
  unfold isAgg;simp only[Sem.run_bind,run_underlying hd,Result.andThen_ok];cases d<;>simp_all
 simp[part,this,hu]
def Cq{O:az}(d:Nat){t:TypeId}{k:Nat}(hk:Er P t k=true){ks:ax}{a b:AV}{as bs:List AV}{r:Bool}(he:lK (k::ks) (a::as) (b::bs)=some r){u v:Value}(ha:VR β O w a u)(hb:VR β O w b v):
  ∃q:Bool,(∀n xs,xs[n]? = some u->(part t xs n).run P w = .ok u w)/\(∀n xs,xs[n]? = some v->(part t xs n).run P w = .ok v w)/\(Op.equalIn (d+1) t u v).run P w = .ok q w/\((q=false/\r=false)\/(q=true/\lK ks as bs=some r)):=by
 unfold Er at hk;split at hk
 .rename_i k' hk';simp at hk;subst hk;cases a<;>cases b<;>first | (simp[lK]at he;done) | skip
  rename_i k1 n1 k2 n2;have:=ha.nr;subst this;have:=hb.nr;subst this;simp only[lK]at he;split at he
  .rename_i hkk;subst hkk;refine⟨n1==n2,λn xs hx=>run_part_plain hk' trivial xs n _ hx w,λn xs hx=>run_part_plain hk' trivial xs n _ hx w,run_equalIn_int w d t k1 k' n1 n2 hk',?_⟩
   split at he
   .rename_i hn;exact .inr ⟨an hn,he⟩
   .rename_i hn;exact .inl ⟨an hn,an he.symm⟩
  .cases he
 .rename_i hk';simp at hk;subst hk;cases a<;>cases b<;>first | (simp[lK]at he;done) | skip
  rename_i s1 s2;obtain⟨b1,rfl,e1⟩:=ha.pH;obtain⟨b2,rfl,e2⟩:=hb.pH;simp only[lK]at he;refine⟨s1==s2,λn xs hx=>run_part_plain hk' trivial xs n _ hx w,λn xs hx=>run_part_plain hk' trivial xs n _ hx w,by rw[run_equalIn_string w d t b1 b2 hk',toList_data,toList_data,e1,e2],?_⟩
  split at he
  .rename_i hn;exact .inr ⟨an hn,he⟩
  .rename_i hn;exact .inl ⟨an hn,an he.symm⟩
 .rename_i hk';simp at hk;subst hk;cases a<;>cases b<;>first | (simp[lK]at he;done) | skip
  rename_i s1 s2;have:=ha.pF;subst this;have:=hb.pF;subst this;simp only[lK]at he;refine⟨s1==s2,λn xs hx=>run_part_plain hk' trivial xs n _ hx w,λn xs hx=>run_part_plain hk' trivial xs n _ hx w,run_equalIn_bool w d t s1 s2 hk',?_⟩
  split at he
  .rename_i hn;exact .inr ⟨an hn,he⟩
  .rename_i hn;exact .inl ⟨an hn,an he.symm⟩
 .cases hk
def Ah{O:az}(d:Nat):∀(fs:List Field)(ks:ax)(k:Nat)(as bs:List AV)(xs ys:List Value)(r:Bool),pN P fs ks k=true->lK ks as bs=some r->
  as.length=ks.length->bs.length=ks.length->(∀(j:Nat)(y:AV)(u:Value),as[j]? = some y->xs[k+j]? = some u->VR β O w y u)->(∀(j:Nat)(y:AV)(u:Value),bs[j]? = some y->ys[k+j]? = some u->VR β O w y u)->
  k+as.length<=xs.length->k+bs.length<=ys.length->(Op.eqFields (d+1) xs.toArray ys.toArray fs).run P w = .ok r w
 | [],[],k,as,bs,xs,ys,r,_,he,hl,hl',_,_,_,_=>by
  have h1:as=[]:=aY hl;have h2:bs=[]:=aY hl';subst h1 h2;simp[lK]at he;subst he;simp[Op.eqFields]
 | [],_::_,_,_,_,_,_,_,hf,_,_,_,_,_,_,_=>by simp[pN]at hf
 |_::_,[],_,_,_,_,_,_,hf,_,_,_,_,_,_,_=>by simp[pN]at hf
 |f::fs,kk::ks,k,as,bs,xs,ys,r,hf,he,hl,hl',ha,hb,hx,hy=>by
  cases as with
  |nil=>simp at hl
  |cons a as =>
   cases bs with
   |nil=>simp at hl'
   |cons b bs =>
    simp only[pN,aH,beq_iff_eq,bne_iff_ne]at hf;let⟨⟨⟨hoff,hname⟩,hty⟩,xk⟩:=hf;simp at hl hl' hx hy;have hkx:k<xs.length:=aa
    have hky:k<ys.length:=aa
    have va:=ha 0 a xs[k] rfl (by simp[hkx])
    have vb:=hb 0 b ys[k] rfl (by simp[hky])
    let⟨q,p1,p2,p3,p4⟩:=Cq d hty he va vb;have px:=p1 f.offset xs.toArray (by simp[hoff,hkx])
    have py:=p2 f.offset ys.toArray (by simp[hoff,hky])
    simp only[Op.eqFields,hname,ne_eq,not_false_eq_true,if_true,Sem.run_bind,px,py,p3,Result.andThen_ok]
    rcases p4 with⟨rfl,rfl⟩ | ⟨rfl,p5⟩
    .simp
    .simp only[gA,aU,if_false]
     exact Ah d fs ks (k+1) as bs xs ys r xk p5 aa aa (λj y u h1 h2=>ha (j+1) y u (an h1) (by rw[<-h2];congr 1;omega))
      (λj y u h1 h2=>hb (j+1) y u (an h1) (by rw[<-h2];congr 1;omega)) aa aa
def Du(P:Program)(t:TypeId)(ks:ax):Bool :=
 match P.underlying t with
 |some (.struct fs)=>pN P fs.toList ks 0 && !P.stoodInHeld t && !P.eqGuardType P.depth t
 |some (.array n e)=>decide (n=ks.length)&&ks.all (Er P e)&&(P.info? e).isSome&&decide (P.cellsOf e=1) && !P.eqGuardType P.depth t
 |_=>false
def Cs{O:az}(d:Nat){e:TypeId}:∀(ks:ax)(k:Nat)(as bs:List AV)(xs ys:List Value)(r:Bool),ks.all (Er P e)=true->lK ks as bs=some r->
  as.length=ks.length->bs.length=ks.length->(∀(j:Nat)(y:AV)(u:Value),as[j]? = some y->xs[k+j]? = some u->VR β O w y u)->(∀(j:Nat)(y:AV)(u:Value),bs[j]? = some y->ys[k+j]? = some u->VR β O w y u)->
  k+as.length<=xs.length->k+bs.length<=ys.length->(Op.eqItems (d+1) e 1 xs.toArray ys.toArray (List.range' k ks.length)).run P w = .ok r w
 | [],k,as,bs,xs,ys,r,_,he,hl,hl',_,_,_,_=>by
  have h1:as=[]:=aY hl;have h2:bs=[]:=aY hl';subst h1 h2;simp[lK]at he;subst he;simp[Op.eqItems]
 |kk::ks,k,as,bs,xs,ys,r,hf,he,hl,hl',ha,hb,hx,hy=>by
  cases as with
  |nil=>simp at hl
  |cons a as =>
   cases bs with
   |nil=>simp at hl'
   |cons b bs =>
    rw[bH,aH]at hf;let⟨hty,xk⟩:=hf;simp at hl hl' hx hy;have hkx:k<xs.length:=aa
    have hky:k<ys.length:=aa
    have va:=ha 0 a xs[k] rfl (by simp[hkx])
    have vb:=hb 0 b ys[k] rfl (by simp[hky])
    let⟨q,p1,p2,p3,p4⟩:=Cq d hty he va vb;have px:=p1 (k*1) xs.toArray (by simp[hkx])
    have py:=p2 (k*1) ys.toArray (by simp[hky])
    rw[aQ,List.range'_succ];simp only[Op.eqItems,Sem.run_bind,px,py,p3,Result.andThen_ok]
    rcases p4 with⟨rfl,rfl⟩ | ⟨rfl,p5⟩
    .simp
    .simp only[gA,aU,if_false]
     exact Cs d ks (k+1) as bs xs ys r xk p5 aa aa (λj y u h1 h2=>ha (j+1) y u (an h1) (by rw[<-h2];congr 1;omega))
      (λj y u h1 h2=>hb (j+1) y u (an h1) (by rw[<-h2];congr 1;omega)) aa aa
def Ze(R:Rel Z β h w){t:TypeId}{ks:ax}(ht:Du P t ks=true)(neg:Bool){a b:List AV}{r:Bool}(ha:a.length=ks.length)(hb:b.length=ks.length)(he:lK ks a b=some r)
  {u v:Value} (hu:VR β (Own Z β h) w (.agg a) u) (hv:VR β (Own Z β h) w (.agg b) v) :
  jS P Z β h w (binOp (if neg then .neq else .eql) t u v) (.bool (if neg then !r else r)) h/\∀op ox oy,(eqGuard op t ox oy u v).run P w = .ok () w:=by
 unfold Du at ht;split at ht
 .rename_i fs hfs;simp only[aH,cv]at ht;let⟨⟨hplain,aej⟩,OJ⟩:=ht;obtain⟨xs,rfl,hl1,h1,h2⟩:=hu.qV;obtain⟨ys,rfl,tQ,h3,h4⟩:=hv.qV;have hft:P.fieldsOf t=fs:=by simp[Program.fieldsOf,hfs]
  refine⟨?_,λop ox oy=>run_eqGuard_agg w op t ox oy _ _ OJ⟩
  have hrun:(Op.equalIn 10000 t (.agg xs.toArray) (.agg ys.toArray)).run P w = .ok r w:=by
   rw[run_equalIn_struct w 9999 t _ _ (by rw[hft];exact hfs) aej,hft]
   exact Ah (O:=Own Z β h) 9998 fs.toList ks 0 a b xs ys r hplain he ha hb (λj y u e1 e2=>h2 j y u e1 (an e2)) (λj y u e1 e2=>h4 j y u e1 (an e2)) aa aa
  refine jS.of R (v:=.bool _) ?_ (.of_bool _);cases neg
  .simp only[aU,if_false];rw[run_eql_struct,hrun];rfl
  .simp only[if_true];rw[run_neq_struct,hrun];rfl
 .rename_i n e hfs;simp only[aH,cv,decide_eq_true_eq]at ht;let⟨⟨⟨⟨hn,hall⟩,hinfo⟩,hcells⟩,OJ⟩:=ht;let⟨ti,hti⟩:=dA.1 hinfo;obtain⟨xs,rfl,hl1,h1,h2⟩:=hu.qV;obtain⟨ys,rfl,tQ,h3,h4⟩:=hv.qV;refine⟨?_,λop ox oy=>run_eqGuard_agg w op t ox oy _ _ OJ⟩
  have hrun:(Op.equalIn 10000 t (.agg xs.toArray) (.agg ys.toArray)).run P w = .ok r w:=by
   rw[run_equalIn_array w 9999 _ _ hfs hti,hcells,hn,List.range_eq_range'];exact Cs (O:=Own Z β h) 9998 ks 0 a b xs ys r hall he ha hb (λj y u e1 e2=>h2 j y u e1 (an e2)) (λj y u e1 e2=>h4 j y u e1 (an e2)) aa aa
  refine jS.of R (v:=.bool _) ?_ (.of_bool _);cases neg
  .simp only[aU,if_false];rw[run_eql_struct,hrun];rfl
  .simp only[if_true];rw[run_neq_struct,hrun];rfl
 .cases ht
end
def EN(off:Nat):∀(l:List Value)(k:Nat)(cs:Array Value),off+k+l.length<=cs.size->
  (l.zipIdx k).foldl (λ(cs:Array Value)(x:Value×Nat)=>cs.setIfInBounds (off+x.2) x.1) cs=(over cs.toList (off+k) l).toArray
 | [],k,cs,_=>by simp[over]
 |v::l,k,cs,hl=>by
  simp only[List.zipIdx_cons,aT];rw[EN off l (k+1) _ (by simp at hl⊢;omega)]
  congr 1
  apply dr;intro j;have h1:off+(k+1)+l.length<=(cs.setIfInBounds (off+k) v).toList.length:=by simp at hl⊢;omega
  have h2:off+k+(v::l).length<=cs.toList.length:=by simpa using hl
  rw[kj _ _ _ h1,kj _ _ _ h2];simp only[aQ,iy]
  by_cases hj:j=off+k
  .subst hj;simp at hl;rw[if_neg aa,if_pos aa]
   simp[dR];omega
  .by_cases hj2 : off + k <= j /\ j < off + k + (l.length + 1)
   .rw[if_pos aa,if_pos hj2]
    obtain⟨m,rfl⟩:∃m,j=off+(k+1)+m:=⟨j-(off+(k+1)),aa⟩
    have e1:off+(k+1)+m-(off+(k+1))=m:=aa
    have e2:off+(k+1)+m-(off+k)=m+1:=aa
    rw[e1,e2];rfl
   .rw[if_neg aa,if_neg hj2,aJ aa]
def HJ(place:Nat->Option (Nat×Nat))(cells:Array Value)(i:Nat)(v:Value)(rest:List (Nat×Value)){off size:Nat}(hp:place i=some (off,size))(hs:v.cells.size=size)(hf:off+size<=cells.size):
  Instr.fill place cells ((i,v)::rest)=Instr.fill place (over cells.toList off v.cells.toList).toArray rest:=by
 have h1:¬(v.cells.size≠size||decide (off+v.cells.size>cells.size))=true:=by simp[hs];omega
 simp only[Instr.fill,hp];rw[if_neg (an h1)]
 congr 1
 have:=EN off v.cells.toList 0 cells (by simp[hs];omega)
 rw[<-Array.foldl_toList,Array.toList_zipIdx]
 simpa using this
section
variable{P:Program}{Z:az}{β:kW}{h:AH}{w:World}
def nW:Operand->AO->Bool
 | .tmp i,.t j=>i==j
 | .const v,.c a=>eqV v a
 | .func f,.c (.fn (.func g) [] [])=>f==g
 |_,_=>false
def jR{e:Env}{a:Act}{n:Nat}(E:kF Z β h w e a n){x:Operand}{y:AO}(ho:nW x y=true):VR β (Own Z β h) w (y.get e) (a.eval x):=by
 unfold nW at ho;split at ho
 .simp at ho;subst ho;exact E.2 _
 .exact .pure _ _ (QK ho).1
 .simp at ho;subst ho;exact .fn (.func _) [] [] [] [] rfl rfl ah ah
 .cases ho
def oG(P:Program)(fs:Array Field):List (Nat×Operand)->List (Nat×Nat×AO)->Bool
 | [],[]=>true
 |(i,x)::l,(off,size,y)::l'=>(match fs[i]? with
   |some f=>f.offset==off&&lC P f.type size
   |none=>false)&&nW x y&&oG P fs l l'
 |_,_=>false
def pO(sz:Nat):List (Nat×Operand)->List (Nat×Nat×AO)->Bool
 | [],[]=>true
 |(i,x)::l,(off,size,y)::l'=>off==i*sz&&size==sz&&nW x y&&pO sz l l'
 |_,_=>false
def AW{e:Env}{a:Act}{n:Nat}(E:kF Z β h w e a n)(place:Nat->Option (Nat×Nat)):∀(ps:List (Nat×Operand))(qs:List (Nat×Nat×AO))(cs:List AV)(vs:List Value)(cs':List AV),
  (∀(k:Nat) p q,ps[k]? = some p->qs[k]? = some q->place p.1=some (q.1,q.2.1)/\nW p.2 q.2.2=true)->ps.length=qs.length->parts e qs cs=some cs'->
  cs.length=vs.length->(∀u∈vs,u.oneCell'=true)->(∀(j:Nat)(y:AV)(u:Value),cs[j]? = some y->vs[j]? = some u->VR β (Own Z β h) w y u)->
  ∃vs':List Value,Instr.fill place vs.toArray (ps.map λp=>(p.1,a.eval p.2))=some vs'.toArray/\cs'.length=vs'.length/\(∀u∈vs',u.oneCell'=true)/\
   ∀(j:Nat)(y:AV)(u:Value),cs'[j]? = some y->vs'[j]? = some u->VR β (Own Z β h) w y u
 | [],[],cs,vs,cs',_,_,hp,hl,h1,h2=>by
  simp only[parts]at hp;cases hp;exact⟨vs,by simp[Instr.fill],hl,h1,h2⟩
 | [],_::_,_,_,_,_,hlen,_,_,_,_=>by simp at hlen
 |_::_,[],_,_,_,_,hlen,_,_,_,_=>by simp at hlen
 | (i,x)::ps,(off,size,y)::qs,cs,vs,cs',wz,hlen,hp,hl,h1,h2=>by
  simp only[parts]at hp;split at hp
  .rename_i nR;let⟨hok,hsz,hfit⟩:=nR;let⟨Ey,hoo⟩:=wz 0 (i,x) (off,size,y) rfl rfl;let⟨us,e1,e2,e3,e4⟩:=(jR E hoo).cells hok;have hg:us.length=size:=e2.symm.trans hsz;have oS:off+us.length<=vs.length:=by omega
   have ho2:off+(y.get e).cells.length<=cs.length:=aa
   let⟨vs',k1,k2,k3,k4⟩:=AW E place ps qs (over cs off (y.get e).cells) (over vs off us) cs' (λk p q ND hk2=>wz (k+1) p q (an ND) (an hk2)) (an hlen) hp
    (by rw[jZ _ _ _ ho2,jZ _ _ _ oS,hl])
    (λu hu=>by
     unfold over at hu;simp only[aX]at hu
     rcases hu with(hu | hu) | hu
     .exact h1 u (cm hu)
     .exact e3 u hu
     .exact h1 u (cA hu))
    (λj y' u hy hu=>by
     rw[kj _ _ _ ho2]at hy;rw[kj _ _ _ oS,<-e2]at hu;split at hy
     .rename_i hj;rw[if_pos hj]at hu;exact e4 _ y' u hy hu
     .rename_i hj;rw[if_neg hj]at hu;exact h2 j y' u hy hu)
   refine⟨vs',?_,k2,k3,k4⟩;simp only[bF];rw[HJ place vs.toArray i (a.eval x) _ Ey (by rw[e1];simp;omega) aj]
   rw[e1];exact k1
  .cases hp
def tL{fs:Array Field}:∀ {ps:List (Nat×Operand)} {qs:List (Nat×Nat×AO)},oG P fs ps qs=true->ps.length=qs.length/\
  ∀(k:Nat)(p:Nat×Operand)(q:Nat×Nat×AO),ps[k]? = some p->qs[k]? = some q->∃f,fs[p.1]? = some f/\f.offset=q.1/\lC P f.type q.2.1=true/\nW p.2 q.2.2=true
 | [],[],_=>⟨rfl,ah⟩
 |(i,x)::ps,(off,size,y)::qs,ho=>by
  simp only[oG,aH]at ho;let⟨⟨h1,h2⟩,h3⟩:=ho;let⟨q1,q2⟩:=tL h3;refine⟨by simp[q1],λk p q hp hq=>?_⟩
  cases k with
  |zero =>
   simp at hp hq;subst hp hq;split at h1
   .rename_i f hf;simp only[aH,beq_iff_eq]at h1;exact⟨f,hf,h1.1,h1.2,h2⟩
   .cases h1
  |succ k=>exact q2 k p q (an hp) (an hq)
 | [],_::_,ho=>by simp[oG]at ho
 |_::_,[],ho=>by simp[oG]at ho
def uI{sz:Nat}:∀ {ps:List (Nat×Operand)} {qs:List (Nat×Nat×AO)},pO sz ps qs=true->ps.length=qs.length/\
  ∀(k:Nat)(p:Nat×Operand)(q:Nat×Nat×AO),ps[k]? = some p->qs[k]? = some q->q.1=p.1*sz/\q.2.1=sz/\nW p.2 q.2.2=true
 | [],[],_=>⟨rfl,ah⟩
 |(i,x)::ps,(off,size,y)::qs,ho=>by
  simp only[pO,aH,beq_iff_eq]at ho;let⟨⟨⟨h1,h1'⟩,h2⟩,h3⟩:=ho;let⟨q1,q2⟩:=uI h3;refine⟨by simp[q1],λk p q hp hq=>?_⟩
  cases k with
  |zero =>
   simp at hp hq;subst hp hq;exact⟨h1,h1',h2⟩
  |succ k=>exact q2 k p q (an hp) (an hq)
 | [],_::_,ho=>by simp[pO]at ho
 |_::_,[],ho=>by simp[pO]at ho
def run_places(fs:Array Field)(hfs:∀f∈fs,(P.info? f.type).isSome=true)(w:World):
  (fs.mapM λf=>do pure (f.offset,<-sizeOf f.type):Sem (Array (Nat×Nat))).run P w = .ok (fs.map λf=>(f.offset,((P.info? f.type).map (·.size)).getD 0)) w:=by
 rw[Array.mapM_eq_mapM_toList];simp only[Sem.run_map]
 have key:∀l:List Field,(∀f∈l,(P.info? f.type).isSome=true)->(l.mapM (λf=>do pure (f.offset,<-sizeOf f.type)):Sem aC).run P w = .ok (l.map λf=>(f.offset,((P.info? f.type).map (·.size)).getD 0)) w:=by
  intro l
  induction l with
  |nil=>intro _;simp
  |cons f l ih =>
   intro hl;let⟨i,hi⟩:=dA.1 (hl f ah)
   rw[jf];simp only[Sem.run_bind,sizeOf,typeInfo,run_program,Result.andThen_ok,hi,Sem.run_pure,bF,bJ,bO];have:=ih λg hg=>hl g (by simp[hg])
   simp only[sizeOf,typeInfo]at this;rw[this];simp
 rw[key fs.toList (λf hf=>hfs f (an hf))]
 simp only[Result.andThen_ok]
 congr 1
 apply dI;simp
def IL(P:Program)(t:TypeId)(ps:Array (Nat×Operand))(zero:List AV)(qs:List (Nat×Nat×AO)):Bool :=
 Dh P t zero&&match P.underlying t with
 |some (.struct fs)=>fs.toList.all (λf=>(P.info? f.type).isSome)&&oG P fs ps.toList qs
 |some (.array _ elem)=>match P.info? elem with
  |some i=>pO i.size ps.toList qs
  |none=>false
 |_=>false
def TF(R:Rel Z β h w){e:Env}{a:Act}{n:Nat}(E:kF Z β h w e a n){t:TypeId}{ps:Array (Nat×Operand)}{zero:List AV}{qs:List (Nat×Nat×AO)}(ho:IL P t ps zero qs=true)
  {cs:List AV} (hp:parts e qs zero=some cs):jS P Z β h w (Instr.build t (ps.map λ(i,x)=>(i,a.eval x))) (.agg cs) h:=by
 unfold IL at ho;simp only[aH]at ho;let⟨hz,ho⟩:=ho;let⟨i,z,hi,hz,he⟩:=yI hz;let⟨q1,q2,q3,_⟩:=tc (O:=Own Z β h) (w:=w) he;have hmap:(ps.map λ(i,x)=>(i,a.eval x)).toList=ps.toList.map λp=>(p.1,a.eval p.2):=ah
 split at ho
 .rename_i fs hfs;simp only[aH]at ho;let⟨hinfo,Ez⟩:=ho;let⟨s1,s2⟩:=tL Ez
  let⟨vs',k1,k2,k3,k4⟩:=AW E (λk=>(fs.map λf=>(f.offset,((P.info? f.type).map (·.size)).getD 0))[k]?) ps.toList qs zero z.cells.toList cs (λk p q hpk hqk=>by
   let⟨f,f1,f2,f3,f4⟩:=s2 k p q hpk hqk;refine⟨?_,f4⟩;unfold lC at f3;split at f3
   .rename_i i' hi';simp at f3;simp[f1,f2,hi',f3]
   .cases f3) s1 hp q1 q2 (λj y u hy hu=>.pure _ _ (q3 j y u hy hu))
  refine jS.of R (v:=.agg vs'.toArray) ?_ (.agg cs vs' k2 k3 k4);simp only[Instr.build,Sem.run_bind,kC hi hz,Result.andThen_ok,run_underlying hfs];rw[run_places fs (λf hf=>by have:=aO.1 hinfo f (an hf);exact this)]
  simp only[Result.andThen_ok,hmap];simp only[dQ]at k1;rw[k1];simp
 .rename_i len elem hel;split at ho
  .rename_i i' hi';let⟨s1,s2⟩:=uI ho
   let⟨vs',k1,k2,k3,k4⟩:=AW E (λk=>some (k*i'.size,i'.size)) ps.toList qs zero z.cells.toList cs (λk p q hpk hqk=>by
    let⟨f1,f2,f3⟩:=s2 k p q hpk hqk;exact⟨by rw[f1,f2],f3⟩) s1 hp q1 q2 (λj y u hy hu=>.pure _ _ (q3 j y u hy hu))
   refine jS.of R (v:=.agg vs'.toArray) ?_ (.agg cs vs' k2 k3 k4);simp only[Instr.build,Sem.run_bind,kC hi hz,Result.andThen_ok,run_underlying hel,sizeOf,typeInfo,run_program,hi',Sem.run_pure,hmap];simp only[dQ]at k1;rw[k1];simp
  .cases ho
 .cases ho
end
end Go.Am
