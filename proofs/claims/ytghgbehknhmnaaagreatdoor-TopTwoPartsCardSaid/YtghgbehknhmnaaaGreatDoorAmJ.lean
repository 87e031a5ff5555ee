/- Part of the proof that TopTwoPartsCard holds. -/
import Derived.ChangeKeysEq
import Derived.Test.YtghgbehknhmnaaaGreatDoorAmH
set_option linter.all false
namespace Go.Am
section
variable{P:Program}{Z:az}{β:jO}{h:AH}{w:World}
def Rel.grown(R:Rel Z β h w){w':World}(v:w'.os=w.os)(o:w'.tape=w.tape)(r:w'.output=w.output)(n:w.heap.size<=w'.heap.size)
  (l:∀b,b<w.heap.size->w'.heap[b]? = w.heap[b]?):Rel Z β h w'/\Fr Z β h w β h w':=by
 have q:kC (Own Z β h) w (Own Z β h) w':=⟨n,λb y A=>⟨l b y,A⟩⟩
 exact⟨⟨λc x=>bu (R.xlt c x) n,R.BV,R.fresh,R.later,λi X z=>(R.blk i X z).mono q (λ_ _ _ e=>e) (λc x=>l c (R.ox ⟨X,z,x⟩)),R.apart,R.gl.stay q⟩,⟨λb y _=>l b y,v,o,r,λ_ _ _ e=>e,q⟩⟩
def Rel.sZ(R:Rel Z β h w)(o:Obj):Rel Z β h (w.alloc o)/\Fr Z β h w β h (w.alloc o) :=
 R.grown rfl rfl rfl ai λb i=>heap_alloc_old w o b i
def jq{t:TypeId}{i:TypeInfo}{z:Value}(l:P.info? t=some i)(b:i.zero=some z)(w:World):(zeroValue t).run P w = .ok z w:=by
 simp[zeroValue,typeInfo,l,b]
def u9{t:TypeId}{cs:List AV}(b:zN P t cs=true):∃i z,P.info? t=some i/\i.zero=some z/\B9 z.cells.toList cs=true:=by
 grind[zN]
def pG{t:TypeId}{a:AV}(b:zeroV P t a=true):∃i z,P.info? t=some i/\i.zero=some z/\TE z a=true:=by
 grind[zeroV]
def Lv(R:Rel Z β h w){t:TypeId}{zero:List AV}(b:zN P t zero=true):iM P Z β h w (Instr.alloc t true (.tuple #[])) (.ptr h.length 0 0 0) (h++[.var zero]):=by
 let⟨i,z,A,b,E⟩:=u9 b;let⟨q1,n,l,_⟩:=qb (O:=Own Z β h) (w:=w) E;let⟨β',r,q,o⟩:=R.Fl t zero z.cells.toList q1 n (λj y u v x=>.pure _ _ (l j y u v x))
 refine⟨_,_,β',?_,r,q,o⟩;simp[Instr.alloc,jq A b,newVar,newRow]
def Sk(R:Rel Z β h w)(t:TypeId){x:AV}(b:x.cells.all AV.sw=true){v:Value}(o:VR β (Own Z β h) w x v):
  iM P Z β h w (Instr.box t v) (.ptr h.length 0 0 0) (h++[.var x.cells]):=by
 let⟨vs,e1,y,r,q⟩:=o.cells b;let⟨β',n,l,i⟩:=R.Fl t x.cells vs y r q;refine⟨_,_,β',?_,n,l,i⟩;simp[Instr.box,newVar,newRow,e1]
def ML(R:Rel Z β h w)(t:TypeId){x:AV}(o:x.cells.all AV.jW=true){v:Value}(A:VR β (Own Z β h) w x v):
  iM P Z β h w (Instr.box t v) (.iV x.cells) h:=by
 have l:x.cells.all AV.sw=true:=by
  grind[List.all_eq_true,oy]
 let⟨vs,e1,G,K,F⟩:=A.cells l;let⟨H,z⟩:=R.sZ (.cells vs.toArray t (0,0));refine⟨.pointer (some ⟨w.heap.size,0,none⟩),w.alloc (.cells vs.toArray t (0,0)),β,by simp[Instr.box,newVar,newRow,e1],H,z,?_⟩
 have r:(w.alloc (.cells vs.toArray t (0,0))).heap[w.heap.size]? = some (.cells vs.toArray t (0,0)):=heap_alloc_new w _;have q:¬Own Z β h w.heap.size:=by
  rintro(n | ⟨i,n⟩)
  .have:=R.xlt _ n;omega
  .have:=R.ox n;omega
 refine .iV x.cells w.heap.size 0 (λj=>vs.getD j undef) q ai (λj y b=>?_) (λj y b=>?_) (λj y b=>?_)
 all_goals
  have E:j<vs.length:=by rw[<-G];exact(aD.1 b).1
  have hg:vs[j]? = some vs[j]:=aH E;simp only[bY,hg,dh]
 .simp_all
 .grind
 .have h1:=F j y _ b hg;exact(h1.Fm (aM.1 o y (bL b))).mono z.stay
def Su(R:Rel Z β h w){t:TypeId}(r:P.underlying t=some .bool)(neg:Bool){a b:Bool}{u v:Value}(q:VR β (Own Z β h) w (.bool a) u)(o:VR β (Own Z β h) w (.bool b) v):
  iM P Z β h w (binOp (if neg then .neq else .eql) t u v) (.bool (if neg then !decide (a=b)else decide (a=b))) h/\∀op n l,(eqGuard op t n l u v).run P w = .ok () w:=by
 have:=q.mY;subst this;have:=o.mY;subst this;refine⟨?_,λop n l=>by cases op<;>simp[eqGuard]⟩
 refine iM.of R (v:=.bool _) ?_ (.of_bool _);have i:(a==b)=decide (a=b):=by grind
 cases neg<;>simp[binOp,Op.equal,Op.maxDepth,run_equalIn_bool w _ t a b r,i]
def AN(P:Program)(t:TypeId)(k:Nat):Bool :=
 match P.underlying t with
 |some (.int _)=>k==0
 |some .string=>k==1
 |some .bool=>k==2
 |_=>false
def nA(P:Program):List Field->ax->Nat->Bool
 | [],[],_=>true
 |f::b,k::ks,n=>f.offset==n&&f.name != "_" && AN P f.type k&&nA P b ks (n+1)
 |_,_,_=>false
def run_part_plain{t:TypeId}{d:TypeDesc}(i:P.underlying t=some d)(l:(match d with | .struct _ | .array _ _=>False | _=>True))(cs:Array Value)(k:Nat)(u:Value)(b:cs[k]? = some u)(w:World):
  (part t cs k).run P w = .ok u w:=by
 have:(isAgg t).run P w = .ok false w:=by
  unfold isAgg;simp only[Sem.run_bind,run_underlying i,Result.andThen_ok];cases d<;>simp_all
 simp[part,this,b]
def yV{O:az}(d:Nat){t:TypeId}{k:Nat}(hk:AN P t k=true){ks:ax}{a b:AV}{as bs:List AV}{r:Bool}(l:iU (k::ks) (a::as) (b::bs)=some r){u v:Value}(F:VR β O w a u)(E:VR β O w b v):
  ∃q:Bool,(∀n xs,xs[n]? = some u->(part t xs n).run P w = .ok u w)/\(∀n xs,xs[n]? = some v->(part t xs n).run P w = .ok v w)/\(Op.equalIn (d+1) t u v).run P w = .ok q w/\((q=false/\r=false)\/(q=true/\iU ks as bs=some r)):=by
 unfold AN at hk;split at hk
 .rename_i K i;simp at hk;subst hk;cases a<;>cases b<;>first | (simp[iU]at l;done) | skip
  rename_i H n1 N G;have:=F.kE;subst this;have:=E.kE;subst this;simp only[iU]at l;split at l
  .rename_i A;subst A;refine⟨n1==G,λn xs o=>run_part_plain i trivial xs n _ o w,λn xs o=>run_part_plain i trivial xs n _ o w,run_equalIn_int w d t H K n1 G i,?_⟩
   split at l
   .rename_i x;exact .inr ⟨an x,l⟩
   .rename_i x;exact .inl ⟨an x,an l.symm⟩
  .cases l
 .rename_i i;simp at hk;subst hk;cases a<;>cases b<;>first | (simp[iU]at l;done) | skip
  rename_i z y;obtain⟨b1,rfl,e1⟩:=F.oD;obtain⟨M,rfl,L⟩:=E.oD;simp only[iU]at l;refine⟨z==y,λn xs o=>run_part_plain i trivial xs n _ o w,λn xs o=>run_part_plain i trivial xs n _ o w,by rw[run_equalIn_string w d t b1 M i,toList_data,toList_data,e1,L],?_⟩
  split at l
  .rename_i x;exact .inr ⟨an x,l⟩
  .rename_i x;exact .inl ⟨an x,an l.symm⟩
 .rename_i i;simp at hk;subst hk;cases a<;>cases b<;>first | (simp[iU]at l;done) | skip
  rename_i z y;have:=F.mY;subst this;have:=E.mY;subst this;simp only[iU]at l;refine⟨z==y,λn xs o=>run_part_plain i trivial xs n _ o w,λn xs o=>run_part_plain i trivial xs n _ o w,run_equalIn_bool w d t z y i,?_⟩
  split at l
  .rename_i x;exact .inr ⟨an x,l⟩
  .rename_i x;exact .inl ⟨an x,an l.symm⟩
 .cases hk
def wJ{O:az}(d:Nat):∀(F:List Field)(ks:ax)(k:Nat)(as bs:List AV)(xs i:List Value)(r:Bool),nA P F ks k=true->iU ks as bs=some r->
  as.length=ks.length->bs.length=ks.length->(∀(j:Nat)(y:AV)(u:Value),as[j]? = some y->xs[k+j]? = some u->VR β O w y u)->(∀(j:Nat)(y:AV)(u:Value),bs[j]? = some y->i[k+j]? = some u->VR β O w y u)->
  k+as.length<=xs.length->k+bs.length<=i.length->(Op.eqFields (d+1) xs.toArray i.toArray F).run P w = .ok r w
 | [],[],k,as,bs,xs,i,r,_,E,hl,l,_,_,_,_=>by
  have h1:as=[]:=bh hl;have h2:bs=[]:=bh l;subst h1 h2;simp[iU]at E;subst E;simp[Op.eqFields]
 | [],_::_,_,_,_,_,_,_,x,_,_,_,_,_,_,_=>by simp[nA]at x
 |_::_,[],_,_,_,_,_,_,x,_,_,_,_,_,_,_=>by simp[nA]at x
 |f::F,W::ks,k,as,bs,xs,i,r,x,E,hl,l,K,H,U,T=>by
  cases as with
  |nil=>simp at hl
  |cons a as =>
   cases bs with
   |nil=>simp at l
   |cons b bs =>
    simp only[nA,aF,beq_iff_eq,bne_iff_ne]at x;let⟨⟨⟨n,v⟩,G⟩,o⟩:=x;simp at hl l U T;have A:k<xs.length:=af
    have z:k<i.length:=af
    have M:=K 0 a xs[k] rfl (by simp[A])
    have L:=H 0 b i[k] rfl (by simp[z])
    let⟨q,S,p2,p3,p4⟩:=yV d G E M L;have Q:=S f.offset xs.toArray (by simp[n,A])
    have N:=p2 f.offset i.toArray (by simp[n,z])
    simp only[Op.eqFields,v,ne_eq,not_false_eq_true,if_true,Sem.run_bind,Q,N,p3,Result.andThen_ok]
    rcases p4 with⟨rfl,rfl⟩ | ⟨rfl,p5⟩
    .simp
    .simp only[eM,aZ,if_false]
     exact wJ d F ks (k+1) as bs xs i r o p5 af af (λj y u h1 h2=>K (j+1) y u (an h1) (by rw[<-h2];congr 1;omega))
      (λj y u h1 h2=>H (j+1) y u (an h1) (by rw[<-h2];congr 1;omega)) af af
def zR(P:Program)(t:TypeId)(ks:ax):Bool :=
 match P.underlying t with
 |some (.struct b)=>nA P b.toList ks 0 && !P.stoodInHeld t && !P.eqGuardType P.depth t
 |some (.array n e)=>decide (n=ks.length)&&ks.all (AN P e)&&(P.info? e).isSome&&decide (P.cellsOf e=1) && !P.eqGuardType P.depth t
 |_=>false
def yW{O:az}(d:Nat){e:TypeId}:∀(ks:ax)(k:Nat)(as bs:List AV)(xs i:List Value)(r:Bool),ks.all (AN P e)=true->iU ks as bs=some r->
  as.length=ks.length->bs.length=ks.length->(∀(j:Nat)(y:AV)(u:Value),as[j]? = some y->xs[k+j]? = some u->VR β O w y u)->(∀(j:Nat)(y:AV)(u:Value),bs[j]? = some y->i[k+j]? = some u->VR β O w y u)->
  k+as.length<=xs.length->k+bs.length<=i.length->(Op.eqItems (d+1) e 1 xs.toArray i.toArray (List.range' k ks.length)).run P w = .ok r w
 | [],k,as,bs,xs,i,r,_,x,hl,l,_,_,_,_=>by
  have h1:as=[]:=bh hl;have h2:bs=[]:=bh l;subst h1 h2;simp[iU]at x;subst x;simp[Op.eqItems]
 |S::ks,k,as,bs,xs,i,r,A,x,hl,l,F,E,Q,N=>by
  cases as with
  |nil=>simp at hl
  |cons a as =>
   cases bs with
   |nil=>simp at l
   |cons b bs =>
    rw[bV,aF]at A;let⟨z,n⟩:=A;simp at hl l Q N;have v:k<xs.length:=af
    have o:k<i.length:=af
    have H:=F 0 a xs[k] rfl (by simp[v])
    have G:=E 0 b i[k] rfl (by simp[o])
    let⟨q,M,p2,p3,p4⟩:=yV d z x H G;have L:=M (k*1) xs.toArray (by simp[v])
    have K:=p2 (k*1) i.toArray (by simp[o])
    rw[aS,List.range'_succ];simp only[Op.eqItems,Sem.run_bind,L,K,p3,Result.andThen_ok]
    rcases p4 with⟨rfl,rfl⟩ | ⟨rfl,p5⟩
    .simp
    .simp only[eM,aZ,if_false]
     exact yW d ks (k+1) as bs xs i r n p5 af af (λj y u h1 h2=>F (j+1) y u (an h1) (by rw[<-h2];congr 1;omega))
      (λj y u h1 h2=>E (j+1) y u (an h1) (by rw[<-h2];congr 1;omega)) af af
def Qe(R:Rel Z β h w){t:TypeId}{ks:ax}(A:zR P t ks=true)(neg:Bool){a b:List AV}{r:Bool}(Y:a.length=ks.length)(X:b.length=ks.length)(W:iU ks a b=some r)
  {u v:Value} (U:VR β (Own Z β h) w (.agg a) u) (T:VR β (Own Z β h) w (.agg b) v) :
  iM P Z β h w (binOp (if neg then .neq else .eql) t u v) (.bool (if neg then !r else r)) h/\∀op K H,(eqGuard op t K H u v).run P w = .ok () w:=by
 unfold zR at A;split at A
 .rename_i fs x;simp only[aF,cK]at A;let⟨⟨q,o⟩,i⟩:=A;obtain⟨xs,rfl,S,h1,h2⟩:=U.nW;obtain⟨G,rfl,Q,h3,h4⟩:=T.nW;have L:P.fieldsOf t=fs:=by simp[Program.fieldsOf,x]
  refine⟨?_,λop K H=>run_eqGuard_agg w op t K H _ _ i⟩
  have l:(Op.equalIn 10000 t (.agg xs.toArray) (.agg G.toArray)).run P w = .ok r w:=by
   rw[run_equalIn_struct w 9999 t _ _ (by rw[L];exact x) o,L]
   exact wJ (O:=Own Z β h) 9998 fs.toList ks 0 a b xs G r q W Y X (λj y u e1 F=>h2 j y u e1 (an F)) (λj y u e1 F=>h4 j y u e1 (an F)) af af
  refine iM.of R (v:=.bool _) ?_ (.of_bool _);cases neg
  .simp only[aZ,if_false];rw[run_eql_struct,l];rfl
  .simp only[if_true];rw[run_neq_struct,l];rfl
 .rename_i n e x;simp only[aF,cK,decide_eq_true_eq]at A;let⟨⟨⟨⟨hn,M⟩,E⟩,z⟩,i⟩:=A;let⟨ti,N⟩:=bM.1 E;obtain⟨xs,rfl,S,h1,h2⟩:=U.nW;obtain⟨G,rfl,Q,h3,h4⟩:=T.nW;refine⟨?_,λop K H=>run_eqGuard_agg w op t K H _ _ i⟩
  have l:(Op.equalIn 10000 t (.agg xs.toArray) (.agg G.toArray)).run P w = .ok r w:=by
   rw[run_equalIn_array w 9999 _ _ x N,z,hn,List.range_eq_range'];exact yW (O:=Own Z β h) 9998 ks 0 a b xs G r M W Y X (λj y u e1 F=>h2 j y u e1 (an F)) (λj y u e1 F=>h4 j y u e1 (an F)) af af
  refine iM.of R (v:=.bool _) ?_ (.of_bool _);cases neg
  .simp only[aZ,if_false];rw[run_eql_struct,l];rfl
  .simp only[if_true];rw[run_neq_struct,l];rfl
 .cases A
end
def Bh(off:Nat):∀(l:List Value)(k:Nat)(cs:Array Value),off+k+l.length<=cs.size->
  (l.zipIdx k).foldl (λ(cs:Array Value)(x:Value×Nat)=>cs.setIfInBounds (off+x.2) x.1) cs=(over cs.toList (off+k) l).toArray
 | [],k,cs,_=>by simp[over]
 |v::l,k,cs,hl=>by
  simp only[List.zipIdx_cons,bG];rw[Bh off l (k+1) _ (by simp at hl⊢;omega)]
  congr 1
  apply dJ;intro j;have h1:off+(k+1)+l.length<=(cs.setIfInBounds (off+k) v).toList.length:=by simp at hl⊢;omega
  have h2:off+k+(v::l).length<=cs.toList.length:=by simpa using hl
  rw[jh _ _ _ h1,jh _ _ _ h2];simp only[aS,eV]
  by_cases i:j=off+k
  .subst i;simp at hl;rw[if_neg af,if_pos af]
   simp[fD];omega
  .by_cases b : off + k <= j /\ j < off + k + (l.length + 1)
   .rw[if_pos af,if_pos b]
    obtain⟨m,rfl⟩:∃m,j=off+(k+1)+m:=⟨j-(off+(k+1)),af⟩
    have e1:off+(k+1)+m-(off+(k+1))=m:=af
    have n:off+(k+1)+m-(off+k)=m+1:=af
    rw[e1,n];rfl
   .rw[if_neg af,if_neg b,aI af]
def CT(place:Nat->Option (Nat×Nat))(cells:Array Value)(i:Nat)(v:Value)(rest:List (Nat×Value)){off size:Nat}(b:place i=some (off,size))(hs:v.cells.size=size)(l:off+size<=cells.size):
  Instr.fill place cells ((i,v)::rest)=Instr.fill place (over cells.toList off v.cells.toList).toArray rest:=by
 have h1:¬(v.cells.size≠size||decide (off+v.cells.size>cells.size))=true:=by simp[hs];omega
 simp only[Instr.fill,b];rw[if_neg (an h1)]
 congr 1
 have:=Bh off v.cells.toList 0 cells (by simp[hs];omega)
 grind[Array.toList_zipIdx]
section
variable{P:Program}{Z:az}{β:jO}{h:AH}{w:World}
def lD:Operand->AO->Bool
 | .tmp i,.t j=>i==j
 | .const v,.c a=>TE v a
 | .func f,.c (.fn (.func g) [] [])=>f==g
 |_,_=>false
def hU{e:Env}{a:Act}{n:Nat}(E:jt Z β h w e a n){x:Operand}{y:AO}(b:lD x y=true):VR β (Own Z β h) w (y.get e) (a.eval x):=by
 unfold lD at b;split at b
 .simp at b;subst b;exact E.2 _
 .exact .pure _ _ (Jw b).1
 .simp at b;subst b;exact .fn (.func _) [] [] [] [] rfl rfl ai ai
 .cases b
def mJ(P:Program)(b:Array Field):List (Nat×Operand)->List (Nat×Nat×AO)->Bool
 | [],[]=>true
 |(i,x)::l,(off,size,y)::n=>(match b[i]? with
   |some f=>f.offset==off&&jP P f.type size
   |none=>false)&&lD x y&&mJ P b l n
 |_,_=>false
def nB(sz:Nat):List (Nat×Operand)->List (Nat×Nat×AO)->Bool
 | [],[]=>true
 |(i,x)::l,(off,size,y)::b=>off==i*sz&&size==sz&&lD x y&&nB sz l b
 |_,_=>false
def xm{e:Env}{a:Act}{n:Nat}(E:jt Z β h w e a n)(place:Nat->Option (Nat×Nat)):∀(ps:List (Nat×Operand))(qs:List (Nat×Nat×AO))(cs:List AV)(vs:List Value)(cs':List AV),
  (∀(k:Nat) p q,ps[k]? = some p->qs[k]? = some q->place p.1=some (q.1,q.2.1)/\lD p.2 q.2.2=true)->ps.length=qs.length->parts e qs cs=some cs'->
  cs.length=vs.length->(∀u∈vs,u.oneCell'=true)->(∀(j:Nat)(y:AV)(u:Value),cs[j]? = some y->vs[j]? = some u->VR β (Own Z β h) w y u)->
  ∃o:List Value,Instr.fill place vs.toArray (ps.map λp=>(p.1,a.eval p.2))=some o.toArray/\cs'.length=o.length/\(∀u∈o,u.oneCell'=true)/\
   ∀(j:Nat)(y:AV)(u:Value),cs'[j]? = some y->o[j]? = some u->VR β (Own Z β h) w y u
 | [],[],cs,vs,cs',_,_,z,hl,h1,h2=>by
  simp only[parts]at z;cases z;exact⟨vs,by simp[Instr.fill],hl,h1,h2⟩
 | [],_::_,_,_,_,_,b,_,_,_,_=>by simp at b
 |_::_,[],_,_,_,_,b,_,_,_,_=>by simp at b
 | (i,x)::ps,(off,size,y)::qs,cs,vs,cs',F,b,z,hl,h1,h2=>by
  simp only[parts]at z;split at z
  .rename_i A;let⟨N,L,U⟩:=A;let⟨v,M⟩:=F 0 (i,x) (off,size,y) rfl rfl;let⟨K,e1,W,e3,e4⟩:=(hU E M).cells N;have hg:K.length=size:=W.symm.trans L;have r:off+K.length<=vs.length:=by omega
   have G:off+(y.get e).cells.length<=cs.length:=af
   let⟨o,k1,k2,Y,X⟩:=xm E place ps qs (over cs off (y.get e).cells) (over vs off K) cs' (λk p q Q O=>F (k+1) p q (an Q) (an O)) (an b) z
    (by rw[iR _ _ _ G,iR _ _ _ r,hl])
    (λu l=>by
     unfold over at l;simp only[aY]at l
     rcases l with(l | l) | l
     .exact h1 u (ei l)
     .exact e3 u l
     .exact h1 u (cE l))
    (λj T u H l=>by
     rw[jh _ _ _ G]at H;rw[jh _ _ _ r,<-W]at l;split at H
     .rename_i S;rw[if_pos S]at l;exact e4 _ T u H l
     .rename_i S;rw[if_neg S]at l;exact h2 j T u H l)
   refine⟨o,?_,k2,Y,X⟩;simp only[bN];rw[CT place vs.toArray i (a.eval x) _ v (by rw[e1];simp;omega) ak]
   rw[e1];exact k1
  .cases z
def qn{l:Array Field}:∀ {ps:List (Nat×Operand)} {qs:List (Nat×Nat×AO)},mJ P l ps qs=true->ps.length=qs.length/\
  ∀(k:Nat)(p:Nat×Operand)(q:Nat×Nat×AO),ps[k]? = some p->qs[k]? = some q->∃f,l[p.1]? = some f/\f.offset=q.1/\jP P f.type q.2.1=true/\lD p.2 q.2.2=true
 | [],[],_=>⟨rfl,ai⟩
 |(i,x)::ps,(off,size,y)::qs,b=>by
  simp only[mJ,aF]at b;let⟨⟨h1,h2⟩,h3⟩:=b;let⟨q1,n⟩:=qn h3
  grind
 | [],_::_,b=>by grind[mJ]
 |_::_,[],b=>by grind[mJ]
def qX{sz:Nat}:∀ {ps:List (Nat×Operand)} {qs:List (Nat×Nat×AO)},nB sz ps qs=true->ps.length=qs.length/\
  ∀(k:Nat)(p:Nat×Operand)(q:Nat×Nat×AO),ps[k]? = some p->qs[k]? = some q->q.1=p.1*sz/\q.2.1=sz/\lD p.2 q.2.2=true
 | [],[],_=>⟨rfl,ai⟩
 |(i,x)::ps,(off,size,y)::qs,b=>by
  simp only[nB,aF,beq_iff_eq]at b;let⟨⟨⟨h1,o⟩,h2⟩,h3⟩:=b;let⟨q1,r⟩:=qX h3;refine⟨by simp[q1],λk p q n l=>?_⟩
  cases k with
  |zero =>
   simp at n l;subst n l;exact⟨h1,o,h2⟩
  |succ k=>exact r k p q (an n) (an l)
 | [],_::_,b=>by grind[nB]
 |_::_,[],b=>by grind[nB]
def run_places(b:Array Field)(n:∀f∈b,(P.info? f.type).isSome=true)(w:World):
  (b.mapM λf=>do pure (f.offset,<-sizeOf f.type):Sem (Array (Nat×Nat))).run P w = .ok (b.map λf=>(f.offset,((P.info? f.type).map (·.size)).getD 0)) w:=by
 rw[Array.mapM_eq_mapM_toList];simp only[Sem.run_map]
 have key:∀l:List Field,(∀f∈l,(P.info? f.type).isSome=true)->(l.mapM (λf=>do pure (f.offset,<-sizeOf f.type)):Sem aC).run P w = .ok (l.map λf=>(f.offset,((P.info? f.type).map (·.size)).getD 0)) w:=by
  intro l
  induction l with
  |nil=>intro _;simp
  |cons f l o =>
   intro hl;let⟨i,q⟩:=bM.1 (hl f ai)
   rw[ic];simp only[Sem.run_bind,sizeOf,typeInfo,run_program,Result.andThen_ok,q,Sem.run_pure,bN,cS,dh];have:=o λg hg=>hl g (by simp[hg])
   simp only[sizeOf,typeInfo]at this;rw[this];simp
 rw[key b.toList (λf r=>n f (an r))]
 simp only[Result.andThen_ok]
 congr 1
 apply cR;simp
def DL(P:Program)(t:TypeId)(ps:Array (Nat×Operand))(zero:List AV)(qs:List (Nat×Nat×AO)):Bool :=
 zN P t zero&&match P.underlying t with
 |some (.struct b)=>b.toList.all (λf=>(P.info? f.type).isSome)&&mJ P b ps.toList qs
 |some (.array _ elem)=>match P.info? elem with
  |some i=>nB i.size ps.toList qs
  |none=>false
 |_=>false
def Lt(R:Rel Z β h w){e:Env}{a:Act}{n:Nat}(E:jt Z β h w e a n){t:TypeId}{ps:Array (Nat×Operand)}{zero:List AV}{qs:List (Nat×Nat×AO)}(l:DL P t ps zero qs=true)
  {cs:List AV} (hp:parts e qs zero=some cs):iM P Z β h w (Instr.build t (ps.map λ(i,x)=>(i,a.eval x))) (.agg cs) h:=by
 unfold DL at l;simp only[aF]at l;let⟨M,l⟩:=l;let⟨i,z,hi,M,he⟩:=u9 M;let⟨q1,q2,q3,_⟩:=qb (O:=Own Z β h) (w:=w) he;have r:(ps.map λ(i,x)=>(i,a.eval x)).toList=ps.toList.map λp=>(p.1,a.eval p.2):=ai
 split at l
 .rename_i fs hfs;simp only[aF]at l;let⟨G,o⟩:=l;let⟨Q,N⟩:=qn o
  let⟨b,L,U,T,S⟩:=xm E (λk=>(fs.map λf=>(f.offset,((P.info? f.type).map (·.size)).getD 0))[k]?) ps.toList qs zero z.cells.toList cs (λk p q F A=>by
   let⟨f,f1,f2,K,f4⟩:=N k p q F A;refine⟨?_,f4⟩;unfold jP at K;split at K
   .rename_i W H;simp at K;simp[f1,f2,H,K]
   .cases K) Q hp q1 q2 (λj y u X Y=>.pure _ _ (q3 j y u X Y))
  refine iM.of R (v:=.agg b.toArray) ?_ (.agg cs b U T S);simp only[Instr.build,Sem.run_bind,jq hi M,Result.andThen_ok,run_underlying hfs];rw[run_places fs (λf hf=>by have:=aM.1 G f (an hf);exact this)]
  simp only[Result.andThen_ok,r];simp only[dI]at L;rw[L];simp
 .rename_i len elem hel;split at l
  .rename_i W H;let⟨Q,N⟩:=qX l
   let⟨b,L,U,T,S⟩:=xm E (λk=>some (k*W.size,W.size)) ps.toList qs zero z.cells.toList cs (λk p q F A=>by
    let⟨f1,f2,K⟩:=N k p q F A;exact⟨by rw[f1,f2],K⟩) Q hp q1 q2 (λj y u X Y=>.pure _ _ (q3 j y u X Y))
   refine iM.of R (v:=.agg b.toArray) ?_ (.agg cs b U T S);simp only[Instr.build,Sem.run_bind,jq hi M,Result.andThen_ok,run_underlying hel,sizeOf,typeInfo,run_program,H,Sem.run_pure,r];simp only[dI]at L;rw[L];simp
  .cases l
 .cases l
end
end Go.Am
