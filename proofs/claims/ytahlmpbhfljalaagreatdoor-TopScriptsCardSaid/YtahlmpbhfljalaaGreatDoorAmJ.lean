/- Part of the proof that TopScriptsCard holds. -/
import Derived.ChangeKeysEq
import Derived.Test.YtahlmpbhfljalaaGreatDoorAmH
set_option linter.all false
namespace Go.Am
section
variable{P:Program}{Z:ay}{β:iW}{h:AH}{w:World}
def Rel.grown(R:Rel Z β h w){w':World}(v:w'.os=w.os)(o:w'.tape=w.tape)(r:w'.output=w.output)(n:w.heap.size<=w'.heap.size)
  (l:∀b,b<w.heap.size->w'.heap[b]? = w.heap[b]?):Rel Z β h w'/\Fr Z β h w β h w':=by
 have q:jJ (Own Z β h) w (Own Z β h) w':=⟨n,λb y A=>⟨l b y,A⟩⟩
 exact⟨⟨λc x=>br (R.xlt c x) n,R.yC,R.fresh,R.later,λi X z=>(R.blk i X z).mono q (λ_ _ _ e=>e) (λc x=>l c (R.mS ⟨X,z,x⟩)),R.apart,R.gl.stay q⟩,⟨λb y _=>l b y,v,o,r,λ_ _ _ e=>e,q⟩⟩
def Rel.pN(R:Rel Z β h w)(o:Obj):Rel Z β h (w.alloc o)/\Fr Z β h w β h (w.alloc o) :=
 R.grown rfl rfl rfl ah λb i=>heap_alloc_old w o b i
def iF{t:TypeId}{i:TypeInfo}{z:Value}(l:P.info? t=some i)(b:i.zero=some z)(w:World):(zeroValue t).run P w = .ok z w:=by
 simp[zeroValue,typeInfo,l,b]
def qG{t:TypeId}{cs:List AV}(b:ux P t cs=true):∃i z,P.info? t=some i/\i.zero=some z/\AP z.cells.toList cs=true:=by
 grind[ux]
def ox{t:TypeId}{a:AV}(b:zeroV P t a=true):∃i z,P.info? t=some i/\i.zero=some z/\Tn z a=true:=by
 grind[zeroV]
def Lc(R:Rel Z β h w){t:TypeId}{zero:List AV}(b:ux P t zero=true):gY P Z β h w (Instr.alloc t true (.tuple #[])) (.ptr h.length 0 0 0) (h++[.var zero]):=by
 let⟨i,z,A,b,E⟩:=qG b;let⟨q1,n,l,_⟩:=nW (O:=Own Z β h) (w:=w) E;let⟨β',r,q,o⟩:=R.EC t zero z.cells.toList q1 n (λj y u v x=>.pure _ _ (l j y u v x))
 refine⟨_,_,β',?_,r,q,o⟩;simp[Instr.alloc,iF A b,newVar,newRow]
def RL(R:Rel Z β h w)(t:TypeId){x:AV}(b:x.cells.all AV.qF=true){v:Value}(o:VR β (Own Z β h) w x v):
  gY P Z β h w (Instr.box t v) (.ptr h.length 0 0 0) (h++[.var x.cells]):=by
 let⟨vs,e1,y,r,q⟩:=o.cells b;let⟨β',n,l,i⟩:=R.EC t x.cells vs y r q;refine⟨_,_,β',?_,n,l,i⟩;simp[Instr.box,newVar,newRow,e1]
def D1(i:Nat)(t:TypeId):∀l:List AV,(rL i t l).length=l.length
 | []=>rfl
 |a::l=>by simp[rL,D1 i t l]
def D4(i:Nat)(t:TypeId):∀(l:List AV)(j:Nat),(rL i t l)[j]? = (l[j]?).map (tyC i t)
 | [],j=>by simp[rL]
 |a::l,0=>rfl
 |a::l,j+1=>by simpa[rL]using D4 i t l j
def Rel.Br(R:Rel Z β h w)(elem:TypeId)(cs:List AV)(vs:List Value)(hl:cs.length=vs.length)
  (h1:∀u∈vs,u.oneCell'=true) (h2:∀(j:Nat)(y:AV)(u:Value),cs[j]? = some y->vs[j]? = some u->VR β (Own Z β h) w y u) :
  ∃β',Rel Z β' (h++[.var (rL h.length elem cs)]) (w.alloc (.cells vs.toArray elem))/\Fr Z β h w β' (h++[.var (rL h.length elem cs)]) (w.alloc (.cells vs.toArray elem))/\
   VR β' (Own Z β' (h++[.var (rL h.length elem cs)])) (w.alloc (.cells vs.toArray elem)) (.ptr h.length 0 0 0) (.pointer (some ⟨w.heap.size,0,none⟩)):=by
 obtain⟨X,A⟩:∃X,X=rL h.length elem cs:=⟨_,rfl⟩;rw[<-A];have z:X.length=vs.length:=by rw[A,D1,hl]
 let bd:Bd:=⟨some w.heap.size,0,X.length,X.length,elem⟩
 let β':iW:=λi v=>if i=h.length/\v=0 then some bd else β i v
 have l:β' h.length 0=some bd:=by simp[β']
 have key:=R.push (X:=.var X) (bd:=bd) (β':=β') (w':=w.alloc (.cells vs.toArray elem)) rfl rfl rfl rfl ah (by simp[bd]) ah
  (λb M=>heap_alloc_old w _ b M) (λq=>⟨w.heap.size,vs.toArray,elem,l,heap_alloc_new w _,by simp[z],λj y n=>?_⟩)
 .let⟨H,G⟩:=key;refine⟨_,H,G,?_⟩;have:=VR.ptr (β:=β') (O:=Own Z β' (h++[.var X])) (w:=w.alloc (.cells vs.toArray elem)) h.length 0 0 0 bd w.heap.size l rfl
  simpa[bd]using this
 .rw[A,D4]at n;cases o:cs[j]? with
  |none=>rw[o]at n;cases n
  |some y0 =>
   rw[o]at n;simp only[cB,aP]at n;have x:j<vs.length:=by rw[<-hl];exact(az.1 o).1
   refine⟨vs[j],by simp[x],h1 _ (aU x),?_⟩
   have E:=h2 j y0 vs[j] o (by simp[x])
   have old:VR β' (Own Z β' (h++[.var X])) (w.alloc (.cells vs.toArray elem)) y0 vs[j]:=E.mono (λi v N e=>by
    simp only[β'];rw[if_neg]
    .exact e
    .rintro⟨rfl,_⟩
     rw[R.fresh _ v (aT _)]at e;cases e) q
   by_cases F:y0 = .kG
   .subst F
    have r:∀u,VR β (Own Z β h) w .kG u->u = .pointer none:=λu K=>by
     cases K with | pure _ _ L=>cases L;rfl
    rw[r _ E,<-n];exact .Tx _ _ _ bd l λ_=>⟨rfl,rfl⟩
   .have:tyC h.length elem y0=y0:=by unfold tyC;split<;>first | exact absurd rfl F | rfl
    rw[<-n,this];exact old
def Ih(R:Rel Z β h w){t:TypeId}{zero:List AV}(b:ux P t zero=true):gY P Z β h w (Instr.alloc t true (.tuple #[])) (.ptr h.length 0 0 0) (h++[.var (rL h.length t zero)]):=by
 let⟨i,z,A,b,E⟩:=qG b;let⟨q1,n,l,_⟩:=nW (O:=Own Z β h) (w:=w) E;let⟨β',r,q,o⟩:=R.Br t zero z.cells.toList q1 n (λj y u v x=>.pure _ _ (l j y u v x))
 refine⟨_,_,β',?_,r,q,o⟩;simp[Instr.alloc,iF A b,newVar,newRow]
def OC(R:Rel Z β h w)(t:TypeId){x:AV}(b:x.cells.all AV.qF=true){v:Value}(o:VR β (Own Z β h) w x v):
  gY P Z β h w (Instr.box t v) (.ptr h.length 0 0 0) (h++[.var (rL h.length t x.cells)]):=by
 let⟨vs,e1,y,r,q⟩:=o.cells b;let⟨β',n,l,i⟩:=R.Br t x.cells vs y r q;refine⟨_,_,β',?_,n,l,i⟩;simp[Instr.box,newVar,newRow,e1]
def Mv(R:Rel Z β h w)(t:TypeId){x:AV}(o:x.cells.all AV.jD=true){v:Value}(A:VR β (Own Z β h) w x v):
  gY P Z β h w (Instr.box t v) (.iw x.cells) h:=by
 have l:x.cells.all AV.qF=true:=by
  grind[List.all_eq_true,nI]
 let⟨vs,e1,G,K,F⟩:=A.cells l;let⟨H,z⟩:=R.pN (.cells vs.toArray t (0,0));refine⟨.pointer (some ⟨w.heap.size,0,none⟩),w.alloc (.cells vs.toArray t (0,0)),β,by simp[Instr.box,newVar,newRow,e1],H,z,?_⟩
 have r:(w.alloc (.cells vs.toArray t (0,0))).heap[w.heap.size]? = some (.cells vs.toArray t (0,0)):=heap_alloc_new w _;have q:¬Own Z β h w.heap.size:=by
  rintro(n | ⟨i,n⟩)
  .have:=R.xlt _ n;omega
  .have:=R.mS n;omega
 refine .iw x.cells w.heap.size 0 (λj=>vs.getD j undef) q ah (λj y b=>?_) (λj y b=>?_) (λj y b=>?_)
 all_goals
  have E:j<vs.length:=by rw[<-G];exact(az.1 b).1
  have hg:vs[j]? = some vs[j]:=aF E;simp only[bK,hg,cM]
 .simp_all
 .grind
 .have h1:=F j y _ b hg;exact(h1.Bu (aJ.1 o y (bE b))).mono z.stay
def RO(R:Rel Z β h w){t:TypeId}(r:P.underlying t=some .bool)(neg:Bool){a b:Bool}{u v:Value}(q:VR β (Own Z β h) w (.bool a) u)(o:VR β (Own Z β h) w (.bool b) v):
  gY P Z β h w (binOp (if neg then .neq else .eql) t u v) (.bool (if neg then !decide (a=b)else decide (a=b))) h/\∀op n l,(eqGuard op t n l u v).run P w = .ok () w:=by
 have:=q.lK;subst this;have:=o.lK;subst this;refine⟨?_,λop n l=>by cases op<;>simp[eqGuard]⟩
 refine gY.of R (v:=.bool _) ?_ (.of_bool _);have i:(a==b)=decide (a=b):=by grind
 cases neg<;>simp[binOp,Op.equal,Op.maxDepth,run_equalIn_bool w _ t a b r,i]
def zB(P:Program)(t:TypeId)(k:Nat):Bool :=
 match P.underlying t with
 |some (.int _)=>k==0
 |some .string=>k==1
 |some .bool=>k==2
 |_=>false
def mE(P:Program):List Field->au->Nat->Bool
 | [],[],_=>true
 |f::i,k::b,n=>f.offset==n&&f.name != "_" && zB P f.type k&&mE P i b (n+1)
 |_,_,_=>false
def run_part_plain{t:TypeId}{d:TypeDesc}(i:P.underlying t=some d)(l:(match d with | .struct _ | .array _ _=>False | _=>True))(cs:Array Value)(k:Nat)(u:Value)(b:cs[k]? = some u)(w:World):
  (part t cs k).run P w = .ok u w:=by
 have:(isAgg t).run P w = .ok false w:=by
  unfold isAgg;simp only[Sem.run_bind,run_underlying i,Result.andThen_ok];cases d<;>simp_all
 simp[part,this,b]
def xH{O:ay}(d:Nat){t:TypeId}{k:Nat}(hk:zB P t k=true){F:au}{a b:AV}{as bs:List AV}{r:Bool}(l:iO (k::F) (a::as) (b::bs)=some r){u v:Value}(A:VR β O w a u)(z:VR β O w b v):
  ∃q:Bool,(∀n xs,xs[n]? = some u->(part t xs n).run P w = .ok u w)/\(∀n xs,xs[n]? = some v->(part t xs n).run P w = .ok v w)/\(Op.equalIn (d+1) t u v).run P w = .ok q w/\((q=false/\r=false)\/(q=true/\iO F as bs=some r)):=by
 unfold zB at hk;split at hk
 .rename_i H i;simp at hk;subst hk;cases a<;>cases b<;>first | (simp[iO]at l;done) | skip
  rename_i G n1 M E;have:=A.jF;subst this;have:=z.jF;subst this;simp only[iO]at l;split at l
  .rename_i y;subst y;refine⟨n1==E,λn xs hx=>run_part_plain i trivial xs n _ hx w,λn xs hx=>run_part_plain i trivial xs n _ hx w,run_equalIn_int w d t G H n1 E i,?_⟩
   split at l
   .rename_i o;exact .inr ⟨ak o,l⟩
   .rename_i o;exact .inl ⟨ak o,ak l.symm⟩
  .cases l
 .rename_i i;simp at hk;subst hk;cases a<;>cases b<;>first | (simp[iO]at l;done) | skip
  rename_i s1 x;obtain⟨b1,rfl,e1⟩:=A.lN;obtain⟨L,rfl,K⟩:=z.lN;simp only[iO]at l;refine⟨s1==x,λn xs hx=>run_part_plain i trivial xs n _ hx w,λn xs hx=>run_part_plain i trivial xs n _ hx w,by rw[run_equalIn_string w d t b1 L i,toList_data,toList_data,e1,K],?_⟩
  split at l
  .rename_i o;exact .inr ⟨ak o,l⟩
  .rename_i o;exact .inl ⟨ak o,ak l.symm⟩
 .rename_i i;simp at hk;subst hk;cases a<;>cases b<;>first | (simp[iO]at l;done) | skip
  rename_i s1 x;have:=A.lK;subst this;have:=z.lK;subst this;simp only[iO]at l;refine⟨s1==x,λn xs hx=>run_part_plain i trivial xs n _ hx w,λn xs hx=>run_part_plain i trivial xs n _ hx w,run_equalIn_bool w d t s1 x i,?_⟩
  split at l
  .rename_i o;exact .inr ⟨ak o,l⟩
  .rename_i o;exact .inl ⟨ak o,ak l.symm⟩
 .cases hk
def vG{O:ay}(d:Nat):∀(G:List Field)(x:au)(k:Nat)(as bs:List AV)(xs i:List Value)(r:Bool),mE P G x k=true->iO x as bs=some r->
  as.length=x.length->bs.length=x.length->(∀(j:Nat)(y:AV)(u:Value),as[j]? = some y->xs[k+j]? = some u->VR β O w y u)->(∀(j:Nat)(y:AV)(u:Value),bs[j]? = some y->i[k+j]? = some u->VR β O w y u)->
  k+as.length<=xs.length->k+bs.length<=i.length->(Op.eqFields (d+1) xs.toArray i.toArray G).run P w = .ok r w
 | [],[],k,as,bs,xs,i,r,_,F,hl,l,_,_,_,_=>by
  have h1:as=[]:=aV hl;have h2:bs=[]:=aV l;subst h1 h2;simp[iO]at F;subst F;simp[Op.eqFields]
 | [],_::_,_,_,_,_,_,_,z,_,_,_,_,_,_,_=>by simp[mE]at z
 |_::_,[],_,_,_,_,_,_,z,_,_,_,_,_,_,_=>by simp[mE]at z
 |f::G,W::x,k,as,bs,xs,i,r,z,F,hl,l,L,K,hx,U=>by
  cases as with
  |nil=>simp at hl
  |cons a as =>
   cases bs with
   |nil=>simp at l
   |cons b bs =>
    simp only[mE,aC,beq_iff_eq,bne_iff_ne]at z;let⟨⟨⟨n,v⟩,H⟩,o⟩:=z;simp at hl l hx U;have E:k<xs.length:=aa
    have A:k<i.length:=aa
    have N:=L 0 a xs[k] rfl (by simp[E])
    have M:=K 0 b i[k] rfl (by simp[A])
    let⟨q,T,p2,p3,p4⟩:=xH d H F N M;have S:=T f.offset xs.toArray (by simp[n,E])
    have Q:=p2 f.offset i.toArray (by simp[n,A])
    simp only[Op.eqFields,v,ne_eq,not_false_eq_true,if_true,Sem.run_bind,S,Q,p3,Result.andThen_ok]
    rcases p4 with⟨rfl,rfl⟩ | ⟨rfl,p5⟩
    .simp
    .simp only[eA,bq,if_false]
     exact vG d G x (k+1) as bs xs i r o p5 aa aa (λj y u h1 h2=>L (j+1) y u (ak h1) (by rw[<-h2];congr 1;omega))
      (λj y u h1 h2=>K (j+1) y u (ak h1) (by rw[<-h2];congr 1;omega)) aa aa
def yH(P:Program)(t:TypeId)(b:au):Bool :=
 match P.underlying t with
 |some (.struct i)=>mE P i.toList b 0 && !P.stoodInHeld t && !P.eqGuardType P.depth t
 |some (.array n e)=>decide (n=b.length)&&b.all (zB P e)&&(P.info? e).isSome&&decide (P.cellsOf e=1) && !P.eqGuardType P.depth t
 |_=>false
def xI{O:ay}(d:Nat){e:TypeId}:∀(n:au)(k:Nat)(as bs:List AV)(xs i:List Value)(r:Bool),n.all (zB P e)=true->iO n as bs=some r->
  as.length=n.length->bs.length=n.length->(∀(j:Nat)(y:AV)(u:Value),as[j]? = some y->xs[k+j]? = some u->VR β O w y u)->(∀(j:Nat)(y:AV)(u:Value),bs[j]? = some y->i[k+j]? = some u->VR β O w y u)->
  k+as.length<=xs.length->k+bs.length<=i.length->(Op.eqItems (d+1) e 1 xs.toArray i.toArray (List.range' k n.length)).run P w = .ok r w
 | [],k,as,bs,xs,i,r,_,z,hl,l,_,_,_,_=>by
  have h1:as=[]:=aV hl;have h2:bs=[]:=aV l;subst h1 h2;simp[iO]at z;subst z;simp[Op.eqItems]
 |S::n,k,as,bs,xs,i,r,E,z,hl,l,G,F,hx,Q=>by
  cases as with
  |nil=>simp at hl
  |cons a as =>
   cases bs with
   |nil=>simp at l
   |cons b bs =>
    rw[cm,aC]at E;let⟨A,o⟩:=E;simp at hl l hx Q;have x:k<xs.length:=aa
    have v:k<i.length:=aa
    have K:=G 0 a xs[k] rfl (by simp[x])
    have H:=F 0 b i[k] rfl (by simp[v])
    let⟨q,N,p2,p3,p4⟩:=xH d A z K H;have M:=N (k*1) xs.toArray (by simp[x])
    have L:=p2 (k*1) i.toArray (by simp[v])
    rw[aK,List.range'_succ];simp only[Op.eqItems,Sem.run_bind,M,L,p3,Result.andThen_ok]
    rcases p4 with⟨rfl,rfl⟩ | ⟨rfl,p5⟩
    .simp
    .simp only[eA,bq,if_false]
     exact xI d n (k+1) as bs xs i r o p5 aa aa (λj y u h1 h2=>G (j+1) y u (ak h1) (by rw[<-h2];congr 1;omega))
      (λj y u h1 h2=>F (j+1) y u (ak h1) (by rw[<-h2];congr 1;omega)) aa aa
def PN(R:Rel Z β h w){t:TypeId}{G:au}(A:yH P t G=true)(neg:Bool){a b:List AV}{r:Bool}(ha:a.length=G.length)(Y:b.length=G.length)(X:iO G a b=some r)
  {u v:Value} (W:VR β (Own Z β h) w (.agg a) u) (U:VR β (Own Z β h) w (.agg b) v) :
  gY P Z β h w (binOp (if neg then .neq else .eql) t u v) (.bool (if neg then !r else r)) h/\∀op L K,(eqGuard op t L K u v).run P w = .ok () w:=by
 unfold yH at A;split at A
 .rename_i fs x;simp only[aC,cD]at A;let⟨⟨q,o⟩,i⟩:=A;obtain⟨xs,rfl,T,h1,h2⟩:=W.nk;obtain⟨H,rfl,S,h3,h4⟩:=U.nk;have M:P.fieldsOf t=fs:=by simp[Program.fieldsOf,x]
  refine⟨?_,λop L K=>run_eqGuard_agg w op t L K _ _ i⟩
  have l:(Op.equalIn 10000 t (.agg xs.toArray) (.agg H.toArray)).run P w = .ok r w:=by
   rw[run_equalIn_struct w 9999 t _ _ (by rw[M];exact x) o,M]
   exact vG (O:=Own Z β h) 9998 fs.toList G 0 a b xs H r q X ha Y (λj y u e1 F=>h2 j y u e1 (ak F)) (λj y u e1 F=>h4 j y u e1 (ak F)) aa aa
  refine gY.of R (v:=.bool _) ?_ (.of_bool _);cases neg
  .simp only[bq,if_false];rw[run_eql_struct,l];rfl
  .simp only[if_true];rw[run_neq_struct,l];rfl
 .rename_i n e x;simp only[aC,cD,decide_eq_true_eq]at A;let⟨⟨⟨⟨hn,N⟩,E⟩,z⟩,i⟩:=A;let⟨ti,Q⟩:=cC.1 E;obtain⟨xs,rfl,T,h1,h2⟩:=W.nk;obtain⟨H,rfl,S,h3,h4⟩:=U.nk;refine⟨?_,λop L K=>run_eqGuard_agg w op t L K _ _ i⟩
  have l:(Op.equalIn 10000 t (.agg xs.toArray) (.agg H.toArray)).run P w = .ok r w:=by
   rw[run_equalIn_array w 9999 _ _ x Q,z,hn,List.range_eq_range'];exact xI (O:=Own Z β h) 9998 G 0 a b xs H r N X ha Y (λj y u e1 F=>h2 j y u e1 (ak F)) (λj y u e1 F=>h4 j y u e1 (ak F)) aa aa
  refine gY.of R (v:=.bool _) ?_ (.of_bool _);cases neg
  .simp only[bq,if_false];rw[run_eql_struct,l];rfl
  .simp only[if_true];rw[run_neq_struct,l];rfl
 .cases A
end
def zP(off:Nat):∀(l:List Value)(k:Nat)(cs:Array Value),off+k+l.length<=cs.size->
  (l.zipIdx k).foldl (λ(cs:Array Value)(x:Value×Nat)=>cs.setIfInBounds (off+x.2) x.1) cs=(over cs.toList (off+k) l).toArray
 | [],k,cs,_=>by simp[over]
 |v::l,k,cs,hl=>by
  simp only[List.zipIdx_cons,cE];rw[zP off l (k+1) _ (by simp at hl⊢;omega)]
  congr 1
  apply dm;intro j;have h1:off+(k+1)+l.length<=(cs.setIfInBounds (off+k) v).toList.length:=by simp at hl⊢;omega
  have h2:off+k+(v::l).length<=cs.toList.length:=by simpa using hl
  rw[iG _ _ _ h1,iG _ _ _ h2];simp only[aK,eE]
  by_cases i:j=off+k
  .subst i;simp at hl;rw[if_neg aa,if_pos aa]
   simp[eU];omega
  .by_cases b : off + k <= j /\ j < off + k + (l.length + 1)
   .rw[if_pos aa,if_pos b]
    obtain⟨m,rfl⟩:∃m,j=off+(k+1)+m:=⟨j-(off+(k+1)),aa⟩
    have e1:off+(k+1)+m-(off+(k+1))=m:=aa
    have n:off+(k+1)+m-(off+k)=m+1:=aa
    rw[e1,n];rfl
   .rw[if_neg aa,if_neg b,aL aa]
def BZ(place:Nat->Option (Nat×Nat))(cells:Array Value)(i:Nat)(v:Value)(rest:List (Nat×Value)){off size:Nat}(b:place i=some (off,size))(hs:v.cells.size=size)(l:off+size<=cells.size):
  Instr.fill place cells ((i,v)::rest)=Instr.fill place (over cells.toList off v.cells.toList).toArray rest:=by
 have h1:¬(v.cells.size≠size||decide (off+v.cells.size>cells.size))=true:=by simp[hs];omega
 simp only[Instr.fill,b];rw[if_neg (ak h1)]
 congr 1
 have:=zP off v.cells.toList 0 cells (by simp[hs];omega)
 grind[Array.toList_zipIdx]
section
variable{P:Program}{Z:ay}{β:iW}{h:AH}{w:World}
def kj:Operand->AO->Bool
 | .tmp i,.t j=>i==j
 | .const v,.c a=>Tn v a
 | .func f,.c (.fn (.func g) [] [])=>f==g
 | .global g,.c (.iw cs)=>GA.any λp=>g==p.1&&Dc cs p.2
 |_,_=>false
def gW{e:Env}{a:Act}{n:Nat}(G:Gl (Own Z β h) w)(E:iP Z β h w e a n){x:Operand}{y:AO}(i:kj x y=true):VR β (Own Z β h) w (y.get e) (a.eval x):=by
 unfold kj at i;split at i
 .simp at i;subst i;exact E.2 _
 .exact .pure _ _ (Jq i).1
 .simp at i;subst i;exact .fn (.func _) [] [] [] [] rfl rfl ah ah
 .rename_i g cs;let⟨p,r,q⟩:=ct.1 i;simp only[aC,beq_iff_eq]at q;obtain⟨rfl,q⟩:=q;obtain rfl:=BJ q;let⟨v,cur,t,fr,o,hs⟩:=G (p.1,GI p.2) (aZ.2 (.inr (b7.2 ⟨p,r,rfl⟩)))
  have hg:∀(j:Nat)(y:AV),(p.2.map AV.str)[j]? = some y->∃s,y = .str s/\p.2[j]? = some s:=λj y b=>by
   rw[bM]at b;cases l:p.2[j]? with
   |none=>rw[l]at b;cases b
   |some s=>rw[l]at b;cases b;exact⟨s,rfl,rfl⟩
  refine .iw _ p.1 0 (λj=>.string ⟨(p.2.getD j []).toArray⟩) v (aH.1 o).1 (λj y b=>?_) (λ_ _ _=>rfl) (λj y b=>?_)
  .let⟨s,_,l⟩:=hg j y b;rw[b8,cell_of_row w p.1 j cur t fr o,hs j s l,bK,l];rfl
  .obtain⟨s,rfl,l⟩:=hg j y b;rw[bK,l];have:=mM.str (O:=Own Z β h) (w:=w) ⟨s.toArray⟩
   simpa using this
 .cases i
def lR(P:Program)(b:Array Field):List (Nat×Operand)->List (Nat×Nat×AO)->Bool
 | [],[]=>true
 |(i,x)::l,(off,size,y)::n=>(match b[i]? with
   |some f=>f.offset==off&&jg P f.type size
   |none=>false)&&kj x y&&lR P b l n
 |_,_=>false
def mF(sz:Nat):List (Nat×Operand)->List (Nat×Nat×AO)->Bool
 | [],[]=>true
 |(i,x)::l,(off,size,y)::b=>off==i*sz&&size==sz&&kj x y&&mF sz l b
 |_,_=>false
def wj{e:Env}{a:Act}{n:Nat}(G:Gl (Own Z β h) w)(E:iP Z β h w e a n)(place:Nat->Option (Nat×Nat)):∀(ps:List (Nat×Operand))(qs:List (Nat×Nat×AO))(cs:List AV)(vs:List Value)(cs':List AV),
  (∀(k:Nat) p q,ps[k]? = some p->qs[k]? = some q->place p.1=some (q.1,q.2.1)/\kj p.2 q.2.2=true)->ps.length=qs.length->parts e qs cs=some cs'->
  cs.length=vs.length->(∀u∈vs,u.oneCell'=true)->(∀(j:Nat)(y:AV)(u:Value),cs[j]? = some y->vs[j]? = some u->VR β (Own Z β h) w y u)->
  ∃o:List Value,Instr.fill place vs.toArray (ps.map λp=>(p.1,a.eval p.2))=some o.toArray/\cs'.length=o.length/\(∀u∈o,u.oneCell'=true)/\
   ∀(j:Nat)(y:AV)(u:Value),cs'[j]? = some y->o[j]? = some u->VR β (Own Z β h) w y u
 | [],[],cs,vs,cs',_,_,z,hl,h1,h2=>by
  simp only[parts]at z;cases z;exact⟨vs,by simp[Instr.fill],hl,h1,h2⟩
 | [],_::_,_,_,_,_,b,_,_,_,_=>by simp at b
 |_::_,[],_,_,_,_,b,_,_,_,_=>by simp at b
 | (i,x)::ps,(off,size,y)::qs,cs,vs,cs',F,b,z,hl,h1,h2=>by
  simp only[parts]at z;split at z
  .rename_i A;let⟨O,M,W⟩:=A;let⟨v,N⟩:=F 0 (i,x) (off,size,y) rfl rfl;let⟨L,e1,X,e3,e4⟩:=(gW G E N).cells O;have hg:L.length=size:=X.symm.trans M;have r:off+L.length<=vs.length:=by omega
   have H:off+(y.get e).cells.length<=cs.length:=aa
   let⟨o,k1,k2,k3,Y⟩:=wj G E place ps qs (over cs off (y.get e).cells) (over vs off L) cs' (λk p q S Q=>F (k+1) p q (ak S) (ak Q)) (ak b) z
    (by rw[ig _ _ _ H,ig _ _ _ r,hl])
    (λu l=>by
     unfold over at l;simp only[aZ]at l
     rcases l with(l | l) | l
     .exact h1 u (dK l)
     .exact e3 u l
     .exact h1 u (cA l))
    (λj U u K l=>by
     rw[iG _ _ _ H]at K;rw[iG _ _ _ r,<-X]at l;split at K
     .rename_i T;rw[if_pos T]at l;exact e4 _ U u K l
     .rename_i T;rw[if_neg T]at l;exact h2 j U u K l)
   refine⟨o,?_,k2,k3,Y⟩;simp only[bF];rw[BZ place vs.toArray i (a.eval x) _ v (by rw[e1];simp;omega) aj]
   rw[e1];exact k1
  .cases z
def pG{l:Array Field}:∀ {ps:List (Nat×Operand)} {qs:List (Nat×Nat×AO)},lR P l ps qs=true->ps.length=qs.length/\
  ∀(k:Nat)(p:Nat×Operand)(q:Nat×Nat×AO),ps[k]? = some p->qs[k]? = some q->∃f,l[p.1]? = some f/\f.offset=q.1/\jg P f.type q.2.1=true/\kj p.2 q.2.2=true
 | [],[],_=>⟨rfl,ah⟩
 |(i,x)::ps,(off,size,y)::qs,b=>by
  simp only[lR,aC]at b;let⟨⟨h1,h2⟩,h3⟩:=b;let⟨q1,n⟩:=pG h3
  grind
 | [],_::_,b=>by grind[lR]
 |_::_,[],b=>by grind[lR]
def qm{sz:Nat}:∀ {ps:List (Nat×Operand)} {qs:List (Nat×Nat×AO)},mF sz ps qs=true->ps.length=qs.length/\
  ∀(k:Nat)(p:Nat×Operand)(q:Nat×Nat×AO),ps[k]? = some p->qs[k]? = some q->q.1=p.1*sz/\q.2.1=sz/\kj p.2 q.2.2=true
 | [],[],_=>⟨rfl,ah⟩
 |(i,x)::ps,(off,size,y)::qs,b=>by
  simp only[mF,aC,beq_iff_eq]at b;let⟨⟨⟨h1,o⟩,h2⟩,h3⟩:=b;let⟨q1,r⟩:=qm h3;refine⟨by simp[q1],λk p q n l=>?_⟩
  cases k with
  |zero =>
   simp at n l;subst n l;exact⟨h1,o,h2⟩
  |succ k=>exact r k p q (ak n) (ak l)
 | [],_::_,b=>by grind[mF]
 |_::_,[],b=>by grind[mF]
def run_places(b:Array Field)(n:∀f∈b,(P.info? f.type).isSome=true)(w:World):
  (b.mapM λf=>do pure (f.offset,<-sizeOf f.type):Sem (Array (Nat×Nat))).run P w = .ok (b.map λf=>(f.offset,((P.info? f.type).map (·.size)).getD 0)) w:=by
 rw[Array.mapM_eq_mapM_toList];simp only[Sem.run_map]
 have key:∀l:List Field,(∀f∈l,(P.info? f.type).isSome=true)->(l.mapM (λf=>do pure (f.offset,<-sizeOf f.type)):Sem aB).run P w = .ok (l.map λf=>(f.offset,((P.info? f.type).map (·.size)).getD 0)) w:=by
  intro l
  induction l with
  |nil=>intro _;simp
  |cons f l o =>
   intro hl;let⟨i,q⟩:=cC.1 (hl f ah)
   rw[gD];simp only[Sem.run_bind,sizeOf,typeInfo,run_program,Result.andThen_ok,q,Sem.run_pure,bF,cB,cM];have:=o λg hg=>hl g (by simp[hg])
   simp only[sizeOf,typeInfo]at this;rw[this];simp
 rw[key b.toList (λf r=>n f (ak r))]
 simp only[Result.andThen_ok]
 congr 1
 apply cq;simp
def CS(P:Program)(t:TypeId)(ps:Array (Nat×Operand))(zero:List AV)(qs:List (Nat×Nat×AO)):Bool :=
 ux P t zero&&match P.underlying t with
 |some (.struct b)=>b.toList.all (λf=>(P.info? f.type).isSome)&&lR P b ps.toList qs
 |some (.array _ elem)=>match P.info? elem with
  |some i=>mF i.size ps.toList qs
  |none=>false
 |_=>false
def K0(R:Rel Z β h w){e:Env}{a:Act}{n:Nat}(E:iP Z β h w e a n){t:TypeId}{ps:Array (Nat×Operand)}{zero:List AV}{qs:List (Nat×Nat×AO)}(l:CS P t ps zero qs=true)
  {cs:List AV} (hp:parts e qs zero=some cs):gY P Z β h w (Instr.build t (ps.map λ(i,x)=>(i,a.eval x))) (.agg cs) h:=by
 unfold CS at l;simp only[aC]at l;let⟨M,l⟩:=l;let⟨i,z,hi,M,he⟩:=qG M;let⟨q1,q2,q3,_⟩:=nW (O:=Own Z β h) (w:=w) he;have r:(ps.map λ(i,x)=>(i,a.eval x)).toList=ps.toList.map λp=>(p.1,a.eval p.2):=ah
 split at l
 .rename_i fs Y;simp only[aC]at l;let⟨G,o⟩:=l;let⟨s1,N⟩:=pG o
  let⟨b,L,T,S,Q⟩:=wj R.gl E (λk=>(fs.map λf=>(f.offset,((P.info? f.type).map (·.size)).getD 0))[k]?) ps.toList qs zero z.cells.toList cs (λk p q F A=>by
   let⟨f,f1,f2,K,f4⟩:=N k p q F A;refine⟨?_,f4⟩;unfold jg at K;split at K
   .rename_i U H;simp at K;simp[f1,f2,H,K]
   .cases K) s1 hp q1 q2 (λj y u W X=>.pure _ _ (q3 j y u W X))
  refine gY.of R (v:=.agg b.toArray) ?_ (.agg cs b T S Q);simp only[Instr.build,Sem.run_bind,iF hi M,Result.andThen_ok,run_underlying Y];rw[run_places fs (λf hf=>by have:=aJ.1 G f (ak hf);exact this)]
  simp only[Result.andThen_ok,r];simp only[dy]at L;rw[L];simp
 .rename_i len elem hel;split at l
  .rename_i U H;let⟨s1,N⟩:=qm l
   let⟨b,L,T,S,Q⟩:=wj R.gl E (λk=>some (k*U.size,U.size)) ps.toList qs zero z.cells.toList cs (λk p q F A=>by
    let⟨f1,f2,K⟩:=N k p q F A;exact⟨by rw[f1,f2],K⟩) s1 hp q1 q2 (λj y u W X=>.pure _ _ (q3 j y u W X))
   refine gY.of R (v:=.agg b.toArray) ?_ (.agg cs b T S Q);simp only[Instr.build,Sem.run_bind,iF hi M,Result.andThen_ok,run_underlying hel,sizeOf,typeInfo,run_program,H,Sem.run_pure,r];simp only[dy]at L;rw[L];simp
  .cases l
 .cases l
end
end Go.Am
