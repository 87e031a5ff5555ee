/- Part of the proof that TopTwoPartsCard holds. -/
import Derived.Test.YtghgbehknhmnaaaGreatDoorAmN
import Derived.MapFrom
import Derived.Carry
set_option linter.all false
namespace Go.Am
open Go.Instr
variable{b:Nat}{i r:TypeId}
section
variable{P:Program}{Z:az}{β:jO}{h:AH}{w:World}
def Is{C:Type}(K:C->Value->Prop)(β:jO)(O:az)(w:World)(l:List MapEntry)(es:List (C×AV)):Prop :=
 ∀(j:Nat)(p:C×AV),es[j]? = some p->∃e:MapEntry,l[j]? = some e/\K p.1 e.key/\VR β O w p.2 e.val
structure Di{C:Type}(d:TypeDesc)(K:C->Value->Prop):Prop where
 is:∀k v,K k v->MapKept.IsKey d v
 inj:∀k k' v,K k v->K k' v->k'=k
 one:∀k v v',K k v->K k v'->v=v'
section
variable{C:Type}{d:TypeDesc}{K:C->Value->Prop}
def Is.tail{O:az}{e:MapEntry}{l:List MapEntry}{p:C×AV}{es:List (C×AV)}(h:Is K β O w (e::l) (p::es)):Is K β O w l es:=λj q b=>by
 have:=h (j+1) q (an b)
 simpa using this
variable[DecidableEq C]
def Di.same(b:Di d K){k i:C}{v v':Value}(h:K k v)(h':K i v'):sameNow d v v'=some (decide (i=k)):=by
 let⟨r,h1,h2⟩:=MapKept.sameNow_of_keys (b.is _ _ h) (b.is _ _ h');rw[h1]
 congr 1
 by_cases e:i=k
 .subst e;rw[decide_eq_true rfl];exact h2.2 (b.one _ _ _ h h')
 .rw[decide_eq_false e];cases r with
  |false=>rfl
  |true=>have:=h2.1 rfl;subst this;exact absurd (b.inj _ _ _ h h') e
def Bi(x:Di d K){O:az}(n:C){o:Value}(hk:K n o):∀(l:List MapEntry)(es:List (C×AV))(i:Nat),l.length=es.length->Is K β O w l es->
  (findNow d o l i=some none/\(∀zero,ko es n zero=zero)/\rW es n=false/\∀v,kQ es n v=es++[(n,v)])\/
  ∃(j:Nat) (e:MapEntry) (p:C×AV),es[j]? = some p/\l[j]? = some e/\p.1=n/\findNow d o l i=some (some (i+j,e.val))/\(∀zero,ko es n zero=p.2)/\rW es n=true/\∀v,kQ es n v=es.set j (n,v)
 | [],[],i,_,_=>.inl ⟨rfl,λ_=>rfl,rfl,λ_=>rfl⟩
 |e::l,p::es,i,hl,r=>by
  let⟨e',h1,h2,h4⟩:=r 0 p rfl;simp only[bH,bn]at h1;subst h1;have hs:=x.same hk h2
  by_cases b:p.1=n
  .refine .inr ⟨0,e,p,rfl,rfl,b,?_,λzero=>?_,?_,λv=>?_⟩
   .grind[decide_eq_true,findNow]
   .simp[ko,b]
   .simp[rW,b]
   .simp[kQ,b]
  .rw[decide_eq_false b]at hs
   have F:findNow d o (e::l) i=findNow d o l (i+1):=by
    simp[findNow,hs]
   have hk:∀zero,ko (p::es) n zero=ko es n zero:=λzero=>by simp[ko,b]
   have E:rW (p::es) n=rW es n:=by simp[rW,b]
   have A:∀v,kQ (p::es) n v=p::kQ es n v:=λv=>by simp[kQ,b]
   rcases Bi x n (by assumption) l es (i+1) (an hl) r.tail with⟨z,y,a7,a3⟩ | ⟨j,e',q,z,y,a3,a4,a5,a7,a6⟩
   .grind
   .exact .inr ⟨j+1,e',q,an z,an y,a3,by grind,λzero=>(hk zero).trans (a5 zero),E.trans a7,λv=>by rw[A,a6];rfl⟩
 | [],_::_,_,hl,_=>by simp at hl
 |_::_,[],_,hl,_=>by simp at hl
end
abbrev KI(q:IntKind)(n:Int)(v:Value):Prop:=v = .int q n
def adq(q:IntKind):Di (.int q) (KI q):=⟨λk v h=>by rw[h];simp[MapKept.IsKey],λk b v h h'=>by grind,λk v v' h h'=>by rw[h,h']⟩
def uh{q:IntKind}{a:AV}{es:List (Int×AV)}(i:sx q h a=some (b,es)):a = .mb b/\h[b]? = some (.mp q es):=by
 unfold sx at i
 grind
def AQ{q:IntKind}{a:AV}{n:Int}(hk:B7 q a=some n):a = .int q n:=by
 unfold B7 at hk
 grind
def DP(R:Rel Z β h w){q:IntKind}{es:List (Int×AV)}(l:h[b]? = some (.mp q es)){v:Value}(i:VR β (Own Z β h) w (.mb b) v):
  ∃c arr clock,v = .map (some c)/\β b 0=some ⟨some c,0,0,0⟩/\w.heap[c]? = some (.map arr clock)/\arr.size=es.length/\Is (KI q) β (Own Z β h) w arr.toList es:=by
 obtain⟨bd,c,h1,h2,rfl⟩:=i.zC;let⟨y,arr,clock,e1,o,n,x⟩:=R.blk b _ l;rw[h1]at e1;cases e1;cases h2;refine⟨c,arr,clock,rfl,h1,o,n,λj p r=>?_⟩
 grind
def QF(R:Rel Z β h w)(t:TypeId)(q:IntKind):iM P Z β h w (Instr.makeMap t none) (.mb h.length) (h++[.mp q []]):=by
 have key:=R.push (X:=.mp q []) (bd:=⟨some w.heap.size,0,0,0⟩) (w':=w.alloc (.map #[] 0)) rfl rfl rfl rfl ai ai ai
  (λb r=>heap_alloc_old w _ b r) (λn=>⟨w.heap.size,#[],0,ai,heap_alloc_new w _,rfl,λj p o=>by simp at o⟩)
 let⟨l,i⟩:=key;refine⟨.map (some w.heap.size),w.alloc (.map #[] 0),_,?_,l,i,.mb h.length ⟨some w.heap.size,0,0,0⟩ w.heap.size ai rfl⟩
 rfl
section
variable{C:Type}[DecidableEq C]{d:TypeDesc}{K:C->Value->Prop}
def Rb(A:Di d K)(R:Rel Z β h w){t H O:TypeId}(E:P.underlying t=some (.map H O))(hk:P.underlying H=some d){zero:AV}(Q:zeroV P O zero=true){es:List (C×AV)}{n:C}{c:Nat}{arr:Array MapEntry}{clock:Nat}
  (h2:w.heap[c]? = some (.map arr clock)) (h3:arr.size=es.length) (h4:Is K β (Own Z β h) w arr.toList es) {u:Value} (o:K n u) (ck:Bool) :
  iM P Z β h w (Instr.lookup t (.map (some c)) u ck) (if ck=true then .jg [ko es n zero,.bool (rW es n)]else ko es n zero) h:=by
 let⟨i,z,L,l,S⟩:=pG Q
 have two:∀ {a b:AV} {x y:Value},VR β (Own Z β h) w a x->VR β (Own Z β h) w b y->VR β (Own Z β h) w (.jg [a,b]) (.tuple #[x,y]):=by
  intro a b x y v1 T;refine .jg _ [x,y] rfl λj q r W U=>?_
  grind
 rcases Bi A n o arr.toList es 0 (an h3) h4 with⟨F,G,a7,_⟩ | ⟨j,e,p,F,G,a3,a4,a5,a7,_⟩
 .rw[G,a7];have V:VR β (Own Z β h) w zero z:=.pure _ _ (Jw S).1;cases ck with
  |true =>
   refine iM.of R (v:=.tuple #[z,.bool false]) ?_ (two V (.pure _ _ (.bool _)));simp[Instr.lookup,run_underlying E,MapKept.run_getObj_map h2,MapKept.run_checkKey hk (A.is _ _ o),MapKept.run_findKey hk F,jq L l,Result.andThen]
  |false =>
   refine iM.of R (v:=z) ?_ V;simp[Instr.lookup,run_underlying E,MapKept.run_getObj_map h2,MapKept.run_checkKey hk (A.is _ _ o),MapKept.run_findKey hk F,jq L l,Result.andThen]
 .rw[a5,a7];let⟨e',N,X,M⟩:=h4 j p F;rw[G]at N;cases N;cases ck with
  |true =>
   refine iM.of R (v:=.tuple #[e.val,.bool true]) ?_ (two M (.pure _ _ (.bool _)));simp[Instr.lookup,run_underlying E,MapKept.run_getObj_map h2,MapKept.run_checkKey hk (A.is _ _ o),MapKept.run_findKey hk a4,Result.andThen]
  |false =>
   refine iM.of R (v:=e.val) ?_ M;simp[Instr.lookup,run_underlying E,MapKept.run_getObj_map h2,MapKept.run_checkKey hk (A.is _ _ o),MapKept.run_findKey hk a4,Result.andThen]
def Qq(L:Di d K)(R:Rel Z β h w){t kt et:TypeId}(ht:P.underlying t=some (.map kt et))(hk:P.underlying kt=some d){es:List (C×AV)}{n:C}{x:AV}(M:List (C×AV)->AB){X:AB}(hb:h[b]? = some X)
  (hO:∀c,owned β h b c↔∃bd,bd.cb=some c/\β b 0=some bd) (hO':∀l c,Aq β b (M l) c↔∃bd,bd.cb=some c/\β b 0=some bd)
  (A:∀l v sz es',M l≠.row v sz es') (hM:∀O w' l,aga K β O w' b l->oA β O w' b (M l)) {c:Nat} {arr:Array MapEntry} {clock:Nat} (h1:β b 0=some ⟨some c,0,0,0⟩)
  (h2:w.heap[c]? = some (.map arr clock)) (h3:arr.size=es.length) (h4:Is K β (Own Z β h) w arr.toList es)
  {u y:Value} (r:K n u) (hy:VR β (Own Z β h) w x y) :
  ∃w',(Instr.mapUpdate t (.map (some c)) u y).run P w = .ok () w'/\Rel Z β (h.set b (M (kQ es n x))) w'/\Fr Z β h w β (h.set b (M (kQ es n x))) w':=by
 have U:c<w.heap.size:=(aW.1 h2).1;have H:b<h.length:=(aD.1 hb).1;have hown:owned β h b c:=(hO c).2 ⟨_,rfl,h1⟩
 have go:∀(o:Array MapEntry)(i:Nat),o.size=(kQ es n x).length->(∀(j:Nat)(p:C×AV),(kQ es n x)[j]? = some p->∃e:MapEntry,o[j]? = some e/\K p.1 e.key/\VR β (Own Z β h) w p.2 e.val)->
   Rel Z β (h.set b (M (kQ es n x))) {w with heap:=w.heap.setIfInBounds c (.map o i)}/\Fr Z β h w β (h.set b (M (kQ es n x))) {w with heap:=w.heap.setIfInBounds c (.map o i)}:=by
  intro o i hs he;refine R.PZ (X':=M (kQ es n x)) H rfl rfl rfl (λ_ _ _=>rfl) (λ_ _ e=>e) (λ_ _ _ _ e=>absurd e (A _ _ _ _)) (λc' hc=>?_) ai (λb' hb' hno=>?_) (λT=>hM _ _ _ ?_)
  .grind
  .grind
  .refine⟨c,o,i,h1,by simp[U],hs,λj p z=>?_⟩
   let⟨e,Q,N,g4⟩:=he j p z;exact⟨e,Q,N,g4.mono (λ_ _ _ e=>e) T⟩
 rcases Bi L n r arr.toList es 0 (an h3) h4 with⟨Y,_,_,a3⟩ | ⟨j,e,p,Y,a2,a3,a4,_,_,a6⟩
 .refine⟨_,?_,go (arr.push {key:=u,val:=y,born:=clock}) (clock+1) (by rw[a3 x];simp[h3]) λj p z=>?_⟩
  .simp[Instr.mapUpdate,run_underlying ht,MapKept.run_getObj_map h2,MapKept.run_checkKey hk (L.is _ _ r),MapKept.run_findKey hk Y,MapKept.run_setObj_map _ h2,Result.andThen]
  .rw[a3 x]at z
   by_cases S:j<es.length
   .rw[aJ S]at z;let⟨e,Q,N⟩:=h4 j p z
    grind
   .have W:j=es.length:=by
     grind
    subst W;simp at z;subst z;exact⟨{key:=u,val:=y,born:=clock},by rw[<-h3];simp,r,hy⟩
 .have S:arr[j]? = some e:=by simpa using a2
  let⟨e',Q,N,_⟩:=h4 j p Y;rw[a2]at Q;cases Q;rw[a3]at N;have F:e.key=u:=L.one _ _ _ N r;refine⟨_,?_,go (arr.modify j λe=>{e with key:=u,val:=y}) clock (by rw[a6 x];simp[h3]) λk q E=>?_⟩
  .simp[Instr.mapUpdate,run_underlying ht,MapKept.run_getObj_map h2,MapKept.run_checkKey hk (L.is _ _ r),MapKept.run_findKey hk a4,S,F,MapKept.run_keyThatStays (L.is _ _ r),MapKept.run_setObj_map _ h2,Result.andThen]
  .rw[a6 x]at E;rw[dO]
   by_cases G:j=k
   .subst G;rw[aR (by grind)]at E
    cases E;rw[if_pos rfl,S];exact⟨_,rfl,r,hy⟩
   .rw[aI G]at E;let⟨e1,q1,q2⟩:=h4 k q E
    grind
end
def FE(R:Rel Z β h w){q:IntKind}{t l:TypeId}(y:P.underlying t=some (.map i l))(hk:P.underlying i=some (.int q)){zero:AV}(o:zeroV P l zero=true){es:List (Int×AV)}(z:h[b]? = some (.mp q es)){n:Int}
  {v u:Value} (r:VR β (Own Z β h) w (.mb b) v) (x:VR β (Own Z β h) w (.int q n) u) (ck:Bool):iM P Z β h w (Instr.lookup t v u ck) (if ck=true then .jg [ko es n zero,.bool (rW es n)]else ko es n zero) h:=by
 obtain⟨c,arr,clock,rfl,h1,h2,h3,h4⟩:=DP R z r;exact Rb (adq q) R y hk o h2 h3 h4 x.kE ck
def Nr(R:Rel Z β h w){t ty:TypeId}(n:P.underlying t=some (.map i r)){q:IntKind}{es:List (Int×AV)}(o:h[b]? = some (.mp q es)){v:Value}(l:VR β (Own Z β h) w (.mb b) v):
  iM P Z β h w (Builtin.len_ #[t] ty #[v]) (.int .i64 es.length) h:=by
 obtain⟨c,arr,clock,rfl,h1,h2,h3,h4⟩:=DP R o l;refine iM.of R (v:=.int .i64 es.length) ?_ (.pure _ _ (.int _ _));simp[Builtin.len_,run_underlying n,MapKept.run_getObj_map h2,goInt,h3,Result.andThen]
def Np(R:Rel Z β h w){q:IntKind}{t G:TypeId}(F:P.underlying t=some (.map r G))(hk:P.underlying r=some (.int q)){es:List (Int×AV)}(i:h[b]? = some (.mp q es)){n:Int}{x:AV}
  {v u y:Value} (A:VR β (Own Z β h) w (.mb b) v) (E:VR β (Own Z β h) w (.int q n) u) (z:VR β (Own Z β h) w x y) :
  ∃w',(Instr.mapUpdate t v u y).run P w = .ok () w'/\Rel Z β (h.set b (.mp q (kQ es n x))) w'/\Fr Z β h w β (h.set b (.mp q (kQ es n x))) w':=by
 obtain⟨c,arr,clock,rfl,h1,h2,h3,h4⟩:=DP R i A;exact Qq (adq q) R F hk (λl=>.mp q l) i (λc=>⟨λ⟨X,H,bd,q1,o⟩=>by grind,λ⟨bd,q1,o⟩=>⟨_,i,bd,q1,o⟩⟩) (λl c=>Iff.rfl) (λ_ _ _ _ e=>by cases e) (λ_ _ _ h=>h) h1 h2 h3 h4 E.kE z
end
end Go.Am
