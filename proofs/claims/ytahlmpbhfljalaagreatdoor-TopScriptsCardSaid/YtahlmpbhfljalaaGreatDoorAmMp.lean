/- Part of the proof that TopScriptsCard holds. -/
import Derived.Test.YtahlmpbhfljalaaGreatDoorAmN
import Derived.MapFrom
import Derived.Carry
set_option linter.all false
namespace Go.Am
open Go.Instr
variable{b:Nat}{G i r:TypeId}
section
variable{P:Program}{Z:ay}{β:iW}{h:AH}{w:World}
def Im{C:Type}(K:C->Value->Prop)(β:iW)(O:ay)(w:World)(l:List MapEntry)(es:List (C×AV)):Prop :=
 ∀(j:Nat)(p:C×AV),es[j]? = some p->∃e:MapEntry,l[j]? = some e/\K p.1 e.key/\VR β O w p.2 e.val
structure Cs{C:Type}(d:TypeDesc)(K:C->Value->Prop):Prop where
 is:∀k v,K k v->MapKept.IsKey d v
 inj:∀k k' v,K k v->K k' v->k'=k
 one:∀k v v',K k v->K k v'->v=v'
section
variable{C:Type}{d:TypeDesc}{K:C->Value->Prop}
def Im.tail{O:ay}{e:MapEntry}{l:List MapEntry}{p:C×AV}{es:List (C×AV)}(h:Im K β O w (e::l) (p::es)):Im K β O w l es:=λj q b=>by
 have:=h (j+1) q (ak b)
 simpa using this
variable[DecidableEq C]
def Cs.same(b:Cs d K){k i:C}{v v':Value}(h:K k v)(h':K i v'):sameNow d v v'=some (decide (i=k)):=by
 let⟨r,h1,h2⟩:=MapKept.sameNow_of_keys (b.is _ _ h) (b.is _ _ h');rw[h1]
 congr 1
 by_cases e:i=k
 .subst e;rw[decide_eq_true rfl];exact h2.2 (b.one _ _ _ h h')
 .rw[decide_eq_false e];cases r with
  |false=>rfl
  |true=>have:=h2.1 rfl;subst this;exact absurd (b.inj _ _ _ h h') e
def zQ(r:Cs d K){O:ay}(n:C){kv:Value}(hk:K n kv):∀(l:List MapEntry)(es:List (C×AV))(i:Nat),l.length=es.length->Im K β O w l es->
  (findNow d kv l i=some none/\(∀zero,jO es n zero=zero)/\qZ es n=false/\∀v,lF es n v=es++[(n,v)])\/
  ∃(j:Nat) (e:MapEntry) (p:C×AV),es[j]? = some p/\l[j]? = some e/\p.1=n/\findNow d kv l i=some (some (i+j,e.val))/\(∀zero,jO es n zero=p.2)/\qZ es n=true/\∀v,lF es n v=es.set j (n,v)
 | [],[],i,_,_=>.inl ⟨rfl,λ_=>rfl,rfl,λ_=>rfl⟩
 |e::l,p::es,i,hl,o=>by
  let⟨e',h1,h2,h4⟩:=o 0 p rfl;simp only[aS,aP]at h1;subst h1;have hs:=r.same hk h2
  by_cases b:p.1=n
  .refine .inr ⟨0,e,p,rfl,rfl,b,?_,λzero=>?_,?_,λv=>?_⟩
   .grind[decide_eq_true,findNow]
   .simp[jO,b]
   .simp[qZ,b]
   .simp[lF,b]
  .rw[decide_eq_false b]at hs
   have A:findNow d kv (e::l) i=findNow d kv l (i+1):=by
    simp[findNow,hs]
   have hk:∀zero,jO (p::es) n zero=jO es n zero:=λzero=>by simp[jO,b]
   have z:qZ (p::es) n=qZ es n:=by simp[qZ,b]
   have y:∀v,lF (p::es) n v=p::lF es n v:=λv=>by simp[lF,b]
   rcases zQ r n (by assumption) l es (i+1) (ak hl) o.tail with⟨x,a2,a7,a3⟩ | ⟨j,e',q,x,a2,a3,a4,a5,a7,a6⟩
   .grind
   .exact .inr ⟨j+1,e',q,ak x,ak a2,a3,by grind,λzero=>(hk zero).trans (a5 zero),z.trans a7,λv=>by rw[y,a6];rfl⟩
 | [],_::_,_,hl,_=>by simp at hl
 |_::_,[],_,hl,_=>by simp at hl
end
abbrev KI(q:IntKind)(n:Int)(v:Value):Prop:=v = .int q n
def adl(q:IntKind):Cs (.int q) (KI q):=⟨λk v h=>by rw[h];simp[MapKept.IsKey],λk b v h h'=>by grind,λk v v' h h'=>by rw[h,h']⟩
def tK{q:IntKind}{a:AV}{es:List (Int×AV)}(i:oL q h a=some (b,es)):a = .kZ b/\h[b]? = some (.mp q es):=by
 unfold oL at i
 grind
def zD{q:IntKind}{a:AV}{n:Int}(hk:AL q a=some n):a = .int q n:=by
 unfold AL at hk
 grind
def CY(R:Rel Z β h w){q:IntKind}{es:List (Int×AV)}(l:h[b]? = some (.mp q es)){v:Value}(i:VR β (Own Z β h) w (.kZ b) v):
  ∃c arr clock,v = .map (some c)/\β b 0=some ⟨some c,0,0,0,0⟩/\w.heap[c]? = some (.map arr clock)/\arr.size=es.length/\Im (KI q) β (Own Z β h) w arr.toList es:=by
 obtain⟨bd,c,h1,h2,rfl⟩:=i.ym;let⟨y,arr,clock,e1,o,n,x⟩:=R.blk b _ l;rw[h1]at e1;cases e1;cases h2;refine⟨c,arr,clock,rfl,h1,o,n,λj p r=>?_⟩
 grind
def Qg(R:Rel Z β h w)(t:TypeId)(q:IntKind):gY P Z β h w (Instr.makeMap t none) (.kZ h.length) (h++[.mp q []]):=by
 have key:=R.push (X:=.mp q []) (bd:=⟨some w.heap.size,0,0,0,0⟩) (w':=w.alloc (.map #[] 0)) rfl rfl rfl rfl ah ah ah
  (λb r=>heap_alloc_old w _ b r) (λn=>⟨w.heap.size,#[],0,ah,heap_alloc_new w _,rfl,λj p o=>by simp at o⟩)
 let⟨l,i⟩:=key;refine⟨.map (some w.heap.size),w.alloc (.map #[] 0),_,?_,l,i,.kZ h.length ⟨some w.heap.size,0,0,0,0⟩ w.heap.size ah rfl⟩
 rfl
section
variable{C:Type}[DecidableEq C]{d:TypeDesc}{K:C->Value->Prop}
def QN(A:Cs d K)(R:Rel Z β h w){t L:TypeId}(E:P.underlying t=some (.map G L))(hk:P.underlying G=some d){zero:AV}(M:zeroV P L zero=true){es:List (C×AV)}{n:C}{c:Nat}{arr:Array MapEntry}{clock:Nat}
  (h2:w.heap[c]? = some (.map arr clock)) (h3:arr.size=es.length) (h4:Im K β (Own Z β h) w arr.toList es) {u:Value} (o:K n u) (ck:Bool) :
  gY P Z β h w (Instr.lookup t (.map (some c)) u ck) (if ck=true then .iV [jO es n zero,.bool (qZ es n)]else jO es n zero) h:=by
 let⟨i,z,H,l,N⟩:=ox M
 have two:∀ {a b:AV} {x y:Value},VR β (Own Z β h) w a x->VR β (Own Z β h) w b y->VR β (Own Z β h) w (.iV [a,b]) (.tuple #[x,y]):=by
  intro a b x y v1 v2;refine .iV _ [x,y] rfl λj q r Q O=>?_
  grind
 rcases zQ A n o arr.toList es 0 (ak h3) h4 with⟨F,a2,a7,_⟩ | ⟨j,e,p,F,a2,a3,a4,a5,a7,_⟩
 .rw[a2,a7];have V:VR β (Own Z β h) w zero z:=.pure _ _ (Jq N).1;cases ck with
  |true =>
   refine gY.of R (v:=.tuple #[z,.bool false]) ?_ (two V (.pure _ _ (.bool _)));simp[Instr.lookup,run_underlying E,MapKept.run_getObj_map h2,MapKept.run_checkKey hk (A.is _ _ o),MapKept.run_findKey hk F,iF H l,Result.andThen]
  |false =>
   refine gY.of R (v:=z) ?_ V;simp[Instr.lookup,run_underlying E,MapKept.run_getObj_map h2,MapKept.run_checkKey hk (A.is _ _ o),MapKept.run_findKey hk F,iF H l,Result.andThen]
 .rw[a5,a7];let⟨e',g1,S,g4⟩:=h4 j p F;rw[a2]at g1;cases g1;cases ck with
  |true =>
   refine gY.of R (v:=.tuple #[e.val,.bool true]) ?_ (two g4 (.pure _ _ (.bool _)));simp[Instr.lookup,run_underlying E,MapKept.run_getObj_map h2,MapKept.run_checkKey hk (A.is _ _ o),MapKept.run_findKey hk a4,Result.andThen]
  |false =>
   refine gY.of R (v:=e.val) ?_ g4;simp[Instr.lookup,run_underlying E,MapKept.run_getObj_map h2,MapKept.run_checkKey hk (A.is _ _ o),MapKept.run_findKey hk a4,Result.andThen]
def P4(L:Cs d K)(R:Rel Z β h w){t Y et:TypeId}(ht:P.underlying t=some (.map Y et))(hk:P.underlying Y=some d){es:List (C×AV)}{n:C}{x:AV}(M:List (C×AV)->AB){X:AB}(hb:h[b]? = some X)
  (hO:∀c,owned β h b c↔∃bd,bd.cb=some c/\β b 0=some bd) (hO':∀l c,zh β b (M l) c↔∃bd,bd.cb=some c/\β b 0=some bd)
  (A:∀l v sz es',M l≠.row v sz es') (hM:∀O w' l,afN K β O w' b l->nN β O w' b (M l)) {c:Nat} {arr:Array MapEntry} {clock:Nat} (h1:β b 0=some ⟨some c,0,0,0,0⟩)
  (h2:w.heap[c]? = some (.map arr clock)) (h3:arr.size=es.length) (h4:Im K β (Own Z β h) w arr.toList es)
  {u y:Value} (r:K n u) (hy:VR β (Own Z β h) w x y) :
  ∃w',(Instr.mapUpdate t (.map (some c)) u y).run P w = .ok () w'/\Rel Z β (h.set b (M (lF es n x))) w'/\Fr Z β h w β (h.set b (M (lF es n x))) w':=by
 have T:c<w.heap.size:=(aH.1 h2).1;have H:b<h.length:=(az.1 hb).1;have hown:owned β h b c:=(hO c).2 ⟨_,rfl,h1⟩
 have go:∀(o:Array MapEntry)(i:Nat),o.size=(lF es n x).length->(∀(j:Nat)(p:C×AV),(lF es n x)[j]? = some p->∃e:MapEntry,o[j]? = some e/\K p.1 e.key/\VR β (Own Z β h) w p.2 e.val)->
   Rel Z β (h.set b (M (lF es n x))) {w with heap:=w.heap.setIfInBounds c (.map o i)}/\Fr Z β h w β (h.set b (M (lF es n x))) {w with heap:=w.heap.setIfInBounds c (.map o i)}:=by
  intro o i hs he;refine R.Ly (X':=M (lF es n x)) H rfl rfl rfl (λ_ _ _=>rfl) (λ_ _ e=>e) (λ_ _ _ _ e=>absurd e (A _ _ _ _)) (λc' hc=>?_) ah (λb' hb' hno=>?_) (λS=>hM _ _ _ ?_)
  .grind
  .grind
  .refine⟨c,o,i,h1,by simp[T],hs,λj p z=>?_⟩
   let⟨e,g1,N,g4⟩:=he j p z;exact⟨e,g1,N,g4.mono (λ_ _ _ e=>e) S⟩
 rcases zQ L n r arr.toList es 0 (ak h3) h4 with⟨W,_,_,a3⟩ | ⟨j,e,p,W,a2,a3,a4,_,_,a6⟩
 .refine⟨_,?_,go (arr.push {key:=u,val:=y,born:=clock}) (clock+1) (by rw[a3 x];simp[h3]) λj p z=>?_⟩
  .simp[Instr.mapUpdate,run_underlying ht,MapKept.run_getObj_map h2,MapKept.run_checkKey hk (L.is _ _ r),MapKept.run_findKey hk W,MapKept.run_setObj_map _ h2,Result.andThen]
  .rw[a3 x]at z
   by_cases Q:j<es.length
   .rw[aI Q]at z;let⟨e,g1,N⟩:=h4 j p z
    grind
   .have U:j=es.length:=by
     grind
    subst U;simp at z;subst z;exact⟨{key:=u,val:=y,born:=clock},by rw[<-h3];simp,r,hy⟩
 .have Q:arr[j]? = some e:=by simpa using a2
  let⟨e',g1,N,_⟩:=h4 j p W;rw[a2]at g1;cases g1;rw[a3]at N;have F:e.key=u:=L.one _ _ _ N r;refine⟨_,?_,go (arr.modify j λe=>{e with key:=u,val:=y}) clock (by rw[a6 x];simp[h3]) λk q E=>?_⟩
  .simp[Instr.mapUpdate,run_underlying ht,MapKept.run_getObj_map h2,MapKept.run_checkKey hk (L.is _ _ r),MapKept.run_findKey hk a4,Q,F,MapKept.run_keyThatStays (L.is _ _ r),MapKept.run_setObj_map _ h2,Result.andThen]
  .rw[a6 x]at E;rw[cR]
   by_cases G:j=k
   .subst G;rw[bh (by grind)]at E
    cases E;rw[if_pos rfl,Q];exact⟨_,rfl,r,hy⟩
   .rw[aL G]at E;let⟨e1,q1,q2⟩:=h4 k q E
    grind
end
def EU(R:Rel Z β h w){q:IntKind}{t l:TypeId}(y:P.underlying t=some (.map i l))(hk:P.underlying i=some (.int q)){zero:AV}(o:zeroV P l zero=true){es:List (Int×AV)}(z:h[b]? = some (.mp q es)){n:Int}
  {v u:Value} (r:VR β (Own Z β h) w (.kZ b) v) (x:VR β (Own Z β h) w (.int q n) u) (ck:Bool):gY P Z β h w (Instr.lookup t v u ck) (if ck=true then .iV [jO es n zero,.bool (qZ es n)]else jO es n zero) h:=by
 obtain⟨c,arr,clock,rfl,h1,h2,h3,h4⟩:=CY R z r;exact QN (adl q) R y hk o h2 h3 h4 x.jF ck
def M1(R:Rel Z β h w){t ty:TypeId}(n:P.underlying t=some (.map i r)){q:IntKind}{es:List (Int×AV)}(o:h[b]? = some (.mp q es)){v:Value}(l:VR β (Own Z β h) w (.kZ b) v):
  gY P Z β h w (Builtin.len_ #[t] ty #[v]) (.int .i64 es.length) h:=by
 obtain⟨c,arr,clock,rfl,h1,h2,h3,h4⟩:=CY R o l;refine gY.of R (v:=.int .i64 es.length) ?_ (.pure _ _ (.int _ _));simp[Builtin.len_,run_underlying n,MapKept.run_getObj_map h2,goInt,h3,Result.andThen]
def MZ(R:Rel Z β h w){q:IntKind}{t:TypeId}(F:P.underlying t=some (.map r G))(hk:P.underlying r=some (.int q)){es:List (Int×AV)}(i:h[b]? = some (.mp q es)){n:Int}{x:AV}
  {v u y:Value} (A:VR β (Own Z β h) w (.kZ b) v) (E:VR β (Own Z β h) w (.int q n) u) (z:VR β (Own Z β h) w x y) :
  ∃w',(Instr.mapUpdate t v u y).run P w = .ok () w'/\Rel Z β (h.set b (.mp q (lF es n x))) w'/\Fr Z β h w β (h.set b (.mp q (lF es n x))) w':=by
 obtain⟨c,arr,clock,rfl,h1,h2,h3,h4⟩:=CY R i A;exact P4 (adl q) R F hk (λl=>.mp q l) i (λc=>⟨λ⟨X,H,bd,q1,o⟩=>by grind,λ⟨bd,q1,o⟩=>⟨_,i,bd,q1,o⟩⟩) (λl c=>Iff.rfl) (λ_ _ _ _ e=>by cases e) (λ_ _ _ h=>h) h1 h2 h3 h4 E.jF z
end
end Go.Am
