/- Part of the proof that TopPassedCard holds. -/
import Derived.Test.YtaepagegdgdlhaaGreatDoorAmN
import Derived.MapFrom
import Derived.Carry
set_option linter.all false
namespace Go.Am
open Go.Instr
variable{b:Nat}{kt et:TypeId}
section
variable{P:Program}{Z:az}{β:kW}{h:AH}{w:World}
def Nx{A:Type}(K:A->Value->Prop)(β:kW)(O:az)(w:World)(l:List MapEntry)(es:List (A×AV)):Prop :=
 ∀(j:Nat)(p:A×AV),es[j]? = some p->∃e:MapEntry,l[j]? = some e/\K p.1 e.key/\e.val.oneCell'=true/\VR β O w p.2 e.val
structure FZ{A:Type}(d:TypeDesc)(K:A->Value->Prop):Prop where
 is:∀k v,K k v->MapKept.IsKey d v
 inj:∀k k' v,K k v->K k' v->k'=k
 one:∀k v v',K k v->K k v'->v=v'
section
variable{A:Type}{d:TypeDesc}{K:A->Value->Prop}
def Nx.tail{O:az}{e:MapEntry}{l:List MapEntry}{p:A×AV}{es:List (A×AV)}(h:Nx K β O w (e::l) (p::es)):Nx K β O w l es:=λj q hq=>by
 have:=h (j+1) q (an hq)
 simpa using this
variable[DecidableEq A]
def FZ.same(hK:FZ d K){k k':A}{v v':Value}(h:K k v)(h':K k' v'):sameNow d v v'=some (decide (k'=k)):=by
 let⟨r,h1,h2⟩:=MapKept.sameNow_of_keys (hK.is _ _ h) (hK.is _ _ h');rw[h1]
 congr 1
 by_cases e:k'=k
 .subst e;rw[decide_eq_true rfl];exact h2.2 (hK.one _ _ _ h h')
 .rw[decide_eq_false e];cases r with
  |false=>rfl
  |true=>have:=h2.1 rfl;subst this;exact absurd (hK.inj _ _ _ h h') e
def EO(hK:FZ d K){O:az}(n:A){kv:Value}(hk:K n kv):∀(l:List MapEntry)(es:List (A×AV))(i:Nat),l.length=es.length->Nx K β O w l es->
  (findNow d kv l i=some none/\(∀zero,mz es n zero=zero)/\vw es n=false/\∀v,mN es n v=es++[(n,v)])\/
  ∃(j:Nat) (e:MapEntry) (p:A×AV),es[j]? = some p/\l[j]? = some e/\p.1=n/\findNow d kv l i=some (some (i+j,e.val))/\(∀zero,mz es n zero=p.2)/\vw es n=true/\∀v,mN es n v=es.set j (n,v)
 | [],[],i,_,_=>.inl ⟨rfl,λ_=>rfl,rfl,λ_=>rfl⟩
 |e::l,p::es,i,hl,hr=>by
  let⟨e',h1,h2,h3,h4⟩:=hr 0 p rfl;simp only[bz,bp]at h1;subst h1;have hs:=hK.same hk h2
  by_cases hn:p.1=n
  .refine .inr ⟨0,e,p,rfl,rfl,hn,?_,λzero=>?_,?_,λv=>?_⟩
   .rw[decide_eq_true hn]at hs;simp[findNow,hs]
   .simp[mz,hn]
   .simp[vw,hn]
   .simp[mN,hn]
  .rw[decide_eq_false hn]at hs
   have hf:findNow d kv (e::l) i=findNow d kv l (i+1):=by
    simp[findNow,hs]
   have hk:∀zero,mz (p::es) n zero=mz es n zero:=λzero=>by simp[mz,hn]
   have hh:vw (p::es) n=vw es n:=by simp[vw,hn]
   have hp:∀v,mN (p::es) n v=p::mN es n v:=λv=>by simp[mN,hn]
   rcases EO hK n (by assumption) l es (i+1) (an hl) hr.tail with⟨a1,a2,a7,a3⟩ | ⟨j,e',q,a1,a2,a3,a4,a5,a7,a6⟩
   .exact .inl ⟨hf.trans a1,λzero=>(hk zero).trans (a2 zero),hh.trans a7,λv=>by rw[hp,a3];rfl⟩
   .exact .inr ⟨j+1,e',q,an a1,an a2,a3,by rw[hf,a4];congr 3;omega,λzero=>(hk zero).trans (a5 zero),hh.trans a7,λv=>by rw[hp,a6];rfl⟩
 | [],_::_,_,hl,_=>by simp at hl
 |_::_,[],_,hl,_=>by simp at hl
end
abbrev KI(n:Int)(v:Value):Prop:=v = .int .i64 n
abbrev KS(s:au)(v:Value):Prop:=∃b:ByteArray,v = .string b/\b.data.toList=s
def ajT:FZ (.int .i64) KI:=⟨λk v h=>by rw[h];simp[MapKept.IsKey],λk k' v h h'=>by rw[h]at h';cases h';rfl,λk v v' h h'=>by rw[h,h']⟩
def TE{a b:ByteArray}(h:a.data.toList=b.data.toList):a=b:=by
 cases a;cases b;simp only[ByteArray.mk.injEq];exact dI h
def Qe:FZ .string KS:=⟨λk v h=>by obtain⟨b,rfl,_⟩:=h;simp[MapKept.IsKey],λk k' v h h'=>by
  obtain⟨b,rfl,rfl⟩:=h;obtain⟨b',e,rfl⟩:=h';cases e;rfl,
 λk v v' h h'=>by
  obtain⟨b,rfl,rfl⟩:=h;obtain⟨b',rfl,q⟩:=h';rw[TE q]⟩
def Hf{a:AV}{es:List (au×AV)}(hm:Ce h a=some (b,es)):a = .nQ b/\h[b]? = some (.mps es):=by
 unfold Ce at hm;split at hm
 .split at hm
  .rename_i hb;cases hm;exact⟨rfl,hb⟩
  .cases hm
 .cases hm
def LX{a:AV}{n:au}(hk:Ot a=some n):a = .str n:=by
 unfold Ot at hk;split at hk
 .cases hk;rfl
 .cases hk
def xW{a:AV}{es:List (Int×AV)}(hm:vX h a=some (b,es)):a = .nQ b/\h[b]? = some (.mp es):=by
 unfold vX at hm;split at hm
 .split at hm
  .rename_i hb;cases hm;exact⟨rfl,hb⟩
  .cases hm
 .cases hm
def Es{a:AV}{n:Int}(hk:I3 a=some n):a = .int .i64 n:=by
 unfold I3 at hk;split at hk
 .split at hk
  .rename_i he;cases hk;rw[he]
  .cases hk
 .cases hk
def IY(R:Rel Z β h w){es:List (Int×AV)}(hb:h[b]? = some (.mp es)){v:Value}(hv:VR β (Own Z β h) w (.nQ b) v):
  ∃c arr clock,v = .map (some c)/\β b 0=some ⟨some c,0,0,0⟩/\w.heap[c]? = some (.map arr clock)/\arr.size=es.length/\Nx KI β (Own Z β h) w arr.toList es:=by
 obtain⟨bd,c,h1,h2,rfl⟩:=hv.zI;let⟨c',arr,clock,e1,e2,e3,e4⟩:=R.blk b _ hb;rw[h1]at e1;cases e1;cases h2;refine⟨c,arr,clock,rfl,h1,e2,e3,λj p hp=>?_⟩
 let⟨e,g1,g2⟩:=e4 j p hp;exact⟨e,an g1,g2⟩
def LR(R:Rel Z β h w){es:List (au×AV)}(hb:h[b]? = some (.mps es)){v:Value}(hv:VR β (Own Z β h) w (.nQ b) v):
  ∃c arr clock,v = .map (some c)/\β b 0=some ⟨some c,0,0,0⟩/\w.heap[c]? = some (.map arr clock)/\arr.size=es.length/\Nx KS β (Own Z β h) w arr.toList es:=by
 obtain⟨bd,c,h1,h2,rfl⟩:=hv.zI;let⟨c',arr,clock,e1,e2,e3,e4⟩:=R.blk b _ hb;rw[h1]at e1;cases e1;cases h2;refine⟨c,arr,clock,rfl,h1,e2,e3,λj p hp=>?_⟩
 let⟨e,g1,g2⟩:=e4 j p hp;exact⟨e,an g1,g2⟩
def ZN(R:Rel Z β h w)(t:TypeId):jS P Z β h w (Instr.makeMap t none) (.nQ h.length) (h++[.mp []]):=by
 have key:=R.push (X:=.mp []) (bd:=⟨some w.heap.size,0,0,0⟩) (w':=w.alloc (.map #[] 0)) rfl rfl rfl rfl ah ah ah
  (λb hb=>heap_alloc_old w _ b hb) (λhst=>⟨w.heap.size,#[],0,ah,heap_alloc_new w _,rfl,λj p hp=>by simp at hp⟩)
 let⟨k1,k2⟩:=key;refine⟨.map (some w.heap.size),w.alloc (.map #[] 0),_,?_,k1,k2,.nQ h.length ⟨some w.heap.size,0,0,0⟩ w.heap.size ah rfl⟩
 rfl
def Vz(R:Rel Z β h w)(t:TypeId):jS P Z β h w (Instr.makeMap t none) (.nQ h.length) (h++[.mps []]):=by
 have key:=R.push (X:=.mps []) (bd:=⟨some w.heap.size,0,0,0⟩) (w':=w.alloc (.map #[] 0)) rfl rfl rfl rfl ah ah ah
  (λb hb=>heap_alloc_old w _ b hb) (λhst=>⟨w.heap.size,#[],0,ah,heap_alloc_new w _,rfl,λj p hp=>by simp at hp⟩)
 let⟨k1,k2⟩:=key;refine⟨.map (some w.heap.size),w.alloc (.map #[] 0),_,?_,k1,k2,.nQ h.length ⟨some w.heap.size,0,0,0⟩ w.heap.size ah rfl⟩
 rfl
section
variable{A:Type}[DecidableEq A]{d:TypeDesc}{K:A->Value->Prop}
def Qx(hK:FZ d K)(R:Rel Z β h w){t:TypeId}(ht:P.underlying t=some (.map kt et))(hk:P.underlying kt=some d){zero:AV}(hz:zeroV P et zero=true){es:List (A×AV)}{n:A}{c:Nat}{arr:Array MapEntry}{clock:Nat}
  (h2:w.heap[c]? = some (.map arr clock)) (h3:arr.size=es.length) (h4:Nx K β (Own Z β h) w arr.toList es) {u:Value} (hu:K n u) (ck:Bool) :
  jS P Z β h w (Instr.lookup t (.map (some c)) u ck) (if ck=true then .kT [mz es n zero,.bool (vw es n)]else mz es n zero) h:=by
 let⟨i,z,hi,hzz,he⟩:=uw hz
 have two:∀ {a b:AV} {x y:Value},VR β (Own Z β h) w a x->VR β (Own Z β h) w b y->VR β (Own Z β h) w (.kT [a,b]) (.tuple #[x,y]):=by
  intro a b x y v1 v2;refine .kT _ [x,y] rfl λj q r hq hr=>?_
  match j with
  |0=>simp at hq hr;subst hq;subst hr;exact v1
  |1=>simp at hq hr;subst hq;subst hr;exact v2
  |j+2=>simp at hq
 rcases EO hK n hu arr.toList es 0 (an h3) h4 with⟨a1,a2,a7,_⟩ | ⟨j,e,p,a1,a2,a3,a4,a5,a7,_⟩
 .rw[a2,a7];have V:VR β (Own Z β h) w zero z:=.pure _ _ (QK he).1;cases ck with
  |true =>
   refine jS.of R (v:=.tuple #[z,.bool false]) ?_ (two V (.pure _ _ (.bool _)));simp[Instr.lookup,run_underlying ht,MapKept.run_getObj_map h2,MapKept.run_checkKey hk (hK.is _ _ hu),MapKept.run_findKey hk a1,kC hi hzz,Result.andThen]
  |false =>
   refine jS.of R (v:=z) ?_ V;simp[Instr.lookup,run_underlying ht,MapKept.run_getObj_map h2,MapKept.run_checkKey hk (hK.is _ _ hu),MapKept.run_findKey hk a1,kC hi hzz,Result.andThen]
 .rw[a5,a7];let⟨e',g1,g2,g3,g4⟩:=h4 j p a1;rw[a2]at g1;cases g1;cases ck with
  |true =>
   refine jS.of R (v:=.tuple #[e.val,.bool true]) ?_ (two g4 (.pure _ _ (.bool _)));simp[Instr.lookup,run_underlying ht,MapKept.run_getObj_map h2,MapKept.run_checkKey hk (hK.is _ _ hu),MapKept.run_findKey hk a4,Result.andThen]
  |false =>
   refine jS.of R (v:=e.val) ?_ g4;simp[Instr.lookup,run_underlying ht,MapKept.run_getObj_map h2,MapKept.run_checkKey hk (hK.is _ _ hu),MapKept.run_findKey hk a4,Result.andThen]
def PV(hK:FZ d K)(R:Rel Z β h w){t:TypeId}(ht:P.underlying t=some (.map kt et))(hk:P.underlying kt=some d){es:List (A×AV)}{n:A}{x:AV}(hx:x.tF=true)(M:List (A×AV)->AB){X:AB}(hb:h[b]? = some X)
  (hO:∀c,owned β h b c↔∃bd,bd.cb=some c/\β b 0=some bd) (Jm:∀l c,D2 β b (M l) c↔∃bd,bd.cb=some c/\β b 0=some bd)
  (hrow:∀l v sz es',M l≠.row v sz es') (hM:∀O w' l,agp K β O w' b l->qR β O w' b (M l)) {c:Nat} {arr:Array MapEntry} {clock:Nat} (h1:β b 0=some ⟨some c,0,0,0⟩)
  (h2:w.heap[c]? = some (.map arr clock)) (h3:arr.size=es.length) (h4:Nx K β (Own Z β h) w arr.toList es)
  {u y:Value} (hu:K n u) (hy:VR β (Own Z β h) w x y) :
  ∃w',(Instr.mapUpdate t (.map (some c)) u y).run P w = .ok () w'/\Rel Z β (h.set b (M (mN es n x))) w'/\Fr Z β h w β (h.set b (M (mN es n x))) w':=by
 have hlt:c<w.heap.size:=(aW.1 h2).1;have aah:b<h.length:=(aF.1 hb).1;have hown:owned β h b c:=(hO c).2 ⟨_,rfl,h1⟩
 have go:∀(TJ:Array MapEntry)(clock':Nat),TJ.size=(mN es n x).length->(∀(j:Nat)(p:A×AV),(mN es n x)[j]? = some p->∃e:MapEntry,TJ[j]? = some e/\K p.1 e.key/\e.val.oneCell'=true/\VR β (Own Z β h) w p.2 e.val)->
   Rel Z β (h.set b (M (mN es n x))) {w with heap:=w.heap.setIfInBounds c (.map TJ clock')}/\Fr Z β h w β (h.set b (M (mN es n x))) {w with heap:=w.heap.setIfInBounds c (.map TJ clock')}:=by
  intro TJ clock' hs he;refine R.wv (X':=M (mN es n x)) aah rfl rfl rfl (λ_ _ _=>rfl) (λ_ _ e=>e) (λ_ _ _ _ e=>absurd e (hrow _ _ _ _)) (λc' hc=>?_) ah (λb' hb' hno=>?_) (λhst=>hM _ _ _ ?_)
  .let⟨X',Hu,q⟩:=(hO c').2 ((Jm _ c').1 hc);rw[hb]at Hu;cases Hu;exact .inl ⟨_,hb,q⟩
  .have hne:c≠b':=λe=>hno (by rw[<-e];exact hown)
   simp[cD hne]
  .refine⟨c,TJ,clock',h1,by simp[hlt],hs,λj p hp=>?_⟩
   let⟨e,g1,g2,g3,g4⟩:=he j p hp;exact⟨e,g1,g2,g3,g4.mono (λ_ _ _ e=>e) hst⟩
 rcases EO hK n hu arr.toList es 0 (an h3) h4 with⟨a1,_,_,a3⟩ | ⟨j,e,p,a1,a2,a3,a4,_,_,a6⟩
 .refine⟨_,?_,go (arr.push {key:=u,val:=y,born:=clock}) (clock+1) (by rw[a3 x];simp[h3]) λj p hp=>?_⟩
  .simp[Instr.mapUpdate,run_underlying ht,MapKept.run_getObj_map h2,MapKept.run_checkKey hk (hK.is _ _ hu),MapKept.run_findKey hk a1,MapKept.run_setObj_map _ h2,Result.andThen]
  .rw[a3 x]at hp
   by_cases hj:j<es.length
   .rw[aK hj]at hp;let⟨e,g1,g2⟩:=h4 j p hp;refine⟨e,?_,g2⟩;rw[fA,if_neg aa]
    simpa using g1
   .have wC:j=es.length:=by
     have:=(aF.1 hp).1;simp at this;omega
    subst wC;simp at hp;subst hp;exact⟨{key:=u,val:=y,born:=clock},by rw[<-h3];simp,hu,hy.tF hx,hy⟩
 .have hj:arr[j]? = some e:=by simpa using a2
  let⟨e',g1,g2,_⟩:=h4 j p a1;rw[a2]at g1;cases g1;rw[a3]at g2;have hkey:e.key=u:=hK.one _ _ _ g2 hu;refine⟨_,?_,go (arr.modify j λe=>{e with key:=u,val:=y}) clock (by rw[a6 x];simp[h3]) λk q hq=>?_⟩
  .simp[Instr.mapUpdate,run_underlying ht,MapKept.run_getObj_map h2,MapKept.run_checkKey hk (hK.is _ _ hu),MapKept.run_findKey hk a4,hj,hkey,MapKept.run_keyThatStays (hK.is _ _ hu),MapKept.run_setObj_map _ h2,Result.andThen]
  .rw[a6 x]at hq;rw[eC]
   by_cases hjk:j=k
   .subst hjk;rw[aZ (by have:=(aF.1 a1).1;omega)]at hq
    cases hq;rw[if_pos rfl,hj];exact⟨_,rfl,hu,hy.tF hx,hy⟩
   .rw[aJ hjk]at hq;let⟨e1,q1,q2⟩:=h4 k q hq;rw[if_neg hjk];exact⟨e1,an q1,q2⟩
end
def LO(R:Rel Z β h w){t:TypeId}(ht:P.underlying t=some (.map kt et))(hk:P.underlying kt=some (.int .i64)){zero:AV}(hz:zeroV P et zero=true){es:List (Int×AV)}(hb:h[b]? = some (.mp es)){n:Int}
  {v u:Value} (hv:VR β (Own Z β h) w (.nQ b) v) (hu:VR β (Own Z β h) w (.int .i64 n) u) (ck:Bool):jS P Z β h w (Instr.lookup t v u ck) (if ck=true then .kT [mz es n zero,.bool (vw es n)]else mz es n zero) h:=by
 obtain⟨c,arr,clock,rfl,h1,h2,h3,h4⟩:=IY R hb hv;exact Qx ajT R ht hk hz h2 h3 h4 hu.nr ck
def SI(R:Rel Z β h w){t:TypeId}(ht:P.underlying t=some (.map kt et))(hk:P.underlying kt=some .string){zero:AV}(hz:zeroV P et zero=true){es:List (au×AV)}(hb:h[b]? = some (.mps es)){n:au}
  {v u:Value} (hv:VR β (Own Z β h) w (.nQ b) v) (hu:VR β (Own Z β h) w (.str n) u) (ck:Bool):jS P Z β h w (Instr.lookup t v u ck) (if ck=true then .kT [mz es n zero,.bool (vw es n)]else mz es n zero) h:=by
 obtain⟨c,arr,clock,rfl,h1,h2,h3,h4⟩:=LR R hb hv;exact Qx Qe R ht hk hz h2 h3 h4 hu.pH ck
def Vy(R:Rel Z β h w){t ty:TypeId}(ht:P.underlying t=some (.map kt et)){es:List (Int×AV)}(hb:h[b]? = some (.mp es)){v:Value}(hv:VR β (Own Z β h) w (.nQ b) v):
  jS P Z β h w (Builtin.len_ #[t] ty #[v]) (.int .i64 es.length) h:=by
 obtain⟨c,arr,clock,rfl,h1,h2,h3,h4⟩:=IY R hb hv;refine jS.of R (v:=.int .i64 es.length) ?_ (.pure _ _ (.int _ _));simp[Builtin.len_,run_underlying ht,MapKept.run_getObj_map h2,goInt,h3,Result.andThen]
def Vv(R:Rel Z β h w){t:TypeId}(ht:P.underlying t=some (.map kt et))(hk:P.underlying kt=some (.int .i64)){es:List (Int×AV)}(hb:h[b]? = some (.mp es)){n:Int}{x:AV}(hx:x.tF=true)
  {v u y:Value} (hv:VR β (Own Z β h) w (.nQ b) v) (hu:VR β (Own Z β h) w (.int .i64 n) u) (hy:VR β (Own Z β h) w x y) :
  ∃w',(Instr.mapUpdate t v u y).run P w = .ok () w'/\Rel Z β (h.set b (.mp (mN es n x))) w'/\Fr Z β h w β (h.set b (.mp (mN es n x))) w':=by
 obtain⟨c,arr,clock,rfl,h1,h2,h3,h4⟩:=IY R hb hv;exact PV ajT R ht hk hx (λl=>.mp l) hb (λc=>⟨λ⟨X,hX,bd,q1,q2⟩=>by rw[hb]at hX;cases hX;exact⟨bd,q1,q2⟩,λ⟨bd,q1,q2⟩=>⟨_,hb,bd,q1,q2⟩⟩) (λl c=>Iff.rfl) (λ_ _ _ _ e=>by cases e) (λ_ _ _ h=>h) h1 h2 h3 h4 hu.nr hy
def SH(R:Rel Z β h w){t:TypeId}(ht:P.underlying t=some (.map kt et))(hk:P.underlying kt=some .string){es:List (au×AV)}(hb:h[b]? = some (.mps es)){n:au}{x:AV}(hx:x.tF=true)
  {v u y:Value} (hv:VR β (Own Z β h) w (.nQ b) v) (hu:VR β (Own Z β h) w (.str n) u) (hy:VR β (Own Z β h) w x y) :
  ∃w',(Instr.mapUpdate t v u y).run P w = .ok () w'/\Rel Z β (h.set b (.mps (mN es n x))) w'/\Fr Z β h w β (h.set b (.mps (mN es n x))) w':=by
 obtain⟨c,arr,clock,rfl,h1,h2,h3,h4⟩:=LR R hb hv;exact PV Qe R ht hk hx (λl=>.mps l) hb (λc=>⟨λ⟨X,hX,bd,q1,q2⟩=>by rw[hb]at hX;cases hX;exact⟨bd,q1,q2⟩,λ⟨bd,q1,q2⟩=>⟨_,hb,bd,q1,q2⟩⟩) (λl c=>Iff.rfl) (λ_ _ _ _ e=>by cases e) (λ_ _ _ h=>h) h1 h2 h3 h4 hu.pH hy
end
end Go.Am
