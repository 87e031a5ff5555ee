/- Part of the proof that TopPassedCard holds. -/
import Derived.Test.YtaepagegdgdlhaaGreatDoorAmS
import Derived.Laws.AppendOwn
import Derived.Laws.CopyRow
import Derived.Laws.StructEq
import Derived.Laws.MakeOwn
set_option linter.all false
namespace Go.Am
def yM{a:AV}(h:a.kZ=true):a.tF=true:=by cases a<;>simp_all[AV.kZ,AV.tF]
inductive qW(O:az)(w:World):AV->Value->Prop where
 |bool (b:Bool):qW O w (.bool b) (.bool b)
 |int (k:IntKind) (n:Int):qW O w (.int k n) (.int k n)
 |str (s:ByteArray):qW O w (.str s.data.toList) (.string s)
 |oI:qW O w .oI (.pointer none)
 |pg:qW O w .pg (.map none)
 |nh:qW O w .nh .nilFunc
 |pn:qW O w .pn .nilIface
 |jB (full:Bool) (es:List AV) (a:Option Addr) (c blk o sz:Nat) (f:Nat->Nat->Value)
   (hf:full=true->c=es.length) (hc:es.length<=c)
   (ha:es≠[]->a=some ⟨blk,o,none⟩/\¬O blk/\blk<w.heap.size)
   (hs:∀(i:Nat)(x:AV),es[i]? = some x->x.cells.length=sz/\0<sz)
   (h1:∀(i:Nat)(x:AV),es[i]? = some x->∀(j:Nat)(y:AV),x.cells[j]? = some y->w.cell? ⟨blk,o+i*sz+j,none⟩=some (f i j))
   (h3:∀(i:Nat)(x:AV),es[i]? = some x->∀(j:Nat)(y:AV),x.cells[j]? = some y->(f i j).oneCell'=true)
   (h2:∀(i:Nat)(x:AV),es[i]? = some x->∀(j:Nat)(y:AV),x.cells[j]? = some y->qW O w y (f i j)):qW O w (.jB full es) (.slice a es.length c)
 |agg (cs:List AV) (vs:List Value) (hl:cs.length=vs.length) (h1:∀v∈vs,v.oneCell'=true)
   (h2:∀(j:Nat)(y:AV)(v:Value),cs[j]? = some y->vs[j]? = some v->qW O w y v):qW O w (.agg cs) (.agg vs.toArray)
structure Bd where
 cb:Option Nat
 base:Nat
 csz:Nat
 sz:Nat
abbrev kW:=Nat->Nat->Option Bd
inductive VR(β:kW)(O:az)(w:World):AV->Value->Prop where
 |pure (a:AV) (v:Value) (h:qW O w a v):VR β O w a v
 |dead (v:Value):VR β O w .dead v
 |undef:VR β O w .undef Go.undef
 |ptr (b v i o:Nat) (bd:Bd) (c:Nat) (h1:β b v=some bd) (h2:bd.cb=some c):VR β O w (.ptr b v i o) (.pointer (some ⟨c,bd.base+i*bd.sz+o,none⟩))
 |kE (cs:List AV) (blk o:Nat) (f:Nat->Value) (hO:¬O blk) (hw:blk<w.heap.size)
   (h1:∀(j:Nat)(y:AV),cs[j]? = some y->w.cell? ⟨blk,o+j,none⟩=some (f j)) (h3:∀(j:Nat)(y:AV),cs[j]? = some y->(f j).oneCell'=true)
   (h2:∀(j:Nat)(y:AV),cs[j]? = some y->qW O w y (f j)):VR β O w (.kE cs) (.pointer (some ⟨blk,o,none⟩))
 |own (b v o n:Nat) (bd:Bd) (a:Option Addr) (c:Nat) (h1:β b v=some bd)
   (h2:(c=0/\n=0)\/∃cb,bd.cb=some cb/\a=some ⟨cb,bd.base+o*bd.sz,none⟩/\n<=c/\bd.base+(o+c)*bd.sz<=bd.csz):VR β O w (.own b v o n) (.slice a n c)
 |agg (cs:List AV) (vs:List Value) (hl:cs.length=vs.length) (h1:∀v∈vs,v.oneCell'=true)
   (h2:∀(j:Nat)(y:AV)(v:Value),cs[j]? = some y->vs[j]? = some v->VR β O w y v):VR β O w (.agg cs) (.agg vs.toArray)
 |kT (cs:List AV) (vs:List Value) (hl:cs.length=vs.length)
   (h2:∀(j:Nat)(y:AV)(v:Value),cs[j]? = some y->vs[j]? = some v->VR β O w y v):VR β O w (.kT cs) (.tuple vs.toArray)
 |fn (f:Fn) (a c:List AV) (va vc:List Value) (hl:a.length=va.length) (hl':c.length=vc.length)
   (h1:∀(j:Nat)(y:AV)(v:Value),a[j]? = some y->va[j]? = some v->VR β O w y v) (h2:∀(j:Nat)(y:AV)(v:Value),c[j]? = some y->vc[j]? = some v->VR β O w y v) :
   VR β O w (.fn f a c) (.func f va.toArray vc.toArray)
 |Hq (t:TypeId) (a:AV) (v:Value) (h:VR β O w a v):VR β O w (.Hq t a) (.iface t v)
 |xI (b:Bool):VR β O w .xI (.bool b)
 |nQ (b:Nat) (bd:Bd) (c:Nat) (h1:β b 0=some bd) (h2:bd.cb=some c):VR β O w (.nQ b) (.map (some c))
def lS(O:az)(w:World)(O':az)(w':World):Prop :=
 w.heap.size<=w'.heap.size/\∀b,b<w.heap.size->¬O b->w'.heap[b]? = w.heap[b]?/\¬O' b
variable{v:Value}{w' w'':World}{O O' Z:az}{β β':kW}{h h':AH}{n b vv o:Nat}
def aaP{w:World}{a:Addr}(h:w.cell? a=some v):a.block<w.heap.size:=by
 unfold World.cell? at h
 rcases cG a.block w.heap.size with h' | h'
 .exact h'
 .simp[Array.getElem?_eq_none h']at h
def BL{w:World}(hst:lS O w O' w'){a:Addr}(hO:¬O a.block)(hb:a.block<w.heap.size):w'.cell? a=w.cell? a:=by
 unfold World.cell?;rw[(hst.2 a.block hb hO).1]
def qW.mono{w:World}(hst:lS O w O' w'){a:AV}(h:qW O w a v):qW O' w' a v:=by
 induction h with
 |bool b=>exact .bool b
 |int k n=>exact .int k n
 |str s=>exact .str s
 |oI=>exact .oI
 |pg=>exact .pg
 |nh=>exact .nh
 |pn=>exact .pn
 |jB full es a c blk o sz f hf hc ha hs h1 h3 h2 ih =>
  refine .jB full es a c blk o sz f hf hc (λhne=>?_) hs (λi x hx j y hy=>?_) h3 ih
  .let⟨e1,e2,e3⟩:=ha hne;exact⟨e1,(hst.2 blk e3 e2).2,bT e3 hst.1⟩
  .have hne:es≠[]:=by intro he;rw[he]at hx;simp at hx
   let⟨_,e2,e3⟩:=ha hne;rw[BL hst (a:=⟨blk,o+i*sz+j,none⟩) e2 e3];exact h1 i x hx j y hy
 |agg cs vs hl h1 h2 ih=>exact .agg cs vs hl h1 ih
def VR.mono{w:World}(hβ:∀i v bd,β i v=some bd->β' i v=some bd)(hst:lS O w O' w'){a:AV}(h:VR β O w a v):VR β' O' w' a v:=by
 induction h with
 |pure a v h=>exact .pure a v (h.mono hst)
 |dead v=>exact .dead v
 |undef=>exact .undef
 |ptr b v i o bd c h1 h2=>exact .ptr b v i o bd c (hβ _ _ _ h1) h2
 |kE cs blk o f hO hw h1 h3 h2 =>
  refine .kE cs blk o f (hst.2 blk hw hO).2 (bT hw hst.1) (λj y hy=>?_) h3 (λj y hy=>(h2 j y hy).mono hst)
  rw[BL hst (a:=⟨blk,o+j,none⟩) hO hw];exact h1 j y hy
 |own b v o n bd a c h1 h2=>exact .own b v o n bd a c (hβ _ _ _ h1) h2
 |agg cs vs hl h1 h2 ih=>exact .agg cs vs hl h1 ih
 |kT cs vs hl h2 ih=>exact .kT cs vs hl ih
 |fn f a c va vc hl hl' h1 h2 ih1 ih2=>exact .fn f a c va vc hl hl' ih1 ih2
 |Hq t a v h ih=>exact .Hq t a v ih
 |xI b=>exact .xI b
 |nQ b bd c h1 h2=>exact .nQ b bd c (hβ _ _ _ h1) h2
theorem lS.refl(O:az)(w:World):lS O w O w:=⟨aN _,λ_ _ h=>⟨rfl,h⟩⟩
def lS.trans{O'':az}{w:World}(h:lS O w O' w')(h':lS O' w' O'' w''):lS O w O'' w'' :=
 ⟨cQ h.1 h'.1,λb hb hO=>by
  let⟨e1,e2⟩:=h.2 b hb hO;let⟨e3,e4⟩:=h'.2 b (bT hb h.1) e2;exact⟨e3.trans e1,e4⟩⟩
def D2(β:kW)(i:Nat)(X:AB)(c:Nat):Prop :=
 ∃bd,bd.cb=some c/\match X with
  | .var _=>β i 0=some bd
  | .row v _ _=>β i v=some bd
  | .mp _=>β i 0=some bd
  | .mps _=>β i 0=some bd
  |_=>False
def owned(β:kW)(h:AH)(i c:Nat):Prop:=∃X,h[i]? = some X/\D2 β i X c
def Own(Z:az)(β:kW)(h:AH)(c:Nat):Prop:=Z c\/∃i,owned β h i c
def jW(O:az)(w:World)(f:Nat->Option Value)(sz:Nat)(es:List AV):Prop :=
 ∀(i:Nat)(x:AV),es[i]? = some x->x.cells.length=sz/\∀(j:Nat)(y:AV),x.cells[j]? = some y->∃v,f (i*sz+j)=some v/\v.oneCell'=true/\qW O w y v
def qx(O:az)(w:World)(cur:Array Value)(base sz:Nat)(es:List AV):Prop:=jW O w (λk=>cur[base+k]?) sz es
abbrev agp{A:Type}(K:A->Value->Prop)(β:kW)(O:az)(w:World)(i:Nat)(es:List (A×AV)):Prop :=
 ∃c arr clock,β i 0=some ⟨some c,0,0,0⟩/\w.heap[c]? = some (.map arr clock)/\arr.size=es.length/\
  ∀(j:Nat)(p:A×AV),es[j]? = some p->∃e:MapEntry,arr[j]? = some e/\K p.1 e.key/\e.val.oneCell'=true/\VR β O w p.2 e.val
def qR(β:kW)(O:az)(w:World)(i:Nat):AB->Prop
 | .gone=>True
 | .var cs=>∃c cur elem,β i 0=some ⟨some c,0,cs.length,cs.length⟩/\w.heap[c]? = some (.cells cur elem (0,0))/\cur.size=cs.length/\
   ∀(j:Nat)(y:AV),cs[j]? = some y->∃v,cur[j]? = some v/\v.oneCell'=true/\VR β O w y v
 | .mp es=>agp (λn v=>v = .int .i64 n) β O w i es
 | .mps es=>agp (λs v=>∃b:ByteArray,v = .string b/\b.data.toList=s) β O w i es
 | .row v sz es=>0<sz/\∃bd,β i v=some bd/\bd.sz=sz/\((bd.cb=none/\es=[])\/
   ∃c cur elem,bd.cb=some c/\w.heap[c]? = some (.cells cur elem (0,0))/\cur.size=bd.csz/\bd.base+es.length*sz<=bd.csz/\qx O w cur bd.base sz es)
 | .qa v sz es=>0<sz/\∃bd,β i v=some bd/\bd.sz=sz/\((bd.cb=none/\es=[])\/
   ∃c cur elem fr,bd.cb=some c/\¬O c/\w.heap[c]? = some (.cells cur elem fr)/\cur.size=bd.csz/\bd.base+es.length*sz<=bd.csz/\qx O w cur bd.base sz es)
structure Rel(Z:az)(β:kW)(h:AH)(w:World):Prop where
 xlt:∀c,Z c->c<w.heap.size
 CG:∀i c,owned β h i c->¬Z c
 fresh:∀i v,h.length<=i->β i v=none
 later:∀(i v sz:Nat)(es:List AV)(v':Nat),h[i]? = some (.row v sz es)->v<v'->β i v'=none
 blk:∀(i:Nat)(b:AB),h[i]? = some b->qR β (Own Z β h) w i b
 apart:∀i j c,owned β h i c->owned β h j c->i=j
structure Fr(Z:az)(β:kW)(h:AH)(w:World)(β':kW)(h':AH)(w':World):Prop where
 nN:∀b,b<w.heap.size->Z b->w'.heap[b]? = w.heap[b]?
 os:w'.os=w.os
 tape:w'.tape=w.tape
 output:w'.output=w.output
 ext:∀i v bd,β i v=some bd->β' i v=some bd
 stay:lS (Own Z β h) w (Own Z β' h') w'
theorem Fr.refl(Z:az)(β:kW)(h:AH)(w:World):Fr Z β h w β h w:=⟨λ_ _ _=>rfl,rfl,rfl,rfl,λ_ _ _ e=>e,lS.refl _ _⟩
def Fr.trans{β'':kW}{h'':AH}{w:World}(a:Fr Z β h w β' h' w')(b:Fr Z β' h' w' β'' h'' w''):Fr Z β h w β'' h'' w'' :=
 ⟨λk hk hx=>(b.nN k (bT hk a.stay.1) hx).trans (a.nN k hk hx),b.os.trans a.os,b.tape.trans a.tape,b.output.trans a.output,λi v bd e=>b.ext i v bd (a.ext i v bd e),a.stay.trans b.stay⟩
def VR.fr{w:World}(f:Fr Z β h w β' h' w'){a:AV}(hv:VR β (Own Z β h) w a v):VR β' (Own Z β' h') w' a v:=hv.mono f.ext f.stay
def lS.drew{w:World}(h:lS O w O' w'):lS O {w with drawn:=n} O' w':=h
def kF(Z:az)(β:kW)(h:AH)(w:World)(e:Env)(a:Act)(n:Nat):Prop :=
 a.tmps.size=n/\∀t,VR β (Own Z β h) w (e t) (a.tmps.getD t Go.undef)
def kF.fr{w:World}{e:Env}{a:Act}(E:kF Z β h w e a n)(f:Fr Z β h w β' h' w'):kF Z β' h' w' e a n :=
 ⟨E.1,λt=>(E.2 t).fr f⟩
def kF.put{w:World}{e:Env}{a:Act}(E:kF Z β h w e a n){d:Nat}(hd:d<n){av:AV}(hv:VR β (Own Z β h) w av v):
  kF Z β h w (e.put d av) (a.put (some d) v) n:=by
 refine⟨by simp[Act.put,E.1],λt=>?_⟩
 simp only[Env.put,Act.put]
 by_cases ht:t=d
 .subst ht;have:t<a.tmps.size:=by rw[E.1];exact hd
  simp[this,hv]
 .have h2:d≠t:=λe=>ht e.symm
  have:=E.2 t
  simpa[ht,h2,cD]using this
section inv
variable{Z:az}{β:kW}{O:az}{w:World}
def VR.pF{b:Bool}(h:VR β O w (.bool b) v):v = .bool b:=by
 cases h with | pure _ _ h=>cases h;rfl
def VR.nr{k:IntKind}{n:Int}(h:VR β O w (.int k n) v):v = .int k n:=by
 cases h with | pure _ _ h=>cases h;rfl
def VR.pH{s:au}(h:VR β O w (.str s) v):∃b:ByteArray,v = .string b/\b.data.toList=s:=by
 cases h with | pure _ _ h=>cases h with | str b=>exact⟨b,rfl,rfl⟩
def VR.Ax(h:VR β O w .undef v):v=Go.undef:=by
 cases h with
 |pure _ _ h=>cases h
 |undef=>rfl
def VR.qV{cs:List AV}(h:VR β O w (.agg cs) v):∃vs:List Value,v = .agg vs.toArray/\cs.length=vs.length/\(∀u∈vs,u.oneCell'=true)/\∀(j:Nat)(y:AV)(u:Value),cs[j]? = some y->vs[j]? = some u->VR β O w y u:=by
 cases h with
 |pure _ _ h=>cases h with | agg _ vs hl h1 h2=>exact⟨vs,rfl,hl,h1,λj y u hy hu=>.pure _ _ (h2 j y u hy hu)⟩
 |agg _ vs hl h1 h2=>exact⟨vs,rfl,hl,h1,h2⟩
def VR.CT{cs:List AV}(h:VR β O w (.kT cs) v):∃vs:List Value,v = .tuple vs.toArray/\cs.length=vs.length/\∀(j:Nat)(y:AV)(u:Value),cs[j]? = some y->vs[j]? = some u->VR β O w y u:=by
 cases h with
 |pure _ _ h=>cases h
 |kT _ vs hl h2=>exact⟨vs,rfl,hl,h2⟩
def VR.oE{i:Nat}(h:VR β O w (.ptr b vv i o) v):∃bd c,β b vv=some bd/\bd.cb=some c/\v = .pointer (some ⟨c,bd.base+i*bd.sz+o,none⟩):=by
 cases h with
 |pure _ _ h=>cases h
 |ptr _ _ _ _ bd c h1 h2=>exact⟨bd,c,h1,h2,rfl⟩
def VR.zI(h:VR β O w (.nQ b) v):∃bd c,β b 0=some bd/\bd.cb=some c/\v = .map (some c):=by
 cases h with
 |pure _ _ h=>cases h
 |nQ _ bd c h1 h2=>exact⟨bd,c,h1,h2,rfl⟩
def VR.mg(h:VR β O w (.own b vv o n) v):∃bd a c,β b vv=some bd/\v = .slice a n c/\
  ((c=0/\n=0)\/∃cb,bd.cb=some cb/\a=some ⟨cb,bd.base+o*bd.sz,none⟩/\n<=c/\bd.base+(o+c)*bd.sz<=bd.csz):=by
 cases h with
 |pure _ _ h=>cases h
 |own _ _ _ _ bd a c h1 h2=>exact⟨bd,a,c,h1,rfl,h2⟩
def VR.oJ{f:Bool}{es:List AV}(h:VR β O w (.jB f es) v):qW O w (.jB f es) v:=by
 cases h with | pure _ _ h=>exact h
def VR.tF{a:AV}(h:VR β O w a v)(ha:a.tF=true):v.oneCell'=true:=by
 cases h with
 |pure _ _ h=>cases h<;>first | rfl | (simp[AV.tF]at ha;done)
 |dead=>simp[AV.tF]at ha
 |undef=>simp[AV.tF]at ha
 |ptr=>rfl
 |kE=>rfl
 |own=>rfl
 |agg=>simp[AV.tF]at ha
 |kT=>simp[AV.tF]at ha
 |fn=>rfl
 |Hq=>rfl
 |xI=>rfl
 |nQ=>rfl
def cells_one(h:v.oneCell'=true):v.cells = #[v]:=by cases v<;>first | rfl | (simp[Value.oneCell']at h;done)
def VR.cells{a:AV}(h:VR β O w a v)(ha:a.cells.all AV.tF=true):
  ∃vs:List Value,v.cells=vs.toArray/\a.cells.length=vs.length/\(∀u∈vs,u.oneCell'=true)/\∀(j:Nat)(y:AV)(u:Value),a.cells[j]? = some y->vs[j]? = some u->VR β O w y u:=by
 by_cases hag:∃cs,a = .agg cs
 .obtain⟨cs,rfl⟩:=hag;obtain⟨vs,rfl,hl,h1,h2⟩:=h.qV;exact⟨vs,rfl,hl,h1,h2⟩
 .have hc:a.cells=[a]:=by cases a<;>first | rfl | (exact absurd ⟨_,rfl⟩ hag)
  rw[hc]at ha⊢;have ho:v.oneCell'=true:=h.tF (an ha)
  refine⟨[v],cells_one ho,rfl,an ho,λj y u hy hu=>?_⟩
  cases j with
  |zero=>simp at hy hu;subst hy;subst hu;exact h
  |succ j=>simp at hy
def VR.Lx{a:AV}(h:VR β O w a v)(ha:a.kZ=true):qW O w a v:=by
 cases h with
 |pure _ _ h=>exact h
 |_=>simp[AV.kZ]at ha
def VR.B9{a:AV}(h:VR β O w a v)(ha:a.lT=true):qW O w a v:=by
 cases h with
 |pure _ _ h=>exact h
 |agg cs vs hl h1 h2 =>
  refine .agg cs vs hl h1 λj y u hy hu=>(h2 j y u hy hu).Lx ?_
  have:∀y∈cs,y.kZ=true:=by simpa[AV.lT]using ha
  exact this y (aR hy)
 |_=>simp[AV.lT,AV.kZ]at ha
end inv
variable{β β':kW}{Z O O' Z0:az}{h:AH}{w':World}{X:AB}
def qx.mono{w:World}(hst:lS O w O' w'){cur:Array Value}{base sz:Nat}{es:List AV}(h:qx O w cur base sz es):qx O' w' cur base sz es:=by
 intro i x hx;let⟨h1,h2⟩:=h i x hx;refine⟨h1,λj y hy=>?_⟩
 let⟨v,e1,e2,e3⟩:=h2 j y hy;exact⟨v,e1,e2,e3.mono hst⟩
def qR.mono{w:World}(hst:lS O w O' w')(hβ:∀i v bd,β i v=some bd->β' i v=some bd){i:Nat}
  (hb:∀c,D2 β i X c->w'.heap[c]? = w.heap[c]?) (h:qR β O w i X):qR β' O' w' i X:=by
 cases X with
 |gone=>trivial
 |var cs =>
  let⟨c,cur,elem,e1,e2,e3,e4⟩:=h;refine⟨c,cur,elem,hβ _ _ _ e1,(hb c ⟨_,rfl,e1⟩).trans e2,e3,λj y hy=>?_⟩
  let⟨v,g1,g2,g3⟩:=e4 j y hy;exact⟨v,g1,g2,g3.mono hβ hst⟩
 |mp es | mps es =>
  let⟨c,arr,clock,e1,e2,e3,e4⟩:=h;refine⟨c,arr,clock,hβ _ _ _ e1,(hb c ⟨_,rfl,e1⟩).trans e2,e3,λj p hp=>?_⟩
  let⟨e,g1,g2,g3,g4⟩:=e4 j p hp;exact⟨e,g1,g2,g3,g4.mono hβ hst⟩
 |row v sz es =>
  let⟨h0,bd,e1,e2,e3⟩:=h;refine⟨h0,bd,hβ _ _ _ e1,e2,?_⟩
  rcases e3 with e3 | ⟨c,cur,elem,g1,g2,g3,g4,g5⟩
  .exact .inl e3
  .exact .inr ⟨c,cur,elem,g1,(hb c ⟨bd,g1,e1⟩).trans g2,g3,g4,g5.mono hst⟩
 |qa v sz es =>
  let⟨h0,bd,e1,e2,e3⟩:=h;refine⟨h0,bd,hβ _ _ _ e1,e2,?_⟩
  rcases e3 with e3 | ⟨c,cur,elem,fr,g1,g2,g3,g4,g5,g6⟩
  .exact .inl e3
  .have hc:c<w.heap.size:=(aW.1 g3).1;exact .inr ⟨c,cur,elem,fr,g1,(hst.2 c hc g2).2,(hst.2 c hc g2).1.trans g3,g4,g5,g6.mono hst⟩
def Rel.qI{w:World}(R:Rel Z β h w){i c:Nat}(ho:owned β h i c):c<w.heap.size:=by
 let⟨X,hX,bd,hc,hb⟩:=ho;have hr:=R.blk i X hX;cases X with
 |gone=>exact hb.elim
 |var cs =>
  let⟨c',cur,elem,e1,e2,_⟩:=hr;simp only at hb;rw[e1]at hb;cases hb;simp at hc;subst hc;exact(aW.1 e2).1
 |mp es | mps es =>
  let⟨c',arr,clock,e1,e2,_⟩:=hr;simp only at hb;rw[e1]at hb;cases hb;simp at hc;subst hc;exact(aW.1 e2).1
 |row v sz es =>
  let⟨_,zk,e1,e2,e3⟩:=hr;simp only at hb;rw[e1]at hb;cases hb
  rcases e3 with⟨e3,_⟩ | ⟨c',cur,elem,g1,g2,_⟩
  .rw[e3]at hc;cases hc
  .rw[g1]at hc;cases hc;exact(aW.1 g2).1
 |qa v sz es=>exact hb.elim
def Rel.turn{h':AH}{w:World}(R:Rel Z0 β h w){i:Nat}(hZ:∀c,Z c->Z0 c)(hl:h.length<=h'.length)(hi:h'[i]? = some X)(hn:∀j,j≠i->h'[j]? = h[j]?)
  (hβ:∀j v,j≠i->β' j v=β j v) (aed:∀v bd,β i v=some bd->β' i v=some bd)
  (OH:∀v sz es v',X = .row v sz es->v<v'->β' i v'=none)
  (hown:∀c,D2 β' i X c->owned β h i c\/w.heap.size<=c\/Z0 c/\¬Z c)
  (hsize:w.heap.size<=w'.heap.size) (hkeep:∀b,b<w.heap.size->¬owned β h i b->w'.heap[b]? = w.heap[b]?)
  (hblk:lS (Own Z0 β h) w (Own Z β' h') w'->qR β' (Own Z β' h') w' i X) :
  Rel Z β' h' w'/\lS (Own Z0 β h) w (Own Z β' h') w'/\∀j v bd,β j v=some bd->β' j v=some bd:=by
 have Bn:∀j v bd,β j v=some bd->β' j v=some bd:=by
  intro j v bd e
  by_cases hj:j=i
  .subst hj;exact aed v bd e
  .rw[hβ j v hj];exact e
 have EA:∀j c,j≠i->(owned β' h' j c↔owned β h j c):=by
  intro j c hj;unfold owned D2;simp only[hn j hj,hβ j _ hj]
 have We:∀c,owned β' h' i c->owned β h i c\/w.heap.size<=c\/Z0 c/\¬Z c:=by
  rintro c ⟨X',hX,hb⟩
  rw[hi]at hX;cases hX;exact hown c hb
 have hst:lS (Own Z0 β h) w (Own Z β' h') w':=by
  refine⟨hsize,λb hb hO=>⟨hkeep b hb λho=>hO (.inr ⟨i,ho⟩),?_⟩⟩
  rintro(hz | ⟨j,hj⟩)
  .exact hO (.inl (hZ b hz))
  by_cases hji:j=i
  .subst hji
   rcases We b hj with h1 | h1 | h1
   .exact hO (.inr ⟨j,h1⟩)
   .omega
   .exact hO (.inl h1.1)
  .exact hO (.inr ⟨j,(EA j b hji).1 hj⟩)
 have hap:∀k c,k≠i->owned β' h' i c->¬owned β' h' k c:=λk c hki hj hk=>by
  have hk':=(EA k c hki).1 hk
  rcases We c hj with h1 | h1 | h1
  .exact hki (R.apart k i c hk' h1)
  .have:=R.qI hk';omega
  .exact R.CG k c hk' h1.1
 refine⟨⟨λc hc=>bT (R.xlt c (hZ c hc)) hsize,λj c hj hz=>?_,λj v hj=>?_,λj v sz es v' hj hv=>?_,λj Y hj=>?_,λj k c hj hk=>?_⟩,hst,Bn⟩
 .by_cases hji : j = i
  .subst hji
   rcases We c hj with h1 | h1 | h1
   .exact R.CG j c h1 (hZ c hz)
   .have:=R.xlt c (hZ c hz);omega
   .exact h1.2 hz
  .exact R.CG j c ((EA j c hji).1 hj) (hZ c hz)
 .have:=(aF.1 hi).1;rw[hβ j v aa]
  exact R.fresh j v aa
 .by_cases hji:j=i
  .subst hji;rw[hi]at hj;cases hj;exact OH v sz es v' rfl hv
  .rw[hn j hji]at hj;rw[hβ j v' hji];exact R.later j v sz es v' hj hv
 .by_cases hji:j=i
  .subst hji;rw[hi]at hj;cases hj;exact hblk hst
  .rw[hn j hji]at hj;exact(R.blk j Y hj).mono hst Bn λc hc=>hkeep c (R.qI ⟨Y,hj,hc⟩) λho=>hji (R.apart j i c ⟨Y,hj,hc⟩ ho)
 .by_cases hji : j = i
  .by_cases hki:k=i
   .rw[hji,hki]
   .subst hji;exact absurd hk (hap k c hki hj)
  .by_cases hki:k=i
   .subst hki;exact absurd hj (hap j c hji hk)
   .exact R.apart j k c ((EA j c hji).1 hj) ((EA k c hki).1 hk)
def Rel.wv{w:World}(R:Rel Z β h w){i:Nat}{X':AB}(hi:i<h.length)
  (hos:w'.os=w.os) (zU:w'.tape=w.tape) (hout:w'.output=w.output)
  (hβ:∀j v,j≠i->β' j v=β j v) (aed:∀v bd,β i v=some bd->β' i v=some bd)
  (OH:∀v sz es v',X' = .row v sz es->v<v'->β' i v'=none)
  (hown:∀c,D2 β' i X' c->owned β h i c\/w.heap.size<=c)
  (hsize:w.heap.size<=w'.heap.size) (hkeep:∀b,b<w.heap.size->¬owned β h i b->w'.heap[b]? = w.heap[b]?)
  (hblk:lS (Own Z β h) w (Own Z β' (h.set i X')) w'->qR β' (Own Z β' (h.set i X')) w' i X') :
  Rel Z β' (h.set i X') w'/\Fr Z β h w β' (h.set i X') w':=by
 let⟨q1,q2,q3⟩:=R.turn (λ_=>id) ah (by simp[hi]) (λj hj=>aJ (Ne.symm hj)) hβ aed OH (λc hc=>(hown c hc).imp id .inl) hsize hkeep hblk
 exact⟨q1,λb hb hz=>hkeep b hb λho=>R.CG i b ho hz,hos,zU,hout,q3,q2⟩
def Rel.abx{w:World}(R:Rel Z0 β h w)(hZ:∀c,Z c->Z0 c){bd:Bd}
  (hβ:β'=λi v=>if i=h.length/\v=0 then some bd else β i v)
  (hX:∀v sz es,X = .row v sz es->v=0)
  (hcb:∀c,bd.cb=some c->w.heap.size<=c\/Z0 c/\¬Z c)
  (hsize:w.heap.size<=w'.heap.size) (hkeep:∀b,b<w.heap.size->w'.heap[b]? = w.heap[b]?)
  (hblk:lS (Own Z0 β h) w (Own Z β' (h++[X])) w'->qR β' (Own Z β' (h++[X])) w' h.length X) :
  Rel Z β' (h++[X]) w'/\lS (Own Z0 β h) w (Own Z β' (h++[X])) w'/\∀j v bd,β j v=some bd->β' j v=some bd:=by
 subst hβ;have hf:=λv=>R.fresh _ v (aN _)
 refine R.turn hZ ah (i:=h.length) ah (λj hj=>by grind) (λj v hj=>if_neg λe=>hj e.1) (λv bd e=>by rw[hf]at e;cases e) (λv sz es v' e hv=>(if_neg (by have:=hX v sz es e;omega)).trans (hf v')) (λc ⟨zk,hc,hb⟩=>.inr (hcb c ?_)) hsize (λb hb _=>hkeep b hb) hblk
 cases X with
 |gone | qa=>exact hb.elim
 |row v sz es =>
  obtain rfl:=hX v sz es rfl
  grind
 |_=>grind
def Rel.push{w:World}(R:Rel Z β h w){bd:Bd}
  (hos:w'.os=w.os) (zU:w'.tape=w.tape) (hout:w'.output=w.output)
  (hβ:β'=λi v=>if i=h.length/\v=0 then some bd else β i v)
  (hX:∀v sz es,X = .row v sz es->v=0)
  (hcb:∀c,bd.cb=some c->w.heap.size<=c)
  (hsize:w.heap.size<=w'.heap.size) (hkeep:∀b,b<w.heap.size->w'.heap[b]? = w.heap[b]?)
  (hblk:lS (Own Z β h) w (Own Z β' (h++[X])) w'->qR β' (Own Z β' (h++[X])) w' h.length X) :
  Rel Z β' (h++[X]) w'/\Fr Z β h w β' (h++[X]) w':=by
 let⟨q1,q2,q3⟩:=R.abx (λ_=>id) hβ hX (λc e=>.inl (hcb c e)) hsize hkeep hblk
 exact⟨q1,λb hb _=>hkeep b hb,hos,zU,hout,q3,q2⟩
def Rel.Lu{w:World}(R:Rel Z β h w)(elem:TypeId)(cs:List AV)(vs:List Value)(hl:cs.length=vs.length)
  (h1:∀u∈vs,u.oneCell'=true) (h2:∀(j:Nat)(y:AV)(u:Value),cs[j]? = some y->vs[j]? = some u->VR β (Own Z β h) w y u) :
  ∃β',Rel Z β' (h++[.var cs]) (w.alloc (.cells vs.toArray elem))/\Fr Z β h w β' (h++[.var cs]) (w.alloc (.cells vs.toArray elem))/\
   VR β' (Own Z β' (h++[.var cs])) (w.alloc (.cells vs.toArray elem)) (.ptr h.length 0 0 0) (.pointer (some ⟨w.heap.size,0,none⟩)):=by
 have key:=R.push (X:=.var cs) (bd:=⟨some w.heap.size,0,cs.length,cs.length⟩) (w':=w.alloc (.cells vs.toArray elem)) rfl rfl rfl rfl ah ah ah
  (λb hb=>heap_alloc_old w _ b hb) (λhst=>⟨w.heap.size,vs.toArray,elem,ah,heap_alloc_new w _,by simp[hl],λj y hy=>?_⟩)
 .let⟨k1,k2⟩:=key;refine⟨_,k1,k2,?_⟩
  have:=VR.ptr (β:=λi v=>if i=h.length/\v=0 then some ⟨some w.heap.size,0,cs.length,cs.length⟩else β i v)
   (O:=Own Z (λi v=>if i=h.length/\v=0 then some ⟨some w.heap.size,0,cs.length,cs.length⟩else β i v) (h++[.var cs])) (w:=w.alloc (.cells vs.toArray elem))
   h.length 0 0 0 ⟨some w.heap.size,0,cs.length,cs.length⟩ w.heap.size ah rfl
  simpa using this
 .have hj:j<vs.length:=by rw[<-hl];exact(aF.1 hy).1
  refine⟨vs[j],by simp[hj],h1 _ (aS hj),?_⟩
  refine(h2 j y vs[j] hy (by simp[hj])).mono ?_ hst
  intro i v zk e;rw[if_neg]
  .exact e
  .rintro⟨rfl,_⟩
   rw[R.fresh _ v (aN _)]at e;cases e
def Rel.DU{w:World}(R:Rel Z β h w)(sz:Nat)(hsz:0<sz)(es:List AV)(cur:Array Value)(elem:TypeId)
  (hos:w'.os=w.os) (zU:w'.tape=w.tape) (hout:w'.output=w.output) (hh:w'.heap=w.heap.push (.cells cur elem (0,0)))
  (hfit:es.length*sz<=cur.size) (he:qx (Own Z β h) w cur 0 sz es) :
  ∃β',Rel Z β' (h++[.row 0 sz es]) w'/\Fr Z β h w β' (h++[.row 0 sz es]) w'/\
   ∀n c,n<=c->c*sz<=cur.size->VR β' (Own Z β' (h++[.row 0 sz es])) w' (.own h.length 0 0 n) (.slice (some ⟨w.heap.size,0,none⟩) n c):=by
 have hold:∀b,b<w.heap.size->w'.heap[b]? = w.heap[b]? := λb hb=>by rw[hh,fA,if_neg aa]
 have hnew:w'.heap[w.heap.size]? = some (.cells cur elem (0,0)):=by rw[hh];simp
 have key:=R.push (X:=.row 0 sz es) (bd:=⟨some w.heap.size,0,cur.size,sz⟩) (w':=w') hos zU hout rfl (by intro v sz' es e;cases e;rfl) ah (by rw[hh];simp)
  hold (λhst=>⟨hsz,⟨some w.heap.size,0,cur.size,sz⟩,ah,rfl,.inr ⟨w.heap.size,cur,elem,rfl,hnew,rfl,an hfit,he.mono hst⟩⟩)
 let⟨k1,k2⟩:=key;refine⟨_,k1,k2,λn c hn hc=>?_⟩
 refine .own h.length 0 0 n ⟨some w.heap.size,0,cur.size,sz⟩ _ c ah (.inr ⟨w.heap.size,rfl,ah,hn,an hc⟩)
def Rel.sg{w:World}(R:Rel Z β h w)(sz:Nat)(hsz:0<sz):
  ∃β',Rel Z β' (h++[.row 0 sz []]) w/\Fr Z β h w β' (h++[.row 0 sz []]) w/\
   ∀a,VR β' (Own Z β' (h++[.row 0 sz []])) w (.own h.length 0 0 0) (.slice a 0 0):=by
 have key:=R.push (X:=.row 0 sz []) (bd:=⟨none,0,0,sz⟩) (w':=w) rfl rfl rfl rfl (by intro v sz' es e;cases e;rfl) ah (aN _)
  (λb _=>rfl) (λ_=>⟨hsz,⟨none,0,0,sz⟩,ah,rfl,.inl ⟨rfl,rfl⟩⟩)
 let⟨k1,k2⟩:=key;exact⟨_,k1,k2,λa=>.own h.length 0 0 0 ⟨none,0,0,sz⟩ a 0 ah (.inl ⟨rfl,rfl⟩)⟩
def Rel.drawn{Z:az}{β:kW}{h:AH}{w:World}(R:Rel Z β h w)(n:Nat):Rel Z β h {w with drawn:=n}/\Fr Z β h w β h {w with drawn:=n}:=by
 have hst:lS (Own Z β h) w (Own Z β h) {w with drawn:=n}:=⟨aN _,λ_ _ e=>⟨rfl,e⟩⟩
 exact⟨⟨R.xlt,R.CG,R.fresh,R.later,λi X hX=>(R.blk i X hX).mono hst (λ_ _ _ e=>e) (λ_ _=>rfl),R.apart⟩,⟨λ_ _ _=>rfl,rfl,rfl,rfl,λ_ _ _ e=>e,hst⟩⟩
end Go.Am
