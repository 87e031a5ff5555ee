/- Part of the proof that TopTwoPartsCard holds. -/
import Derived.Test.YtghgbehknhmnaaaGreatDoorAmS
import Derived.Laws.AppendOwn
import Derived.Laws.CopyRow
import Derived.Laws.StructEq
import Derived.Laws.MakeOwn
set_option linter.all false
namespace Go.Am
theorem oy{a:AV}(h:a.jW=true):a.sw=true:=by cases a<;>simp_all[AV.jW,AV.sw]
inductive oF(O:az)(w:World):AV->Value->Prop where
 |bool (b:Bool):oF O w (.bool b) (.bool b)
 |int (k:IntKind) (n:Int):oF O w (.int k n) (.int k n)
 |str (s:ByteArray):oF O w (.str s.data.toList) (.string s)
 |mT:oF O w .mT (.pointer none)
 |nu:oF O w .nu (.map none)
 |mj:oF O w .mj .nilFunc
 |lU:oF O w .lU .nilIface
 |b9 (full:Bool) (es:List AV) (a:Option Addr) (c blk o sz:Nat) (f:Nat->Nat->Value)
   (hf:full=true->c=es.length) (hc:es.length<=c)
   (ha:es≠[]->a=some ⟨blk,o,none⟩/\¬O blk/\blk<w.heap.size)
   (hs:∀(i:Nat)(x:AV),es[i]? = some x->x.cells.length=sz/\0<sz)
   (h1:∀(i:Nat)(x:AV),es[i]? = some x->∀(j:Nat)(y:AV),x.cells[j]? = some y->w.cell? ⟨blk,o+i*sz+j,none⟩=some (f i j))
   (h3:∀(i:Nat)(x:AV),es[i]? = some x->∀(j:Nat)(y:AV),x.cells[j]? = some y->(f i j).oneCell'=true)
   (h2:∀(i:Nat)(x:AV),es[i]? = some x->∀(j:Nat)(y:AV),x.cells[j]? = some y->oF O w y (f i j)):oF O w (.b9 full es) (.slice a es.length c)
 |agg (cs:List AV) (vs:List Value) (hl:cs.length=vs.length) (h1:∀v∈vs,v.oneCell'=true)
   (h2:∀(j:Nat)(y:AV)(v:Value),cs[j]? = some y->vs[j]? = some v->oF O w y v):oF O w (.agg cs) (.agg vs.toArray)
structure Bd where
 cb:Option Nat
 base:Nat
 Wf:Nat
 sz:Nat
abbrev jO:=Nat->Nat->Option Bd
inductive VR(β:jO)(O:az)(w:World):AV->Value->Prop where
 |pure (a:AV) (v:Value) (h:oF O w a v):VR β O w a v
 |dead (v:Value):VR β O w .dead v
 |undef:VR β O w .undef Go.undef
 |ptr (b v i o:Nat) (bd:Bd) (c:Nat) (h1:β b v=some bd) (h2:bd.cb=some c):VR β O w (.ptr b v i o) (.pointer (some ⟨c,bd.base+i*bd.sz+o,none⟩))
 |iV (cs:List AV) (blk o:Nat) (f:Nat->Value) (hO:¬O blk) (hw:blk<w.heap.size)
   (h1:∀(j:Nat)(y:AV),cs[j]? = some y->w.cell? ⟨blk,o+j,none⟩=some (f j)) (h3:∀(j:Nat)(y:AV),cs[j]? = some y->(f j).oneCell'=true)
   (h2:∀(j:Nat)(y:AV),cs[j]? = some y->oF O w y (f j)):VR β O w (.iV cs) (.pointer (some ⟨blk,o,none⟩))
 |own (b v o n:Nat) (bd:Bd) (a:Option Addr) (c:Nat) (h1:β b v=some bd)
   (h2:(c=0/\n=0)\/∃cb,bd.cb=some cb/\a=some ⟨cb,bd.base+o*bd.sz,none⟩/\n<=c/\bd.base+(o+c)*bd.sz<=bd.Wf):VR β O w (.own b v o n) (.slice a n c)
 |agg (cs:List AV) (vs:List Value) (hl:cs.length=vs.length) (h1:∀v∈vs,v.oneCell'=true)
   (h2:∀(j:Nat)(y:AV)(v:Value),cs[j]? = some y->vs[j]? = some v->VR β O w y v):VR β O w (.agg cs) (.agg vs.toArray)
 |jg (cs:List AV) (vs:List Value) (hl:cs.length=vs.length)
   (h2:∀(j:Nat)(y:AV)(v:Value),cs[j]? = some y->vs[j]? = some v->VR β O w y v):VR β O w (.jg cs) (.tuple vs.toArray)
 |fn (f:Fn) (a c:List AV) (va vc:List Value) (hl:a.length=va.length) (hl':c.length=vc.length)
   (h1:∀(j:Nat)(y:AV)(v:Value),a[j]? = some y->va[j]? = some v->VR β O w y v) (h2:∀(j:Nat)(y:AV)(v:Value),c[j]? = some y->vc[j]? = some v->VR β O w y v) :
   VR β O w (.fn f a c) (.func f va.toArray vc.toArray)
 |sI (t:TypeId) (a:AV) (v:Value) (h:VR β O w a v):VR β O w (.sI t a) (.iface t v)
 |tT (b:Bool):VR β O w .tT (.bool b)
 |mb (b:Nat) (bd:Bd) (c:Nat) (h1:β b 0=some bd) (h2:bd.cb=some c):VR β O w (.mb b) (.map (some c))
def kC(O:az)(w:World)(h:az)(w':World):Prop :=
 w.heap.size<=w'.heap.size/\∀b,b<w.heap.size->¬O b->w'.heap[b]? = w.heap[b]?/\¬h b
variable{v:Value}{w':World}{O Z l:az}{β β':jO}{h h':AH}{n b i o:Nat}
def qu{w:World}{a:Addr}(h:w.cell? a=some v):a.block<w.heap.size:=by
 unfold World.cell? at h
 grind
theorem uv{w:World}(b:kC O w l w'){a:Addr}(i:¬O a.block)(h:a.block<w.heap.size):w'.cell? a=w.cell? a:=by
 unfold World.cell?;rw[(b.2 a.block h i).1]
def oF.mono{F:az}{w:World}(l:kC O w F w'){a:AV}(h:oF O w a v):oF F w' a v:=by
 induction h with
 |bool b=>exact .bool b
 |int k n=>exact .int k n
 |str s=>exact .str s
 |mT=>exact .mT
 |nu=>exact .nu
 |mj=>exact .mj
 |lU=>exact .lU
 |b9 full es a c blk o sz f K L E hs h1 h3 h2 z =>
  refine .b9 full es a c blk o sz f K L (λq=>?_) hs (λi x H j y G=>?_) h3 z
  .let⟨e1,A,r⟩:=E q;exact⟨e1,(l.2 blk r A).2,bu r l.1⟩
  .have q:es≠[]:=by grind
   let⟨_,A,r⟩:=E q;rw[uv l (a:=⟨blk,o+i*sz+j,none⟩) A r];exact h1 i x H j y G
 |agg cs vs hl h1 h2 z=>exact .agg cs vs hl h1 z
def VR.mono{H:az}{w:World}(q:∀i v bd,β i v=some bd->β' i v=some bd)(l:kC O w H w'){a:AV}(h:VR β O w a v):VR β' H w' a v:=by
 induction h with
 |pure a v h=>exact .pure a v (h.mono l)
 |dead v=>exact .dead v
 |undef=>exact .undef
 |ptr b v i o bd c h1 h2=>exact .ptr b v i o bd c (q _ _ _ h1) h2
 |iV cs blk o f G E h1 h3 h2 =>
  refine .iV cs blk o f (l.2 blk E G).2 (bu E l.1) (λj y A=>?_) h3 (λj y A=>(h2 j y A).mono l)
  rw[uv l (a:=⟨blk,o+j,none⟩) G E];exact h1 j y A
 |own b v o n bd a c h1 h2=>exact .own b v o n bd a c (q _ _ _ h1) h2
 |agg cs vs hl h1 h2 r=>exact .agg cs vs hl h1 r
 |jg cs vs hl h2 r=>exact .jg cs vs hl r
 |fn f a c L K hl F h1 h2 z x=>exact .fn f a c L K hl F z x
 |sI t a v h r=>exact .sI t a v r
 |tT b=>exact .tT b
 |mb b bd c h1 h2=>exact .mb b bd c (q _ _ _ h1) h2
theorem kC.refl(O:az)(w:World):kC O w O w:=⟨aV _,λ_ _ h=>⟨rfl,h⟩⟩
def kC.trans{o:az}{w i:World}(h:kC O w o w')(h':kC o w' l i):kC O w l i :=
 ⟨bJ h.1 h'.1,λb n q=>by
  let⟨e1,r⟩:=h.2 b n q;let⟨x,v⟩:=h'.2 b (bu n h.1) r
  grind⟩
def Aq(β:jO)(i:Nat)(X:AB)(c:Nat):Prop :=
 ∃bd,bd.cb=some c/\match X with
  | .var _=>β i 0=some bd
  | .row v _ _=>β i v=some bd
  | .mp _ _=>β i 0=some bd
  |_=>False
def owned(β:jO)(h:AH)(i c:Nat):Prop:=∃X,h[i]? = some X/\Aq β i X c
def Own(Z:az)(β:jO)(h:AH)(c:Nat):Prop:=Z c\/∃i,owned β h i c
def iO(O:az)(w:World)(f:Nat->Option Value)(sz:Nat)(es:List AV):Prop :=
 ∀(i:Nat)(x:AV),es[i]? = some x->x.cells.length=sz/\∀(j:Nat)(y:AV),x.cells[j]? = some y->∃v,f (i*sz+j)=some v/\v.oneCell'=true/\oF O w y v
def nX(O:az)(w:World)(cur:Array Value)(base sz:Nat)(es:List AV):Prop:=iO O w (λk=>cur[base+k]?) sz es
abbrev aga{C:Type}(K:C->Value->Prop)(β:jO)(O:az)(w:World)(i:Nat)(es:List (C×AV)):Prop :=
 ∃c arr clock,β i 0=some ⟨some c,0,0,0⟩/\w.heap[c]? = some (.map arr clock)/\arr.size=es.length/\
  ∀(j:Nat)(p:C×AV),es[j]? = some p->∃e:MapEntry,arr[j]? = some e/\K p.1 e.key/\VR β O w p.2 e.val
def oA(β:jO)(O:az)(w:World)(i:Nat):AB->Prop
 | .gone=>True
 | .var cs=>∃c cur elem,β i 0=some ⟨some c,0,cs.length,cs.length⟩/\w.heap[c]? = some (.cells cur elem (0,0))/\cur.size=cs.length/\
   ∀(j:Nat)(y:AV),cs[j]? = some y->∃v,cur[j]? = some v/\v.oneCell'=true/\VR β O w y v
 | .mp k es=>aga (λn v=>v = .int k n) β O w i es
 | .row v sz es=>0<sz/\∃bd,β i v=some bd/\bd.sz=sz/\((bd.cb=none/\es=[])\/
   ∃c cur elem,bd.cb=some c/\w.heap[c]? = some (.cells cur elem (0,0))/\cur.size=bd.Wf/\bd.base+es.length*sz<=bd.Wf/\nX O w cur bd.base sz es)
 | .me v sz es=>0<sz/\∃bd,β i v=some bd/\bd.sz=sz/\((bd.cb=none/\es=[])\/
   ∃c cur elem fr,bd.cb=some c/\¬O c/\w.heap[c]? = some (.cells cur elem fr)/\cur.size=bd.Wf/\bd.base+es.length*sz<=bd.Wf/\nX O w cur bd.base sz es)
def Gl(O:az)(w:World):Prop:=∀p∈G0,¬O p.1/\w.cell? ⟨p.1,0,none⟩=some p.2
def Gl.stay{i:az}{w:World}(h:Gl O w)(st:kC O w i w'):Gl i w':=λp l=>by
 let⟨h1,h2⟩:=h p l;have b:=qu h2;exact⟨(st.2 _ b h1).2,by rw[uv st h1 b];exact h2⟩
structure Rel(Z:az)(β:jO)(h:AH)(w:World):Prop where
 xlt:∀c,Z c->c<w.heap.size
 BV:∀i c,owned β h i c->¬Z c
 fresh:∀i v,h.length<=i->β i v=none
 later:∀(i v sz:Nat)(es:List AV)(v':Nat),h[i]? = some (.row v sz es)->v<v'->β i v'=none
 blk:∀(i:Nat)(b:AB),h[i]? = some b->oA β (Own Z β h) w i b
 apart:∀i j c,owned β h i c->owned β h j c->i=j
 gl:Gl (Own Z β h) w
structure Fr(Z:az)(β:jO)(h:AH)(w:World)(β':jO)(h':AH)(w':World):Prop where
 lF:∀b,b<w.heap.size->Z b->w'.heap[b]? = w.heap[b]?
 os:w'.os=w.os
 tape:w'.tape=w.tape
 output:w'.output=w.output
 ext:∀i v bd,β i v=some bd->β' i v=some bd
 stay:kC (Own Z β h) w (Own Z β' h') w'
theorem Fr.refl(Z:az)(β:jO)(h:AH)(w:World):Fr Z β h w β h w:=⟨λ_ _ _=>rfl,rfl,rfl,rfl,λ_ _ _ e=>e,kC.refl _ _⟩
def Fr.trans{β'':jO}{n:AH}{w l:World}(a:Fr Z β h w β' h' w')(b:Fr Z β' h' w' β'' n l):Fr Z β h w β'' n l :=
 ⟨λk hk o=>(b.lF k (bu hk a.stay.1) o).trans (a.lF k hk o),b.os.trans a.os,b.tape.trans a.tape,b.output.trans a.output,λi v bd e=>b.ext i v bd (a.ext i v bd e),a.stay.trans b.stay⟩
def VR.fr{w:World}(f:Fr Z β h w β' h' w'){a:AV}(b:VR β (Own Z β h) w a v):VR β' (Own Z β' h') w' a v:=b.mono f.ext f.stay
def kC.drew{b:az}{w:World}(h:kC O w b w'):kC O {w with drawn:=n} b w':=h
def jt(Z:az)(β:jO)(h:AH)(w:World)(e:Env)(a:Act)(n:Nat):Prop :=
 a.tmps.size=n/\∀t,VR β (Own Z β h) w (e t) (a.tmps.getD t Go.undef)
def jt.fr{w:World}{e:Env}{a:Act}(E:jt Z β h w e a n)(f:Fr Z β h w β' h' w'):jt Z β' h' w' e a n :=
 ⟨E.1,λt=>(E.2 t).fr f⟩
theorem jt.put{w:World}{e:Env}{a:Act}(E:jt Z β h w e a n){d:Nat}(o:d<n){i:AV}(l:VR β (Own Z β h) w i v):
  jt Z β h w (e.put d i) (a.put (some d) v) n:=by
 refine⟨by simp[Act.put,E.1],λt=>?_⟩
 simp only[Env.put,Act.put]
 by_cases b:t=d
 .subst b;have:t<a.tmps.size:=by rw[E.1];exact o
  simp[this,l]
 .have h2:d≠t:=λe=>b e.symm
  have:=E.2 t
  simp_all
section inv
variable{Z:az}{β:jO}{O:az}{w:World}
def VR.mY{b:Bool}(h:VR β O w (.bool b) v):v = .bool b:=by
 cases h with | pure _ _ h=>cases h;rfl
def VR.kE{k:IntKind}{n:Int}(h:VR β O w (.int k n) v):v = .int k n:=by
 cases h with | pure _ _ h=>cases h;rfl
def VR.oD{s:au}(h:VR β O w (.str s) v):∃b:ByteArray,v = .string b/\b.data.toList=s:=by
 cases h with | pure _ _ h=>cases h with | str b=>exact⟨b,rfl,rfl⟩
def VR.wY(h:VR β O w .undef v):v=Go.undef:=by
 cases h with
 |pure _ _ h=>cases h
 |undef=>rfl
def VR.nW{cs:List AV}(h:VR β O w (.agg cs) v):∃vs:List Value,v = .agg vs.toArray/\cs.length=vs.length/\(∀u∈vs,u.oneCell'=true)/\∀(j:Nat)(y:AV)(u:Value),cs[j]? = some y->vs[j]? = some u->VR β O w y u:=by
 cases h with
 |pure _ _ h=>cases h with | agg _ vs hl h1 h2=>exact⟨vs,rfl,hl,h1,λj y u b i=>.pure _ _ (h2 j y u b i)⟩
 |agg _ vs hl h1 h2=>grind
def VR.Dr{cs:List AV}(h:VR β O w (.jg cs) v):∃vs:List Value,v = .tuple vs.toArray/\cs.length=vs.length/\∀(j:Nat)(y:AV)(u:Value),cs[j]? = some y->vs[j]? = some u->VR β O w y u:=by
 cases h with
 |pure _ _ h=>cases h
 |jg _ vs hl h2=>grind
def VR.kY{l:Nat}(h:VR β O w (.ptr b l i o) v):∃bd c,β b l=some bd/\bd.cb=some c/\v = .pointer (some ⟨c,bd.base+i*bd.sz+o,none⟩):=by
 cases h with
 |pure _ _ h=>cases h
 |ptr _ _ _ _ bd c h1 h2=>grind
def VR.zC(h:VR β O w (.mb b) v):∃bd c,β b 0=some bd/\bd.cb=some c/\v = .map (some c):=by
 cases h with
 |pure _ _ h=>cases h
 |mb _ bd c h1 h2=>grind
def VR.kZ(h:VR β O w (.own b i o n) v):∃bd a c,β b i=some bd/\v = .slice a n c/\
  ((c=0/\n=0)\/∃cb,bd.cb=some cb/\a=some ⟨cb,bd.base+o*bd.sz,none⟩/\n<=c/\bd.base+(o+c)*bd.sz<=bd.Wf):=by
 cases h with
 |pure _ _ h=>cases h
 |own _ _ _ _ bd a c h1 h2=>grind
def VR.mK{f:Bool}{es:List AV}(h:VR β O w (.b9 f es) v):oF O w (.b9 f es) v:=by
 cases h with | pure _ _ h=>exact h
def VR.sw{a:AV}(h:VR β O w a v)(b:a.sw=true):v.oneCell'=true:=by
 cases h with
 |pure _ _ h=>cases h<;>first | rfl | (simp[AV.sw]at b;done)
 |dead=>simp[AV.sw]at b
 |undef=>simp[AV.sw]at b
 |ptr=>rfl
 |iV=>rfl
 |own=>rfl
 |agg=>simp[AV.sw]at b
 |jg=>simp[AV.sw]at b
 |fn=>rfl
 |sI=>rfl
 |tT=>rfl
 |mb=>rfl
def cells_one(h:v.oneCell'=true):v.cells = #[v]:=by cases v<;>first | rfl | (simp[Value.oneCell']at h;done)
def VR.cells{a:AV}(h:VR β O w a v)(l:a.cells.all AV.sw=true):
  ∃vs:List Value,v.cells=vs.toArray/\a.cells.length=vs.length/\(∀u∈vs,u.oneCell'=true)/\∀(j:Nat)(y:AV)(u:Value),a.cells[j]? = some y->vs[j]? = some u->VR β O w y u:=by
 by_cases b:∃cs,a = .agg cs
 .obtain⟨cs,rfl⟩:=b;obtain⟨vs,rfl,hl,h1,h2⟩:=h.nW;exact⟨vs,rfl,hl,h1,h2⟩
 .have n:a.cells=[a]:=by cases a<;>first | rfl | (exact absurd ⟨_,rfl⟩ b)
  rw[n]at l⊢;have i:v.oneCell'=true:=h.sw (an l)
  refine⟨[v],cells_one i,rfl,an i,λj y u o q=>?_⟩
  grind
def VR.Fm{a:AV}(h:VR β O w a v)(b:a.jW=true):oF O w a v:=by
 cases h with
 |pure _ _ h=>exact h
 |_=>simp[AV.jW]at b
def VR.Cv{a:AV}(h:VR β O w a v)(b:a.j8=true):oF O w a v:=by
 cases h with
 |pure _ _ h=>exact h
 |agg cs vs hl h1 h2 =>
  refine .agg cs vs hl h1 λj y u i l=>(h2 j y u i l).Fm ?_
  have:∀y∈cs,y.jW=true:=by simpa[AV.j8]using b
  grind
 |_=>simp[AV.j8,AV.jW]at b
end inv
variable{β β':jO}{Z O H:az}{h:AH}{w':World}{X:AB}
def nX.mono{l:az}{w:World}(b:kC O w l w'){cur:Array Value}{base sz:Nat}{es:List AV}(h:nX O w cur base sz es):nX l w' cur base sz es:=by
 intro i x o;let⟨h1,h2⟩:=h i x o;refine⟨h1,λj y n=>?_⟩
 let⟨v,e1,r,q⟩:=h2 j y n;exact⟨v,e1,r,q.mono b⟩
def oA.mono{w:World}(l:kC O w H w')(b:∀i v bd,β i v=some bd->β' i v=some bd){i:Nat}
  (z:∀c,Aq β i X c->w'.heap[c]? = w.heap[c]?) (h:oA β O w i X):oA β' H w' i X:=by
 cases X with
 |gone=>trivial
 |var cs =>
  let⟨c,cur,elem,e1,x,n,F⟩:=h;refine⟨c,cur,elem,b _ _ _ e1,(z c ⟨_,rfl,e1⟩).trans x,n,λj y K=>?_⟩
  let⟨v,r,q,o⟩:=F j y K;exact⟨v,r,q,o.mono b l⟩
 |mp k es =>
  let⟨c,arr,clock,e1,x,n,F⟩:=h;refine⟨c,arr,clock,b _ _ _ e1,(z c ⟨_,rfl,e1⟩).trans x,n,λj p L=>?_⟩
  let⟨e,r,q,o⟩:=F j p L;exact⟨e,r,q,o.mono b l⟩
 |row v sz es =>
  let⟨h0,bd,e1,x,n⟩:=h;refine⟨h0,bd,b _ _ _ e1,x,?_⟩
  rcases n with n | ⟨c,cur,elem,r,q,o,E,A⟩
  .exact .inl n
  .exact .inr ⟨c,cur,elem,r,(z c ⟨bd,r,e1⟩).trans q,o,E,A.mono l⟩
 |me v sz es =>
  let⟨h0,bd,e1,x,n⟩:=h;refine⟨h0,bd,b _ _ _ e1,x,?_⟩
  rcases n with n | ⟨c,cur,elem,fr,r,q,o,E,A,M⟩
  .exact .inl n
  .have G:c<w.heap.size:=(aW.1 o).1;exact .inr ⟨c,cur,elem,fr,r,(l.2 c G q).2,(l.2 c G q).1.trans o,E,A,M.mono l⟩
def Rel.ox{w:World}(R:Rel Z β h w){i c:Nat}(x:owned β h i c):c<w.heap.size:=by
 let⟨X,y,bd,l,b⟩:=x;have o:=R.blk i X y;cases X with
 |gone=>exact b.elim
 |var cs =>
  let⟨r,cur,elem,e1,n,_⟩:=o;simp only at b;rw[e1]at b;cases b;simp at l;subst l;exact(aW.1 n).1
 |mp k es =>
  let⟨r,arr,clock,e1,n,_⟩:=o;simp only at b;rw[e1]at b;cases b;simp at l;subst l;exact(aW.1 n).1
 |row v sz es =>
  let⟨_,E,e1,n,q⟩:=o;simp only at b;rw[e1]at b;cases b
  rcases q with⟨q,_⟩ | ⟨r,cur,elem,A,z,_⟩
  .rw[q]at l;cases l
  .rw[A]at l;cases l;exact(aW.1 z).1
 |me v sz es=>exact b.elim
def Rel.turn{h':AH}{w:World}(R:Rel H β h w){i:Nat}(P:∀c,Z c->H c)(hl:h.length<=h'.length)(S:h'[i]? = some X)(W:∀j,j≠i->h'[j]? = h[j]?)
  (z:∀j v,j≠i->β' j v=β j v) (L:∀v bd,β i v=some bd->β' i v=some bd)
  (E:∀v sz es v',X = .row v sz es->v<v'->β' i v'=none)
  (M:∀c,Aq β' i X c->owned β h i c\/w.heap.size<=c\/H c/\¬Z c)
  (x:w.heap.size<=w'.heap.size) (y:∀b,b<w.heap.size->¬owned β h i b->w'.heap[b]? = w.heap[b]?)
  (N:kC (Own H β h) w (Own Z β' h') w'->oA β' (Own Z β' h') w' i X) :
  Rel Z β' h' w'/\kC (Own H β h) w (Own Z β' h') w'/\∀j v bd,β j v=some bd->β' j v=some bd:=by
 have F:∀j v bd,β j v=some bd->β' j v=some bd:=by
  intro j v bd e
  by_cases n:j=i
  .subst n;exact L v bd e
  .rw[z j v n];exact e
 have o:∀j c,j≠i->(owned β' h' j c↔owned β h j c):=by
  intro j c n;unfold owned Aq;simp only[W j n,z j _ n]
 have r:∀c,owned β' h' i c->owned β h i c\/w.heap.size<=c\/H c/\¬Z c:=by
  rintro c ⟨X',hX,hb⟩
  rw[S]at hX;cases hX;exact M c hb
 have A:kC (Own H β h) w (Own Z β' h') w':=by
  refine⟨x,λb hb Q=>⟨y b hb λU=>Q (.inr ⟨i,U⟩),?_⟩⟩
  rintro(K | ⟨j,n⟩)
  .exact Q (.inl (P b K))
  by_cases l:j=i
  .subst l
   rcases r b n with h1 | h1 | h1
   .exact Q (.inr ⟨j,h1⟩)
   .omega
   .exact Q (.inl h1.1)
  .exact Q (.inr ⟨j,(o j b l).1 n⟩)
 have O:∀k c,k≠i->owned β' h' i c->¬owned β' h' k c:=λk c q n hk=>by
  have G:=(o k c q).1 hk
  rcases r c n with h1 | h1 | h1
  .exact q (R.apart k i c G h1)
  .have:=R.ox G;omega
  .exact R.BV k c G h1.1
 refine⟨⟨λc T=>bu (R.xlt c (P c T)) x,λj c n K=>?_,λj v n=>?_,λj v sz es v' n hv=>?_,λj Y n=>?_,λj k c n hk=>?_,R.gl.stay A⟩,A,F⟩
 .by_cases l : j = i
  .subst l
   rcases r c n with h1 | h1 | h1
   .exact R.BV j c h1 (P c K)
   .have:=R.xlt c (P c K);omega
   .exact h1.2 K
  .exact R.BV j c ((o j c l).1 n) (P c K)
 .have:=(aD.1 S).1;rw[z j v af]
  exact R.fresh j v af
 .by_cases l:j=i
  .subst l;rw[S]at n;cases n;exact E v sz es v' rfl hv
  .rw[W j l]at n;rw[z j v' l];exact R.later j v sz es v' n hv
 .by_cases l:j=i
  .subst l;rw[S]at n;cases n;exact N A
  .rw[W j l]at n;exact(R.blk j Y n).mono A F λc T=>y c (R.ox ⟨Y,n,T⟩) λU=>l (R.apart j i c ⟨Y,n,T⟩ U)
 .by_cases l : j = i
  .by_cases q:k=i
   .rw[l,q]
   .subst l;exact absurd hk (O k c q n)
  .by_cases q:k=i
   .subst q;exact absurd n (O j c l hk)
   .exact R.apart j k c ((o j c l).1 n) ((o k c q).1 hk)
def Rel.PZ{w:World}(R:Rel Z β h w){i:Nat}{X':AB}(M:i<h.length)
  (E:w'.os=w.os) (o:w'.tape=w.tape) (y:w'.output=w.output)
  (A:∀j v,j≠i->β' j v=β j v) (r:∀v bd,β i v=some bd->β' i v=some bd)
  (n:∀v sz es v',X' = .row v sz es->v<v'->β' i v'=none)
  (x:∀c,Aq β' i X' c->owned β h i c\/w.heap.size<=c)
  (q:w.heap.size<=w'.heap.size) (l:∀b,b<w.heap.size->¬owned β h i b->w'.heap[b]? = w.heap[b]?)
  (z:kC (Own Z β h) w (Own Z β' (h.set i X')) w'->oA β' (Own Z β' (h.set i X')) w' i X') :
  Rel Z β' (h.set i X') w'/\Fr Z β h w β' (h.set i X') w':=by
 let⟨q1,G,F⟩:=R.turn (λ_=>id) ai (by simp[M]) (λj L=>aI (Ne.symm L)) A r n (λc N=>(x c N).imp id .inl) q l z
 exact⟨q1,λb O H=>l b O λK=>R.BV i b K H,E,o,y,F,G⟩
def Rel.SZ{q:az}{w:World}(R:Rel q β h w)(F:∀c,Z c->q c){bd:Bd}
  (r:β'=λi v=>if i=h.length/\v=0 then some bd else β i v)
  (E:∀v sz es,X = .row v sz es->v=0)
  (x:∀c,bd.cb=some c->w.heap.size<=c\/q c/\¬Z c)
  (l:w.heap.size<=w'.heap.size) (n:∀b,b<w.heap.size->w'.heap[b]? = w.heap[b]?)
  (o:kC (Own q β h) w (Own Z β' (h++[X])) w'->oA β' (Own Z β' (h++[X])) w' h.length X) :
  Rel Z β' (h++[X]) w'/\kC (Own q β h) w (Own Z β' (h++[X])) w'/\∀j v bd,β j v=some bd->β' j v=some bd:=by
 subst r;have A:=λv=>R.fresh _ v (aV _)
 refine R.turn F ai (i:=h.length) ai (λj z=>by grind) (λj v z=>if_neg λe=>z e.1) (λv bd e=>by rw[A]at e;cases e) (λv sz es v' e H=>(if_neg (by have:=E v sz es e;omega)).trans (A v')) (λc ⟨G,K,y⟩=>.inr (x c ?_)) l (λb y _=>n b y) o
 cases X with
 |gone | me=>exact y.elim
 |row v sz es =>
  obtain rfl:=E v sz es rfl
  grind
 |_=>grind
def Rel.push{w:World}(R:Rel Z β h w){bd:Bd}
  (y:w'.os=w.os) (n:w'.tape=w.tape) (q:w'.output=w.output)
  (x:β'=λi v=>if i=h.length/\v=0 then some bd else β i v)
  (G:∀v sz es,X = .row v sz es->v=0)
  (z:∀c,bd.cb=some c->w.heap.size<=c)
  (o:w.heap.size<=w'.heap.size) (l:∀b,b<w.heap.size->w'.heap[b]? = w.heap[b]?)
  (r:kC (Own Z β h) w (Own Z β' (h++[X])) w'->oA β' (Own Z β' (h++[X])) w' h.length X) :
  Rel Z β' (h++[X]) w'/\Fr Z β h w β' (h++[X]) w':=by
 let⟨q1,E,A⟩:=R.SZ (λ_=>id) x G (λc e=>.inl (z c e)) o l r
 exact⟨q1,λb F _=>l b F,y,n,q,A,E⟩
def Rel.Fl{w:World}(R:Rel Z β h w)(elem:TypeId)(cs:List AV)(vs:List Value)(hl:cs.length=vs.length)
  (h1:∀u∈vs,u.oneCell'=true) (h2:∀(j:Nat)(y:AV)(u:Value),cs[j]? = some y->vs[j]? = some u->VR β (Own Z β h) w y u) :
  ∃β',Rel Z β' (h++[.var cs]) (w.alloc (.cells vs.toArray elem))/\Fr Z β h w β' (h++[.var cs]) (w.alloc (.cells vs.toArray elem))/\
   VR β' (Own Z β' (h++[.var cs])) (w.alloc (.cells vs.toArray elem)) (.ptr h.length 0 0 0) (.pointer (some ⟨w.heap.size,0,none⟩)):=by
 have key:=R.push (X:=.var cs) (bd:=⟨some w.heap.size,0,cs.length,cs.length⟩) (w':=w.alloc (.cells vs.toArray elem)) rfl rfl rfl rfl ai ai ai
  (λb x=>heap_alloc_old w _ b x) (λl=>⟨w.heap.size,vs.toArray,elem,ai,heap_alloc_new w _,by simp[hl],λj y o=>?_⟩)
 .let⟨r,q⟩:=key;refine⟨_,r,q,?_⟩
  have:=VR.ptr (β:=λi v=>if i=h.length/\v=0 then some ⟨some w.heap.size,0,cs.length,cs.length⟩else β i v)
   (O:=Own Z (λi v=>if i=h.length/\v=0 then some ⟨some w.heap.size,0,cs.length,cs.length⟩else β i v) (h++[.var cs])) (w:=w.alloc (.cells vs.toArray elem))
   h.length 0 0 0 ⟨some w.heap.size,0,cs.length,cs.length⟩ w.heap.size ai rfl
  simpa using this
 .have n:j<vs.length:=by rw[<-hl];exact(aD.1 o).1
  refine⟨vs[j],by simp[n],h1 _ (aP n),?_⟩
  refine(h2 j y vs[j] o (by simp[n])).mono ?_ l
  intro i v z e;rw[if_neg]
  .exact e
  .rintro⟨rfl,_⟩
   rw[R.fresh _ v (aV _)]at e;cases e
def Rel.Ah{w:World}(R:Rel Z β h w)(sz:Nat)(x:0<sz)(es:List AV)(cur:Array Value)(elem:TypeId)
  (z:w'.os=w.os) (i:w'.tape=w.tape) (l:w'.output=w.output) (A:w'.heap=w.heap.push (.cells cur elem (0,0)))
  (r:es.length*sz<=cur.size) (K:nX (Own Z β h) w cur 0 sz es) :
  ∃β',Rel Z β' (h++[.row 0 sz es]) w'/\Fr Z β h w β' (h++[.row 0 sz es]) w'/\
   ∀n c,n<=c->c*sz<=cur.size->VR β' (Own Z β' (h++[.row 0 sz es])) w' (.own h.length 0 0 n) (.slice (some ⟨w.heap.size,0,none⟩) n c):=by
 have o:∀b,b<w.heap.size->w'.heap[b]? = w.heap[b]? := λb M=>by rw[A,dS,if_neg af]
 have q:w'.heap[w.heap.size]? = some (.cells cur elem (0,0)):=by rw[A];simp
 have key:=R.push (X:=.row 0 sz es) (bd:=⟨some w.heap.size,0,cur.size,sz⟩) (w':=w') z i l rfl (by intro v E es e;cases e;rfl) ai (by rw[A];simp)
  o (λy=>⟨x,⟨some w.heap.size,0,cur.size,sz⟩,ai,rfl,.inr ⟨w.heap.size,cur,elem,rfl,q,rfl,an r,K.mono y⟩⟩)
 let⟨G,F⟩:=key;refine⟨_,G,F,λn c H L=>?_⟩
 refine .own h.length 0 0 n ⟨some w.heap.size,0,cur.size,sz⟩ _ c ai (.inr ⟨w.heap.size,rfl,ai,H,an L⟩)
def Rel.uf{w:World}(R:Rel Z β h w)(sz:Nat)(i:0<sz):
  ∃β',Rel Z β' (h++[.row 0 sz []]) w/\Fr Z β h w β' (h++[.row 0 sz []]) w/\
   ∀a,VR β' (Own Z β' (h++[.row 0 sz []])) w (.own h.length 0 0 0) (.slice a 0 0):=by
 have key:=R.push (X:=.row 0 sz []) (bd:=⟨none,0,0,sz⟩) (w':=w) rfl rfl rfl rfl (by intro v l es e;cases e;rfl) ai (aV _)
  (λb _=>rfl) (λ_=>⟨i,⟨none,0,0,sz⟩,ai,rfl,.inl ⟨rfl,rfl⟩⟩)
 let⟨o,n⟩:=key;exact⟨_,o,n,λa=>.own h.length 0 0 0 ⟨none,0,0,sz⟩ a 0 ai (.inl ⟨rfl,rfl⟩)⟩
def Rel.drawn{Z:az}{β:jO}{h:AH}{w:World}(R:Rel Z β h w)(n:Nat):Rel Z β h {w with drawn:=n}/\Fr Z β h w β h {w with drawn:=n}:=by
 have b:kC (Own Z β h) w (Own Z β h) {w with drawn:=n}:=⟨aV _,λ_ _ e=>⟨rfl,e⟩⟩
 exact⟨⟨R.xlt,R.BV,R.fresh,R.later,λi X l=>(R.blk i X l).mono b (λ_ _ _ e=>e) (λ_ _=>rfl),R.apart,R.gl.stay b⟩,⟨λ_ _ _=>rfl,rfl,rfl,rfl,λ_ _ _ e=>e,b⟩⟩
variable{O:az}{sz:Nat}{es:List AV}
def iO.mono{l:az}{w w':World}(b:kC O w l w'){f:Nat->Option Value}(h:iO O w f sz es):iO l w' f sz es:=by
 intro i x o;let⟨h1,h2⟩:=h i x o;refine⟨h1,λj y n=>?_⟩
 let⟨v,e1,r,q⟩:=h2 j y n;exact⟨v,e1,r,q.mono b⟩
def iO.congr{w:World}{f g:Nat->Option Value}(h:iO O w f sz es)(b:∀k,k<es.length*sz->f k=g k):iO O w g sz es:=by
 intro i x n;let⟨h1,h2⟩:=h i x n;refine⟨h1,λj y l=>?_⟩
 let⟨v,e1,q,o⟩:=h2 j y l;refine⟨v,?_,q,o⟩;rw[<-b]
 .exact e1
 .have z:i<es.length:=(aD.1 n).1;have r:j<sz:=by rw[<-h1];exact(aD.1 l).1
  calc i*sz+j<i*sz+sz:=by omega
   _=(i+1)*sz:=by rw[bT];omega
   _<=es.length*sz:=br _ af
def iO.list{w:World}{f:Nat->Option Value}(h:iO O w f sz es):
  ∃vs:List Value,vs.length=es.length*sz/\(∀(k:Nat)(u:Value),vs[k]? = some u->f k=some u)/\(∀u∈vs,u.oneCell'=true)/\iO O w (λk=>vs[k]?) sz es:=by
 have hk:∀k,k<es.length*sz->∃u,f k=some u/\u.oneCell'=true:=by
  intro k hk;have l:0<sz:=Nat.pos_of_ne_zero λh0=>by subst h0;omega
  have r:k / sz<es.length:=ia (by rw[eE];exact hk)
  let⟨h1,h2⟩:=h (k / sz) es[k / sz] (by simp[r])
  have q:k%sz<es[k / sz].cells.length:=by rw[h1];exact fM _ l
  let⟨v,e1,o,_⟩:=h2 (k%sz) (es[k / sz].cells[k%sz]) (by simp[q])
  refine⟨v,?_,o⟩;rw[<-e1,eE,Nat.div_add_mod]
 have hl:((List.range (es.length*sz)).map λk=>(f k).getD Go.undef).length=es.length*sz:=ai
 refine⟨(List.range (es.length*sz)).map λk=>(f k).getD Go.undef,hl,?_,?_,?_⟩
 .intro k u i;have b:k<es.length*sz:=by rw[<-hl];exact(aD.1 i).1
  let⟨v,e1,_⟩:=hk k b;simp[b,e1]at i;rw[e1,i]
 .intro u i;obtain⟨k,n,rfl⟩:=cQ.1 i;let⟨v,e1,o⟩:=hk k (an n)
  simp[e1,o]
 .refine h.congr λk b=>?_
  let⟨v,e1,_⟩:=hk k b;simp[b,e1]
def iO.nil{w:World}{f:Nat->Option Value}:iO O w f sz []:=by
 intro i x b;simp at b
def iO.append{w:World}{f:Nat->Option Value}{es':List AV}(h:iO O w f sz es)(h':iO O w (λk=>f (es.length*sz+k)) sz es'):iO O w f sz (es++es'):=by
 intro i x b
 by_cases n:i<es.length
 .rw[aJ n]at b;exact h i x b
 .rw[aQ af]at b
  let⟨h1,h2⟩:=h' (i-es.length) x b;refine⟨h1,λj y l=>?_⟩
  let⟨v,e1,q,o⟩:=h2 j y l;refine⟨v,?_,q,o⟩;rw[<-e1]
  congr 1
  have:i=es.length+(i-es.length):=af
  conv=>lhs;rw[this,bT]
  omega
def iO.drop{w:World}{f:Nat->Option Value}(h:iO O w f sz es)(o:Nat):iO O w (λk=>f (o*sz+k)) sz (es.drop o):=by
 intro i x b;rw[bX]at b;let⟨h1,h2⟩:=h (o+i) x b;refine⟨h1,λj y l=>?_⟩
 let⟨v,e1,r,q⟩:=h2 j y l;have n:o*sz+(i*sz+j)=(o+i)*sz+j:=by rw[bT];omega
 exact⟨v,by rw[<-e1,<-n],r,q⟩
def iO.take{w:World}{f:Nat->Option Value}(h:iO O w f sz es)(n:Nat):iO O w f sz (es.take n):=by
 intro i x b;rw[dg]at b;split at b
 .exact h i x b
 .cases b
def iO.jw{w:World}{f:Nat->Option Value}{b:Nat}(h:iO O w f sz es)(hs:jw b es=true):iO O w f b es:=by
 by_cases i:es=[]
 .subst i;exact .nil
 .have:b=sz:=by
   obtain⟨x,l,rfl⟩:=eU i;have h1:=(h 0 x rfl).1;simp only[Am.jw,bV,aF,beq_iff_eq]at hs;exact hs.1.symm.trans h1
  subst this;exact h
section reads
variable{Z:az}{β:jO}{h:AH}{w:World}
def y9(R:Rel Z β h w){a:AV}{cs:List AV}(l:jc h a=some cs){v:Value}(K:VR β (Own Z β h) w a v):
  ∃blk o,v = .pointer (some ⟨blk,o,none⟩)/\∀(j:Nat)(y:AV),cs[j]? = some y->∃u,w.cell? ⟨blk,o+j,none⟩=some u/\u.oneCell'=true/\VR β (Own Z β h) w y u:=by
 cases a with
 |iV cs' =>
  simp only[jc,bn]at l;subst l;cases K with
  |pure _ _ K=>cases K
  |iV _ blk o f hO hw h1 h3 h2=>exact⟨blk,o,rfl,λj y n=>⟨f j,h1 j y n,h3 j y n,.pure _ _ (h2 j y n)⟩⟩
 |ptr b vv i o =>
  obtain⟨bd,c,Q,q,rfl⟩:=K.kY;simp only[jc]at l;split at l
  .rename_i cs0 P;split at l
   .rename_i E;obtain⟨rfl,rfl,W⟩:=E;cases l;let⟨X,cur,elem,e1,H,r,e4⟩:=R.blk b _ P;rw[Q]at e1;cases e1;cases q;refine⟨c,o,ai,λj y n=>?_⟩
    rw[bX]at n;let⟨u,F,G,T⟩:=e4 (o+j) y n;exact⟨u,by rw[cell_of_row w c (o+j) cur elem (0,0) H];exact F,G,T⟩
   .cases l
  .rename_i v' sz es A;split at l
   .rename_i z;subst z;simp only[aG]at l;let⟨x,O,l⟩:=l;split at l
    .rename_i W;cases l;let⟨_,U,e1,H,r⟩:=R.blk b _ A;rw[Q]at e1;cases e1
     rcases r with⟨r,_⟩ | ⟨X,cur,elem,F,G,T,Y,S⟩
     .rw[q]at r;cases r
     .rw[q]at F;cases F;refine⟨c,_,rfl,λj y n=>?_⟩
      rw[bX]at n;let⟨u,N,M,L⟩:=(S i x O).2 (o+j) y n;refine⟨u,?_,M,.pure _ _ L⟩;rw[cell_of_row w c _ cur elem (0,0) G,<-N,H]
      congr 1;omega
    .cases l
   .cases l
  .rename_i v' sz es A;split at l
   .rename_i z;subst z;simp only[aG]at l;let⟨x,O,l⟩:=l;split at l
    .rename_i W;cases l;let⟨_,U,e1,H,r⟩:=R.blk b _ A;rw[Q]at e1;cases e1
     rcases r with⟨r,_⟩ | ⟨X,cur,elem,fr,F,_,G,T,Y,S⟩
     .rw[q]at r;cases r
     .rw[q]at F;cases F;refine⟨c,_,rfl,λj y n=>?_⟩
      rw[bX]at n;let⟨u,N,M,L⟩:=(S i x O).2 (o+j) y n;refine⟨u,?_,M,.pure _ _ L⟩;rw[cell_of_row w c _ cur elem fr G,<-N,H]
      congr 1;omega
    .cases l
   .cases l
  .cases l
 |_=>simp[jc]at l
theorem rL{cur:Array Value}{elem:TypeId}{fr:Nat×Nat}{cb base o n:Nat}(i:w.heap[cb]? = some (.cells cur elem fr))(b:nX O w cur base sz es):
  iO O w (λk=>w.cell? ⟨cb,base+o*sz+k,none⟩) sz ((es.drop o).take n):=by
 refine((iO.drop b o).take n).congr λk _=>?_
 rw[cell_of_row w cb _ cur elem fr i]
 congr 1
 omega
def lz(R:Rel Z β h w){a:AV}(r:elems h a=some es){v:Value}(W:VR β (Own Z β h) w a v):
  ∃ad c,v = .slice ad es.length c/\es.length<=c/\(es≠[]->∃blk o sz,0<sz/\ad=some ⟨blk,o,none⟩/\iO (Own Z β h) w (λk=>w.cell? ⟨blk,o+k,none⟩) sz es):=by
 cases a with
 |b9 full es' =>
  simp only[elems,bn]at r;subst r;cases W.mK with
  |b9 _ _ ad c blk o sz f hf r ha hs h1 h3 h2 =>
   refine⟨ad,c,rfl,r,λH=>?_⟩
   let⟨x,l,P⟩:=eU H;refine⟨blk,o,sz,(hs 0 x (by rw[P];rfl)).2,(ha H).1,λi x L=>⟨(hs i x L).1,λj y O=>⟨f i j,?_,h3 i x L j y O,h2 i x L j y O⟩⟩⟩
   rw[<-h1 i x L j y O,cw]
 |own b vv o n =>
  obtain⟨bd,ad,c,X,rfl,h2⟩:=W.kZ;simp only[elems]at r;split at r
  .rename_i v' sz es' F;split at r
   .rename_i q;obtain⟨rfl,hn⟩:=q;cases r;have z:((es'.drop o).take n).length=n:=by simp;omega
    rw[z];let⟨E,U,e1,T,A⟩:=R.blk b _ F;rw[X]at e1;cases e1
    rcases h2 with⟨h2,G⟩ | ⟨cb,q1,N,M,Y⟩
    .subst G;exact⟨ad,c,rfl,af,ai⟩
    .refine⟨ad,c,rfl,M,λ_=>?_⟩
     rcases A with⟨A,_⟩ | ⟨c',cur,elem,K,S,g3,g4,Q⟩
     .rw[q1]at A;cases A
     .rw[q1]at K;cases K;subst T;exact⟨cb,_,_,E,N,rL S Q⟩
   .cases r
  .rename_i v' sz es' F;split at r
   .rename_i q;obtain⟨rfl,hn⟩:=q;cases r;have z:((es'.drop o).take n).length=n:=by simp;omega
    rw[z];let⟨E,U,e1,T,A⟩:=R.blk b _ F;rw[X]at e1;cases e1
    rcases h2 with⟨h2,G⟩ | ⟨cb,q1,N,M,Y⟩
    .subst G;exact⟨ad,c,rfl,af,ai⟩
    .refine⟨ad,c,rfl,M,λ_=>?_⟩
     rcases A with⟨A,_⟩ | ⟨c',cur,elem,fr,K,_,S,g3,g4,Q⟩
     .rw[q1]at A;cases A
     .rw[q1]at K;cases K;subst T;exact⟨cb,_,_,E,N,rL S Q⟩
   .cases r
  .cases r
 |_=>simp[elems]at r
end reads
theorem iR{α:Type}(l:List α)(o:Nat)(xs:List α)(h:o+xs.length<=l.length):(over l o xs).length=l.length:=by
 simp[over];omega
def jh{α:Type}(l:List α)(o:Nat)(xs:List α)(h:o+xs.length<=l.length)(j:Nat):
  (over l o xs)[j]? = if o<=j/\j<o+xs.length then xs[j-o]? else l[j]? := by
 unfold over
 by_cases h1:j<o
 .grind
 grind
variable{b sz v:Nat}{es es':List AV}
def GL{i j j':Nat}(h:b≠i)(n:j<sz)(l:j'<sz):b*sz+j≠i*sz+j':=by
 rcases Nat.lt_or_gt_of_ne h with h1 | h1
 .have:(b+1)*sz<=i*sz:=br _ h1
  grind
 .have:(i+1)*sz<=b*sz:=br _ h1
  grind
section
variable{Z:az}{β:jO}{h:AH}{w:World}
def Rel.Cf(R:Rel Z β h w){cs:List AV}(A:h[b]? = some (.var cs))(o:Nat)(xs:List AV)(l:List Value)(hl:xs.length=l.length)(i:o+xs.length<=cs.length)
  (h1:∀u∈l,u.oneCell'=true) (h2:∀(j:Nat)(y:AV)(u:Value),xs[j]? = some y->l[j]? = some u->VR β (Own Z β h) w y u) :
  ∃c cur elem,β b 0=some ⟨some c,0,cs.length,cs.length⟩/\w.heap[c]? = some (.cells cur elem (0,0))/\cur.size=cs.length/\
   Rel Z β (h.set b (.var (over cs o xs))) (w.setRow c (over cur.toList o l).toArray)/\Fr Z β h w β (h.set b (.var (over cs o xs))) (w.setRow c (over cur.toList o l).toArray):=by
 let⟨c,cur,elem,e1,G,F,M⟩:=R.blk b _ A;refine⟨c,cur,elem,e1,G,F,?_⟩;have x:=iR cs o xs i;have v:owned β h b c:=⟨_,A,_,rfl,e1⟩;refine R.PZ (aD.1 A).1 rfl rfl rfl (λ_ _ _=>rfl) (λ_ _ e=>e) ai ?_ (by simp[World.setRow]) (λb' _ z=>setRow_other w c b' _ (λe=>z (e▸v))) ?_
 .rintro O ⟨bd,q1,N⟩
  grind
 .intro r;refine⟨c,_,elem,by rw[e1,x],setRow_heap w c cur _ elem (0,0) G,by simp[iR cur.toList o l ak,iR cs o xs i,F],λj y q=>?_⟩
  rw[jh cs o xs i]at q;simp only[bE];rw[jh cur.toList o l ak]
  by_cases E:o<=j/\j<o+xs.length
  .rw[if_pos E]at q;rw[if_pos af]
   have n:j-o<l.length:=af
   exact⟨l[j-o],by simp[n],h1 _ (aP n),(h2 (j-o) y l[j-o] q (by simp[n])).mono (λ_ _ _ e=>e) r⟩
  .rw[if_neg E]at q;rw[if_neg af]
   let⟨u,L,K,H⟩:=M j y q;exact⟨u,an L,K,H.mono (λ_ _ _ e=>e) r⟩
def Rel.wX(R:Rel Z β h w)(y:h[b]? = some (.row v sz es)){bd:Bd}{c:Nat}{cur:Array Value}{elem:TypeId}
  (o:β b v=some bd) (x:bd.cb=some c) (l:w.heap[c]? = some (.cells cur elem (0,0))) (i:List Value) (n:i.length=cur.size) (r:es'.length=es.length)
  (F:nX (Own Z β h) w i.toArray bd.base sz es') :
  Rel Z β (h.set b (.row v sz es')) (w.setRow c i.toArray)/\Fr Z β h w β (h.set b (.row v sz es')) (w.setRow c i.toArray):=by
 let⟨A,K,e1,W,z⟩:=R.blk b _ y;rw[o]at e1;cases e1;have q:owned β h b c:=⟨_,y,bd,x,o⟩
 rcases z with⟨z,_⟩ | ⟨X,N,H,M,L,T,S,_⟩
 .rw[x]at z;cases z
 rw[x]at M;cases M;rw[l]at L;cases L;refine R.PZ (aD.1 y).1 rfl rfl rfl (λ_ _ _=>rfl) (λ_ _ e=>e) ?_ ?_ (by simp[World.setRow]) (λb' _ G=>setRow_other w c b' _ (λe=>G (e▸q))) ?_
 .intro v1 P U O e Q;cases e;exact R.later b v sz es O y Q
 .rintro X ⟨K,q1,Y⟩
  grind
 .intro E;exact⟨A,bd,o,W,.inr ⟨c,i.toArray,elem,x,setRow_heap w c cur _ elem (0,0) l,by simp[n,T],by rw[r];exact S,iO.mono E F⟩⟩
def Rel.sk(R:Rel Z β h w)(G:h[b]? = some (.row v sz es)){bd:Bd}{c:Nat}{cur:Array Value}{elem:TypeId}
  (F:β b v=some bd) (O:bd.cb=some c) (x:w.heap[c]? = some (.cells cur elem (0,0))) (l:List Value) (y:l.length=cur.size) (o:Nat)
  (A:bd.base+o*sz+es'.length*sz<=cur.size) (N:nX (Own Z β h) w l.toArray (bd.base+o*sz) sz es') :
  ∃β',Rel Z β' (h.set b (.row (v+1) sz es')) (w.setRow c l.toArray)/\Fr Z β h w β' (h.set b (.row (v+1) sz es')) (w.setRow c l.toArray)/\
   ∀n cap,n<=cap->bd.base+o*sz+cap*sz<=cur.size->VR β' (Own Z β' (h.set b (.row (v+1) sz es'))) (w.setRow c l.toArray) (.own b (v+1) 0 n) (.slice (some ⟨c,bd.base+o*sz,none⟩) n cap):=by
 let⟨K,Sw,e1,e2,H⟩:=R.blk b _ G;rw[F]at e1;cases e1;have z:owned β h b c:=⟨_,G,bd,O,F⟩
 rcases H with⟨H,_⟩ | ⟨c',W,Q,U,T,g3,g4,_⟩
 .rw[O]at H;cases H
 rw[O]at U;cases U;rw[x]at T;cases T;have M:β b (v+1)=none:=R.later b v sz es (v+1) G af
 let q:Bd:=⟨some c,bd.base+o*sz,cur.size,sz⟩
 let β':jO:=λi k=>if i=b/\k=v+1 then some q else β i k
 have r:β' b (v+1)=some q:=by simp[β']
 refine⟨β',?_⟩
 have key:=R.PZ (X':=.row (v+1) sz es') (β':=β') (w':=w.setRow c l.toArray) (aD.1 G).1 rfl rfl rfl
  (λj k hj=>by simp[β',hj]) (λk S e=>?_) ?_ ?_ (by simp[World.setRow]) (λb' _ P=>setRow_other w c b' _ (λe=>P (e▸z))) ?_
 .refine⟨key.1,key.2,λn cap hn E=>?_⟩
  refine .own b (v+1) 0 n q _ cap r (.inr ⟨c,rfl,by simp[q],hn,?_⟩)
  simpa[q]using E
 .grind
 .intro v1 Y es1 X e hv;cases e;simp only[β'];rw[if_neg af]
  exact R.later b v sz es X G af
 .rintro c' ⟨S,q1,q2⟩
  grind
 .intro L;exact⟨K,q,r,rfl,.inr ⟨c,l.toArray,elem,rfl,setRow_heap w c cur _ elem (0,0) x,by simp[y,q],by simpa[q]using A,iO.mono L N⟩⟩
def Rel.BO(R:Rel Z β h w)(E:h[b]? = some (.row v sz es)){w':World}{cur:Array Value}{elem:TypeId}
  (H:w'.os=w.os) (q:w'.tape=w.tape) (r:w'.output=w.output) (O:w'.heap=w.heap.push (.cells cur elem (0,0)))
  (z:es'.length*sz<=cur.size) (L:nX (Own Z β h) w cur 0 sz es') :
  ∃β',Rel Z β' (h.set b (.row (v+1) sz es')) w'/\Fr Z β h w β' (h.set b (.row (v+1) sz es')) w'/\
   ∀n cap,n<=cap->cap*sz<=cur.size->VR β' (Own Z β' (h.set b (.row (v+1) sz es'))) w' (.own b (v+1) 0 n) (.slice (some ⟨w.heap.size,0,none⟩) n cap):=by
 let⟨F,bd,U,e2,e3⟩:=R.blk b _ E;have K:β b (v+1)=none:=R.later b v sz es (v+1) E af
 let l:Bd:=⟨some w.heap.size,0,cur.size,sz⟩
 let β':jO:=λi k=>if i=b/\k=v+1 then some l else β i k
 have o:β' b (v+1)=some l:=by simp[β']
 have x:∀k,k<w.heap.size->w'.heap[k]? = w.heap[k]? := λk hk=>by grind
 have y:w'.heap[w.heap.size]? = some (.cells cur elem (0,0)):=by rw[O];simp
 refine⟨β',?_⟩
 have key:=R.PZ (X':=.row (v+1) sz es') (β':=β') (w':=w') (aD.1 E).1 H q r
  (λj k T=>by simp[β',T]) (λk N e=>?_) ?_ ?_ (by rw[O];simp) (λb' M _=>x b' M) ?_
 .refine⟨key.1,key.2,λn cap S A=>?_⟩
  refine .own b (v+1) 0 n l _ cap o (.inr ⟨w.heap.size,rfl,by simp[l],S,by simpa[l]using A⟩)
 .grind
 .intro v1 Q W P e Y;cases e;simp only[β'];rw[if_neg af]
  exact R.later b v sz es P E af
 .rintro c' ⟨N,q1,X⟩
  grind
 .intro G;exact⟨F,l,o,rfl,.inr ⟨w.heap.size,cur,elem,rfl,y,rfl,by simpa[l]using z,iO.mono G L⟩⟩
def Rel.GP(R:Rel Z β h w)(o:h[b]? = some (.row v sz es)):
  ∃β',Rel Z β' (h.set b (.row (v+1) sz [])) w/\Fr Z β h w β' (h.set b (.row (v+1) sz [])) w/\
   ∀a,VR β' (Own Z β' (h.set b (.row (v+1) sz []))) w (.own b (v+1) 0 0) (.slice a 0 0):=by
 let⟨q,bd,E,L,K⟩:=R.blk b _ o;have r:β b (v+1)=none:=R.later b v sz es (v+1) o af
 let l:Bd:=⟨none,0,0,sz⟩
 let β':jO:=λi k=>if i=b/\k=v+1 then some l else β i k
 have n:β' b (v+1)=some l:=by simp[β']
 refine⟨β',?_⟩
 have key:=R.PZ (X':=.row (v+1) sz []) (β':=β') (w':=w) (aD.1 o).1 rfl rfl rfl
  (λj k A=>by simp[β',A]) (λk x e=>?_) ?_ ?_ (aV _) (λb' _ _=>rfl) ?_
 .exact⟨key.1,key.2,λa=>.own b (v+1) 0 0 l a 0 n (.inl ⟨rfl,rfl⟩)⟩
 .grind
 .intro v1 z F y e H;cases e;simp only[β'];rw[if_neg af]
  exact R.later b v sz es y o af
 .rintro M ⟨x,q1,G⟩
  grind
 .intro _;exact⟨q,l,n,rfl,.inl ⟨rfl,rfl⟩⟩
def Rel.freeze(R:Rel Z β h w)(n:h[b]? = some (.row v sz es)):
  Rel Z β (h.set b (.me v sz es)) w/\Fr Z β h w β (h.set b (.me v sz es)) w:=by
 let⟨r,bd,l,N,z⟩:=R.blk b _ n;have E:=(aD.1 n).1;refine R.PZ E rfl rfl rfl (λ_ _ _=>rfl) (λ_ _ e=>e) ai ?_ (aV _) (λ_ _ _=>rfl) ?_
 .rintro c ⟨O,q1,F⟩
  exact F.elim
 .intro x;refine⟨r,bd,l,N,?_⟩
  rcases z with z | ⟨c,cur,elem,y,M,L,K,H⟩
  .exact .inl z
  .refine .inr ⟨c,cur,elem,(0,0),y,?_,M,L,K,iO.mono x H⟩
   rintro(G | ⟨j,X,o,A⟩)
   .exact R.BV b c ⟨_,n,bd,y,l⟩ G
   by_cases i:j=b
   .subst i;simp[E]at o;subst o;let⟨_,_,q⟩:=A;exact q
   .rw[aI (Ne.symm i)]at o;exact i (R.apart j b c ⟨X,o,A⟩ ⟨_,n,bd,y,l⟩)
def AL(R:Rel Z β h w)(T:h[b]? = some (.me v sz es)){o n:Nat}(hn:o+n<=es.length){u:Value}(S:VR β (Own Z β h) w (.own b v o n) u):
  VR β (Own Z β h) w (.b9 false ((es.drop o).take n)) u:=by
 obtain⟨bd,ad,c,G,rfl,h2⟩:=S.kZ;let⟨F,X,e1,W,A⟩:=R.blk b _ T;rw[G]at e1;cases e1;have q:((es.drop o).take n).length=n:=ak
 refine .pure _ _ ?_
 rcases h2 with⟨h2,H⟩ | ⟨cb,q1,Q,P,Y⟩
 .subst H h2;have E:(es.drop o).take 0=[]:=by simp
  rw[E];exact .b9 false [] ad 0 0 0 0 (λ_ _=>.bool true) ai ai ai ai ai ai ai
 .by_cases E : (es.drop o).take n = []
  .rw[E]at q⊢;simp at q;subst q;exact .b9 false [] ad c 0 0 0 (λ_ _=>.bool true) ai ai ai ai ai ai ai
  .rcases A with⟨A,_⟩ | ⟨c',cur,elem,fr,N,K,M,g3,g4,U⟩
   .rw[q1]at A;cases A
   .rw[q1]at N;cases N;subst W;have l:=rL (o:=o) (n:=n) M U
    have:=oF.b9 (O:=Own Z β h) (w:=w) false ((es.drop o).take n) ad c cb (bd.base+o*bd.sz) bd.sz (λi j=>(w.cell? ⟨cb,bd.base+o*bd.sz+(i*bd.sz+j),none⟩).getD Go.undef)
     ai (by rw[q];exact P) (λ_=>⟨Q,K,(aW.1 M).1⟩) (λi x r=>⟨(l i x r).1,F⟩)
     (λi x r j y z=>by let⟨u,L,_,_⟩:=(l i x r).2 j y z;grind)
     (λi x r j y z=>by let⟨u,L,k2,_⟩:=(l i x r).2 j y z;grind)
     (λi x r j y z=>by let⟨u,L,_,k3⟩:=(l i x r).2 j y z;grind)
    grind
end
variable{h':AH}{r i x:AV}
section
variable{Z:az}{β:jO}{h:AH}{w:World}
def Aj(R:Rel Z β h w){a:AV}(l:nM h a=some (r,h')){v:Value}(x:VR β (Own Z β h) w a v):
  Rel Z β h' w/\Fr Z β h w β h' w/\VR β (Own Z β h') w r v/\r.jW=true:=by
 have pure:∀ {a:AV},VR β (Own Z β h) w a v->(if a.jW=true then some (a,h)else none)=some (r,h')->Rel Z β h' w/\Fr Z β h w β h' w/\VR β (Own Z β h') w r v/\r.jW=true:=by
  intro a x l;split at l
  .rename_i hs;cases l;exact⟨R,Fr.refl _ _ _ _,x,hs⟩
  .cases l
 cases a with
 |own b A o n =>
  simp only[nM]at l;split at l
  .rename_i v' sz es q;split at l
   .rename_i i;obtain⟨rfl,y⟩:=i;cases l;let⟨z,F⟩:=R.freeze q;exact⟨z,F,AL z (sz:=sz) (es:=es) (by simp[(aD.1 q).1]) y (x.fr F),rfl⟩
   .cases l
  .rename_i v' sz es q;split at l
   .rename_i i;obtain⟨rfl,y⟩:=i;cases l;exact⟨R,Fr.refl _ _ _ _,AL R q y x,rfl⟩
   .cases l
  .cases l
 |_=>exact pure x l
def Fq:∀(cs:List AV){h:AH}(_:Rel Z β h w){cs':List AV}{h':AH}(_:sN h cs=some (cs',h')){vs:List Value}(_:cs.length=vs.length)
  (_:∀(j:Nat)(y:AV)(u:Value),cs[j]? = some y->vs[j]? = some u->VR β (Own Z β h) w y u),
  Rel Z β h' w/\Fr Z β h w β h' w/\cs'.length=vs.length/\(∀(j:Nat)(y:AV)(u:Value),cs'[j]? = some y->vs[j]? = some u->VR β (Own Z β h') w y u)/\∀y∈cs',y.jW=true
 | [],h,R,cs',h',l,vs,hl,_=>by
  simp only[sN]at l;cases l;exact⟨R,Fr.refl _ _ _ _,hl,λj y u b=>by simp at b,ai⟩
 |a::cs,h,R,cs',h',l,vs,hl,r=>by
  simp only[sN,aG]at l;let⟨⟨K,h1⟩,q,⟨l2,h2⟩,o,n⟩:=l;cases n;cases vs with
  |nil=>simp at hl
  |cons v vs =>
   let⟨G,z,E,M⟩:=Aj R q (r 0 a v rfl rfl);let⟨F,x,H,A,L⟩:=Fq cs G o (vs:=vs) (an hl) (λj y u b i=>(r (j+1) y u (an b) (an i)).fr z)
   refine⟨F,z.trans x,by simp[H],λj y u b i=>?_,λy b=>?_⟩
   .cases j with
    |zero=>simp at b i;subst b i;exact E.fr x
    |succ j=>exact A j y u (an b) (an i)
   grind
def wj(R:Rel Z β h w){a:AV}(b:mH h a=some (i,h')){v:Value}(l:VR β (Own Z β h) w a v):
  Rel Z β h' w/\Fr Z β h w β h' w/\VR β (Own Z β h') w i v/\i.j8=true:=by
 unfold mH at b;split at b
 .rename_i A;cases b;exact⟨R,Fr.refl _ _ _ _,l,A⟩
 .split at b
  .rename_i cs _;simp only[aG]at b;let⟨⟨cs',h2⟩,o,n⟩:=b;cases n;obtain⟨vs,rfl,hl,h1,q⟩:=l.nW;let⟨x,y,E,r,z⟩:=Fq cs R o hl q;exact⟨x,y,.agg cs' vs E h1 r,by simpa[AV.j8]using z⟩
  .let⟨x,y,r,z⟩:=Aj R b l;refine⟨x,y,r,?_⟩;cases i<;>simp_all[AV.jW,AV.j8]
def qU:∀(cs:List AV){h:AH}(_:Rel Z β h w){cs':List AV}{h':AH}(_:jT h cs=some (cs',h')){vs:List Value}(_:cs.length=vs.length)
  (_:∀(j:Nat)(y:AV)(u:Value),cs[j]? = some y->vs[j]? = some u->VR β (Own Z β h) w y u),
  Rel Z β h' w/\Fr Z β h w β h' w/\cs'.length=vs.length/\(∀(j:Nat)(y:AV)(u:Value),cs'[j]? = some y->vs[j]? = some u->VR β (Own Z β h') w y u)/\∀y∈cs',y.j8=true
 | [],h,R,cs',h',l,vs,hl,_=>by
  simp only[jT]at l;cases l;exact⟨R,Fr.refl _ _ _ _,hl,λj y u b=>by simp at b,ai⟩
 |a::cs,h,R,cs',h',l,vs,hl,r=>by
  simp only[jT,aG]at l;let⟨⟨K,h1⟩,q,⟨l2,h2⟩,o,n⟩:=l;cases n;cases vs with
  |nil=>simp at hl
  |cons v vs =>
   let⟨G,z,E,M⟩:=wj R q (r 0 a v rfl rfl);let⟨F,x,H,A,L⟩:=qU cs G o (vs:=vs) (an hl) (λj y u b i=>(r (j+1) y u (an b) (an i)).fr z)
   refine⟨F,z.trans x,by simp[H],λj y u b i=>?_,λy b=>?_⟩
   .cases j with
    |zero=>simp at b i;subst b i;exact E.fr x
    |succ j=>exact A j y u (an b) (an i)
   grind
def MQ(R:Rel Z β h w){a:AV}(b:nr h a=some (i,h')){v:Value}(l:VR β (Own Z β h) w a v):
  Rel Z β h' w/\Fr Z β h w β h' w/\VR β (Own Z β h') w i v/\i.sH=true:=by
 unfold nr at b;split at b
 .rename_i A;cases b;exact⟨R,Fr.refl _ _ _ _,l,A⟩
 .split at b
  .rename_i cs _;simp only[aG]at b;let⟨⟨cs',h2⟩,o,n⟩:=b;cases n;obtain⟨vs,rfl,hl,q⟩:=l.Dr;let⟨x,y,E,r,z⟩:=qU cs R o hl q;exact⟨x,y,.jg cs' vs E r,by simpa[AV.sH]using z⟩
  .let⟨x,y,r,z⟩:=wj R b l;refine⟨x,y,r,?_⟩;cases i<;>simp_all[AV.sH,AV.j8,AV.jW]
end
def iM(P:Program)(Z:az)(β:jO)(h:AH)(w:World)(s:Sem Value)(b:AV)(h':AH):Prop :=
 ∃v w' β',s.run P w = .ok v w'/\Rel Z β' h' w'/\Fr Z β h w β' h' w'/\VR β' (Own Z β' h') w' b v
section
variable{P:Program}{Z:az}{β:jO}{h:AH}{w:World}
theorem iM.of(R:Rel Z β h w){s:Sem Value}{b:AV}{v:Value}(l:s.run P w = .ok v w)(i:VR β (Own Z β h) w b v):iM P Z β h w s b h :=
 ⟨v,w,β,l,R,Fr.refl _ _ _ _,i⟩
def VR.of_int{O:az}(k:IntKind)(n:Int):VR β O w (.int k n) (.int k n):=.pure _ _ (.int k n)
def VR.of_bool{O:az}(b:Bool):VR β O w (.bool b) (.bool b):=.pure _ _ (.bool b)
def VR.DN{O:az}{b:ByteArray}{s:au}(i:b.data.toList=s):VR β O w (.str s) (.string b):=by subst i;exact .pure _ _ (.str b)
def toList_data(b:ByteArray):b.toList=b.data.toList:=ByteArray.toList_eq b
def EY:∀x y:au,Op.bytesLess x y=gr x y
 |_,[]=>by simp[Op.bytesLess,gr]
 | [],_::_=>rfl
 |a::x,b::y=>by simp only[Op.bytesLess,gr,EY x y]
def G4(R:Rel Z β h w){x y:au}{op:BinOp}(i:j9 x y op=some r){a b:ByteArray}(q:a.data.toList=x)(n:b.data.toList=y):
  iM P Z β h w (Op.stringOp op a b) r h:=by
 have e1:a.toList=x:=(toList_data a).trans q;have E:b.toList=y:=(toList_data b).trans n;have o:(a++b).data.toList=x++y:=by rw[ByteArray.data_append,Array.toList_append,q,n]
 have A:a.size=x.length:=by rw[<-q];rfl
 have z:b.size=y.length:=by rw[<-n];rfl
 have l:(x==y)=decide (x=y):=by rw[ef];simp
 cases op<;>simp only[j9]at i<;>try (cases i;done)
 case add =>
  split at i
  .rename_i hl;cases i;refine iM.of R (v:=.string (a++b)) ?_ (.DN o)
   have:¬((a.size+b.size:Nat):Int)>IntKind.i64.max:=by
    have:IntKind.i64.max=9223372036854775807:=by rfl
    rw[this,A,z];omega
   simp only[Op.stringOp,this,if_false,Sem.run_pure]
  .cases i
 all_goals
  cases i;refine iM.of R (v:=.bool _) ?_ (.of_bool _);simp only[Op.stringOp,Sem.run_pure,e1,E,EY,l]
def HE(R:Rel Z β h w){k:IntKind}{x y:Int}{op:BinOp}{n:AV}(b:mA k x y op=some n)(t:TypeId):
  iM P Z β h w (binOp op t (.int k x) (.int k y)) n h:=by
 have i:(x==y)=decide (x=y):=by rw[ef];simp
 cases op<;>simp only[mA]at b<;>try (cases b;done)
 case quo =>
  split at b
  .cases b
  .rename_i l;cases b;exact iM.of R (v:=.int k _) (by simp[binOp,Op.intDiv,l]) (.of_int _ _)
 case rem =>
  split at b
  .cases b
  .rename_i l;cases b;exact iM.of R (v:=.int k _) (by simp[binOp,Op.intDiv,l]) (.of_int _ _)
 all_goals
  cases b
  first
   |exact iM.of R (v:=.int k _) (by simp[binOp,Op.intArith,Op.intBits];done) (.of_int _ _)
   |exact iM.of R (v:=.bool _) (by simp[binOp,Op.intCmp,i,bne];done) (.of_bool _)
def Sn(R:Rel Z β h w){op:BinOp}{y E:AV}(i:bin op x y=some E){a b:Value}(A:VR β (Own Z β h) w x a)(z:VR β (Own Z β h) w y b)(t:TypeId):
  iM P Z β h w (binOp op t a b) E h/\∀n l,(eqGuard op t n l a b).run P w = .ok () w:=by
 cases x with
 |int k x =>
  cases y with
  |int G y =>
   have:=A.kE;subst this;have:=z.kE;subst this
   have hg:∀n l,(eqGuard op t n l (.int k x) (.int G y)).run P w = .ok () w:=by
    intro n l;cases op<;>simp[eqGuard]
   refine⟨?_,hg⟩;simp only[bin]at i;cases op
   case shl =>
    dsimp only at i;split at i
    .cases i
    .rename_i o;cases i;exact iM.of R (v:=.int k _) (by simp[binOp,Op.shift,o]) (.of_int _ _)
   case shr =>
    dsimp only at i;split at i
    .cases i
    .rename_i o;cases i;exact iM.of R (v:=.int k _) (by simp[binOp,Op.shift,o]) (.of_int _ _)
   all_goals
    dsimp only at i;split at i
    .rename_i hk;subst hk;exact HE R i t
    .cases i
  |_=>simp[bin]at i
 |str x =>
  cases y with
  |str y =>
   obtain⟨F,rfl,r⟩:=A.oD;obtain⟨b',rfl,q⟩:=z.oD;refine⟨?_,λn l=>by cases op<;>simp[eqGuard]⟩
   have:binOp op t (.string F) (.string b')=Op.stringOp op F b':=by cases op<;>rfl
   rw[this];exact G4 R i r q
  |_=>simp[bin]at i
 |_=>simp[bin]at i
def T8(R:Rel Z β h w){op:UnOp}{o:AV}(i:un op x=some o){a:Value}(l:VR β (Own Z β h) w x a):iM P Z β h w (Op.unary op a) o h:=by
 cases x with
 |bool b =>
  have:=l.mY;subst this;cases op<;>simp[un]at i
  subst i;exact iM.of R (v:=.bool (!b)) (by simp[Op.unary]) (.of_bool _)
 |int k n =>
  have:=l.kE;subst this;cases op<;>simp[un]at i
  subst i;exact iM.of R (v:=.int k _) (by simp[Op.unary,Op.intArith]) (.of_int _ _)
 |_=>simp[un]at i
end
theorem lR(b o j:Nat):(⟨b,o,none⟩:Addr).add j=⟨b,o+j,none⟩:=by
 unfold Addr.add
 grind
def QI{p:Nat->Value->Prop}(n:Nat)(b:∀j,j<n->∃u,p j u):∃vs:List Value,vs.length=n/\∀(j:Nat)(u:Value),vs[j]? = some u->p j u:=by
 induction n with
 |zero=>simp_all
 |succ n i =>
  let⟨vs,hl,o⟩:=i λj r=>b j af
  let⟨u,q⟩:=b n af
  refine⟨vs++[u],by simp[hl],λj x l=>?_⟩
  grind
def jP(P:Program)(t:TypeId)(sz:Nat):Bool:=match P.info? t with | some i=>i.size==sz | none=>false
def uw(P:Program)(t:TypeId)(n:Nat):Bool:=match P.info? t with | some i=>i.bytes==n | none=>false
def tV(P:Program)(t:TypeId)(agg:Bool):Bool :=
 match P.underlying t with
 |some (.struct _)=>agg
 |some (.array _ _)=>agg
 |some _=>!agg
 |none=>false
def eqS:Value->AV->Bool
 | .bool b,.bool b'=>b==b'
 | .int k n,.int o i=>decide (k=o)&&decide (n=i)
 | .string s,.str l=>decide (s.data.toList=l)
 | .pointer none,.mT=>true
 | .map none,.nu=>true
 | .slice none 0 0,.b9 _ []=>true
 | .nilFunc,.mj=>true
 | .nilIface,.lU=>true
 |_,_=>false
def B9:List Value->List AV->Bool
 | [],[]=>true
 |v::vs,a::as=>eqS v a&&B9 vs as
 |_,_=>false
def TE:Value->AV->Bool
 | .agg cs,.agg l=>B9 cs.toList l
 |v,a=>eqS v a
def zN(P:Program)(t:TypeId)(cs:List AV):Bool:=match P.info? t with
 |some i=>match i.zero with
  |some z=>B9 z.cells.toList cs
  |none=>false
 |none=>false
def zeroV(P:Program)(t:TypeId)(a:AV):Bool:=match P.info? t with
 |some i=>match i.zero with
  |some z=>TE z a
  |none=>false
 |none=>false
def Eb{O:az}{w:World}{v:Value}{a:AV}(b:eqS v a=true):oF O w a v/\v.oneCell'=true/\a.jW=true:=by
 unfold eqS at b;split at b
 .simp at b;subst b;exact⟨.bool _,rfl,rfl⟩
 .simp at b;obtain⟨rfl,rfl⟩:=b;exact⟨.int _ _,rfl,rfl⟩
 .simp at b;subst b;exact⟨.str _,rfl,rfl⟩
 .exact⟨.mT,rfl,rfl⟩
 .exact⟨.nu,rfl,rfl⟩
 .exact⟨.b9 _ [] none 0 0 0 0 (λ_ _=>.bool true) ai ai ai ai ai ai ai,rfl,rfl⟩
 .exact⟨.mj,rfl,rfl⟩
 .exact⟨.lU,rfl,rfl⟩
 .cases b
def qb{O:az}{w:World}:∀ {vs:List Value} {as:List AV},B9 vs as=true->
  as.length=vs.length/\(∀u∈vs,u.oneCell'=true)/\(∀(j:Nat)(y:AV)(u:Value),as[j]? = some y->vs[j]? = some u->oF O w y u)/\as.all AV.jW=true
 | [],[],_=>⟨rfl,ai,ai,rfl⟩
 |v::vs,a::as,b=>by
  simp only[B9,aF]at b;let⟨e1,i⟩:=b;let⟨q,p2,p3⟩:=Eb (O:=O) (w:=w) e1;let⟨q1,o,n,l⟩:=qb (O:=O) (w:=w) i
  grind
 | [],_::_,b=>by simp[B9]at b
 |_::_,[],b=>by simp[B9]at b
def Jw{O:az}{w:World}{v:Value}{a:AV}(b:TE v a=true):oF O w a v/\a.j8=true:=by
 unfold TE at b;split at b
 .rename_i cs l;let⟨q1,o,n,i⟩:=qb (O:=O) (w:=w) b;refine⟨.agg l cs.toList q1 o n,by simpa[AV.j8]using i⟩
 .let⟨q,p2,p3⟩:=Eb (O:=O) (w:=w) b;refine⟨q,?_⟩;cases a<;>simp_all[AV.jW,AV.j8]
variable{sz:Nat}
section
variable{P:Program}{Z:az}{β:jO}{h:AH}{w:World}
def jX{t:TypeId}(hs:jP P t sz=true)(w:World):(sizeOf t).run P w = .ok sz w:=by
 unfold jP at hs;split at hs
 .rename_i i b;simp at hs;simp[sizeOf,typeInfo,b,hs]
 .cases hs
def uc{t:TypeId}{agg:Bool}(i:tV P t agg=true)(w:World):(isAgg t).run P w = .ok agg w:=by
 unfold tV at i;unfold isAgg;split at i
 .rename_i f b;simp[run_underlying b,i]
 .rename_i n e b;simp[run_underlying b,i]
 .rename_i d h1 h2 b;simp only[Sem.run_bind,run_underlying b,Result.andThen_ok];cases d<;>simp_all
 .cases i
theorem CD(R:Rel Z β h w){a:AV}{cs:List AV}(K:jc h a=some cs){agg:Bool}{z:AV}(hs:shape sz agg cs=some z){v:Value}(H:VR β (Own Z β h) w a v)
  {t:TypeId} (y:jP P t sz=true) (r:tV P t agg=true):∃u,(Instr.loadAt t v).run P w = .ok u w/\VR β (Own Z β h) w z u:=by
 obtain⟨blk,o,rfl,l⟩:=y9 R K H;unfold shape at hs;split at hs
 .cases hs
 .rename_i F;have hl:sz<=cs.length:=by omega
  split at hs
  .rename_i i;cases hs
   let⟨vs,q,x⟩:=QI (p:=λj u=>w.cell? ⟨blk,o+j,none⟩=some u/\u.oneCell'=true/\VR β (Own Z β h) w (cs.getD j .dead) u) sz (λj G=>by
    grind)
   refine⟨.agg vs.toArray,?_,.agg _ vs (by simp[q];omega) ?_ ?_⟩
   .have b:=run_loadCells_list (P:=P) w ⟨blk,o,none⟩ vs (λj u A=>by grind[lR])
    rw[q]at b;subst i;simp only[Instr.loadAt,Instr.sureAddr,loadVar,Sem.run_bind,Sem.run_pure,Result.andThen_ok,uc r,if_true,jX y,b]
   .intro u A;obtain⟨j,G,rfl⟩:=ff A;exact(x j _ (by simp[G])).2.1
   grind
  .rename_i i;split at hs
   .rename_i E;let⟨u,h1,h2,h3⟩:=l 0 z (by grind[List.head?_eq_getElem?])
    refine⟨u,?_,h3⟩;have n:agg=false:=by simpa using i
    subst n;simp only[cI]at h1;simp only[Instr.loadAt,Instr.sureAddr,loadVar,Sem.run_bind,Sem.run_pure,Result.andThen_ok,uc r,aZ,if_false,run_load,h1]
   .cases hs
def wA(R:Rel Z β h w){a:AV}{cs:List AV}(o:jc h a=some cs){agg:Bool}{b:AV}(hs:shape sz agg cs=some b){v:Value}(n:VR β (Own Z β h) w a v)
  {t:TypeId} (i:jP P t sz=true) (l:tV P t agg=true):iM P Z β h w (Instr.loadAt t v) b h:=by
 grind[CD,iM.of]
def zf{e:AV}{o:Nat}{xs:List AV}(hs:xs.all AV.jW=true)(b:o+xs.length<=e.cells.length):(e.kJ (over e.cells o xs)).cells=over e.cells o xs:=by
 by_cases i:∃cs,e = .agg cs
 .obtain⟨cs,rfl⟩:=i;rfl
 .have n:e.cells=[e]:=by cases e<;>first | rfl | (exact absurd ⟨_,rfl⟩ i)
  have r:∀l,e.kJ l=l.headD .dead:=by intro l;cases e<;>first | rfl | (exact absurd ⟨_,rfl⟩ i)
  rw[r,n];rw[n]at b;cases xs with
  |nil =>
   have:over [e] o []=[e]:=by simp[over]
   grind
  |cons x xs =>
   simp at b;have h0:o=0:=af
   have q:xs=[]:=bh af
   subst h0 q;have:over [e] 0 [x]=[x]:=by simp[over]
   rw[this];simp at hs⊢;cases x<;>first | rfl | grind[AV.jW]
def Ck (R:Rel Z β h w) {a x:AV} {h':AH} (hs:storeAt h sz a x=some h') {v u:Value} (hv:VR β (Own Z β h) w a v) (hu:VR β (Own Z β h) w x u)
  {t:TypeId} (N:jP P t sz=true):∃w',(Instr.storeAt t v u).run P w = .ok () w'/\Rel Z β h' w'/\Fr Z β h w β h' w':=by
 cases a with
 |ptr b vv i o =>
  obtain⟨bd,c,L,K,rfl⟩:=hv.kY;simp only[storeAt]at hs;split at hs
  .rename_i cs hcs;split at hs
   .rename_i n;obtain⟨rfl,rfl,F,O,Q⟩:=n;cases hs;let⟨r,e1,e2,W,e4⟩:=hu.cells F;let⟨c',cur,elem,U,g2,g3,g4,T⟩:=R.Cf hcs o x.cells r e2 af W e4
    rw[L]at U;cases U;cases K;refine⟨_,?_,g4,T⟩;have E:=run_storeCells_at P c o elem r 0 cur w g2 af W
    simp only[cI]at E;have q:u.cells.size=sz:=by rw[e1];simp;omega
    simp only[Instr.storeAt,Instr.sureAddr,storeVar,Sem.run_bind,Sem.run_pure,Result.andThen_ok,jX N,q,ne_eq,not_true_eq_false,if_false,Sem.run_ite]
    grind[over]
   .cases hs
  .simp only[aG]at hs;let⟨⟨x',h1⟩,hp,hs⟩:=hs;let⟨R1,F1,V1,S1⟩:=wj R hp hu;dsimp only at hs;split at hs
   .rename_i v' sz' es S;simp only[aG]at hs;let⟨e,he,hs⟩:=hs;split at hs
    .rename_i n;obtain⟨rfl,F,O,Q⟩:=n;cases hs
     let⟨r,e1,e2,W,e4⟩:=V1.cells (by
      grind[List.all_eq_true,oy])
     let⟨adM,Sw,q1,q2,q3⟩:=R1.blk b _ S;rw[L]at q1;cases q1
     rcases q3 with⟨q3,_⟩ | ⟨c',cur,elem,U,g2,g3,g4,T⟩
     .grind
     rw[K]at U;cases U;subst q2;have hi:i<es.length:=(aD.1 he).1;have hel:=(T i e he).1;have X:bd.base+i*bd.sz+bd.sz<=cur.size:=by
      have:(i+1)*bd.sz<=es.length*bd.sz:=br _ hi
      grind
     have l:bd.base+i*bd.sz+o+r.length<=cur.toList.length:=ak
     let⟨W1,W2⟩:=R1.wX S L K g2 (over cur.toList (bd.base+i*bd.sz+o) r) (by grind[iR]) (es':=es.set i (e.kJ (over e.cells o x'.cells))) ai (by
      intro M x1 z
      by_cases H:M=i
      .subst H;rw[aR hi]at z;cases z;have hwc:=zf (e:=e) F (by omega:o+x'.cells.length<=e.cells.length)
       rw[hwc];refine⟨by grind[iR],λj y A=>?_⟩
       rw[jh _ _ _ af]at A
       simp only[bE];rw[jh _ _ _ l]
       by_cases Y:o<=j/\j<o+x'.cells.length
       .rw[if_pos Y]at A;rw[if_pos af]
        have ej:bd.base+(M*bd.sz+j)-(bd.base+M*bd.sz+o)=j-o:=af
        rw[ej];have G:j-o<r.length:=af
        refine⟨r[j-o],by simp[G],W _ (aP G),(e4 (j-o) y r[j-o] A (by simp[G])).Fm ?_⟩
        grind
       .rw[if_neg Y]at A;rw[if_neg af]
        let⟨u',k1,k2,k3⟩:=(T M e he).2 j y A
        grind
      .rw[aI (Ne.symm H)]at z;let⟨k0,k⟩:=T M x1 z;refine⟨k0,λj y A=>?_⟩
       let⟨u',k1,k2,k3⟩:=k j y A;have Y:j<bd.sz:=by grind
       refine⟨u',?_,k2,k3⟩;simp only[bE];rw[jh _ _ _ l,if_neg]
       .simpa using k1
       .rintro⟨m1,m2⟩
        have WS:=GL (j':=bd.base+(M*bd.sz+j)-(bd.base+i*bd.sz)) H Y af
        omega)
     refine⟨_,?_,W1,F1.trans W2⟩;have E:=run_storeCells_at P c (bd.base+i*bd.sz+o) elem r 0 cur w g2 (an l) W
     simp only[cI]at E;have q:u.cells.size=sz:=by rw[e1];simp;omega
     simp only[Instr.storeAt,Instr.sureAddr,storeVar,Sem.run_bind,Sem.run_pure,Result.andThen_ok,jX N,q,ne_eq,not_true_eq_false,if_false,Sem.run_ite]
     grind[over]
    .cases hs
   .cases hs
  .cases hs
 |_=>simp[storeAt]at hs
end
end Go.Am
