/- Part of the proof that TopScriptsCard holds. -/
import Derived.Test.YtahlmpbhfljalaaGreatDoorAmS
import Derived.Laws.AppendOwn
import Derived.Laws.CopyRow
import Derived.Laws.StructEq
import Derived.Laws.MakeOwn
set_option linter.all false
namespace Go.Am
theorem nI{a:AV}(h:a.jD=true):a.qF=true:=by cases a<;>simp_all[AV.jD,AV.qF]
inductive mM(O:ay)(w:World):AV->Value->Prop where
 |bool (b:Bool):mM O w (.bool b) (.bool b)
 |int (k:IntKind) (n:Int):mM O w (.int k n) (.int k n)
 |str (s:ByteArray):mM O w (.str s.data.toList) (.string s)
 |kG:mM O w .kG (.pointer none)
 |me:mM O w .me (.map none)
 |kU:mM O w .kU .nilFunc
 |kg:mM O w .kg .nilIface
 |yl:mM O w .yl (.slice none 0 0)
 |en (full:Bool) (es:List AV) (a:Option Addr) (c blk o sz:Nat) (f:Nat->Nat->Value)
   (hf:full=true->c=es.length) (hc:es.length<=c)
   (ha:es≠[]->a=some ⟨blk,o,none⟩/\¬O blk/\blk<w.heap.size)
   (hs:∀(i:Nat)(x:AV),es[i]? = some x->x.cells.length=sz/\0<sz)
   (h1:∀(i:Nat)(x:AV),es[i]? = some x->∀(j:Nat)(y:AV),x.cells[j]? = some y->w.cell? ⟨blk,o+i*sz+j,none⟩=some (f i j))
   (h3:∀(i:Nat)(x:AV),es[i]? = some x->∀(j:Nat)(y:AV),x.cells[j]? = some y->(f i j).oneCell'=true)
   (h2:∀(i:Nat)(x:AV),es[i]? = some x->∀(j:Nat)(y:AV),x.cells[j]? = some y->mM O w y (f i j)):mM O w (.en full es) (.slice a es.length c)
 |agg (cs:List AV) (vs:List Value) (hl:cs.length=vs.length) (h1:∀v∈vs,v.oneCell'=true)
   (h2:∀(j:Nat)(y:AV)(v:Value),cs[j]? = some y->vs[j]? = some v->mM O w y v):mM O w (.agg cs) (.agg vs.toArray)
structure Bd where
 cb:Option Nat
 base:Nat
 Tp:Nat
 sz:Nat
 ty:TypeId
abbrev iW:=Nat->Nat->Option Bd
inductive VR(β:iW)(O:ay)(w:World):AV->Value->Prop where
 |pure (a:AV) (v:Value) (h:mM O w a v):VR β O w a v
 |dead (v:Value):VR β O w .dead v
 |undef:VR β O w .undef Go.undef
 |ptr (b v i o:Nat) (bd:Bd) (c:Nat) (h1:β b v=some bd) (h2:bd.cb=some c):VR β O w (.ptr b v i o) (.pointer (some ⟨c,bd.base+i*bd.sz+o,none⟩))
 |iw (cs:List AV) (blk o:Nat) (f:Nat->Value) (hO:¬O blk) (hw:blk<w.heap.size)
   (h1:∀(j:Nat)(y:AV),cs[j]? = some y->w.cell? ⟨blk,o+j,none⟩=some (f j)) (h3:∀(j:Nat)(y:AV),cs[j]? = some y->(f j).oneCell'=true)
   (h2:∀(j:Nat)(y:AV),cs[j]? = some y->mM O w y (f j)):VR β O w (.iw cs) (.pointer (some ⟨blk,o,none⟩))
 |own (b v o n:Nat) (bd:Bd) (a:Option Addr) (c:Nat) (h1:β b v=some bd)
   (h2:(c=0/\n=0)\/∃cb,bd.cb=some cb/\a=some ⟨cb,bd.base+o*bd.sz,none⟩/\n<=c/\bd.base+(o+c)*bd.sz<=bd.Tp):VR β O w (.own b v o n) (.slice a n c)
 |agg (cs:List AV) (vs:List Value) (hl:cs.length=vs.length) (h1:∀v∈vs,v.oneCell'=true)
   (h2:∀(j:Nat)(y:AV)(v:Value),cs[j]? = some y->vs[j]? = some v->VR β O w y v):VR β O w (.agg cs) (.agg vs.toArray)
 |iV (cs:List AV) (vs:List Value) (hl:cs.length=vs.length)
   (h2:∀(j:Nat)(y:AV)(v:Value),cs[j]? = some y->vs[j]? = some v->VR β O w y v):VR β O w (.iV cs) (.tuple vs.toArray)
 |fn (f:Fn) (a c:List AV) (va vc:List Value) (hl:a.length=va.length) (hl':c.length=vc.length)
   (h1:∀(j:Nat)(y:AV)(v:Value),a[j]? = some y->va[j]? = some v->VR β O w y v) (h2:∀(j:Nat)(y:AV)(v:Value),c[j]? = some y->vc[j]? = some v->VR β O w y v) :
   VR β O w (.fn f a c) (.func f va.toArray vc.toArray)
 |uc (t:TypeId) (a:AV) (v:Value) (h:VR β O w a v):VR β O w (.uc t a) (.iface t v)
 |th (b:Bool):VR β O w .th (.bool b)
 |kZ (b:Nat) (bd:Bd) (c:Nat) (h1:β b 0=some bd) (h2:bd.cb=some c):VR β O w (.kZ b) (.map (some c))
 |Tx (b v:Nat) (t:TypeId) (bd:Bd) (h1:β b v=some bd) (h2:bd.cb≠none->bd.ty=t/\bd.base=0):VR β O w (.bt b v t none) (.pointer none)
 |Oz (b v:Nat) (t:TypeId) (i o:Nat) (bd bi:Bd) (c:Nat) (h1:β b v=some bd) (h2:bd.cb≠none->bd.ty=t/\bd.base=0) (h3:β i 0=some bi) (h4:bi.cb=some c):VR β O w (.bt b v t (some (i,o))) (.pointer (some ⟨c,bi.base+o,none⟩))
def jJ(O:ay)(w:World)(h:ay)(w':World):Prop :=
 w.heap.size<=w'.heap.size/\∀b,b<w.heap.size->¬O b->w'.heap[b]? = w.heap[b]?/\¬h b
variable{v:Value}{w':World}{O Z l:ay}{β β':iW}{h h':AH}{n b i o:Nat}
def DB{w:World}{a:Addr}(h:w.cell? a=some v):a.block<w.heap.size:=by
 unfold World.cell? at h
 grind
theorem wP{w:World}(b:jJ O w l w'){a:Addr}(i:¬O a.block)(h:a.block<w.heap.size):w'.cell? a=w.cell? a:=by
 unfold World.cell?;rw[(b.2 a.block h i).1]
def mM.mono{F:ay}{w:World}(l:jJ O w F w'){a:AV}(h:mM O w a v):mM F w' a v:=by
 induction h with
 |bool b=>exact .bool b
 |int k n=>exact .int k n
 |str s=>exact .str s
 |kG=>exact .kG
 |me=>exact .me
 |kU=>exact .kU
 |kg=>exact .kg
 |yl=>exact .yl
 |en full es a c blk o sz f H K E hs h1 h3 h2 z =>
  refine .en full es a c blk o sz f H K (λq=>?_) hs (λi x hx j y G=>?_) h3 z
  .let⟨e1,A,r⟩:=E q;exact⟨e1,(l.2 blk r A).2,br r l.1⟩
  .have q:es≠[]:=by grind
   let⟨_,A,r⟩:=E q;rw[wP l (a:=⟨blk,o+i*sz+j,none⟩) A r];exact h1 i x hx j y G
 |agg cs vs hl h1 h2 z=>exact .agg cs vs hl h1 z
def VR.mono{H:ay}{w:World}(l:∀i v bd,β i v=some bd->β' i v=some bd)(q:jJ O w H w'){a:AV}(h:VR β O w a v):VR β' H w' a v:=by
 induction h with
 |pure a v h=>exact .pure a v (h.mono q)
 |dead v=>exact .dead v
 |undef=>exact .undef
 |ptr b v i o bd c h1 h2=>exact .ptr b v i o bd c (l _ _ _ h1) h2
 |iw cs blk o f G E h1 h3 h2 =>
  refine .iw cs blk o f (q.2 blk E G).2 (br E q.1) (λj y A=>?_) h3 (λj y A=>(h2 j y A).mono q)
  rw[wP q (a:=⟨blk,o+j,none⟩) G E];exact h1 j y A
 |own b v o n bd a c h1 h2=>exact .own b v o n bd a c (l _ _ _ h1) h2
 |agg cs vs hl h1 h2 r=>exact .agg cs vs hl h1 r
 |iV cs vs hl h2 r=>exact .iV cs vs hl r
 |fn f a c L K hl F h1 h2 z x=>exact .fn f a c L K hl F z x
 |uc t a v h r=>exact .uc t a v r
 |th b=>exact .th b
 |kZ b bd c h1 h2=>exact .kZ b bd c (l _ _ _ h1) h2
 |Tx b v t bd h1 h2=>exact .Tx b v t bd (l _ _ _ h1) h2
 |Oz b v t i o bd M c h1 h2 h3 h4=>exact .Oz b v t i o bd M c (l _ _ _ h1) h2 (l _ _ _ h3) h4
theorem jJ.refl(O:ay)(w:World):jJ O w O w:=⟨aT _,λ_ _ h=>⟨rfl,h⟩⟩
def jJ.trans{o:ay}{w i:World}(h:jJ O w o w')(h':jJ o w' l i):jJ O w l i :=
 ⟨bQ h.1 h'.1,λb n q=>by
  let⟨e1,r⟩:=h.2 b n q;let⟨x,v⟩:=h'.2 b (br n h.1) r
  grind⟩
def zh(β:iW)(i:Nat)(X:AB)(c:Nat):Prop :=
 ∃bd,bd.cb=some c/\match X with
  | .var _=>β i 0=some bd
  | .row v _ _=>β i v=some bd
  | .mp _ _=>β i 0=some bd
  |_=>False
def owned(β:iW)(h:AH)(i c:Nat):Prop:=∃X,h[i]? = some X/\zh β i X c
def Own(Z:ay)(β:iW)(h:AH)(c:Nat):Prop:=Z c\/∃i,owned β h i c
def ic(O:ay)(w:World)(f:Nat->Option Value)(sz:Nat)(es:List AV):Prop :=
 ∀(i:Nat)(x:AV),es[i]? = some x->x.cells.length=sz/\∀(j:Nat)(y:AV),x.cells[j]? = some y->∃v,f (i*sz+j)=some v/\v.oneCell'=true/\mM O w y v
def nq(O:ay)(w:World)(cur:Array Value)(base sz:Nat)(es:List AV):Prop:=ic O w (λk=>cur[base+k]?) sz es
abbrev afN{C:Type}(K:C->Value->Prop)(β:iW)(O:ay)(w:World)(i:Nat)(es:List (C×AV)):Prop :=
 ∃c arr clock,β i 0=some ⟨some c,0,0,0,0⟩/\w.heap[c]? = some (.map arr clock)/\arr.size=es.length/\
  ∀(j:Nat)(p:C×AV),es[j]? = some p->∃e:MapEntry,arr[j]? = some e/\K p.1 e.key/\VR β O w p.2 e.val
def nN(β:iW)(O:ay)(w:World)(i:Nat):AB->Prop
 | .gone=>True
 | .var cs=>∃c cur elem,β i 0=some ⟨some c,0,cs.length,cs.length,elem⟩/\w.heap[c]? = some (.cells cur elem (0,0))/\cur.size=cs.length/\
   ∀(j:Nat)(y:AV),cs[j]? = some y->∃v,cur[j]? = some v/\v.oneCell'=true/\VR β O w y v
 | .mp k es=>afN (λn v=>v = .int k n) β O w i es
 | .row v sz es=>0<sz/\∃bd,β i v=some bd/\bd.sz=sz/\((bd.cb=none/\es=[])\/
   ∃c cur,bd.cb=some c/\w.heap[c]? = some (.cells cur bd.ty (0,0))/\cur.size=bd.Tp/\bd.base+es.length*sz<=bd.Tp/\nq O w cur bd.base sz es)
 | .lu v sz es=>0<sz/\∃bd,β i v=some bd/\bd.sz=sz/\((bd.cb=none/\es=[])\/
   ∃c cur fr,bd.cb=some c/\¬O c/\w.heap[c]? = some (.cells cur bd.ty fr)/\cur.size=bd.Tp/\bd.base+es.length*sz<=bd.Tp/\nq O w cur bd.base sz es)
def Gl(O:ay)(w:World):Prop:=∀p∈G0,¬O p.1/\∃cur t fr,w.heap[p.1]? = some (.cells cur t fr)/\p.2 cur
def Gl.stay{i:ay}{w:World}(h:Gl O w)(st:jJ O w i w'):Gl i w':=λp l=>by
 let⟨h1,cur,t,fr,h2,h3⟩:=h p l;have b:=(aH.1 h2).1;exact⟨(st.2 _ b h1).2,cur,t,fr,by rw[(st.2 _ b h1).1];exact h2,h3⟩
structure Rel(Z:ay)(β:iW)(h:AH)(w:World):Prop where
 xlt:∀c,Z c->c<w.heap.size
 yC:∀i c,owned β h i c->¬Z c
 fresh:∀i v,h.length<=i->β i v=none
 later:∀(i v sz:Nat)(es:List AV)(v':Nat),h[i]? = some (.row v sz es)->v<v'->β i v'=none
 blk:∀(i:Nat)(b:AB),h[i]? = some b->nN β (Own Z β h) w i b
 apart:∀i j c,owned β h i c->owned β h j c->i=j
 gl:Gl (Own Z β h) w
structure Fr(Z:ay)(β:iW)(h:AH)(w:World)(β':iW)(h':AH)(w':World):Prop where
 kJ:∀b,b<w.heap.size->Z b->w'.heap[b]? = w.heap[b]?
 os:w'.os=w.os
 tape:w'.tape=w.tape
 output:w'.output=w.output
 ext:∀i v bd,β i v=some bd->β' i v=some bd
 stay:jJ (Own Z β h) w (Own Z β' h') w'
theorem Fr.refl(Z:ay)(β:iW)(h:AH)(w:World):Fr Z β h w β h w:=⟨λ_ _ _=>rfl,rfl,rfl,rfl,λ_ _ _ e=>e,jJ.refl _ _⟩
def Fr.trans{β'':iW}{n:AH}{w l:World}(a:Fr Z β h w β' h' w')(b:Fr Z β' h' w' β'' n l):Fr Z β h w β'' n l :=
 ⟨λk hk hx=>(b.kJ k (br hk a.stay.1) hx).trans (a.kJ k hk hx),b.os.trans a.os,b.tape.trans a.tape,b.output.trans a.output,λi v bd e=>b.ext i v bd (a.ext i v bd e),a.stay.trans b.stay⟩
def VR.fr{w:World}(f:Fr Z β h w β' h' w'){a:AV}(b:VR β (Own Z β h) w a v):VR β' (Own Z β' h') w' a v:=b.mono f.ext f.stay
def jJ.drew{b:ay}{w:World}(h:jJ O w b w'):jJ O {w with drawn:=n} b w':=h
def iP(Z:ay)(β:iW)(h:AH)(w:World)(e:Env)(a:Act)(n:Nat):Prop :=
 a.tmps.size=n/\∀t,VR β (Own Z β h) w (e t) (a.tmps.getD t Go.undef)
def iP.fr{w:World}{e:Env}{a:Act}(E:iP Z β h w e a n)(f:Fr Z β h w β' h' w'):iP Z β' h' w' e a n :=
 ⟨E.1,λt=>(E.2 t).fr f⟩
def iP.put{w:World}{e:Env}{a:Act}(E:iP Z β h w e a n){d:Nat}(l:d<n){av:AV}(i:VR β (Own Z β h) w av v):
  iP Z β h w (e.put d av) (a.put (some d) v) n:=by
 refine⟨by simp[Act.put,E.1],λt=>?_⟩
 simp only[Env.put,Act.put]
 by_cases b:t=d
 .subst b;have:t<a.tmps.size:=by rw[E.1];exact l
  simp[this,i]
 .have h2:d≠t:=λe=>b e.symm
  have:=E.2 t
  simp_all
section inv
variable{Z:ay}{β:iW}{O:ay}{w:World}
def VR.lK{b:Bool}(h:VR β O w (.bool b) v):v = .bool b:=by
 cases h with | pure _ _ h=>cases h;rfl
def VR.jF{k:IntKind}{n:Int}(h:VR β O w (.int k n) v):v = .int k n:=by
 cases h with | pure _ _ h=>cases h;rfl
def VR.lN{s:aq}(h:VR β O w (.str s) v):∃b:ByteArray,v = .string b/\b.data.toList=s:=by
 cases h with | pure _ _ h=>cases h with | str b=>exact⟨b,rfl,rfl⟩
def VR.vW(h:VR β O w .undef v):v=Go.undef:=by
 cases h with
 |pure _ _ h=>cases h
 |undef=>rfl
def VR.nk{cs:List AV}(h:VR β O w (.agg cs) v):∃vs:List Value,v = .agg vs.toArray/\cs.length=vs.length/\(∀u∈vs,u.oneCell'=true)/\∀(j:Nat)(y:AV)(u:Value),cs[j]? = some y->vs[j]? = some u->VR β O w y u:=by
 cases h with
 |pure _ _ h=>cases h with | agg _ vs hl h1 h2=>exact⟨vs,rfl,hl,h1,λj y u b i=>.pure _ _ (h2 j y u b i)⟩
 |agg _ vs hl h1 h2=>grind
def VR.CA{cs:List AV}(h:VR β O w (.iV cs) v):∃vs:List Value,v = .tuple vs.toArray/\cs.length=vs.length/\∀(j:Nat)(y:AV)(u:Value),cs[j]? = some y->vs[j]? = some u->VR β O w y u:=by
 cases h with
 |pure _ _ h=>cases h
 |iV _ vs hl h2=>grind
def VR.jl{l:Nat}(h:VR β O w (.ptr b l i o) v):∃bd c,β b l=some bd/\bd.cb=some c/\v = .pointer (some ⟨c,bd.base+i*bd.sz+o,none⟩):=by
 cases h with
 |pure _ _ h=>cases h
 |ptr _ _ _ _ bd c h1 h2=>grind
def VR.ym(h:VR β O w (.kZ b) v):∃bd c,β b 0=some bd/\bd.cb=some c/\v = .map (some c):=by
 cases h with
 |pure _ _ h=>cases h
 |kZ _ bd c h1 h2=>grind
def VR.jL(h:VR β O w (.own b i o n) v):∃bd a c,β b i=some bd/\v = .slice a n c/\
  ((c=0/\n=0)\/∃cb,bd.cb=some cb/\a=some ⟨cb,bd.base+o*bd.sz,none⟩/\n<=c/\bd.base+(o+c)*bd.sz<=bd.Tp):=by
 cases h with
 |pure _ _ h=>cases h
 |own _ _ _ _ bd a c h1 h2=>grind
def VR.lS{f:Bool}{es:List AV}(h:VR β O w (.en f es) v):mM O w (.en f es) v:=by
 cases h with | pure _ _ h=>exact h
def VR.qF{a:AV}(h:VR β O w a v)(b:a.qF=true):v.oneCell'=true:=by
 cases h with
 |pure _ _ h=>cases h<;>first | rfl | (simp[AV.qF]at b;done)
 |dead=>simp[AV.qF]at b
 |undef=>simp[AV.qF]at b
 |ptr=>rfl
 |iw=>rfl
 |own=>rfl
 |agg=>simp[AV.qF]at b
 |iV=>simp[AV.qF]at b
 |fn=>rfl
 |uc=>rfl
 |th=>rfl
 |kZ=>rfl
 |Tx=>rfl
 |Oz=>rfl
def cells_one(h:v.oneCell'=true):v.cells = #[v]:=by cases v<;>first | rfl | (simp[Value.oneCell']at h;done)
def VR.cells{a:AV}(h:VR β O w a v)(l:a.cells.all AV.qF=true):
  ∃vs:List Value,v.cells=vs.toArray/\a.cells.length=vs.length/\(∀u∈vs,u.oneCell'=true)/\∀(j:Nat)(y:AV)(u:Value),a.cells[j]? = some y->vs[j]? = some u->VR β O w y u:=by
 by_cases b:∃cs,a = .agg cs
 .obtain⟨cs,rfl⟩:=b;obtain⟨vs,rfl,hl,h1,h2⟩:=h.nk;exact⟨vs,rfl,hl,h1,h2⟩
 .have n:a.cells=[a]:=by cases a<;>first | rfl | (exact absurd ⟨_,rfl⟩ b)
  rw[n]at l⊢;have i:v.oneCell'=true:=h.qF (ak l)
  refine⟨[v],cells_one i,rfl,ak i,λj y u o q=>?_⟩
  grind
def VR.Bu{a:AV}(h:VR β O w a v)(b:a.jD=true):mM O w a v:=by
 cases h with
 |pure _ _ h=>exact h
 |_=>simp[AV.jD]at b
def VR.Bv{a:AV}(h:VR β O w a v)(b:a.jE=true):mM O w a v:=by
 cases h with
 |pure _ _ h=>exact h
 |agg cs vs hl h1 h2 =>
  refine .agg cs vs hl h1 λj y u i l=>(h2 j y u i l).Bu ?_
  have:∀y∈cs,y.jD=true:=by simpa[AV.jE]using b
  grind
 |_=>simp[AV.jE,AV.jD]at b
end inv
variable{β β':iW}{Z O:ay}{h:AH}{w':World}{X:AB}
def nq.mono{l:ay}{w:World}(b:jJ O w l w'){cur:Array Value}{base sz:Nat}{es:List AV}(h:nq O w cur base sz es):nq l w' cur base sz es:=by
 intro i x hx;let⟨h1,h2⟩:=h i x hx;refine⟨h1,λj y n=>?_⟩
 let⟨v,e1,q,o⟩:=h2 j y n;exact⟨v,e1,q,o.mono b⟩
def nN.mono{E:ay}{w:World}(l:jJ O w E w')(b:∀i v bd,β i v=some bd->β' i v=some bd){i:Nat}
  (r:∀c,zh β i X c->w'.heap[c]? = w.heap[c]?) (h:nN β O w i X):nN β' E w' i X:=by
 cases X with
 |gone=>trivial
 |var cs =>
  let⟨c,cur,elem,e1,q,n,z⟩:=h;refine⟨c,cur,elem,b _ _ _ e1,(r c ⟨_,rfl,e1⟩).trans q,n,λj y F=>?_⟩
  let⟨v,g1,o,g3⟩:=z j y F;exact⟨v,g1,o,g3.mono b l⟩
 |mp k es =>
  let⟨c,arr,clock,e1,q,n,z⟩:=h;refine⟨c,arr,clock,b _ _ _ e1,(r c ⟨_,rfl,e1⟩).trans q,n,λj p G=>?_⟩
  let⟨e,g1,o,g3⟩:=z j p G;exact⟨e,g1,o,g3.mono b l⟩
 |row v sz es =>
  let⟨h0,bd,e1,q,n⟩:=h;refine⟨h0,bd,b _ _ _ e1,q,?_⟩
  rcases n with n | ⟨c,cur,g1,o,g3,g4,x⟩
  .exact .inl n
  .exact .inr ⟨c,cur,g1,(r c ⟨bd,g1,e1⟩).trans o,g3,g4,x.mono l⟩
 |lu v sz es =>
  let⟨h0,bd,e1,q,n⟩:=h;refine⟨h0,bd,b _ _ _ e1,q,?_⟩
  rcases n with n | ⟨c,cur,fr,g1,o,g3,g4,x,H⟩
  .exact .inl n
  .have A:c<w.heap.size:=(aH.1 g3).1;exact .inr ⟨c,cur,fr,g1,(l.2 c A o).2,(l.2 c A o).1.trans g3,g4,x,H.mono l⟩
def Rel.mS{w:World}(R:Rel Z β h w){i c:Nat}(x:owned β h i c):c<w.heap.size:=by
 let⟨X,y,bd,l,b⟩:=x;have o:=R.blk i X y;cases X with
 |gone=>exact b.elim
 |var cs =>
  let⟨r,cur,elem,e1,n,_⟩:=o;simp only at b;rw[e1]at b;cases b;simp at l;subst l;exact(aH.1 n).1
 |mp k es =>
  let⟨r,arr,clock,e1,n,_⟩:=o;simp only at b;rw[e1]at b;cases b;simp at l;subst l;exact(aH.1 n).1
 |row v sz es =>
  let⟨_,A,e1,n,q⟩:=o;simp only at b;rw[e1]at b;cases b
  rcases q with⟨q,_⟩ | ⟨r,cur,g1,z,_⟩
  .rw[q]at l;cases l
  .rw[g1]at l;cases l;exact(aH.1 z).1
 |lu v sz es=>exact b.elim
def Rel.turn{H:ay}{h':AH}{w:World}(R:Rel H β h w){i:Nat}(P:∀c,Z c->H c)(hl:h.length<=h'.length)(S:h'[i]? = some X)(W:∀j,j≠i->h'[j]? = h[j]?)
  (z:∀j v,j≠i->β' j v=β j v) (L:∀v bd,β i v=some bd->β' i v=some bd)
  (E:∀v sz es v',X = .row v sz es->v<v'->β' i v'=none)
  (M:∀c,zh β' i X c->owned β h i c\/w.heap.size<=c\/H c/\¬Z c)
  (x:w.heap.size<=w'.heap.size) (y:∀b,b<w.heap.size->¬owned β h i b->w'.heap[b]? = w.heap[b]?)
  (N:jJ (Own H β h) w (Own Z β' h') w'->nN β' (Own Z β' h') w' i X) :
  Rel Z β' h' w'/\jJ (Own H β h) w (Own Z β' h') w'/\∀j v bd,β j v=some bd->β' j v=some bd:=by
 have F:∀j v bd,β j v=some bd->β' j v=some bd:=by
  intro j v bd e
  by_cases n:j=i
  .subst n;exact L v bd e
  .rw[z j v n];exact e
 have o:∀j c,j≠i->(owned β' h' j c↔owned β h j c):=by
  intro j c n;unfold owned zh;simp only[W j n,z j _ n]
 have r:∀c,owned β' h' i c->owned β h i c\/w.heap.size<=c\/H c/\¬Z c:=by
  rintro c ⟨X',hX,hb⟩
  rw[S]at hX;cases hX;exact M c hb
 have A:jJ (Own H β h) w (Own Z β' h') w':=by
  refine⟨x,λb hb Q=>⟨y b hb λU=>Q (.inr ⟨i,U⟩),?_⟩⟩
  rintro(K | ⟨j,n⟩)
  .exact Q (.inl (P b K))
  by_cases l:j=i
  .subst l
   rcases r b n with h1 | h1 | h1
   .exact Q (.inr ⟨j,h1⟩)
   .omega
   .exact Q (.inl h1.1)
  .exact Q (.inr ⟨j,(o j b l).1 n⟩)
 have O:∀k c,k≠i->owned β' h' i c->¬owned β' h' k c:=λk c q n hk=>by
  have G:=(o k c q).1 hk
  rcases r c n with h1 | h1 | h1
  .exact q (R.apart k i c G h1)
  .have:=R.mS G;omega
  .exact R.yC k c G h1.1
 refine⟨⟨λc T=>br (R.xlt c (P c T)) x,λj c n K=>?_,λj v n=>?_,λj v sz es v' n hv=>?_,λj Y n=>?_,λj k c n hk=>?_,R.gl.stay A⟩,A,F⟩
 .by_cases l : j = i
  .subst l
   rcases r c n with h1 | h1 | h1
   .exact R.yC j c h1 (P c K)
   .have:=R.xlt c (P c K);omega
   .exact h1.2 K
  .exact R.yC j c ((o j c l).1 n) (P c K)
 .have:=(az.1 S).1;rw[z j v aa]
  exact R.fresh j v aa
 .by_cases l:j=i
  .subst l;rw[S]at n;cases n;exact E v sz es v' rfl hv
  .rw[W j l]at n;rw[z j v' l];exact R.later j v sz es v' n hv
 .by_cases l:j=i
  .subst l;rw[S]at n;cases n;exact N A
  .rw[W j l]at n;exact(R.blk j Y n).mono A F λc T=>y c (R.mS ⟨Y,n,T⟩) λU=>l (R.apart j i c ⟨Y,n,T⟩ U)
 .by_cases l : j = i
  .by_cases q:k=i
   .rw[l,q]
   .subst l;exact absurd hk (O k c q n)
  .by_cases q:k=i
   .subst q;exact absurd n (O j c l hk)
   .exact R.apart j k c ((o j c l).1 n) ((o k c q).1 hk)
def Rel.Ly{w:World}(R:Rel Z β h w){i:Nat}{X':AB}(M:i<h.length)
  (E:w'.os=w.os) (o:w'.tape=w.tape) (y:w'.output=w.output)
  (A:∀j v,j≠i->β' j v=β j v) (r:∀v bd,β i v=some bd->β' i v=some bd)
  (n:∀v sz es v',X' = .row v sz es->v<v'->β' i v'=none)
  (x:∀c,zh β' i X' c->owned β h i c\/w.heap.size<=c)
  (q:w.heap.size<=w'.heap.size) (l:∀b,b<w.heap.size->¬owned β h i b->w'.heap[b]? = w.heap[b]?)
  (z:jJ (Own Z β h) w (Own Z β' (h.set i X')) w'->nN β' (Own Z β' (h.set i X')) w' i X') :
  Rel Z β' (h.set i X') w'/\Fr Z β h w β' (h.set i X') w':=by
 let⟨q1,G,F⟩:=R.turn (λ_=>id) ah (by simp[M]) (λj L=>aL (Ne.symm L)) A r n (λc N=>(x c N).imp id .inl) q l z
 exact⟨q1,λb O H=>l b O λK=>R.yC i b K H,E,o,y,F,G⟩
def Rel.SC{q:ay}{w:World}(R:Rel q β h w)(F:∀c,Z c->q c){bd:Bd}
  (r:β'=λi v=>if i=h.length/\v=0 then some bd else β i v)
  (E:∀v sz es,X = .row v sz es->v=0)
  (x:∀c,bd.cb=some c->w.heap.size<=c\/q c/\¬Z c)
  (l:w.heap.size<=w'.heap.size) (n:∀b,b<w.heap.size->w'.heap[b]? = w.heap[b]?)
  (o:jJ (Own q β h) w (Own Z β' (h++[X])) w'->nN β' (Own Z β' (h++[X])) w' h.length X) :
  Rel Z β' (h++[X]) w'/\jJ (Own q β h) w (Own Z β' (h++[X])) w'/\∀j v bd,β j v=some bd->β' j v=some bd:=by
 subst r;have A:=λv=>R.fresh _ v (aT _)
 refine R.turn F ah (i:=h.length) ah (λj z=>by grind) (λj v z=>if_neg λe=>z e.1) (λv bd e=>by rw[A]at e;cases e) (λv sz es v' e H=>(if_neg (by have:=E v sz es e;omega)).trans (A v')) (λc ⟨G,K,y⟩=>.inr (x c ?_)) l (λb y _=>n b y) o
 cases X with
 |gone | lu=>exact y.elim
 |row v sz es =>
  obtain rfl:=E v sz es rfl
  grind
 |_=>grind
def Rel.push{w:World}(R:Rel Z β h w){bd:Bd}
  (y:w'.os=w.os) (n:w'.tape=w.tape) (q:w'.output=w.output)
  (x:β'=λi v=>if i=h.length/\v=0 then some bd else β i v)
  (G:∀v sz es,X = .row v sz es->v=0)
  (z:∀c,bd.cb=some c->w.heap.size<=c)
  (o:w.heap.size<=w'.heap.size) (l:∀b,b<w.heap.size->w'.heap[b]? = w.heap[b]?)
  (r:jJ (Own Z β h) w (Own Z β' (h++[X])) w'->nN β' (Own Z β' (h++[X])) w' h.length X) :
  Rel Z β' (h++[X]) w'/\Fr Z β h w β' (h++[X]) w':=by
 let⟨q1,E,A⟩:=R.SC (λ_=>id) x G (λc e=>.inl (z c e)) o l r
 exact⟨q1,λb F _=>l b F,y,n,q,A,E⟩
def Rel.EC{w:World}(R:Rel Z β h w)(elem:TypeId)(cs:List AV)(vs:List Value)(hl:cs.length=vs.length)
  (h1:∀u∈vs,u.oneCell'=true) (h2:∀(j:Nat)(y:AV)(u:Value),cs[j]? = some y->vs[j]? = some u->VR β (Own Z β h) w y u) :
  ∃β',Rel Z β' (h++[.var cs]) (w.alloc (.cells vs.toArray elem))/\Fr Z β h w β' (h++[.var cs]) (w.alloc (.cells vs.toArray elem))/\
   VR β' (Own Z β' (h++[.var cs])) (w.alloc (.cells vs.toArray elem)) (.ptr h.length 0 0 0) (.pointer (some ⟨w.heap.size,0,none⟩)):=by
 have key:=R.push (X:=.var cs) (bd:=⟨some w.heap.size,0,cs.length,cs.length,elem⟩) (w':=w.alloc (.cells vs.toArray elem)) rfl rfl rfl rfl ah ah ah
  (λb x=>heap_alloc_old w _ b x) (λl=>⟨w.heap.size,vs.toArray,elem,ah,heap_alloc_new w _,by simp[hl],λj y o=>?_⟩)
 .let⟨r,q⟩:=key;refine⟨_,r,q,?_⟩
  have:=VR.ptr (β:=λi v=>if i=h.length/\v=0 then some ⟨some w.heap.size,0,cs.length,cs.length,elem⟩else β i v)
   (O:=Own Z (λi v=>if i=h.length/\v=0 then some ⟨some w.heap.size,0,cs.length,cs.length,elem⟩else β i v) (h++[.var cs])) (w:=w.alloc (.cells vs.toArray elem))
   h.length 0 0 0 ⟨some w.heap.size,0,cs.length,cs.length,elem⟩ w.heap.size ah rfl
  simpa using this
 .have n:j<vs.length:=by rw[<-hl];exact(az.1 o).1
  refine⟨vs[j],by simp[n],h1 _ (aU n),?_⟩
  refine(h2 j y vs[j] o (by simp[n])).mono ?_ l
  intro i v z e;rw[if_neg]
  .exact e
  .rintro⟨rfl,_⟩
   rw[R.fresh _ v (aT _)]at e;cases e
def Rel.y9{w:World}(R:Rel Z β h w)(sz:Nat)(x:0<sz)(es:List AV)(cur:Array Value)(elem:TypeId)
  (z:w'.os=w.os) (i:w'.tape=w.tape) (l:w'.output=w.output) (A:w'.heap=w.heap.push (.cells cur elem (0,0)))
  (r:es.length*sz<=cur.size) (K:nq (Own Z β h) w cur 0 sz es) :
  ∃β',Rel Z β' (h++[.row 0 sz es]) w'/\Fr Z β h w β' (h++[.row 0 sz es]) w'/\
   (∀n c,n<=c->c*sz<=cur.size->VR β' (Own Z β' (h++[.row 0 sz es])) w' (.own h.length 0 0 n) (.slice (some ⟨w.heap.size,0,none⟩) n c))/\∃bd,β' h.length 0=some bd/\bd.ty=elem/\bd.base=0:=by
 have o:∀b,b<w.heap.size->w'.heap[b]? = w.heap[b]? := λb M=>by rw[A,dN,if_neg aa]
 have q:w'.heap[w.heap.size]? = some (.cells cur elem (0,0)):=by rw[A];simp
 have key:=R.push (X:=.row 0 sz es) (bd:=⟨some w.heap.size,0,cur.size,sz,elem⟩) (w':=w') z i l rfl (by intro v E es e;cases e;rfl) ah (by rw[A];simp)
  o (λy=>⟨x,⟨some w.heap.size,0,cur.size,sz,elem⟩,ah,rfl,.inr ⟨w.heap.size,cur,rfl,q,rfl,ak r,K.mono y⟩⟩)
 let⟨G,F⟩:=key;refine⟨_,G,F,λn c H L=>?_,⟨some w.heap.size,0,cur.size,sz,elem⟩,ah,rfl,rfl⟩
 refine .own h.length 0 0 n ⟨some w.heap.size,0,cur.size,sz,elem⟩ _ c ah (.inr ⟨w.heap.size,rfl,ah,H,ak L⟩)
def Rel.tF{w:World}(R:Rel Z β h w)(sz:Nat)(i:0<sz):
  ∃β',Rel Z β' (h++[.row 0 sz []]) w/\Fr Z β h w β' (h++[.row 0 sz []]) w/\
   (∀a,VR β' (Own Z β' (h++[.row 0 sz []])) w (.own h.length 0 0 0) (.slice a 0 0))/\∃bd,β' h.length 0=some bd/\bd.cb=none:=by
 have key:=R.push (X:=.row 0 sz []) (bd:=⟨none,0,0,sz,0⟩) (w':=w) rfl rfl rfl rfl (by intro v l es e;cases e;rfl) ah (aT _)
  (λb _=>rfl) (λ_=>⟨i,⟨none,0,0,sz,0⟩,ah,rfl,.inl ⟨rfl,rfl⟩⟩)
 let⟨o,n⟩:=key;exact⟨_,o,n,λa=>.own h.length 0 0 0 ⟨none,0,0,sz,0⟩ a 0 ah (.inl ⟨rfl,rfl⟩),⟨none,0,0,sz,0⟩,ah,rfl⟩
def Rel.drawn{Z:ay}{β:iW}{h:AH}{w:World}(R:Rel Z β h w)(n:Nat):Rel Z β h {w with drawn:=n}/\Fr Z β h w β h {w with drawn:=n}:=by
 have b:jJ (Own Z β h) w (Own Z β h) {w with drawn:=n}:=⟨aT _,λ_ _ e=>⟨rfl,e⟩⟩
 exact⟨⟨R.xlt,R.yC,R.fresh,R.later,λi X l=>(R.blk i X l).mono b (λ_ _ _ e=>e) (λ_ _=>rfl),R.apart,R.gl.stay b⟩,⟨λ_ _ _=>rfl,rfl,rfl,rfl,λ_ _ _ e=>e,b⟩⟩
variable{O:ay}{sz:Nat}{es:List AV}
def ic.mono{l:ay}{w w':World}(b:jJ O w l w'){f:Nat->Option Value}(h:ic O w f sz es):ic l w' f sz es:=by
 intro i x hx;let⟨h1,h2⟩:=h i x hx;refine⟨h1,λj y n=>?_⟩
 let⟨v,e1,q,o⟩:=h2 j y n;exact⟨v,e1,q,o.mono b⟩
def ic.congr{w:World}{f g:Nat->Option Value}(h:ic O w f sz es)(b:∀k,k<es.length*sz->f k=g k):ic O w g sz es:=by
 intro i x hx;let⟨h1,h2⟩:=h i x hx;refine⟨h1,λj y l=>?_⟩
 let⟨v,e1,o,n⟩:=h2 j y l;refine⟨v,?_,o,n⟩;rw[<-b]
 .exact e1
 .have r:i<es.length:=(az.1 hx).1;have q:j<sz:=by rw[<-h1];exact(az.1 l).1
  calc i*sz+j<i*sz+sz:=by omega
   _=(i+1)*sz:=by rw[bL];omega
   _<=es.length*sz:=bl _ aa
def ic.list{w:World}{f:Nat->Option Value}(h:ic O w f sz es):
  ∃vs:List Value,vs.length=es.length*sz/\(∀(k:Nat)(u:Value),vs[k]? = some u->f k=some u)/\(∀u∈vs,u.oneCell'=true)/\ic O w (λk=>vs[k]?) sz es:=by
 have hk:∀k,k<es.length*sz->∃u,f k=some u/\u.oneCell'=true:=by
  intro k hk;have l:0<sz:=Nat.pos_of_ne_zero λh0=>by subst h0;omega
  have r:k / sz<es.length:=gC (by rw[ep];exact hk)
  let⟨h1,h2⟩:=h (k / sz) es[k / sz] (by simp[r])
  have q:k%sz<es[k / sz].cells.length:=by rw[h1];exact gO _ l
  let⟨v,e1,o,_⟩:=h2 (k%sz) (es[k / sz].cells[k%sz]) (by simp[q])
  refine⟨v,?_,o⟩;rw[<-e1,ep,Nat.div_add_mod]
 have hl:((List.range (es.length*sz)).map λk=>(f k).getD Go.undef).length=es.length*sz:=ah
 refine⟨(List.range (es.length*sz)).map λk=>(f k).getD Go.undef,hl,?_,?_,?_⟩
 .intro k u i;have b:k<es.length*sz:=by rw[<-hl];exact(az.1 i).1
  let⟨v,e1,_⟩:=hk k b;simp[b,e1]at i;rw[e1,i]
 .intro u i;obtain⟨k,n,rfl⟩:=b7.1 i;let⟨v,e1,o⟩:=hk k (ak n)
  simp[e1,o]
 .refine h.congr λk b=>?_
  let⟨v,e1,_⟩:=hk k b;simp[b,e1]
def ic.nil{w:World}{f:Nat->Option Value}:ic O w f sz []:=by
 intro i x hx;simp at hx
def ic.append{w:World}{f:Nat->Option Value}{es':List AV}(h:ic O w f sz es)(h':ic O w (λk=>f (es.length*sz+k)) sz es'):ic O w f sz (es++es'):=by
 intro i x hx
 by_cases l:i<es.length
 .rw[aI l]at hx;exact h i x hx
 .rw[aQ aa]at hx
  let⟨h1,h2⟩:=h' (i-es.length) x hx;refine⟨h1,λj y b=>?_⟩
  let⟨v,e1,o,n⟩:=h2 j y b;refine⟨v,?_,o,n⟩;rw[<-e1]
  congr 1
  have:i=es.length+(i-es.length):=aa
  conv=>lhs;rw[this,bL]
  omega
def ic.drop{w:World}{f:Nat->Option Value}(h:ic O w f sz es)(o:Nat):ic O w (λk=>f (o*sz+k)) sz (es.drop o):=by
 intro i x hx;rw[bR]at hx;let⟨h1,h2⟩:=h (o+i) x hx;refine⟨h1,λj y b=>?_⟩
 let⟨v,e1,q,n⟩:=h2 j y b;have l:o*sz+(i*sz+j)=(o+i)*sz+j:=by rw[bL];omega
 exact⟨v,by rw[<-e1,<-l],q,n⟩
def ic.take{w:World}{f:Nat->Option Value}(h:ic O w f sz es)(n:Nat):ic O w f sz (es.take n):=by
 intro i x hx;rw[cH]at hx;split at hx
 .exact h i x hx
 .cases hx
def ic.iU{w:World}{f:Nat->Option Value}{b:Nat}(h:ic O w f sz es)(hs:iU b es=true):ic O w f b es:=by
 by_cases i:es=[]
 .subst i;exact .nil
 .have:b=sz:=by
   obtain⟨x,l,rfl⟩:=eD i;have h1:=(h 0 x rfl).1;simp only[Am.iU,cm,aC,beq_iff_eq]at hs;exact hs.1.symm.trans h1
  subst this;exact h
section reads
variable{Z:ay}{β:iW}{h:AH}{w:World}
def xN(R:Rel Z β h w){a:AV}{cs:List AV}(l:iC h a=some cs){v:Value}(H:VR β (Own Z β h) w a v):
  ∃blk o,v = .pointer (some ⟨blk,o,none⟩)/\∀(j:Nat)(y:AV),cs[j]? = some y->∃u,w.cell? ⟨blk,o+j,none⟩=some u/\u.oneCell'=true/\VR β (Own Z β h) w y u:=by
 cases a with
 |iw cs' =>
  simp only[iC,aP]at l;subst l;cases H with
  |pure _ _ H=>cases H
  |iw _ blk o f hO Y h1 h3 h2=>exact⟨blk,o,rfl,λj y n=>⟨f j,h1 j y n,h3 j y n,.pure _ _ (h2 j y n)⟩⟩
 |ptr b X i o =>
  obtain⟨bd,c,O,q,rfl⟩:=H.jl;simp only[iC]at l;split at l
  .rename_i W N;split at l
   .rename_i E;obtain⟨rfl,rfl,S⟩:=E;cases l;let⟨T,cur,elem,e1,G,r,U⟩:=R.blk b _ N;rw[O]at e1;cases e1;cases q;refine⟨c,o,ah,λj y n=>?_⟩
    rw[bR]at n;let⟨u,g1,F,g3⟩:=U (o+j) y n;exact⟨u,by rw[cell_of_row w c (o+j) cur elem (0,0) G];exact g1,F,g3⟩
   .cases l
  .rename_i v' sz es A;split at l
   .rename_i z;subst z;simp only[aD]at l;let⟨x,hx,l⟩:=l;split at l
    .rename_i S;cases l;let⟨_,Q,e1,G,r⟩:=R.blk b _ A;rw[O]at e1;cases e1
     rcases r with⟨r,_⟩ | ⟨T,cur,g1,F,g3,g4,P⟩
     .rw[q]at r;cases r
     .rw[q]at g1;cases g1;refine⟨c,_,rfl,λj y n=>?_⟩
      rw[bR]at n;let⟨u,M,L,K⟩:=(P i x hx).2 (o+j) y n;refine⟨u,?_,L,.pure _ _ K⟩;rw[cell_of_row w c _ cur _ (0,0) F,<-M,G]
      congr 1;omega
    .cases l
   .cases l
  .rename_i v' sz es A;split at l
   .rename_i z;subst z;simp only[aD]at l;let⟨x,hx,l⟩:=l;split at l
    .rename_i S;cases l;let⟨_,Q,e1,G,r⟩:=R.blk b _ A;rw[O]at e1;cases e1
     rcases r with⟨r,_⟩ | ⟨T,cur,fr,g1,_,F,g3,g4,P⟩
     .rw[q]at r;cases r
     .rw[q]at g1;cases g1;refine⟨c,_,rfl,λj y n=>?_⟩
      rw[bR]at n;let⟨u,M,L,K⟩:=(P i x hx).2 (o+j) y n;refine⟨u,?_,L,.pure _ _ K⟩;rw[cell_of_row w c _ cur _ fr F,<-M,G]
      congr 1;omega
    .cases l
   .cases l
  .cases l
 |_=>simp[iC]at l
theorem qQ{cur:Array Value}{elem:TypeId}{fr:Nat×Nat}{cb base o n:Nat}(i:w.heap[cb]? = some (.cells cur elem fr))(b:nq O w cur base sz es):
  ic O w (λk=>w.cell? ⟨cb,base+o*sz+k,none⟩) sz ((es.drop o).take n):=by
 refine((ic.drop b o).take n).congr λk _=>?_
 rw[cell_of_row w cb _ cur elem fr i]
 congr 1
 omega
def kE(R:Rel Z β h w){a:AV}(r:elems h a=some es){v:Value}(T:VR β (Own Z β h) w a v):
  ∃ad c,v = .slice ad es.length c/\es.length<=c/\(es≠[]->∃blk o sz,0<sz/\ad=some ⟨blk,o,none⟩/\ic (Own Z β h) w (λk=>w.cell? ⟨blk,o+k,none⟩) sz es):=by
 cases a with
 |en full es' =>
  simp only[elems,aP]at r;subst r;cases T.lS with
  |en _ _ ad c blk o sz f hf r Y hs h1 h3 h2 =>
   refine⟨ad,c,rfl,r,λH=>?_⟩
   let⟨x,l,N⟩:=eD H;refine⟨blk,o,sz,(hs 0 x (by rw[N];rfl)).2,(Y H).1,λi x hx=>⟨(hs i x hx).1,λj y M=>⟨f i j,?_,h3 i x hx j y M,h2 i x hx j y M⟩⟩⟩
   rw[<-h1 i x hx j y M,cz]
 |own b vv o n =>
  obtain⟨bd,ad,c,U,rfl,h2⟩:=T.jL;simp only[elems]at r;split at r
  .rename_i v' sz es' F;split at r
   .rename_i q;obtain⟨rfl,X⟩:=q;cases r;have z:((es'.drop o).take n).length=n:=by simp;omega
    rw[z];let⟨E,S,e1,Q,A⟩:=R.blk b _ F;rw[U]at e1;cases e1
    rcases h2 with⟨h2,G⟩ | ⟨cb,q1,L,K,W⟩
    .subst G;exact⟨ad,c,rfl,aa,ah⟩
    .refine⟨ad,c,rfl,K,λ_=>?_⟩
     rcases A with⟨A,_⟩ | ⟨c',cur,g1,P,g3,g4,O⟩
     .rw[q1]at A;cases A
     .rw[q1]at g1;cases g1;subst Q;exact⟨cb,_,_,E,L,qQ P O⟩
   .cases r
  .rename_i v' sz es' F;split at r
   .rename_i q;obtain⟨rfl,X⟩:=q;cases r;have z:((es'.drop o).take n).length=n:=by simp;omega
    rw[z];let⟨E,S,e1,Q,A⟩:=R.blk b _ F;rw[U]at e1;cases e1
    rcases h2 with⟨h2,G⟩ | ⟨cb,q1,L,K,W⟩
    .subst G;exact⟨ad,c,rfl,aa,ah⟩
    .refine⟨ad,c,rfl,K,λ_=>?_⟩
     rcases A with⟨A,_⟩ | ⟨c',cur,fr,g1,_,P,g3,g4,O⟩
     .rw[q1]at A;cases A
     .rw[q1]at g1;cases g1;subst Q;exact⟨cb,_,_,E,L,qQ P O⟩
   .cases r
  .cases r
 |_=>simp[elems]at r
end reads
theorem ig{α:Type}(l:List α)(o:Nat)(xs:List α)(h:o+xs.length<=l.length):(over l o xs).length=l.length:=by
 simp[over];omega
def iG{α:Type}(l:List α)(o:Nat)(xs:List α)(h:o+xs.length<=l.length)(j:Nat):
  (over l o xs)[j]? = if o<=j/\j<o+xs.length then xs[j-o]? else l[j]? := by
 unfold over
 by_cases h1:j<o
 .grind
 grind
variable{b sz v:Nat}{es es':List AV}
def Gk{i j j':Nat}(h:b≠i)(n:j<sz)(l:j'<sz):b*sz+j≠i*sz+j':=by
 rcases Nat.lt_or_gt_of_ne h with h1 | h1
 .have:(b+1)*sz<=i*sz:=bl _ h1
  grind
 .have:(i+1)*sz<=b*sz:=bl _ h1
  grind
section
variable{Z:ay}{β:iW}{h:AH}{w:World}
def Rel.tj(R:Rel Z β h w){cs:List AV}(A:h[b]? = some (.var cs))(o:Nat)(xs:List AV)(l:List Value)(hl:xs.length=l.length)(i:o+xs.length<=cs.length)
  (h1:∀u∈l,u.oneCell'=true) (h2:∀(j:Nat)(y:AV)(u:Value),xs[j]? = some y->l[j]? = some u->VR β (Own Z β h) w y u) :
  ∃c cur elem,β b 0=some ⟨some c,0,cs.length,cs.length,elem⟩/\w.heap[c]? = some (.cells cur elem (0,0))/\cur.size=cs.length/\
   Rel Z β (h.set b (.var (over cs o xs))) (w.setRow c (over cur.toList o l).toArray)/\Fr Z β h w β (h.set b (.var (over cs o xs))) (w.setRow c (over cur.toList o l).toArray):=by
 let⟨c,cur,elem,e1,G,F,K⟩:=R.blk b _ A;refine⟨c,cur,elem,e1,G,F,?_⟩;have x:=ig cs o xs i;have v:owned β h b c:=⟨_,A,_,rfl,e1⟩;refine R.Ly (az.1 A).1 rfl rfl rfl (λ_ _ _=>rfl) (λ_ _ e=>e) ah ?_ (by simp[World.setRow]) (λL _ z=>setRow_other w c L _ (λe=>z (e▸v))) ?_
 .rintro N ⟨bd,q1,M⟩
  grind
 .intro r;refine⟨c,_,elem,by rw[e1,x],setRow_heap w c cur _ elem (0,0) G,by simp[ig cur.toList o l aj,ig cs o xs i,F],λj y q=>?_⟩
  rw[iG cs o xs i]at q;simp only[bw];rw[iG cur.toList o l aj]
  by_cases E:o<=j/\j<o+xs.length
  .rw[if_pos E]at q;rw[if_pos aa]
   have n:j-o<l.length:=aa
   exact⟨l[j-o],by simp[n],h1 _ (aU n),(h2 (j-o) y l[j-o] q (by simp[n])).mono (λ_ _ _ e=>e) r⟩
  .rw[if_neg E]at q;rw[if_neg aa]
   let⟨u,g1,H,g3⟩:=K j y q;exact⟨u,ak g1,H,g3.mono (λ_ _ _ e=>e) r⟩
def Rel.vU(R:Rel Z β h w)(y:h[b]? = some (.row v sz es)){bd:Bd}{c:Nat}{cur:Array Value}{elem:TypeId}
  (o:β b v=some bd) (x:bd.cb=some c) (l:w.heap[c]? = some (.cells cur elem (0,0))) (i:List Value) (n:i.length=cur.size) (r:es'.length=es.length)
  (F:nq (Own Z β h) w i.toArray bd.base sz es') :
  Rel Z β (h.set b (.row v sz es')) (w.setRow c i.toArray)/\Fr Z β h w β (h.set b (.row v sz es')) (w.setRow c i.toArray):=by
 let⟨A,H,e1,P,z⟩:=R.blk b _ y;rw[o]at e1;cases e1;have q:owned β h b c:=⟨_,y,bd,x,o⟩
 rcases z with⟨z,_⟩ | ⟨Q,L,g1,K,g3,g4,_⟩
 .rw[x]at z;cases z
 rw[x]at g1;cases g1;rw[l]at K;cases K;refine R.Ly (az.1 y).1 rfl rfl rfl (λ_ _ _=>rfl) (λ_ _ e=>e) ?_ ?_ (by simp[World.setRow]) (λS _ G=>setRow_other w c S _ (λe=>G (e▸q))) ?_
 .intro v1 M O v2 e N;cases e;exact R.later b v sz es v2 y N
 .rintro Q ⟨H,q1,T⟩
  grind
 .intro E;exact⟨A,bd,o,P,.inr ⟨c,i.toArray,x,setRow_heap w c cur _ _ (0,0) l,by simp[n,g3],by rw[r];exact g4,ic.mono E F⟩⟩
def Rel.ry(R:Rel Z β h w)(G:h[b]? = some (.row v sz es)){bd:Bd}{c:Nat}{cur:Array Value}{elem:TypeId}
  (F:β b v=some bd) (O:bd.cb=some c) (x:w.heap[c]? = some (.cells cur elem (0,0))) (q:List Value) (y:q.length=cur.size) (o:Nat)
  (A:bd.base+o*sz+es'.length*sz<=cur.size) (N:nq (Own Z β h) w q.toArray (bd.base+o*sz) sz es') :
  ∃β',Rel Z β' (h.set b (.row (v+1) sz es')) (w.setRow c q.toArray)/\Fr Z β h w β' (h.set b (.row (v+1) sz es')) (w.setRow c q.toArray)/\
   (∀n cap,n<=cap->bd.base+o*sz+cap*sz<=cur.size->VR β' (Own Z β' (h.set b (.row (v+1) sz es'))) (w.setRow c q.toArray) (.own b (v+1) 0 n) (.slice (some ⟨c,bd.base+o*sz,none⟩) n cap))/\∃l,β' b (v+1)=some l/\l.ty=bd.ty/\l.base=bd.base+o*sz:=by
 let⟨K,Lo,e1,e2,H⟩:=R.blk b _ G;rw[F]at e1;cases e1;have z:owned β h b c:=⟨_,G,bd,O,F⟩
 rcases H with⟨H,_⟩ | ⟨c',T,g1,S,g3,g4,_⟩
 .rw[O]at H;cases H
 rw[O]at g1;cases g1;rw[x]at S;cases S;have M:β b (v+1)=none:=R.later b v sz es (v+1) G aa
 let l:Bd:=⟨some c,bd.base+o*sz,cur.size,sz,bd.ty⟩
 let β':iW:=λi k=>if i=b/\k=v+1 then some l else β i k
 have r:β' b (v+1)=some l:=by simp[β']
 refine⟨β',?_⟩
 have key:=R.Ly (X':=.row (v+1) sz es') (β':=β') (w':=w.setRow c q.toArray) (az.1 G).1 rfl rfl rfl
  (λj k X=>by simp[β',X]) (λk Q e=>?_) ?_ ?_ (by simp[World.setRow]) (λb' _ P=>setRow_other w c b' _ (λe=>P (e▸z))) ?_
 .refine⟨key.1,key.2,λn cap W E=>?_,l,r,rfl,rfl⟩
  refine .own b (v+1) 0 n l _ cap r (.inr ⟨c,rfl,by simp[l],W,?_⟩)
  simpa[l]using E
 .grind
 .intro v1 U Y v2 e hv;cases e;simp only[β'];rw[if_neg aa]
  exact R.later b v sz es v2 G aa
 .rintro c' ⟨Q,q1,q2⟩
  grind
 .intro L;exact⟨K,l,r,rfl,.inr ⟨c,q.toArray,rfl,setRow_heap w c cur _ _ (0,0) x,by simp[y,l],by simpa[l]using A,ic.mono L N⟩⟩
def Rel.Ar(R:Rel Z β h w)(E:h[b]? = some (.row v sz es)){w':World}{cur:Array Value}{elem:TypeId}
  (H:w'.os=w.os) (q:w'.tape=w.tape) (r:w'.output=w.output) (O:w'.heap=w.heap.push (.cells cur elem (0,0)))
  (z:es'.length*sz<=cur.size) (L:nq (Own Z β h) w cur 0 sz es') :
  ∃β',Rel Z β' (h.set b (.row (v+1) sz es')) w'/\Fr Z β h w β' (h.set b (.row (v+1) sz es')) w'/\
   (∀n cap,n<=cap->cap*sz<=cur.size->VR β' (Own Z β' (h.set b (.row (v+1) sz es'))) w' (.own b (v+1) 0 n) (.slice (some ⟨w.heap.size,0,none⟩) n cap))/\∃l,β' b (v+1)=some l/\l.ty=elem/\l.base=0:=by
 let⟨F,bd,T,e2,e3⟩:=R.blk b _ E;have K:β b (v+1)=none:=R.later b v sz es (v+1) E aa
 let l:Bd:=⟨some w.heap.size,0,cur.size,sz,elem⟩
 let β':iW:=λi k=>if i=b/\k=v+1 then some l else β i k
 have o:β' b (v+1)=some l:=by simp[β']
 have x:∀k,k<w.heap.size->w'.heap[k]? = w.heap[k]? := λk hk=>by grind
 have y:w'.heap[w.heap.size]? = some (.cells cur elem (0,0)):=by rw[O];simp
 refine⟨β',?_⟩
 have key:=R.Ly (X':=.row (v+1) sz es') (β':=β') (w':=w') (az.1 E).1 H q r
  (λj k S=>by simp[β',S]) (λk N e=>?_) ?_ ?_ (by rw[O];simp) (λW M _=>x W M) ?_
 .refine⟨key.1,key.2,λn cap Q A=>?_,l,o,rfl,rfl⟩
  refine .own b (v+1) 0 n l _ cap o (.inr ⟨w.heap.size,rfl,by simp[l],Q,by simpa[l]using A⟩)
 .grind
 .intro v1 P U v2 e Y;cases e;simp only[β'];rw[if_neg aa]
  exact R.later b v sz es v2 E aa
 .rintro c' ⟨N,q1,X⟩
  grind
 .intro G;exact⟨F,l,o,rfl,.inr ⟨w.heap.size,cur,rfl,y,rfl,by simpa[l]using z,ic.mono G L⟩⟩
def Rel.Gr(R:Rel Z β h w)(o:h[b]? = some (.row v sz es)):
  ∃β',Rel Z β' (h.set b (.row (v+1) sz [])) w/\Fr Z β h w β' (h.set b (.row (v+1) sz [])) w/\
   (∀a,VR β' (Own Z β' (h.set b (.row (v+1) sz []))) w (.own b (v+1) 0 0) (.slice a 0 0))/\∃l,β' b (v+1)=some l/\l.cb=none:=by
 let⟨q,bd,A,K,H⟩:=R.blk b _ o;have r:β b (v+1)=none:=R.later b v sz es (v+1) o aa
 let l:Bd:=⟨none,0,0,sz,0⟩
 let β':iW:=λi k=>if i=b/\k=v+1 then some l else β i k
 have n:β' b (v+1)=some l:=by simp[β']
 refine⟨β',?_⟩
 have key:=R.Ly (X':=.row (v+1) sz []) (β':=β') (w':=w) (az.1 o).1 rfl rfl rfl
  (λj k z=>by simp[β',z]) (λk x e=>?_) ?_ ?_ (aT _) (λM _ _=>rfl) ?_
 .exact⟨key.1,key.2,λa=>.own b (v+1) 0 0 l a 0 n (.inl ⟨rfl,rfl⟩),l,n,rfl⟩
 .grind
 .intro v1 y E v2 e G;cases e;simp only[β'];rw[if_neg aa]
  exact R.later b v sz es v2 o aa
 .rintro L ⟨x,q1,F⟩
  grind
 .intro _;exact⟨q,l,n,rfl,.inl ⟨rfl,rfl⟩⟩
def Rel.freeze(R:Rel Z β h w)(n:h[b]? = some (.row v sz es)):
  Rel Z β (h.set b (.lu v sz es)) w/\Fr Z β h w β (h.set b (.lu v sz es)) w:=by
 let⟨r,bd,l,K,y⟩:=R.blk b _ n;have A:=(az.1 n).1;refine R.Ly A rfl rfl rfl (λ_ _ _=>rfl) (λ_ _ e=>e) ah ?_ (aT _) (λ_ _ _=>rfl) ?_
 .rintro c ⟨L,q1,E⟩
  exact E.elim
 .intro x;refine⟨r,bd,l,K,?_⟩
  rcases y with y | ⟨c,cur,g1,H,g3,g4,G⟩
  .exact .inl y
  .refine .inr ⟨c,cur,(0,0),g1,?_,H,g3,g4,ic.mono x G⟩
   rintro(F | ⟨j,X,o,z⟩)
   .exact R.yC b c ⟨_,n,bd,g1,l⟩ F
   by_cases i:j=b
   .subst i;simp[A]at o;subst o;let⟨_,_,q⟩:=z;exact q
   .rw[aL (Ne.symm i)]at o;exact i (R.apart j b c ⟨X,o,z⟩ ⟨_,n,bd,g1,l⟩)
def zA(R:Rel Z β h w)(Q:h[b]? = some (.lu v sz es)){o n:Nat}(hn:o+n<=es.length){u:Value}(P:VR β (Own Z β h) w (.own b v o n) u):
  VR β (Own Z β h) w (.en false ((es.drop o).take n)) u:=by
 obtain⟨bd,ad,c,F,rfl,h2⟩:=P.jL;let⟨E,U,e1,T,z⟩:=R.blk b _ Q;rw[F]at e1;cases e1;have q:((es.drop o).take n).length=n:=aj
 refine .pure _ _ ?_
 rcases h2 with⟨h2,G⟩ | ⟨cb,q1,N,M,W⟩
 .subst G h2;have A:(es.drop o).take 0=[]:=by simp
  rw[A];exact .en false [] ad 0 0 0 0 (λ_ _=>.bool true) ah ah ah ah ah ah ah
 .by_cases A : (es.drop o).take n = []
  .rw[A]at q⊢;simp at q;subst q;exact .en false [] ad c 0 0 0 (λ_ _=>.bool true) ah ah ah ah ah ah ah
  .rcases z with⟨z,_⟩ | ⟨c',cur,fr,g1,H,L,g3,g4,S⟩
   .rw[q1]at z;cases z
   .rw[q1]at g1;cases g1;subst T;have l:=qQ (o:=o) (n:=n) L S
    have:=mM.en (O:=Own Z β h) (w:=w) false ((es.drop o).take n) ad c cb (bd.base+o*bd.sz) bd.sz (λi j=>(w.cell? ⟨cb,bd.base+o*bd.sz+(i*bd.sz+j),none⟩).getD Go.undef)
     ah (by rw[q];exact M) (λ_=>⟨N,H,(aH.1 L).1⟩) (λi x hx=>⟨(l i x hx).1,E⟩)
     (λi x hx j y r=>by let⟨u,K,_,_⟩:=(l i x hx).2 j y r;grind)
     (λi x hx j y r=>by let⟨u,K,Y,_⟩:=(l i x hx).2 j y r;grind)
     (λi x hx j y r=>by let⟨u,K,_,X⟩:=(l i x hx).2 j y r;grind)
    grind
end
variable{av i x:AV}{h':AH}
section
variable{Z:ay}{β:iW}{h:AH}{w:World}
def zb(R:Rel Z β h w){a r:AV}(l:mQ h a=some (r,h')){v:Value}(x:VR β (Own Z β h) w a v):
  Rel Z β h' w/\Fr Z β h w β h' w/\VR β (Own Z β h') w r v/\r.jD=true:=by
 have pure:∀ {a:AV},VR β (Own Z β h) w a v->(if a.jD=true then some (a,h)else none)=some (r,h')->Rel Z β h' w/\Fr Z β h w β h' w/\VR β (Own Z β h') w r v/\r.jD=true:=by
  intro a x l;split at l
  .rename_i hs;cases l;exact⟨R,Fr.refl _ _ _ _,x,hs⟩
  .cases l
 cases a with
 |own b A o n =>
  simp only[mQ]at l;split at l
  .rename_i v' sz es q;split at l
   .rename_i i;obtain⟨rfl,y⟩:=i;cases l;let⟨z,F⟩:=R.freeze q;exact⟨z,F,zA z (sz:=sz) (es:=es) (by simp[(az.1 q).1]) y (x.fr F),rfl⟩
   .cases l
  .rename_i v' sz es q;split at l
   .rename_i i;obtain⟨rfl,y⟩:=i;cases l;exact⟨R,Fr.refl _ _ _ _,zA R q y x,rfl⟩
   .cases l
  .cases l
 |_=>exact pure x l
def EF:∀(cs:List AV){h:AH}(_:Rel Z β h w){cs':List AV}{h':AH}(_:rU h cs=some (cs',h')){vs:List Value}(_:cs.length=vs.length)
  (_:∀(j:Nat)(y:AV)(u:Value),cs[j]? = some y->vs[j]? = some u->VR β (Own Z β h) w y u),
  Rel Z β h' w/\Fr Z β h w β h' w/\cs'.length=vs.length/\(∀(j:Nat)(y:AV)(u:Value),cs'[j]? = some y->vs[j]? = some u->VR β (Own Z β h') w y u)/\∀y∈cs',y.jD=true
 | [],h,R,cs',h',l,vs,hl,_=>by
  simp only[rU]at l;cases l;exact⟨R,Fr.refl _ _ _ _,hl,λj y u b=>by simp at b,ah⟩
 |a::cs,h,R,cs',h',l,vs,hl,r=>by
  simp only[rU,aD]at l;let⟨⟨K,h1⟩,q,⟨l2,h2⟩,o,n⟩:=l;cases n;cases vs with
  |nil=>simp at hl
  |cons v vs =>
   let⟨G,z,E,M⟩:=zb R q (r 0 a v rfl rfl);let⟨F,x,H,A,L⟩:=EF cs G o (vs:=vs) (ak hl) (λj y u b i=>(r (j+1) y u (ak b) (ak i)).fr z)
   refine⟨F,z.trans x,by simp[H],λj y u b i=>?_,λy b=>?_⟩
   .cases j with
    |zero=>simp at b i;subst b i;exact E.fr x
    |succ j=>exact A j y u (ak b) (ak i)
   grind
def vn(R:Rel Z β h w){a:AV}(b:lG h a=some (i,h')){v:Value}(l:VR β (Own Z β h) w a v):
  Rel Z β h' w/\Fr Z β h w β h' w/\VR β (Own Z β h') w i v/\i.jE=true:=by
 unfold lG at b;split at b
 .rename_i A;cases b;exact⟨R,Fr.refl _ _ _ _,l,A⟩
 .split at b
  .rename_i cs _;simp only[aD]at b;let⟨⟨cs',h2⟩,o,n⟩:=b;cases n;obtain⟨vs,rfl,hl,h1,q⟩:=l.nk;let⟨x,y,E,r,z⟩:=EF cs R o hl q;exact⟨x,y,.agg cs' vs E h1 r,by simpa[AV.jE]using z⟩
  .let⟨x,y,r,z⟩:=zb R b l;refine⟨x,y,r,?_⟩;cases i<;>simp_all[AV.jD,AV.jE]
def qh:∀(cs:List AV){h:AH}(_:Rel Z β h w){cs':List AV}{h':AH}(_:jk h cs=some (cs',h')){vs:List Value}(_:cs.length=vs.length)
  (_:∀(j:Nat)(y:AV)(u:Value),cs[j]? = some y->vs[j]? = some u->VR β (Own Z β h) w y u),
  Rel Z β h' w/\Fr Z β h w β h' w/\cs'.length=vs.length/\(∀(j:Nat)(y:AV)(u:Value),cs'[j]? = some y->vs[j]? = some u->VR β (Own Z β h') w y u)/\∀y∈cs',y.jE=true
 | [],h,R,cs',h',l,vs,hl,_=>by
  simp only[jk]at l;cases l;exact⟨R,Fr.refl _ _ _ _,hl,λj y u b=>by simp at b,ah⟩
 |a::cs,h,R,cs',h',l,vs,hl,r=>by
  simp only[jk,aD]at l;let⟨⟨K,h1⟩,q,⟨l2,h2⟩,o,n⟩:=l;cases n;cases vs with
  |nil=>simp at hl
  |cons v vs =>
   let⟨G,z,E,M⟩:=vn R q (r 0 a v rfl rfl);let⟨F,x,H,A,L⟩:=qh cs G o (vs:=vs) (ak hl) (λj y u b i=>(r (j+1) y u (ak b) (ak i)).fr z)
   refine⟨F,z.trans x,by simp[H],λj y u b i=>?_,λy b=>?_⟩
   .cases j with
    |zero=>simp at b i;subst b i;exact E.fr x
    |succ j=>exact A j y u (ak b) (ak i)
   grind
def MA(R:Rel Z β h w){a:AV}(b:lP h a=some (i,h')){v:Value}(l:VR β (Own Z β h) w a v):
  Rel Z β h' w/\Fr Z β h w β h' w/\VR β (Own Z β h') w i v/\i.rI=true:=by
 unfold lP at b;split at b
 .rename_i A;cases b;exact⟨R,Fr.refl _ _ _ _,l,A⟩
 .split at b
  .rename_i cs _;simp only[aD]at b;let⟨⟨cs',h2⟩,o,n⟩:=b;cases n;obtain⟨vs,rfl,hl,q⟩:=l.CA;let⟨x,y,E,r,z⟩:=qh cs R o hl q;exact⟨x,y,.iV cs' vs E r,by simpa[AV.rI]using z⟩
  .let⟨x,y,r,z⟩:=vn R b l;refine⟨x,y,r,?_⟩;cases i<;>simp_all[AV.rI,AV.jE,AV.jD]
end
def gY(P:Program)(Z:ay)(β:iW)(h:AH)(w:World)(s:Sem Value)(av:AV)(h':AH):Prop :=
 ∃v w' β',s.run P w = .ok v w'/\Rel Z β' h' w'/\Fr Z β h w β' h' w'/\VR β' (Own Z β' h') w' av v
section
variable{P:Program}{Z:ay}{β:iW}{h:AH}{w:World}
theorem gY.of(R:Rel Z β h w){s:Sem Value}{v:Value}(i:s.run P w = .ok v w)(b:VR β (Own Z β h) w av v):gY P Z β h w s av h :=
 ⟨v,w,β,i,R,Fr.refl _ _ _ _,b⟩
def VR.of_int{O:ay}(k:IntKind)(n:Int):VR β O w (.int k n) (.int k n):=.pure _ _ (.int k n)
def VR.of_bool{O:ay}(b:Bool):VR β O w (.bool b) (.bool b):=.pure _ _ (.bool b)
def VR.CU{O:ay}{b:ByteArray}{s:aq}(i:b.data.toList=s):VR β O w (.str s) (.string b):=by subst i;exact .pure _ _ (.str b)
def toList_data(b:ByteArray):b.toList=b.data.toList:=ByteArray.toList_eq b
def El:∀x y:aq,Op.bytesLess x y=ij x y
 |_,[]=>by simp[Op.bytesLess,ij]
 | [],_::_=>rfl
 |a::x,b::y=>by simp only[Op.bytesLess,ij,El x y]
def GJ(R:Rel Z β h w){x y:aq}{op:BinOp}(hx:mw x y op=some av){a b:ByteArray}(o:a.data.toList=x)(l:b.data.toList=y):
  gY P Z β h w (Op.stringOp op a b) av h:=by
 have e1:a.toList=x:=(toList_data a).trans o;have z:b.toList=y:=(toList_data b).trans l;have n:(a++b).data.toList=x++y:=by rw[ByteArray.data_append,Array.toList_append,o,l]
 have r:a.size=x.length:=by rw[<-o];rfl
 have q:b.size=y.length:=by rw[<-l];rfl
 have i:(x==y)=decide (x=y):=by rw[ez];simp
 cases op<;>simp only[mw]at hx<;>try (cases hx;done)
 case add =>
  split at hx
  .rename_i hl;cases hx;refine gY.of R (v:=.string (a++b)) ?_ (.CU n)
   have:¬((a.size+b.size:Nat):Int)>IntKind.i64.max:=by
    have:IntKind.i64.max=9223372036854775807:=by rfl
    rw[this,r,q];omega
   simp only[Op.stringOp,this,if_false,Sem.run_pure]
  .cases hx
 all_goals
  cases hx;refine gY.of R (v:=.bool _) ?_ (.of_bool _);simp only[Op.stringOp,Sem.run_pure,e1,z,El,i]
def Hs(R:Rel Z β h w){k:IntKind}{x y:Int}{op:BinOp}(hx:mY k x y op=some av)(t:TypeId):
  gY P Z β h w (binOp op t (.int k x) (.int k y)) av h:=by
 have b:(x==y)=decide (x=y):=by rw[ez];simp
 cases op<;>simp only[mY]at hx<;>try (cases hx;done)
 case quo =>
  split at hx
  .cases hx
  .rename_i i;cases hx;exact gY.of R (v:=.int k _) (by simp[binOp,Op.intDiv,i]) (.of_int _ _)
 case rem =>
  split at hx
  .cases hx
  .rename_i i;cases hx;exact gY.of R (v:=.int k _) (by simp[binOp,Op.intDiv,i]) (.of_int _ _)
 all_goals
  cases hx
  first
   |exact gY.of R (v:=.int k _) (by simp[binOp,Op.intArith,Op.intBits];done) (.of_int _ _)
   |exact gY.of R (v:=.bool _) (by simp[binOp,Op.intCmp,b,bne];done) (.of_bool _)
def RM(R:Rel Z β h w){op:BinOp}{y:AV}(hx:bin op x y=some av){a b:Value}(z:VR β (Own Z β h) w x a)(r:VR β (Own Z β h) w y b)(t:TypeId):
  gY P Z β h w (binOp op t a b) av h/\∀l i,(eqGuard op t l i a b).run P w = .ok () w:=by
 cases x with
 |int k x =>
  cases y with
  |int F y =>
   have:=z.jF;subst this;have:=r.jF;subst this
   have hg:∀l i,(eqGuard op t l i (.int k x) (.int F y)).run P w = .ok () w:=by
    intro l i;cases op<;>simp[eqGuard]
   refine⟨?_,hg⟩;simp only[bin]at hx;cases op
   case shl =>
    dsimp only at hx;split at hx
    .cases hx
    .rename_i n;cases hx;exact gY.of R (v:=.int k _) (by simp[binOp,Op.shift,n]) (.of_int _ _)
   case shr =>
    dsimp only at hx;split at hx
    .cases hx
    .rename_i n;cases hx;exact gY.of R (v:=.int k _) (by simp[binOp,Op.shift,n]) (.of_int _ _)
   all_goals
    dsimp only at hx;split at hx
    .rename_i hk;subst hk;exact Hs R hx t
    .cases hx
  |_=>simp[bin]at hx
 |str x =>
  cases y with
  |str y =>
   obtain⟨E,rfl,q⟩:=z.lN;obtain⟨A,rfl,o⟩:=r.lN;refine⟨?_,λl i=>by cases op<;>simp[eqGuard]⟩
   have:binOp op t (.string E) (.string A)=Op.stringOp op E A:=by cases op<;>rfl
   rw[this];exact GJ R hx q o
  |_=>simp[bin]at hx
 |_=>simp[bin]at hx
def TV(R:Rel Z β h w){op:UnOp}(hx:un op x=some av){a:Value}(i:VR β (Own Z β h) w x a):gY P Z β h w (Op.unary op a) av h:=by
 cases x with
 |bool b =>
  have:=i.lK;subst this;cases op<;>simp[un]at hx
  subst hx;exact gY.of R (v:=.bool (!b)) (by simp[Op.unary]) (.of_bool _)
 |int k n =>
  have:=i.jF;subst this;cases op<;>simp[un]at hx
  subst hx;exact gY.of R (v:=.int k _) (by simp[Op.unary,Op.intArith]) (.of_int _ _)
 |_=>simp[un]at hx
end
theorem addr_add(b o j:Nat):(⟨b,o,none⟩:Addr).add j=⟨b,o+j,none⟩:=by
 unfold Addr.add
 grind
def Ql{p:Nat->Value->Prop}(n:Nat)(b:∀j,j<n->∃u,p j u):∃vs:List Value,vs.length=n/\∀(j:Nat)(u:Value),vs[j]? = some u->p j u:=by
 induction n with
 |zero=>simp_all
 |succ n i =>
  let⟨vs,hl,l⟩:=i λj q=>b j aa
  let⟨u,o⟩:=b n aa
  refine⟨vs++[u],by simp[hl],λj x hx=>?_⟩
  grind
def jg(P:Program)(t:TypeId)(sz:Nat):Bool:=match P.info? t with | some i=>i.size==sz | none=>false
def tQ(P:Program)(t:TypeId)(n:Nat):Bool:=match P.info? t with | some i=>i.bytes==n | none=>false
def rJ(P:Program)(t:TypeId)(agg:Bool):Bool :=
 match P.underlying t with
 |some (.struct _)=>agg
 |some (.array _ _)=>agg
 |some _=>!agg
 |none=>false
def eqS:Value->AV->Bool
 | .bool b,.bool q=>b==q
 | .int k n,.int o i=>decide (k=o)&&decide (n=i)
 | .string s,.str l=>decide (s.data.toList=l)
 | .pointer none,.kG=>true
 | .map none,.me=>true
 | .slice none 0 0,.en _ []=>true
 | .slice none 0 0,.yl=>true
 | .nilFunc,.kU=>true
 | .nilIface,.kg=>true
 |_,_=>false
def AP:List Value->List AV->Bool
 | [],[]=>true
 |v::vs,a::as=>eqS v a&&AP vs as
 |_,_=>false
def Tn:Value->AV->Bool
 | .agg cs,.agg l=>AP cs.toList l
 |v,a=>eqS v a
def ux(P:Program)(t:TypeId)(cs:List AV):Bool:=match P.info? t with
 |some i=>match i.zero with
  |some z=>AP z.cells.toList cs
  |none=>false
 |none=>false
def zeroV(P:Program)(t:TypeId)(a:AV):Bool:=match P.info? t with
 |some i=>match i.zero with
  |some z=>Tn z a
  |none=>false
 |none=>false
def Dr{O:ay}{w:World}{v:Value}{a:AV}(b:eqS v a=true):mM O w a v/\v.oneCell'=true/\a.jD=true:=by
 unfold eqS at b;split at b
 .simp at b;subst b;exact⟨.bool _,rfl,rfl⟩
 .simp at b;obtain⟨rfl,rfl⟩:=b;exact⟨.int _ _,rfl,rfl⟩
 .simp at b;subst b;exact⟨.str _,rfl,rfl⟩
 .exact⟨.kG,rfl,rfl⟩
 .exact⟨.me,rfl,rfl⟩
 .exact⟨.en _ [] none 0 0 0 0 (λ_ _=>.bool true) ah ah ah ah ah ah ah,rfl,rfl⟩
 .exact⟨.yl,rfl,rfl⟩
 .exact⟨.kU,rfl,rfl⟩
 .exact⟨.kg,rfl,rfl⟩
 .cases b
def nW{O:ay}{w:World}:∀ {vs:List Value} {as:List AV},AP vs as=true->
  as.length=vs.length/\(∀u∈vs,u.oneCell'=true)/\(∀(j:Nat)(y:AV)(u:Value),as[j]? = some y->vs[j]? = some u->mM O w y u)/\as.all AV.jD=true
 | [],[],_=>⟨rfl,ah,ah,rfl⟩
 |v::vs,a::as,b=>by
  simp only[AP,aC]at b;let⟨e1,i⟩:=b;let⟨q,p2,p3⟩:=Dr (O:=O) (w:=w) e1;let⟨q1,o,n,l⟩:=nW (O:=O) (w:=w) i
  grind
 | [],_::_,b=>by simp[AP]at b
 |_::_,[],b=>by simp[AP]at b
def Jq{O:ay}{w:World}{v:Value}{a:AV}(b:Tn v a=true):mM O w a v/\a.jE=true:=by
 unfold Tn at b;split at b
 .rename_i cs l;let⟨q1,o,n,i⟩:=nW (O:=O) (w:=w) b;refine⟨.agg l cs.toList q1 o n,by simpa[AV.jE]using i⟩
 .let⟨q,p2,p3⟩:=Dr (O:=O) (w:=w) b;refine⟨q,?_⟩;cases a<;>simp_all[AV.jD,AV.jE]
variable{sz:Nat}
section
variable{P:Program}{Z:ay}{β:iW}{h:AH}{w:World}
def jr{t:TypeId}(hs:jg P t sz=true)(w:World):(sizeOf t).run P w = .ok sz w:=by
 unfold jg at hs;split at hs
 .rename_i i b;simp at hs;simp[sizeOf,typeInfo,b,hs]
 .cases hs
def tw{t:TypeId}{agg:Bool}(i:rJ P t agg=true)(w:World):(isAgg t).run P w = .ok agg w:=by
 unfold rJ at i;unfold isAgg;split at i
 .rename_i f b;simp[run_underlying b,i]
 .rename_i n e b;simp[run_underlying b,i]
 .rename_i d h1 h2 b;simp only[Sem.run_bind,run_underlying b,Result.andThen_ok];cases d<;>simp_all
 .cases i
theorem BD(R:Rel Z β h w){a:AV}{cs:List AV}(H:iC h a=some cs){agg:Bool}{av:AV}(hs:shape sz agg cs=some av){v:Value}(G:VR β (Own Z β h) w a v)
  {t:TypeId} (y:jg P t sz=true) (r:rJ P t agg=true):∃u,(Instr.loadAt t v).run P w = .ok u w/\VR β (Own Z β h) w av u:=by
 obtain⟨blk,o,rfl,l⟩:=xN R H G;unfold shape at hs;split at hs
 .cases hs
 .rename_i E;have hl:sz<=cs.length:=by omega
  split at hs
  .rename_i i;cases hs
   let⟨vs,q,x⟩:=Ql (p:=λj u=>w.cell? ⟨blk,o+j,none⟩=some u/\u.oneCell'=true/\VR β (Own Z β h) w (cs.getD j .dead) u) sz (λj F=>by
    grind)
   refine⟨.agg vs.toArray,?_,.agg _ vs (by simp[q];omega) ?_ ?_⟩
   .have b:=run_loadCells_list (P:=P) w ⟨blk,o,none⟩ vs (λj u z=>by grind[addr_add])
    rw[q]at b;subst i;simp only[Instr.loadAt,Instr.sureAddr,loadVar,Sem.run_bind,Sem.run_pure,Result.andThen_ok,tw r,if_true,jr y,b]
   .intro u z;obtain⟨j,F,rfl⟩:=eN z;exact(x j _ (by simp[F])).2.1
   grind
  .rename_i i;split at hs
   .rename_i A;let⟨u,h1,h2,h3⟩:=l 0 av (by grind[List.head?_eq_getElem?])
    refine⟨u,?_,h3⟩;have n:agg=false:=by simpa using i
    subst n;simp only[cK]at h1;simp only[Instr.loadAt,Instr.sureAddr,loadVar,Sem.run_bind,Sem.run_pure,Result.andThen_ok,tw r,bq,if_false,run_load,h1]
   .cases hs
def vu(R:Rel Z β h w){a:AV}{cs:List AV}(n:iC h a=some cs){agg:Bool}{av:AV}(hs:shape sz agg cs=some av){v:Value}(l:VR β (Own Z β h) w a v)
  {t:TypeId} (b:jg P t sz=true) (i:rJ P t agg=true):gY P Z β h w (Instr.loadAt t v) av h:=by
 grind[BD,gY.of]
def xU{e:AV}{o:Nat}{xs:List AV}(hs:xs.all AV.jD=true)(b:o+xs.length<=e.cells.length):(e.jT (over e.cells o xs)).cells=over e.cells o xs:=by
 by_cases i:∃cs,e = .agg cs
 .obtain⟨cs,rfl⟩:=i;rfl
 .have n:e.cells=[e]:=by cases e<;>first | rfl | (exact absurd ⟨_,rfl⟩ i)
  have q:∀l,e.jT l=l.headD .dead:=by intro l;cases e<;>first | rfl | (exact absurd ⟨_,rfl⟩ i)
  rw[q,n];rw[n]at b;cases xs with
  |nil =>
   have:over [e] o []=[e]:=by simp[over]
   grind
  |cons x xs =>
   simp at b;have h0:o=0:=aa
   have hx:xs=[]:=aV aa
   subst h0 hx;have:over [e] 0 [x]=[x]:=by simp[over]
   rw[this];simp at hs⊢;cases x<;>first | rfl | grind[AV.jD]
def Bh (R:Rel Z β h w) {a x:AV} {h':AH} (hs:storeAt h sz a x=some h') {v u:Value} (hv:VR β (Own Z β h) w a v) (hu:VR β (Own Z β h) w x u)
  {t:TypeId} (N:jg P t sz=true):∃w',(Instr.storeAt t v u).run P w = .ok () w'/\Rel Z β h' w'/\Fr Z β h w β h' w':=by
 cases a with
 |ptr b vv i o =>
  obtain⟨bd,c,L,K,rfl⟩:=hv.jl;simp only[storeAt]at hs;split at hs
  .rename_i cs hcs;split at hs
   .rename_i n;obtain⟨rfl,rfl,F,O,Q⟩:=n;cases hs;let⟨r,e1,e2,U,e4⟩:=hu.cells F;let⟨c',cur,elem,g1,Y,g3,g4,T⟩:=R.tj hcs o x.cells r e2 aa U e4
    rw[L]at g1;cases g1;cases K;refine⟨_,?_,g4,T⟩;have E:=run_storeCells_at P c o elem r 0 cur w Y aa U
    simp only[cK]at E;have q:u.cells.size=sz:=by rw[e1];simp;omega
    simp only[Instr.storeAt,Instr.sureAddr,storeVar,Sem.run_bind,Sem.run_pure,Result.andThen_ok,jr N,q,ne_eq,not_true_eq_false,if_false,Sem.run_ite]
    grind[over]
   .cases hs
  .simp only[aD]at hs;let⟨⟨x',h1⟩,hp,hs⟩:=hs;let⟨R1,F1,V1,S1⟩:=vn R hp hu;dsimp only at hs;split at hs
   .rename_i v' sz' es S;simp only[aD]at hs;let⟨e,he,hs⟩:=hs;split at hs
    .rename_i n;obtain⟨rfl,F,O,Q⟩:=n;cases hs
     let⟨r,e1,e2,U,e4⟩:=V1.cells (by
      grind[List.all_eq_true,nI])
     let⟨Ns,Lo,q1,q2,q3⟩:=R1.blk b _ S;rw[L]at q1;cases q1
     rcases q3 with⟨q3,_⟩ | ⟨c',cur,g1,Y,g3,g4,T⟩
     .grind
     rw[K]at g1;cases g1;subst q2;have hi:i<es.length:=(az.1 he).1;have hel:=(T i e he).1;have W:bd.base+i*bd.sz+bd.sz<=cur.size:=by
      have:(i+1)*bd.sz<=es.length*bd.sz:=bl _ hi
      grind
     have l:bd.base+i*bd.sz+o+r.length<=cur.toList.length:=aj
     let⟨W1,W2⟩:=R1.vU S L K Y (over cur.toList (bd.base+i*bd.sz+o) r) (by grind[ig]) (es':=es.set i (e.jT (over e.cells o x'.cells))) ah (by
      intro M x1 z
      by_cases H:M=i
      .subst H;rw[bh hi]at z;cases z;have hwc:=xU (e:=e) F (by omega:o+x'.cells.length<=e.cells.length)
       rw[hwc];refine⟨by grind[ig],λj y A=>?_⟩
       rw[iG _ _ _ aa]at A
       simp only[bw];rw[iG _ _ _ l]
       by_cases X:o<=j/\j<o+x'.cells.length
       .rw[if_pos X]at A;rw[if_pos aa]
        have ej:bd.base+(M*bd.sz+j)-(bd.base+M*bd.sz+o)=j-o:=aa
        rw[ej];have G:j-o<r.length:=aa
        refine⟨r[j-o],by simp[G],U _ (aU G),(e4 (j-o) y r[j-o] A (by simp[G])).Bu ?_⟩
        grind
       .rw[if_neg X]at A;rw[if_neg aa]
        let⟨u',k1,k2,k3⟩:=(T M e he).2 j y A
        grind
      .rw[aL (Ne.symm H)]at z;let⟨k0,k⟩:=T M x1 z;refine⟨k0,λj y A=>?_⟩
       let⟨u',k1,k2,k3⟩:=k j y A;have X:j<bd.sz:=by grind
       refine⟨u',?_,k2,k3⟩;simp only[bw];rw[iG _ _ _ l,if_neg]
       .simpa using k1
       .rintro⟨m1,m2⟩
        have WC:=Gk (j':=bd.base+(M*bd.sz+j)-(bd.base+i*bd.sz)) H X aa
        omega)
     refine⟨_,?_,W1,F1.trans W2⟩;have E:=run_storeCells_at P c (bd.base+i*bd.sz+o) bd.ty r 0 cur w Y (ak l) U
     simp only[cK]at E;have q:u.cells.size=sz:=by rw[e1];simp;omega
     simp only[Instr.storeAt,Instr.sureAddr,storeVar,Sem.run_bind,Sem.run_pure,Result.andThen_ok,jr N,q,ne_eq,not_true_eq_false,if_false,Sem.run_ite]
     grind[over]
    .cases hs
   .cases hs
  .cases hs
 |_=>simp[storeAt]at hs
end
end Go.Am
