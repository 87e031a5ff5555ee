/- Part of the proof that TopScriptsCard holds. -/
import Derived.Test.YtahlmpbhfljalaaGreatDoorAmGs
import Derived.RangeFuncFrom
import Derived.RangeFuncOwn
set_option linter.all false
namespace Go.Am
open Go.RowKit
variable{w' W:World}{O n:ay}{i kb:Nat}{β':iW}
section
variable{P:Program}{Z:ay}{Γ:ja}{β:iW}{h:AH}{w:World}
structure Gt(O:ay)(w:World)(O':ay)(w':World):Prop where
 size:w.heap.size<=w'.heap.size
 keep:∀b o,w.heap[b]? = some o->o.isCells=true->¬O b->w'.heap[b]? = w.heap[b]?/\¬O' b
def mM.vt{E:ay}{w:World}(A:Gt O w E w'){a:AV}{v:Value}(h:mM O w a v):mM E w' a v:=by
 induction h with
 |bool b=>exact .bool b
 |int k n=>exact .int k n
 |str s=>exact .str s
 |kG=>exact .kG
 |me=>exact .me
 |kU=>exact .kU
 |kg=>exact .kg
 |yl=>exact .yl
 |en full es a c blk o sz f K L M hs h1 h3 h2 r =>
  have key:es≠[]->w'.heap[blk]? = w.heap[blk]?/\¬E blk:=λq=>by
   let⟨e1,N,S⟩:=M q;obtain⟨x,hx⟩:∃x,es[0]? = some x:=by
    cases es with
    |nil=>exact absurd rfl q
    |cons x l=>exact⟨x,rfl⟩
   let⟨q1,Q⟩:=hs 0 x hx;have z:x.cells[0]? = some (x.cells[0]'aa):=aF _
   let⟨F,H,G⟩:=cells_of_cell (h1 0 x hx 0 _ z);exact A.keep blk F H G N
  refine .en full es a c blk o sz f K L (λq=>?_) hs (λi x hx j y z=>?_) h3 r
  .grind
  .have q:es≠[]:=by grind
   rw[World.cell?_of_block (a:=⟨blk,o+i*sz+j,none⟩) (key q).1];exact h1 i x hx j y z
 |agg cs vs hl h1 h2 r=>exact .agg cs vs hl h1 r
def AV.okM:AV->Bool
 | .iw _=>false
 | .fn .. => false
 | .agg _=>false
 | .iV _=>false
 | .uc _ _=>false
 |_=>true
def AJ:AB->Bool
 | .var cs=>cs.all AV.okM
 | .mp _ _=>false
 |_=>true
def VR.vt{q:ay}{w:World}(l:Gt O w q w'){a:AV}{v:Value}(ok:a.okM=true)(h:VR β O w a v):VR β q w' a v:=by
 cases h with
 |pure _ _ h=>exact .pure _ _ (h.vt l)
 |dead v=>exact .dead v
 |undef=>exact .undef
 |ptr b v i o bd c h1 h2=>exact .ptr b v i o bd c h1 h2
 |iw cs blk o f=>cases ok
 |own b v o n bd a c h1 h2=>exact .own b v o n bd a c h1 h2
 |agg cs vs=>cases ok
 |iV cs vs=>cases ok
 |fn=>cases ok
 |uc=>cases ok
 |th b=>exact .th b
 |kZ b bd c h1 h2=>exact .kZ b bd c h1 h2
 |Tx b v t bd h1 h2=>exact .Tx b v t bd h1 h2
 |Oz b v t i o bd r c h1 h2 h3 h4=>exact .Oz b v t i o bd r c h1 h2 h3 h4
def ic.vt{l:ay}{w:World}(b:Gt O w l w'){f:Nat->Option Value}{sz:Nat}{es:List AV}(h:ic O w f sz es):ic l w' f sz es:=by
 intro i x hx;let⟨h1,h2⟩:=h i x hx;refine⟨h1,λj y n=>?_⟩
 let⟨v,e1,q,o⟩:=h2 j y n;exact⟨v,e1,q,o.vt b⟩
def nN.vt{A:ay}{w:World}(b:Gt O w A w'){X:AB}(ok:AJ X=true)
  (z:∀c,zh β i X c->w'.heap[c]? = w.heap[c]?) (h:nN β O w i X):nN β A w' i X:=by
 cases X with
 |gone=>trivial
 |mp q es=>cases ok
 |var cs =>
  let⟨c,cur,elem,e1,o,l,H⟩:=h;refine⟨c,cur,elem,e1,(z c ⟨_,rfl,e1⟩).trans o,l,λj y x=>?_⟩
  let⟨v,g1,n,g3⟩:=H j y x;exact⟨v,g1,n,g3.vt b (aJ.1 ok y (bE x))⟩
 |row v sz es =>
  let⟨h0,bd,e1,o,l⟩:=h;refine⟨h0,bd,e1,o,?_⟩
  rcases l with l | ⟨c,cur,g1,n,g3,g4,r⟩
  .exact .inl l
  .exact .inr ⟨c,cur,g1,(z c ⟨bd,g1,e1⟩).trans n,g3,g4,ic.vt b r⟩
 |lu v sz es =>
  let⟨h0,bd,e1,o,l⟩:=h;refine⟨h0,bd,e1,o,?_⟩
  rcases l with l | ⟨c,cur,fr,g1,n,g3,g4,r,G⟩
  .exact .inl l
  .let⟨F,E⟩:=b.keep c _ g3 rfl n;exact .inr ⟨c,cur,fr,g1,E,F.trans g3,g4,r,ic.vt b G⟩
def Rel.L9(R:Rel Z β h w)(ok:h.all AJ=true)(b:Gt (Own Z β h) w (Own n β h) w')(l:∀i c,owned β h i c->w'.heap[c]? = w.heap[c]?)
  (hx:∀c,n c->c<w'.heap.size) (o:∀i c,owned β h i c->¬n c):Rel n β h w' :=
 ⟨hx,o,R.fresh,R.later,λi X q=>(R.blk i X q).vt b (aJ.1 ok X (bE q)) (λc y=>l i c ⟨X,q,y⟩),R.apart,λp x=>by
  let⟨h1,cur,t,fr,h2,h3⟩:=R.gl p x;let⟨v,r⟩:=b.keep _ _ h2 rfl h1;exact⟨r,cur,t,fr,v.trans h2,h3⟩⟩
def Rel.shift(R:Rel Z β h w)(b:jJ (Own Z β h) w (Own n β h) w')(l:∀i c,owned β h i c->w'.heap[c]? = w.heap[c]?)
  (hx:∀c,n c->c<w'.heap.size) (o:∀i c,owned β h i c->¬n c):Rel n β h w' :=
 ⟨hx,o,R.fresh,R.later,λi X q=>(R.blk i X q).mono b (λ_ _ _ e=>e) (λc r=>l i c ⟨X,q,r⟩),R.apart,R.gl.stay b⟩
def Rel.tG(R:Rel Z β h w)(ok:h.all AJ=true){c:Nat}(z:owned β h i c):∃o,w.heap[c]? = some o/\o.isCells=true:=by
 let⟨X,x,bd,l,b⟩:=z;have r:=R.blk i X x;have ok:=aJ.1 ok X (bE x);cases X with
 |gone=>exact b.elim
 |mp q es=>cases ok
 |var cs =>
  let⟨E,cur,elem,e1,y,_⟩:=r;simp only at b;rw[e1]at b;cases b;simp at l;subst l;exact⟨_,y,rfl⟩
 |row v sz es =>
  let⟨_,F,e1,y,n⟩:=r;simp only at b;rw[e1]at b;cases b
  rcases n with⟨n,_⟩ | ⟨E,cur,g1,A,_⟩
  .rw[n]at l;cases l
  .rw[g1]at l;cases l;exact⟨_,A,rfl⟩
 |lu v sz es=>exact b.elim
def Zx(Z:ay)(B c:Nat)(W:World):Nat->Prop:=λb=>Z b\/b=c\/(B<=b/\∃o,W.heap[b]? = some o/\o.isCells=false)
def ZD(Z:ay)(D:Nat):Nat->Prop:=λb=>Z b\/b=D
structure RX(Z:ay)(β:iW)(h:AH)(w:World)(c:Nat)(hh:AH)(β':iW)(W:World):Prop where
 rel:Rel (Zx Z w.heap.size c W) β' hh W
 keep:∀b,b<w.heap.size->Z b->W.heap[b]? = w.heap[b]?
 os:W.os=w.os
 tape:W.tape=w.tape
 output:W.output=w.output
 ext:∀i v bd,β i v=some bd->β' i v=some bd
 stay:jJ (Own Z β h) w (Own (Zx Z w.heap.size c W) β' hh) W
def RX.grown{c:Nat}{H:AH}{z:World}{row:Option Nat}(X:RX Z β h w c H β' W)(ok:H.all AJ=true)(T:∀b,Z b->b<w.heap.size)(S:c<w.heap.size)(L:¬Z c)(M:Own Z β h c)(hg:W.grownBy z row)
  (Y:∀r,row=some r->r=c\/(w.heap.size<=r/\∃o:Obj,W.heap[r]? = some o/\o.isCells=false)):RX Z β h w c H β' z:=by
 have G:∀b o,W.heap[b]? = some o->b≠c->(o.isCells=true\/b<w.heap.size)->z.heap[b]? = W.heap[b]? := λb o n N q=>by
  refine hg.block b (aH.1 n).1 λe=>?_
  grind
 have x:∀b,b<w.heap.size->b≠c->z.heap[b]? = W.heap[b]? := λb n N=>by
  have Q:b<W.heap.size:=br n X.stay.1
  grind
 have E:∀i v,owned β' H i v->v≠c:=λi v q e=>X.rel.yC i v q (.inr (.inl e))
 have K:∀i v,owned β' H i v->z.heap[v]? = W.heap[v]? := λi v q=>by
  let⟨o,h1,h2⟩:=X.rel.tG ok q
  grind
 have F:∀b,(∃o,z.heap[b]? = some o/\o.isCells=true)->¬Zx Z w.heap.size c W b->¬Zx Z w.heap.size c z b:=by
  rintro b ⟨o,h1,h2⟩ O (l | l | ⟨l,o',h3,h4⟩)
  .exact O (.inl l)
  .exact O (.inr (.inl l))
  grind
 refine⟨X.rel.L9 ok ⟨hg.size,λb o n q A=>?_⟩ K (λb n=>?_) (λi b q=>?_),λb n l=>(x b n (λe=>L (e▸l))).trans (X.keep b n l),hg.os.trans X.os,hg.tape.trans X.tape,hg.output.trans X.output,X.ext,?_,λb n A=>?_⟩
 .have e:=G b o n (λe=>A (.inl (.inr (.inl e)))) (.inl q)
  refine⟨e,λy=>?_⟩
  rcases y with l | l
  .exact F b ⟨o,e.trans n,q⟩ (λl=>A (.inl l)) l
  .exact A (.inr l)
 .rcases n with n | n | ⟨_,o,n,_⟩
  .exact br (T b n) (bQ X.stay.1 hg.size)
  .exact br (n▸S) (bQ X.stay.1 hg.size)
  grind
 .let⟨o,h1,h2⟩:=X.rel.tG ok q;exact F b ⟨o,(G b o h1 (E i b q) (.inl h2)).trans h1,h2⟩ (X.rel.yC i b q)
 .exact bQ X.stay.1 hg.size
 .let⟨e1,U⟩:=X.stay.2 b n A;refine⟨(x b n (λe=>A (e▸M))).trans e1,λy=>U ?_⟩
  rcases y with(l | l | ⟨l,_⟩) | l
  .exact .inl (.inl l)
  .grind
  .omega
  .exact .inr l
def RX.body{c:Nat}{E h':AH}{β'':iW}{A:World}{L:Nat}(X:RX Z β h w c E β' W)(O:L=h.length)(R:Rel Z β h w)(ok:h'.all AJ=true)(N:∀b,Z b->b<w.heap.size)(M:c<w.heap.size)
  (y:Rel (Zx Z w.heap.size c W) β'' h' A) (F:Ct (nS [] L) (Zx Z w.heap.size c W) β' E W β'' h' A):RX Z β h w c h' β'' A:=by
 have hs:=F.stay.1;have z:=X.stay.1;refine⟨y.L9 ok ⟨aT _,λb o n x r=>⟨rfl,λq=>?_⟩⟩ (λ_ _ _=>rfl) (λb n=>?_) (λi b x=>?_),λb n l=>?_,F.os.trans X.os,F.tape.trans X.tape,F.output.trans X.output,λi v bd n=>?_,bQ z hs,λb n r=>?_⟩
 .rcases q with(l | l | ⟨_,o',h3,h4⟩) | l
  .exact r (.inl (.inl l))
  .exact r (.inl (.inr (.inl l)))
  .grind
  .exact r (.inr l)
 .rcases n with n | n | ⟨_,o,n,_⟩
  .grind
  .grind
  grind
 .let⟨o,h1,h2⟩:=y.tG ok x
  rintro(l | l | ⟨_,o',h3,h4⟩)
  .exact y.yC i b x (.inl l)
  .exact y.yC i b x (.inr (.inl l))
  grind
 .exact(F.kJ b (br n z) (.inl l)).trans (X.keep b n l)
 .refine F.ext i v bd ?_ (X.ext i v bd n);unfold nS;have:i<L:=by
   rcases dA i L with h1 | h1
   .exact h1
   .rw[R.fresh i v aa]at n;cases n
  simp;omega
 .let⟨e1,K⟩:=X.stay.2 b n r;let⟨H,G⟩:=F.stay.2 b (br n z) K;refine⟨H.trans e1,λq=>G ?_⟩
  rcases q with(l | l | ⟨l,_⟩) | l
  .exact .inl (.inl l)
  .exact .inl (.inr (.inl l))
  .omega
  .exact .inr l
def RX.out{c:Nat}{r:AH}{D:Nat}(X:RX Z β h w c r β' W)(y:w.heap.size<=D)(hk:W.heap[D]? = some (.deferred (some []))):
  Rel (ZD Z D) β' r W/\Fr Z β h w β' r W:=by
 have n:∀b,ZD Z D b->Zx Z w.heap.size c W b:=by
  rintro b (l | rfl)
  .exact .inl l
  .exact .inr (.inr ⟨y,_,hk,rfl⟩)
 refine⟨X.rel.shift ⟨aT _,λb q v=>⟨rfl,λo=>v ?_⟩⟩ (λ_ _ _=>rfl) (λb q=>X.rel.xlt b (n b q)) (λi b x l=>X.rel.yC i b x (n b l)),X.keep,X.os,X.tape,X.output,X.ext,X.stay.1,λb q v=>?_⟩
 .rcases o with l | l
  .exact .inl (n b l)
  .exact .inr l
 .let⟨e1,z⟩:=X.stay.2 b q v
  exact⟨e1,λo=>z (by
   rcases o with l | l
   .exact .inl (.inl l)
   .exact .inr l)⟩
def coll(a:Act)(D:Nat):Act:={a with defers:={target:=.collected D,args := #[]}::a.defers}
def HP:AX->Code
 | .normal=>.skip
 | .exit id=>.exit id
 | .ret=>.ret
 | .mD _=>.skip
def nc{h:AH}{X:AB}(b:(h.set kb .gone)[i]? = some X):(i=kb/\X = .gone)\/(i≠kb/\h[i]? = some X):=by
 grind
def RX.start(R:Rel Z β h w){c:Nat}(E:owned β h kb c):RX Z β h w c (h.set kb .gone) β w:=by
 have z:∀ {i b},owned β (h.set kb .gone) i b->i≠kb/\owned β h i b:=by
  rintro i b ⟨X,l,n⟩
  rcases nc l with⟨rfl,rfl⟩ | ⟨x,l⟩
  .let⟨_,_,h2⟩:=n;exact h2.elim
  .exact⟨x,X,l,n⟩
 have r:jJ (Own Z β h) w (Own (Zx Z w.heap.size c w) β (h.set kb .gone)) w:=by
  refine⟨aT _,λb y M=>⟨rfl,λF=>M ?_⟩⟩
  rcases F with(q | rfl | ⟨q,_⟩) | ⟨i,q⟩
  .exact .inl q
  .exact .inr ⟨kb,E⟩
  .omega
  .exact .inr ⟨i,(z q).2⟩
 refine⟨⟨λb y=>?_,λi b n=>?_,λi v A=>R.fresh i v (ak A),λi v sz es v' l G=>?_,λi X l=>?_,λi j b A L=>R.apart i j b (z A).2 (z L).2,R.gl.stay r⟩,λ_ _ _=>rfl,rfl,rfl,rfl,λ_ _ _ e=>e,r⟩
 .rcases y with y | rfl | ⟨_,o,y,_⟩
  .exact R.xlt b y
  .exact R.mS E
  grind
 .let⟨x,n⟩:=z n;have K:=R.mS n
  rintro(q | rfl | ⟨q,_⟩)
  .exact R.yC i b n q
  .exact x (R.apart i kb b n E)
  .omega
 .rcases nc l with⟨rfl,H⟩ | ⟨_,l⟩
  .cases H
  .exact R.later i v sz es v' l G
 .rcases nc l with⟨rfl,rfl⟩ | ⟨_,l⟩
  .trivial
  .exact(R.blk i X l).mono r (λ_ _ _ e=>e) (λ_ _=>rfl)
def OY(P:Program)(gf:Nat)(lb:Array Value)(encs:List (Array Value))(c:Nat)(r:ay)(w:World):Prop :=
 ∀(l:Nat)(J:Nat->World->Prop)(o:World->Prop)(W:World),(∀b,b<w.heap.size->W.heap[b]? = w.heap[b]?)->w.heap.size<=W.heap.size->
  (∀i A B,J i A->A.grownBy B (some c)->J i B)->(∀A B,o A->A.grownBy B (some c)->o B)->
  (∀(i:Nat)(x:i<encs.length)(q:World),J i q->YieldAt Fence.wide 0 P l encs[i] q λe n =>
   (e = .returned (.bool true)/\J (i+1) n/\∀b,b<w.heap.size->(b=c\/r b)->n.heap[b]? = q.heap[b]?)\/(e = .returned (.bool false)/\o n))->
  J 0 W->CallsIn Fence.wide 0 P gf (#[.func (.yield l) #[] #[]]++lb) W λe n=>(∃v,e = .returned v)/\(J encs.length n\/o n)
def BP(W:World)(l:Nat)(o:Obj):W.grownBy (W.putObj l o) (some l) :=
 ⟨rfl,rfl,rfl,ah,λk _ hk=>World.putObj_heap_other (λe=>hk (by rw[e]))⟩
def Ew(hm:P.follows .mixedOrders=true)(hΓ:js P Γ){n:Nat}{ps:Array Tmp}{asg body:Code}{g:Operand}{bA:AC}(O9:ir P n body bA=true)(ndb:C3 body=true)
  {a:Act} (R:Rel Z β h w) {kb c:Nat} (hc:owned β h kb c) {gf:Nat} {lb:Array Value} (hg:a.eval g = .func (.func gf) #[] lb) (eg:∀args w,(callFunc gf args).run P w = .ok (.enter gf args) w)
  {encs:List (Array Value)} (hseq:OY P gf lb encs c (λb=>¬Own Z β h b) w) (hps:∀x∈encs,x.size=ps.size)
  (I:Nat->AH->Prop) (X:AX->AH->Prop) (L:Nat) (hL:L=h.length) (WG:∀i y,I i y->y.all AJ=true) (ad6:∀G y,X G y->y.all AJ=true) (hXp:∀p y,¬X (.mD p) y)
  (h0:I 0 (h.set kb .gone)) (S:(i:Nat)->i<encs.length->Act)
  (ajI:∀(l i:Nat)(F:i<encs.length)(W:World)(K:Act->World->Prop),K (S i F) W->asg.wpIn (Fence.wide.inRound l) 0 P (Exit.then K (λ_ _ _=>False)) {tmps:=(ps.zip encs[i]).foldl (λt (p,v)=>t.setIfInBounds p v) a.tmps,defers:=[]} W)
  (e₁:Nat->Env) (hE:∀(i:Nat)(F:i<encs.length)(O':ay)(β':iW)(W:World),jJ (Own Z β h) w O' W->(∀i v bd,β i v=some bd->β' i v=some bd)->(S i F).tmps.size=n/\∀t,VR β' O' W (e₁ i t) ((S i F).tmps.getD t Go.undef))
  (hstep:∀i y,i<encs.length->I i y->∃G h',eval Γ bA (nS [] L) (AX×AH) (λG s=>some (G,s.h)) ⟨e₁ i,y⟩=some (G,h')/\
   (G = .normal->I (i+1) (iQ L [] h' 0 (h'.take L)))/\(G≠.normal->X G h'))
  {Q:Exit->Act->World->Prop}
  (hdone:∀(D:Nat)(W:World)(y:AH)(β':iW),w.heap.size<=D->I encs.length y->Rel (ZD Z D) β' y W->Fr Z β h w β' y W->W.heap[D]? = some (.deferred (some []))->Q .normal (coll a D) W)
  (hstop:∀(D:Nat)(G:AX)(W:World)(y:AH)(β':iW),w.heap.size<=D->G≠.normal->X G y->Rel (ZD Z D) β' y W->Fr Z β h w β' y W->W.heap[D]? = some (.deferred (some []))->Q G.exit' (coll a D) W) :
  (Code.rangeFunc g ps asg body).wpIn Fence.wide 1 P Q a w:=by
 have hZ:∀b,Z b->b<w.heap.size:=R.xlt;have Fq:c<w.heap.size:=R.mS hc;have Wz:¬Z c:=R.yC kb c hc;have hcO:Own Z β h c:=.inr ⟨kb,hc⟩;refine wpIn_rangeFunc λfn _=>?_
 obtain⟨rec,E⟩:∃rec:LoopState->Option Code->Loop,rec=λst pe=>{state:=st,pending:=pe,fn,tmps:=a.tmps,params:=ps,assign:=asg,body,defers:=w.heap.size}:=⟨_,rfl⟩
 obtain⟨W1,hW1⟩:∃W1,(w.alloc (.deferred (some []))).alloc (.loop (rec .ready none))=W1:=⟨_,rfl⟩;have hs1:W1.heap.size=w.heap.size+2:=by rw[<-hW1];simp
 have ajt:∀b,b<w.heap.size->W1.heap[b]? = w.heap[b]? := λb hb=>by
  grind[Below.heap_alloc]
 have hL1:W1.heap[w.heap.size+1]? = some (.loop (rec .ready none)):=by
  rw[<-hW1];have:=World.alloc_heap_new (w.alloc (.deferred (some []))) (.loop (rec .ready none));simp_all
 have hK1:W1.heap[w.heap.size]? = some (.deferred (some [])):=by
  rw[<-hW1];exact(Below.heap_alloc _ _ _ ah).trans (World.alloc_heap_new w _)
 obtain⟨II,hII⟩:∃II:Nat->World->Prop,II=λi W=>∃y β',I i y/\RX Z β h w c y β' W:=⟨_,rfl⟩
 obtain⟨IX,hIX⟩:∃IX:Code->World->Prop,IX=λcd W=>∃G y β',cd=HP G/\G≠.normal/\X G y/\RX Z β h w c y β' W:=⟨_,rfl⟩
 have tI:∀ {i:Nat} {A B:World} {row:Option Nat},II i A->A.grownBy B row->(∀r,row=some r->r=c\/(w.heap.size<=r/\∃o:Obj,A.heap[r]? = some o/\o.isCells=false))->II i B:=by
  rw[hII]
  rintro i A B row ⟨y,β',F,x⟩ hg hr
  exact⟨y,β',F,x.grown (WG i y F) hZ Fq Wz hcO hg hr⟩
 have tX:∀ {cd:Code} {A B:World} {row:Option Nat},IX cd A->A.grownBy B row->(∀r,row=some r->r=c\/(w.heap.size<=r/\∃o:Obj,A.heap[r]? = some o/\o.isCells=false))->IX cd B:=by
  rw[hIX]
  rintro cd A B row ⟨G,y,β',he,T,F,x⟩ hg hr
  exact⟨G,y,β',he,T,F,x.grown (ad6 G y F) hZ Fq Wz hcO hg hr⟩
 have pI:∀ {i:Nat} {W:World} {l:Nat} {o o':Obj},II i W->w.heap.size<=l->W.heap[l]? = some o->o.isCells=false->II i (W.putObj l o'):=λF hl ho hn =>
  tI F (BP _ _ _) λr e=>by grind
 have pX:∀ {cd:Code} {W:World} {l:Nat} {o o':Obj},IX cd W->w.heap.size<=l->W.heap[l]? = some o->o.isCells=false->IX cd (W.putObj l o'):=λF hl ho hn =>
  tX F (BP _ _ _) λr e=>by grind
 have hI0:II 0 W1:=by
  have h1:II 0 w:=by rw[hII];exact⟨_,β,h0,RX.start R hc⟩
  have h2:II 0 (w.alloc (.deferred (some []))):=tI h1 (World.grownBy_alloc w _ none) λr e=>by cases e
  rw[<-hW1];exact tI h2 (World.grownBy_alloc _ _ none) λr e=>by cases e
 refine⟨w.heap.size+1,[{target:=.collected w.heap.size,args := #[]}],W1,{target:=.fn (.func gf) lb,args := #[.func (.yield (w.heap.size+1)) #[] #[]]},W1,gf,
  #[.func (.yield (w.heap.size + 1)) #[] #[]] ++ lb, W1, ?_, ?_, λ_ _ => trivial, ?_, λh => by simp[Fence.wide]at h, ?_⟩
 .rw[<-hW1,E];exact run_enterLoop_outer _ _ _ _ _
 .simp only[resolve,hg];simp[go_sem]
 .simp[invoke,go_sem,eg]
 .have other:∀ {A B:World} {k:Nat} {o:Obj},A.grownBy B (some c)->w.heap.size<=k->A.heap[k]? = some o->B.heap[k]? = some o:=λhg hk ho =>
   (hg.block _ (aH.1 ho).1 (λe=>by grind)).trans ho
  refine(hseq (w.heap.size+1)
   (λi W=>II i W/\W.heap[w.heap.size+1]? = some (.loop (rec .ready none))/\W.heap[w.heap.size]? = some (.deferred (some [])))
   (λW=>∃cd,IX cd W/\W.heap[w.heap.size+1]? = some (.loop (rec .done (some cd)))/\W.heap[w.heap.size]? = some (.deferred (some [])))
   W1 ajt aa
   (λi A B hs hg'=>⟨tI hs.1 hg' (λr e=>by cases e;exact .inl rfl),other hg' aa hs.2.1,other hg' (aT _) hs.2.2⟩)
   (λA B hs hg'=>by
    let⟨cd,h1,h2,h3⟩:=hs
    grind)
   ?_ ⟨hI0,hL1,hK1⟩).mono ?_
  ·
   rintro i F W ⟨hii,hl,hk⟩
   have O:w.heap.size+1<W.heap.size:=(aH.1 hl).1;have hy:=run_yield (P:=P) (args:=encs[i]) hl (by grind)
   rw[E]at hy;refine⟨fn,_,asg,body,hy,roundIn_of_wpIn trivial (ajI _ i F W _ ⟨_,run_beginRound hl (by rw[E]),?_⟩)⟩
   obtain⟨M,Pf⟩:∃M,M=W.putObj (w.heap.size+1) (.loop {rec .ready none with state:=.busy}):=⟨_,rfl⟩
   have hl2:M.heap[w.heap.size+1]? = some (.loop {rec .ready none with state:=.busy}):=by rw[Pf];exact World.putObj_heap_same O
   have hk2:M.heap[w.heap.size]? = some (.deferred (some [])):=by rw[Pf];exact(World.putObj_heap_other aa).trans hk
   have hi2:II i M:=by rw[Pf];exact pI hii aa hl rfl
   have WC:∀b,b<w.heap.size->M.heap[b]? = W.heap[b]? := λb hb=>by rw[Pf];exact World.putObj_heap_other aa
   rw[hII]at hi2;let⟨y,β',Y,X0⟩:=hi2;let⟨G,h',hev,hn,hx⟩:=hstep i y F Y;refine wpIn_mono (Q:=λe a3 H=>∃z,e=z.exit'/\KeepsOthers M H/\(∀b,b<w.heap.size->(b=c\/¬Own Z β h b)->H.heap[b]? = M.heap[b]?)/\(z = .normal->II (i+1) H)/\(z≠.normal->IX (HP z) H)) ?_ ?_
   .suffices hs:body.wpIn (Fence.wide.inRound (w.heap.size+1)) 0 P (λe a3 H=>∃z,e=z.exit'/\KeepsOthers M H/\(∀b,b<w.heap.size->(b=c\/¬Own Z β h b)->H.heap[b]? = M.heap[b]?)/\(z = .normal->II (i+1) H)/\(z≠.normal->IX (HP z) H)) (S i F) M by
     grind
    refine Dn (lr:=w.heap.size+1) hm hΓ bA body O9 ndb hev (W:=λ_=>true) (λ_ _=>rfl) X0.rel (hE i F _ β' M X0.stay X0.ext) (λz s' a' w' β'' hk R' F' E'' K'=>?_)
    simp only[aP,Prod.mk.injEq]at hk;obtain⟨rfl,rfl⟩:=hk;refine⟨z,rfl,⟨F'.stay.1,λk o hk ho=>?_⟩,λb hb hB=>?_,λhe=>?_,λhe=>?_⟩
    .have O:k<M.heap.size:=(aH.1 hk).1
     by_cases hO:Own (Zx Z w.heap.size c M) β' y k
     .rcases hO with hz | ⟨i,hz⟩
      .exact(F'.kJ k O hz).trans hk
      .let⟨o',h1,h2⟩:=X0.rel.tG (WG _ _ Y) hz
       grind
     .exact(F'.stay.2 k O hO).1.trans hk
    .have O:b<M.heap.size:=br hb X0.stay.1
     rcases hB with rfl | hB
     .exact F'.kJ b O (.inr (.inl rfl))
     .exact(F'.stay.2 b O (X0.stay.2 b hb hB).2).1
    .rw[hII];exact⟨iQ L [] s'.h 0 (s'.h.take L),uW β'' s'.h L [],hn he,X0.body hL R (WG _ _ (hn he)) hZ Fq (zI R' L []) (F'.trans zK)⟩
    .rw[hIX];exact⟨z,s'.h,β'',rfl,he,hx he,X0.body hL R (ad6 _ _ (hx he)) hZ Fq R' F'⟩
   .have fin:∀(jump:Option Code)(H:World),KeepsOthers M H->
      (Instr.endRound (w.heap.size+1) jump).run P H = .ok (.bool jump.isNone) (H.putObj (w.heap.size+1) (.loop (rec (if jump.isNone then .ready else .done) jump)))/\
      H.heap[w.heap.size+1]? = some (.loop {rec .ready none with state:=.busy})/\
      (H.putObj (w.heap.size+1) (.loop (rec (if jump.isNone then .ready else .done) jump))).heap[w.heap.size+1]? = some (.loop (rec (if jump.isNone then .ready else .done) jump))/\
      (H.putObj (w.heap.size+1) (.loop (rec (if jump.isNone then .ready else .done) jump))).heap[w.heap.size]? = some (.deferred (some [])):=λjump H U=>by
     have N:=U.same _ _ hl2 rfl;have:=run_endRound (P:=P) jump N;rw[E]at this⊢;exact⟨this,by grind,World.putObj_heap_same (aH.1 N).1,(World.putObj_heap_other aa).trans (U.same _ _ hk2 rfl)⟩
    rintro e a3 H ⟨z,rfl,U,ajv,hn3,hx3⟩
    cases z with
    |normal =>
     let⟨hr,N,hl4,hk4⟩:=fin none H U;exact⟨_,_,hr,.inl ⟨rfl,⟨pI (hn3 rfl) aa N rfl,hl4,hk4⟩,λb hb hB=>(World.putObj_heap_other aa).trans ((ajv b hb hB).trans (WC b hb))⟩⟩
    |ret =>
     let⟨hr,N,hl4,hk4⟩:=fin (some .ret) H U;exact⟨_,_,hr,.inr ⟨rfl,.ret,pX (hx3 ah) aa N rfl,hl4,hk4⟩⟩
    |mD q =>
     have:=hx3 ah
     rw[hIX]at this;let⟨G,y,_,he,T,F,_⟩:=this;cases G<;>first | exact absurd rfl T | exact absurd F (hXp _ _) | cases he
    |exit id =>
     let⟨hr,N,hl4,hk4⟩:=fin (some (.exit id)) H U;exact⟨_,_,hr,.inr ⟨rfl,.exit id,pX (hx3 ah) aa N rfl,hl4,hk4⟩⟩
  ·
   rintro e M ⟨⟨v,rfl⟩,(⟨F,hl,hk⟩ | ⟨cd,F,hl,hk⟩)⟩
   .refine⟨none,_,by have:=run_endLoop (P:=P) hl (by rw[E];simp);rw[E]at this;exact this,?_⟩
    have key:∀(o':Obj),Q .normal (coll a w.heap.size) (M.putObj (w.heap.size+1) o'):=λo'=>by
     have hi':=pI (o':=o') F aa hl rfl
     rw[hII]at hi';let⟨y,β',Y,X0⟩:=hi';have hk':(M.putObj (w.heap.size+1) o').heap[w.heap.size]? = some (.deferred (some [])):=(World.putObj_heap_other aa).trans hk
     let⟨r1,r2⟩:=X0.out (aT _) hk'
     grind
    exact key _
   .refine⟨some cd,_,by have:=run_endLoop (P:=P) hl (by rw[E];simp);rw[E]at this;exact this,?_⟩
    have key:∀(o':Obj),cd.wpIn Fence.wide 1 P Q (coll a w.heap.size) (M.putObj (w.heap.size+1) o'):=λo'=>by
     have hi':=pX (o':=o') F aa hl rfl
     rw[hIX]at hi';obtain⟨G,y,β',rfl,T,Y,X0⟩:=hi';have hk':(M.putObj (w.heap.size+1) o').heap[w.heap.size]? = some (.deferred (some [])):=(World.putObj_heap_other aa).trans hk
     let⟨r1,r2⟩:=X0.out (aT _) hk';have:=hstop _ G _ y β' (aT _) T Y r1 r2 hk';cases G with
     |normal=>exact absurd rfl T
     |ret=>exact wpIn_ret this
     |exit id=>exact wpIn_exit this
     |mD q=>exact absurd Y (hXp _ _)
    exact key _
end
end Go.Am
