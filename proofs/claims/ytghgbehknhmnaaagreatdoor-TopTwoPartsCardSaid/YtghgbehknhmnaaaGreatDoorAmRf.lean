/- Part of the proof that TopTwoPartsCard holds. -/
import Derived.Test.YtghgbehknhmnaaaGreatDoorAmPu
import Derived.RangeFuncFrom
import Derived.RangeFuncOwn
set_option linter.all false
namespace Go.Am
open Go.RowKit
variable{w' W:World}{O n:az}{i kb:Nat}{β':jO}
section
variable{P:Program}{Z:az}{Γ:jE}{β:jO}{h:AH}{w:World}
structure GR(O:az)(w:World)(O':az)(w':World):Prop where
 size:w.heap.size<=w'.heap.size
 keep:∀b o,w.heap[b]? = some o->o.isCells=true->¬O b->w'.heap[b]? = w.heap[b]?/\¬O' b
def oF.wz{F:az}{w:World}(E:GR O w F w'){a:AV}{v:Value}(h:oF O w a v):oF F w' a v:=by
 induction h with
 |bool b=>exact .bool b
 |int k n=>exact .int k n
 |str s=>exact .str s
 |mT=>exact .mT
 |nu=>exact .nu
 |mj=>exact .mj
 |lU=>exact .lU
 |b9 full es a c blk o sz f K L M hs h1 h3 h2 z =>
  have key:es≠[]->w'.heap[blk]? = w.heap[blk]?/\¬F blk:=λq=>by
   let⟨e1,N,S⟩:=M q;obtain⟨x,r⟩:∃x,es[0]? = some x:=by
    cases es with
    |nil=>exact absurd rfl q
    |cons x l=>exact⟨x,rfl⟩
   let⟨q1,Q⟩:=hs 0 x r;have A:x.cells[0]? = some (x.cells[0]'af):=aH _
   let⟨ob,H,G⟩:=cells_of_cell (h1 0 x r 0 _ A);exact E.keep blk ob H G N
  refine .b9 full es a c blk o sz f K L (λq=>?_) hs (λi x r j y A=>?_) h3 z
  .grind
  .have q:es≠[]:=by grind
   rw[World.cell?_of_block (a:=⟨blk,o+i*sz+j,none⟩) (key q).1];exact h1 i x r j y A
 |agg cs vs hl h1 h2 z=>exact .agg cs vs hl h1 z
def AV.okM:AV->Bool
 | .iV _=>false
 | .fn .. => false
 | .agg _=>false
 | .jg _=>false
 | .sI _ _=>false
 |_=>true
def DK:AB->Bool
 | .var cs=>cs.all AV.okM
 | .mp _ _=>false
 |_=>true
def VR.wz{q:az}{w:World}(l:GR O w q w'){a:AV}{v:Value}(ok:a.okM=true)(h:VR β O w a v):VR β q w' a v:=by
 cases h with
 |pure _ _ h=>exact .pure _ _ (h.wz l)
 |dead v=>exact .dead v
 |undef=>exact .undef
 |ptr b v i o bd c h1 h2=>exact .ptr b v i o bd c h1 h2
 |iV cs blk o f=>cases ok
 |own b v o n bd a c h1 h2=>exact .own b v o n bd a c h1 h2
 |agg cs vs=>cases ok
 |jg cs vs=>cases ok
 |fn=>cases ok
 |sI=>cases ok
 |tT b=>exact .tT b
 |mb b bd c h1 h2=>exact .mb b bd c h1 h2
def iO.wz{l:az}{w:World}(b:GR O w l w'){f:Nat->Option Value}{sz:Nat}{es:List AV}(h:iO O w f sz es):iO l w' f sz es:=by
 intro i x o;let⟨h1,h2⟩:=h i x o;refine⟨h1,λj y n=>?_⟩
 let⟨v,e1,r,q⟩:=h2 j y n;exact⟨v,e1,r,q.wz b⟩
def oA.wz{G:az}{w:World}(b:GR O w G w'){X:AB}(ok:DK X=true)
  (F:∀c,Aq β i X c->w'.heap[c]? = w.heap[c]?) (h:oA β O w i X):oA β G w' i X:=by
 cases X with
 |gone=>trivial
 |mp q es=>cases ok
 |var cs =>
  let⟨c,cur,elem,e1,x,l,M⟩:=h;refine⟨c,cur,elem,e1,(F c ⟨_,rfl,e1⟩).trans x,l,λj y E=>?_⟩
  let⟨v,o,r,n⟩:=M j y E;exact⟨v,o,r,n.wz b (aM.1 ok y (bL E))⟩
 |row v sz es =>
  let⟨h0,bd,e1,x,l⟩:=h;refine⟨h0,bd,e1,x,?_⟩
  rcases l with l | ⟨c,cur,elem,o,r,n,A,z⟩
  .exact .inl l
  .exact .inr ⟨c,cur,elem,o,(F c ⟨bd,o,e1⟩).trans r,n,A,iO.wz b z⟩
 |me v sz es =>
  let⟨h0,bd,e1,x,l⟩:=h;refine⟨h0,bd,e1,x,?_⟩
  rcases l with l | ⟨c,cur,elem,fr,o,r,n,A,z,L⟩
  .exact .inl l
  .let⟨K,H⟩:=b.keep c _ n rfl r;exact .inr ⟨c,cur,elem,fr,o,H,K.trans n,A,z,iO.wz b L⟩
def Rel.Mp(R:Rel Z β h w)(ok:h.all DK=true)(b:GR (Own Z β h) w (Own n β h) w')(l:∀i c,owned β h i c->w'.heap[c]? = w.heap[c]?)
  (A:∀c,n c->c<w'.heap.size) (q:∀i c,owned β h i c->¬n c):Rel n β h w' :=
 ⟨A,q,R.fresh,R.later,λi X r=>(R.blk i X r).wz b (aM.1 ok X (bL r)) (λc F=>l i c ⟨X,r,F⟩),R.apart,λp E=>by
  let⟨h1,h2⟩:=R.gl p E;let⟨o,x,v⟩:=cells_of_cell h2;let⟨z,y⟩:=b.keep _ o x v h1;exact⟨y,by rw[World.cell?_of_block (a:=⟨p.1,0,none⟩) z];exact h2⟩⟩
def Rel.shift(R:Rel Z β h w)(b:kC (Own Z β h) w (Own n β h) w')(l:∀i c,owned β h i c->w'.heap[c]? = w.heap[c]?)
  (r:∀c,n c->c<w'.heap.size) (o:∀i c,owned β h i c->¬n c):Rel n β h w' :=
 ⟨r,o,R.fresh,R.later,λi X q=>(R.blk i X q).mono b (λ_ _ _ e=>e) (λc v=>l i c ⟨X,q,v⟩),R.apart,R.gl.stay b⟩
def Rel.ug(R:Rel Z β h w)(ok:h.all DK=true){c:Nat}(z:owned β h i c):∃o,w.heap[c]? = some o/\o.isCells=true:=by
 let⟨X,x,bd,l,b⟩:=z;have r:=R.blk i X x;have ok:=aM.1 ok X (bL x);cases X with
 |gone=>exact b.elim
 |mp q es=>cases ok
 |var cs =>
  let⟨F,cur,elem,e1,y,_⟩:=r;simp only at b;rw[e1]at b;cases b;simp at l;subst l;exact⟨_,y,rfl⟩
 |row v sz es =>
  let⟨_,G,e1,y,n⟩:=r;simp only at b;rw[e1]at b;cases b
  rcases n with⟨n,_⟩ | ⟨F,cur,elem,E,A,_⟩
  .rw[n]at l;cases l
  .rw[E]at l;cases l;exact⟨_,A,rfl⟩
 |me v sz es=>exact b.elim
def Zx(Z:az)(B c:Nat)(W:World):Nat->Prop:=λb=>Z b\/b=c\/(B<=b/\∃o,W.heap[b]? = some o/\o.isCells=false)
def ZD(Z:az)(D:Nat):Nat->Prop:=λb=>Z b\/b=D
structure RX(Z:az)(β:jO)(h:AH)(w:World)(c:Nat)(hh:AH)(β':jO)(W:World):Prop where
 rel:Rel (Zx Z w.heap.size c W) β' hh W
 keep:∀b,b<w.heap.size->Z b->W.heap[b]? = w.heap[b]?
 os:W.os=w.os
 tape:W.tape=w.tape
 output:W.output=w.output
 ext:∀i v bd,β i v=some bd->β' i v=some bd
 stay:kC (Own Z β h) w (Own (Zx Z w.heap.size c W) β' hh) W
def RX.grown{c:Nat}{H:AH}{z:World}{row:Option Nat}(X:RX Z β h w c H β' W)(ok:H.all DK=true)(T:∀b,Z b->b<w.heap.size)(S:c<w.heap.size)(L:¬Z c)(M:Own Z β h c)(hg:W.grownBy z row)
  (Y:∀r,row=some r->r=c\/(w.heap.size<=r/\∃o:Obj,W.heap[r]? = some o/\o.isCells=false)):RX Z β h w c H β' z:=by
 have G:∀b o,W.heap[b]? = some o->b≠c->(o.isCells=true\/b<w.heap.size)->z.heap[b]? = W.heap[b]? := λb o n N q=>by
  refine hg.block b (aW.1 n).1 λe=>?_
  grind
 have x:∀b,b<w.heap.size->b≠c->z.heap[b]? = W.heap[b]? := λb n N=>by
  have Q:b<W.heap.size:=bu n X.stay.1
  grind
 have E:∀i v,owned β' H i v->v≠c:=λi v q e=>X.rel.BV i v q (.inr (.inl e))
 have K:∀i v,owned β' H i v->z.heap[v]? = W.heap[v]? := λi v q=>by
  let⟨o,h1,h2⟩:=X.rel.ug ok q
  grind
 have F:∀b,(∃o,z.heap[b]? = some o/\o.isCells=true)->¬Zx Z w.heap.size c W b->¬Zx Z w.heap.size c z b:=by
  rintro b ⟨o,h1,h2⟩ O (l | l | ⟨l,o',h3,h4⟩)
  .exact O (.inl l)
  .exact O (.inr (.inl l))
  grind
 refine⟨X.rel.Mp ok ⟨hg.size,λb o n q A=>?_⟩ K (λb n=>?_) (λi b q=>?_),λb n l=>(x b n (λe=>L (e▸l))).trans (X.keep b n l),hg.os.trans X.os,hg.tape.trans X.tape,hg.output.trans X.output,X.ext,?_,λb n A=>?_⟩
 .have e:=G b o n (λe=>A (.inl (.inr (.inl e)))) (.inl q)
  refine⟨e,λy=>?_⟩
  rcases y with l | l
  .exact F b ⟨o,e.trans n,q⟩ (λl=>A (.inl l)) l
  .exact A (.inr l)
 .rcases n with n | n | ⟨_,o,n,_⟩
  .exact bu (T b n) (bJ X.stay.1 hg.size)
  .exact bu (n▸S) (bJ X.stay.1 hg.size)
  grind
 .let⟨o,h1,h2⟩:=X.rel.ug ok q;exact F b ⟨o,(G b o h1 (E i b q) (.inl h2)).trans h1,h2⟩ (X.rel.BV i b q)
 .exact bJ X.stay.1 hg.size
 .let⟨e1,U⟩:=X.stay.2 b n A;refine⟨(x b n (λe=>A (e▸M))).trans e1,λy=>U ?_⟩
  rcases y with(l | l | ⟨l,_⟩) | l
  .exact .inl (.inl l)
  .grind
  .omega
  .exact .inr l
def RX.body{c:Nat}{E h':AH}{β'':jO}{A:World}{L:Nat}(X:RX Z β h w c E β' W)(O:L=h.length)(R:Rel Z β h w)(ok:h'.all DK=true)(N:∀b,Z b->b<w.heap.size)(M:c<w.heap.size)
  (y:Rel (Zx Z w.heap.size c W) β'' h' A) (F:Dk (pO [] L) (Zx Z w.heap.size c W) β' E W β'' h' A):RX Z β h w c h' β'' A:=by
 have hs:=F.stay.1;have z:=X.stay.1;refine⟨y.Mp ok ⟨aV _,λb o n x r=>⟨rfl,λq=>?_⟩⟩ (λ_ _ _=>rfl) (λb n=>?_) (λi b x=>?_),λb n l=>?_,F.os.trans X.os,F.tape.trans X.tape,F.output.trans X.output,λi v bd n=>?_,bJ z hs,λb n r=>?_⟩
 .rcases q with(l | l | ⟨_,o',h3,h4⟩) | l
  .exact r (.inl (.inl l))
  .exact r (.inl (.inr (.inl l)))
  .grind
  .exact r (.inr l)
 .rcases n with n | n | ⟨_,o,n,_⟩
  .grind
  .grind
  grind
 .let⟨o,h1,h2⟩:=y.ug ok x
  rintro(l | l | ⟨_,o',h3,h4⟩)
  .exact y.BV i b x (.inl l)
  .exact y.BV i b x (.inr (.inl l))
  grind
 .exact(F.lF b (bu n z) (.inl l)).trans (X.keep b n l)
 .refine F.ext i v bd ?_ (X.ext i v bd n);unfold pO;have:i<L:=by
   rcases dK i L with h1 | h1
   .exact h1
   .rw[R.fresh i v af]at n;cases n
  simp;omega
 .let⟨e1,K⟩:=X.stay.2 b n r;let⟨H,G⟩:=F.stay.2 b (bu n z) K;refine⟨H.trans e1,λq=>G ?_⟩
  rcases q with(l | l | ⟨l,_⟩) | l
  .exact .inl (.inl l)
  .exact .inl (.inr (.inl l))
  .omega
  .exact .inr l
def RX.out{c:Nat}{r:AH}{D:Nat}(X:RX Z β h w c r β' W)(y:w.heap.size<=D)(hk:W.heap[D]? = some (.deferred (some []))):
  Rel (ZD Z D) β' r W/\Fr Z β h w β' r W:=by
 have n:∀b,ZD Z D b->Zx Z w.heap.size c W b:=by
  rintro b (l | rfl)
  .exact .inl l
  .exact .inr (.inr ⟨y,_,hk,rfl⟩)
 refine⟨X.rel.shift ⟨aV _,λb q v=>⟨rfl,λo=>v ?_⟩⟩ (λ_ _ _=>rfl) (λb q=>X.rel.xlt b (n b q)) (λi b x l=>X.rel.BV i b x (n b l)),X.keep,X.os,X.tape,X.output,X.ext,X.stay.1,λb q v=>?_⟩
 .rcases o with l | l
  .exact .inl (n b l)
  .exact .inr l
 .let⟨e1,z⟩:=X.stay.2 b q v
  exact⟨e1,λo=>z (by
   rcases o with l | l
   .exact .inl (.inl l)
   .exact .inr l)⟩
def coll(a:Act)(D:Nat):Act:={a with defers:={target:=.collected D,args := #[]}::a.defers}
def HX:AX->Code
 | .normal=>.skip
 | .exit id=>.exit id
 | .ret=>.ret
 | .ny _=>.skip
def nQ{h:AH}{X:AB}(b:(h.set kb .gone)[i]? = some X):(i=kb/\X = .gone)\/(i≠kb/\h[i]? = some X):=by
 grind
def RX.start(R:Rel Z β h w){c:Nat}(E:owned β h kb c):RX Z β h w c (h.set kb .gone) β w:=by
 have z:∀ {i b},owned β (h.set kb .gone) i b->i≠kb/\owned β h i b:=by
  rintro i b ⟨X,l,n⟩
  rcases nQ l with⟨rfl,rfl⟩ | ⟨x,l⟩
  .let⟨_,_,h2⟩:=n;exact h2.elim
  .exact⟨x,X,l,n⟩
 have r:kC (Own Z β h) w (Own (Zx Z w.heap.size c w) β (h.set kb .gone)) w:=by
  refine⟨aV _,λb y M=>⟨rfl,λF=>M ?_⟩⟩
  rcases F with(q | rfl | ⟨q,_⟩) | ⟨i,q⟩
  .exact .inl q
  .exact .inr ⟨kb,E⟩
  .omega
  .exact .inr ⟨i,(z q).2⟩
 refine⟨⟨λb y=>?_,λi b n=>?_,λi v A=>R.fresh i v (an A),λi v sz es v' l G=>?_,λi X l=>?_,λi j b A L=>R.apart i j b (z A).2 (z L).2,R.gl.stay r⟩,λ_ _ _=>rfl,rfl,rfl,rfl,λ_ _ _ e=>e,r⟩
 .rcases y with y | rfl | ⟨_,o,y,_⟩
  .exact R.xlt b y
  .exact R.ox E
  grind
 .let⟨x,n⟩:=z n;have K:=R.ox n
  rintro(q | rfl | ⟨q,_⟩)
  .exact R.BV i b n q
  .exact x (R.apart i kb b n E)
  .omega
 .rcases nQ l with⟨rfl,H⟩ | ⟨_,l⟩
  .cases H
  .exact R.later i v sz es v' l G
 .rcases nQ l with⟨rfl,rfl⟩ | ⟨_,l⟩
  .trivial
  .exact(R.blk i X l).mono r (λ_ _ _ e=>e) (λ_ _=>rfl)
def TR(P:Program)(gf:Nat)(lb:Array Value)(encs:List (Array Value))(c:Nat)(r:az)(w:World):Prop :=
 ∀(l:Nat)(J:Nat->World->Prop)(o:World->Prop)(W:World),(∀b,b<w.heap.size->W.heap[b]? = w.heap[b]?)->w.heap.size<=W.heap.size->
  (∀i A B,J i A->A.grownBy B (some c)->J i B)->(∀A B,o A->A.grownBy B (some c)->o B)->
  (∀(i:Nat)(x:i<encs.length)(q:World),J i q->YieldAt Fence.wide 0 P l encs[i] q λe n =>
   (e = .returned (.bool true)/\J (i+1) n/\∀b,b<w.heap.size->(b=c\/r b)->n.heap[b]? = q.heap[b]?)\/(e = .returned (.bool false)/\o n))->
  J 0 W->CallsIn Fence.wide 0 P gf (#[.func (.yield l) #[] #[]]++lb) W λe n=>(∃v,e = .returned v)/\(J encs.length n\/o n)
def CK(W:World)(l:Nat)(o:Obj):W.grownBy (W.putObj l o) (some l) :=
 ⟨rfl,rfl,rfl,ai,λk _ hk=>World.putObj_heap_other (λe=>hk (by rw[e]))⟩
def ME(hm:P.follows .mixedOrders=true)(hΓ:j3 P Γ){n:Nat}{ps:Array Tmp}{asg body:Code}{g:Operand}{bA:AC}(CA:je P n body bA=true)(ndb:Nk body=true)
  {a:Act} (R:Rel Z β h w) {kb c:Nat} (hc:owned β h kb c) {gf:Nat} {lb:Array Value} (hg:a.eval g = .func (.func gf) #[] lb) (eg:∀args w,(callFunc gf args).run P w = .ok (.enter gf args) w)
  {encs:List (Array Value)} (hseq:TR P gf lb encs c (λb=>¬Own Z β h b) w) (hps:∀x∈encs,x.size=ps.size)
  (I:Nat->AH->Prop) (X:AX->AH->Prop) (L:Nat) (hL:L=h.length) (WV:∀i y,I i y->y.all DK=true) (ad6:∀ex y,X ex y->y.all DK=true) (hXp:∀p y,¬X (.ny p) y)
  (h0:I 0 (h.set kb .gone)) (S:(i:Nat)->i<encs.length->Act)
  (aki:∀(l i:Nat)(F:i<encs.length)(W:World)(K:Act->World->Prop),K (S i F) W->asg.wpIn (Fence.wide.inRound l) 0 P (Exit.then K (λ_ _ _=>False)) {tmps:=(ps.zip encs[i]).foldl (λt (p,v)=>t.setIfInBounds p v) a.tmps,defers:=[]} W)
  (e₁:Nat->Env) (hE:∀(i:Nat)(F:i<encs.length)(O':az)(β':jO)(W:World),kC (Own Z β h) w O' W->(∀i v bd,β i v=some bd->β' i v=some bd)->(S i F).tmps.size=n/\∀t,VR β' O' W (e₁ i t) ((S i F).tmps.getD t Go.undef))
  (hstep:∀i y,i<encs.length->I i y->∃ex h',eval Γ bA (pO [] L) (AX×AH) (λex s=>some (ex,s.h)) ⟨e₁ i,y⟩=some (ex,h')/\
   (ex = .normal->I (i+1) (jD L [] h' 0 (h'.take L)))/\(ex≠.normal->X ex h'))
  {Q:Exit->Act->World->Prop}
  (hdone:∀(D:Nat)(W:World)(y:AH)(β':jO),w.heap.size<=D->I encs.length y->Rel (ZD Z D) β' y W->Fr Z β h w β' y W->W.heap[D]? = some (.deferred (some []))->Q .normal (coll a D) W)
  (hstop:∀(D:Nat)(ex:AX)(W:World)(y:AH)(β':jO),w.heap.size<=D->ex≠.normal->X ex y->Rel (ZD Z D) β' y W->Fr Z β h w β' y W->W.heap[D]? = some (.deferred (some []))->Q ex.exit' (coll a D) W) :
  (Code.rangeFunc g ps asg body).wpIn Fence.wide 1 P Q a w:=by
 have hZ:∀b,Z b->b<w.heap.size:=R.xlt;have GU:c<w.heap.size:=R.ox hc;have WQ:¬Z c:=R.BV kb c hc;have hcO:Own Z β h c:=.inr ⟨kb,hc⟩;refine wpIn_rangeFunc λfn _=>?_
 obtain⟨rec,E⟩:∃rec:LoopState->Option Code->Loop,rec=λst pe=>{state:=st,pending:=pe,fn,tmps:=a.tmps,params:=ps,assign:=asg,body,defers:=w.heap.size}:=⟨_,rfl⟩
 obtain⟨W1,hW1⟩:∃W1,(w.alloc (.deferred (some []))).alloc (.loop (rec .ready none))=W1:=⟨_,rfl⟩;have hs1:W1.heap.size=w.heap.size+2:=by rw[<-hW1];simp
 have aj5:∀b,b<w.heap.size->W1.heap[b]? = w.heap[b]? := λb hb=>by
  grind[Below.heap_alloc]
 have hL1:W1.heap[w.heap.size+1]? = some (.loop (rec .ready none)):=by
  rw[<-hW1];have:=World.alloc_heap_new (w.alloc (.deferred (some []))) (.loop (rec .ready none));simp_all
 have hK1:W1.heap[w.heap.size]? = some (.deferred (some [])):=by
  rw[<-hW1];exact(Below.heap_alloc _ _ _ ai).trans (World.alloc_heap_new w _)
 obtain⟨II,hII⟩:∃II:Nat->World->Prop,II=λi W=>∃y β',I i y/\RX Z β h w c y β' W:=⟨_,rfl⟩
 obtain⟨IX,hIX⟩:∃IX:Code->World->Prop,IX=λO W=>∃ex y β',O=HX ex/\ex≠.normal/\X ex y/\RX Z β h w c y β' W:=⟨_,rfl⟩
 have tI:∀ {i:Nat} {A B:World} {row:Option Nat},II i A->A.grownBy B row->(∀r,row=some r->r=c\/(w.heap.size<=r/\∃o:Obj,A.heap[r]? = some o/\o.isCells=false))->II i B:=by
  rw[hII]
  rintro i A B row ⟨y,β',F,x⟩ hg hr
  exact⟨y,β',F,x.grown (WV i y F) hZ GU WQ hcO hg hr⟩
 have tX:∀ {O:Code} {A B:World} {row:Option Nat},IX O A->A.grownBy B row->(∀r,row=some r->r=c\/(w.heap.size<=r/\∃o:Obj,A.heap[r]? = some o/\o.isCells=false))->IX O B:=by
  rw[hIX]
  rintro O A B row ⟨ex,y,β',he,T,F,x⟩ hg hr
  exact⟨ex,y,β',he,T,F,x.grown (ad6 ex y F) hZ GU WQ hcO hg hr⟩
 have pI:∀ {i:Nat} {W:World} {l:Nat} {o o':Obj},II i W->w.heap.size<=l->W.heap[l]? = some o->o.isCells=false->II i (W.putObj l o'):=λF hl ho hn =>
  tI F (CK _ _ _) λr e=>by grind
 have pX:∀ {O:Code} {W:World} {l:Nat} {o o':Obj},IX O W->w.heap.size<=l->W.heap[l]? = some o->o.isCells=false->IX O (W.putObj l o'):=λF hl ho hn =>
  tX F (CK _ _ _) λr e=>by grind
 have hI0:II 0 W1:=by
  have h1:II 0 w:=by rw[hII];exact⟨_,β,h0,RX.start R hc⟩
  have h2:II 0 (w.alloc (.deferred (some []))):=tI h1 (World.grownBy_alloc w _ none) λr e=>by cases e
  rw[<-hW1];exact tI h2 (World.grownBy_alloc _ _ none) λr e=>by cases e
 refine⟨w.heap.size+1,[{target:=.collected w.heap.size,args := #[]}],W1,{target:=.fn (.func gf) lb,args := #[.func (.yield (w.heap.size+1)) #[] #[]]},W1,gf,
  #[.func (.yield (w.heap.size + 1)) #[] #[]] ++ lb, W1, ?_, ?_, λ_ _ => trivial, ?_, λh => by simp[Fence.wide]at h, ?_⟩
 .rw[<-hW1,E];exact run_enterLoop_outer _ _ _ _ _
 .simp only[resolve,hg];simp[go_sem]
 .simp[invoke,go_sem,eg]
 .have other:∀ {A B:World} {k:Nat} {o:Obj},A.grownBy B (some c)->w.heap.size<=k->A.heap[k]? = some o->B.heap[k]? = some o:=λhg hk ho =>
   (hg.block _ (aW.1 ho).1 (λe=>by grind)).trans ho
  refine(hseq (w.heap.size+1)
   (λi W=>II i W/\W.heap[w.heap.size+1]? = some (.loop (rec .ready none))/\W.heap[w.heap.size]? = some (.deferred (some [])))
   (λW=>∃O,IX O W/\W.heap[w.heap.size+1]? = some (.loop (rec .done (some O)))/\W.heap[w.heap.size]? = some (.deferred (some [])))
   W1 aj5 af
   (λi A B hs hg'=>⟨tI hs.1 hg' (λr e=>by cases e;exact .inl rfl),other hg' af hs.2.1,other hg' (aV _) hs.2.2⟩)
   (λA B hs hg'=>by
    let⟨O,h1,h2,h3⟩:=hs
    grind)
   ?_ ⟨hI0,hL1,hK1⟩).mono ?_
  ·
   rintro i F W ⟨hii,hl,hk⟩
   have N:w.heap.size+1<W.heap.size:=(aW.1 hl).1;have hy:=run_yield (P:=P) (args:=encs[i]) hl (by grind)
   rw[E]at hy;refine⟨fn,_,asg,body,hy,roundIn_of_wpIn trivial (aki _ i F W _ ⟨_,run_beginRound hl (by rw[E]),?_⟩)⟩
   obtain⟨H,PN⟩:∃H,H=W.putObj (w.heap.size+1) (.loop {rec .ready none with state:=.busy}):=⟨_,rfl⟩
   have hl2:H.heap[w.heap.size+1]? = some (.loop {rec .ready none with state:=.busy}):=by rw[PN];exact World.putObj_heap_same N
   have hk2:H.heap[w.heap.size]? = some (.deferred (some [])):=by rw[PN];exact(World.putObj_heap_other af).trans hk
   have hi2:II i H:=by rw[PN];exact pI hii af hl rfl
   have WS:∀b,b<w.heap.size->H.heap[b]? = W.heap[b]? := λb hb=>by rw[PN];exact World.putObj_heap_other af
   rw[hII]at hi2;let⟨y,β',Y,X0⟩:=hi2;let⟨ex,h',WE,hn,hx⟩:=hstep i y F Y;refine wpIn_mono (Q:=λe a3 G=>∃z,e=z.exit'/\KeepsOthers H G/\(∀b,b<w.heap.size->(b=c\/¬Own Z β h b)->G.heap[b]? = H.heap[b]?)/\(z = .normal->II (i+1) G)/\(z≠.normal->IX (HX z) G)) ?_ ?_
   .suffices hs:body.wpIn (Fence.wide.inRound (w.heap.size+1)) 0 P (λe a3 G=>∃z,e=z.exit'/\KeepsOthers H G/\(∀b,b<w.heap.size->(b=c\/¬Own Z β h b)->G.heap[b]? = H.heap[b]?)/\(z = .normal->II (i+1) G)/\(z≠.normal->IX (HX z) G)) (S i F) H by
     grind
    refine D9 (lr:=w.heap.size+1) hm hΓ bA body CA ndb WE (W:=λ_=>true) (λ_ _=>rfl) X0.rel (hE i F _ β' H X0.stay X0.ext) (λz s' a' w' β'' hk R' F' E'' K'=>?_)
    simp only[bn,Prod.mk.injEq]at hk;obtain⟨rfl,rfl⟩:=hk;refine⟨z,rfl,⟨F'.stay.1,λk o hk ho=>?_⟩,λb hb hB=>?_,λhe=>?_,λhe=>?_⟩
    .have N:k<H.heap.size:=(aW.1 hk).1
     by_cases hO:Own (Zx Z w.heap.size c H) β' y k
     .rcases hO with hz | ⟨i,hz⟩
      .exact(F'.lF k N hz).trans hk
      .let⟨o',h1,h2⟩:=X0.rel.ug (WV _ _ Y) hz
       grind
     .exact(F'.stay.2 k N hO).1.trans hk
    .have N:b<H.heap.size:=bu hb X0.stay.1
     rcases hB with rfl | hB
     .exact F'.lF b N (.inr (.inl rfl))
     .exact(F'.stay.2 b N (X0.stay.2 b hb hB).2).1
    .rw[hII];exact⟨jD L [] s'.h 0 (s'.h.take L),vP β'' s'.h L [],hn he,X0.body hL R (WV _ _ (hn he)) hZ GU (AY R' L []) (F'.trans A9)⟩
    .rw[hIX];exact⟨z,s'.h,β'',rfl,he,hx he,X0.body hL R (ad6 _ _ (hx he)) hZ GU R' F'⟩
   .have fin:∀(jump:Option Code)(G:World),KeepsOthers H G->
      (Instr.endRound (w.heap.size+1) jump).run P G = .ok (.bool jump.isNone) (G.putObj (w.heap.size+1) (.loop (rec (if jump.isNone then .ready else .done) jump)))/\
      G.heap[w.heap.size+1]? = some (.loop {rec .ready none with state:=.busy})/\
      (G.putObj (w.heap.size+1) (.loop (rec (if jump.isNone then .ready else .done) jump))).heap[w.heap.size+1]? = some (.loop (rec (if jump.isNone then .ready else .done) jump))/\
      (G.putObj (w.heap.size+1) (.loop (rec (if jump.isNone then .ready else .done) jump))).heap[w.heap.size]? = some (.deferred (some [])):=λjump G U=>by
     have M:=U.same _ _ hl2 rfl;have:=run_endRound (P:=P) jump M;rw[E]at this⊢;exact⟨this,by grind,World.putObj_heap_same (aW.1 M).1,(World.putObj_heap_other af).trans (U.same _ _ hk2 rfl)⟩
    rintro e a3 G ⟨z,rfl,U,aj7,hn3,hx3⟩
    cases z with
    |normal =>
     let⟨hr,M,OG,Pd⟩:=fin none G U;exact⟨_,_,hr,.inl ⟨rfl,⟨pI (hn3 rfl) af M rfl,OG,Pd⟩,λb hb hB=>(World.putObj_heap_other af).trans ((aj7 b hb hB).trans (WS b hb))⟩⟩
    |ret =>
     let⟨hr,M,OG,Pd⟩:=fin (some .ret) G U;exact⟨_,_,hr,.inr ⟨rfl,.ret,pX (hx3 ai) af M rfl,OG,Pd⟩⟩
    |ny q =>
     have:=hx3 ai
     rw[hIX]at this;let⟨ex,y,_,he,T,F,_⟩:=this;cases ex<;>first | exact absurd rfl T | exact absurd F (hXp _ _) | cases he
    |exit id =>
     let⟨hr,M,OG,Pd⟩:=fin (some (.exit id)) G U;exact⟨_,_,hr,.inr ⟨rfl,.exit id,pX (hx3 ai) af M rfl,OG,Pd⟩⟩
  ·
   rintro e H ⟨⟨v,rfl⟩,(⟨F,hl,hk⟩ | ⟨O,F,hl,hk⟩)⟩
   .refine⟨none,_,by have:=run_endLoop (P:=P) hl (by rw[E];simp);rw[E]at this;exact this,?_⟩
    have key:∀(o':Obj),Q .normal (coll a w.heap.size) (H.putObj (w.heap.size+1) o'):=λo'=>by
     have hi':=pI (o':=o') F af hl rfl
     rw[hII]at hi';let⟨y,β',Y,X0⟩:=hi';have hk':(H.putObj (w.heap.size+1) o').heap[w.heap.size]? = some (.deferred (some [])):=(World.putObj_heap_other af).trans hk
     let⟨r1,r2⟩:=X0.out (aV _) hk'
     grind
    exact key _
   .refine⟨some O,_,by have:=run_endLoop (P:=P) hl (by rw[E];simp);rw[E]at this;exact this,?_⟩
    have key:∀(o':Obj),O.wpIn Fence.wide 1 P Q (coll a w.heap.size) (H.putObj (w.heap.size+1) o'):=λo'=>by
     have hi':=pX (o':=o') F af hl rfl
     rw[hIX]at hi';obtain⟨ex,y,β',rfl,T,Y,X0⟩:=hi';have hk':(H.putObj (w.heap.size+1) o').heap[w.heap.size]? = some (.deferred (some [])):=(World.putObj_heap_other af).trans hk
     let⟨r1,r2⟩:=X0.out (aV _) hk';have:=hstop _ ex _ y β' (aV _) T Y r1 r2 hk';cases ex with
     |normal=>exact absurd rfl T
     |ret=>exact wpIn_ret this
     |exit id=>exact wpIn_exit this
     |ny q=>exact absurd Y (hXp _ _)
    exact key _
end
end Go.Am
