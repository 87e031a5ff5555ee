/- Part of the proof that TopPassedCard holds. -/
import Derived.Test.YtaepagegdgdlhaaGreatDoorAmPu
import Derived.RangeFuncFrom
import Derived.RangeFuncOwn
set_option linter.all false
namespace Go.Am
open Go.RowKit
variable{w' W W':World}{O O' Z':az}{i kb:Nat}{hh:AH}{β':kW}
section
variable{P:Program}{Z:az}{Γ:kP}{β:kW}{h:AH}{w:World}
structure Nr(O:az)(w:World)(O':az)(w':World):Prop where
 size:w.heap.size<=w'.heap.size
 keep:∀b o,w.heap[b]? = some o->o.isCells=true->¬O b->w'.heap[b]? = w.heap[b]?/\¬O' b
def qW.zJ{w:World}(hst:Nr O w O' w'){a:AV}{v:Value}(h:qW O w a v):qW O' w' a v:=by
 induction h with
 |bool b=>exact .bool b
 |int k n=>exact .int k n
 |str s=>exact .str s
 |oI=>exact .oI
 |pg=>exact .pg
 |nh=>exact .nh
 |pn=>exact .pn
 |jB full es a c blk o sz f hf hc ha hs h1 h3 h2 ih =>
  have key:es≠[]->w'.heap[blk]? = w.heap[blk]?/\¬O' blk:=λhne=>by
   let⟨e1,e2,e3⟩:=ha hne;obtain⟨x,hx⟩:∃x,es[0]? = some x:=by
    cases es with
    |nil=>exact absurd rfl hne
    |cons x l=>exact⟨x,rfl⟩
   let⟨q1,q2⟩:=hs 0 x hx;have hy:x.cells[0]? = some (x.cells[0]'aa):=aG _
   let⟨ob,o1,o2⟩:=cells_of_cell (h1 0 x hx 0 _ hy);exact hst.keep blk ob o1 o2 e2
  refine .jB full es a c blk o sz f hf hc (λhne=>?_) hs (λi x hx j y hy=>?_) h3 ih
  .grind
  .have hne:es≠[]:=by grind
   rw[World.cell?_of_block (a:=⟨blk,o+i*sz+j,none⟩) (key hne).1];exact h1 i x hx j y hy
 |agg cs vs hl h1 h2 ih=>exact .agg cs vs hl h1 ih
def AV.okM:AV->Bool
 | .kE _=>false
 | .fn .. => false
 | .agg _=>false
 | .kT _=>false
 | .Hq _ _=>false
 |_=>true
def IJ:AB->Bool
 | .var cs=>cs.all AV.okM
 | .mp _=>false
 | .mps _=>false
 |_=>true
def VR.zJ{w:World}(hst:Nr O w O' w'){a:AV}{v:Value}(ok:a.okM=true)(h:VR β O w a v):VR β O' w' a v:=by
 cases h with
 |pure _ _ h=>exact .pure _ _ (h.zJ hst)
 |dead v=>exact .dead v
 |undef=>exact .undef
 |ptr b v i o bd c h1 h2=>exact .ptr b v i o bd c h1 h2
 |kE cs blk o f=>cases ok
 |own b v o n bd a c h1 h2=>exact .own b v o n bd a c h1 h2
 |agg cs vs=>cases ok
 |kT cs vs=>cases ok
 |fn=>cases ok
 |Hq=>cases ok
 |xI b=>exact .xI b
 |nQ b bd c h1 h2=>exact .nQ b bd c h1 h2
def jW.zJ{w:World}(hst:Nr O w O' w'){f:Nat->Option Value}{sz:Nat}{es:List AV}(h:jW O w f sz es):jW O' w' f sz es:=by
 intro i x hx;let⟨h1,h2⟩:=h i x hx;refine⟨h1,λj y hy=>?_⟩
 let⟨v,e1,e2,e3⟩:=h2 j y hy;exact⟨v,e1,e2,e3.zJ hst⟩
def qR.zJ{w:World}(hst:Nr O w O' w'){X:AB}(ok:IJ X=true)
  (hb:∀c,D2 β i X c->w'.heap[c]? = w.heap[c]?) (h:qR β O w i X):qR β O' w' i X:=by
 cases X with
 |gone=>trivial
 |mp es=>cases ok
 |mps es=>cases ok
 |var cs =>
  let⟨c,cur,elem,e1,e2,e3,e4⟩:=h;refine⟨c,cur,elem,e1,(hb c ⟨_,rfl,e1⟩).trans e2,e3,λj y hy=>?_⟩
  let⟨v,g1,g2,g3⟩:=e4 j y hy;exact⟨v,g1,g2,g3.zJ hst (aO.1 ok y (aR hy))⟩
 |row v sz es =>
  let⟨h0,bd,e1,e2,e3⟩:=h;refine⟨h0,bd,e1,e2,?_⟩
  rcases e3 with e3 | ⟨c,cur,elem,g1,g2,g3,g4,g5⟩
  .exact .inl e3
  .exact .inr ⟨c,cur,elem,g1,(hb c ⟨bd,g1,e1⟩).trans g2,g3,g4,jW.zJ hst g5⟩
 |qa v sz es =>
  let⟨h0,bd,e1,e2,e3⟩:=h;refine⟨h0,bd,e1,e2,?_⟩
  rcases e3 with e3 | ⟨c,cur,elem,fr,g1,g2,g3,g4,g5,g6⟩
  .exact .inl e3
  .let⟨k1,k2⟩:=hst.keep c _ g3 rfl g2;exact .inr ⟨c,cur,elem,fr,g1,k2,k1.trans g3,g4,g5,jW.zJ hst g6⟩
def Rel.Ux(R:Rel Z β h w)(ok:h.all IJ=true)(hst:Nr (Own Z β h) w (Own Z' β h) w')(hown:∀i c,owned β h i c->w'.heap[c]? = w.heap[c]?)
  (hx:∀c,Z' c->c<w'.heap.size) (hap:∀i c,owned β h i c->¬Z' c):Rel Z' β h w' :=
 ⟨hx,hap,R.fresh,R.later,λi X hX=>(R.blk i X hX).zJ hst (aO.1 ok X (aR hX)) (λc hc=>hown i c ⟨X,hX,hc⟩),R.apart⟩
def Rel.shift(R:Rel Z β h w)(hst:lS (Own Z β h) w (Own Z' β h) w')(hown:∀i c,owned β h i c->w'.heap[c]? = w.heap[c]?)
  (hx:∀c,Z' c->c<w'.heap.size) (hap:∀i c,owned β h i c->¬Z' c):Rel Z' β h w' :=
 ⟨hx,hap,R.fresh,R.later,λi X hX=>(R.blk i X hX).mono hst (λ_ _ _ e=>e) (λc hc=>hown i c ⟨X,hX,hc⟩),R.apart⟩
def Rel.xR(R:Rel Z β h w)(ok:h.all IJ=true){c:Nat}(ho:owned β h i c):∃o,w.heap[c]? = some o/\o.isCells=true:=by
 let⟨X,hX,bd,hc,hb⟩:=ho;have hr:=R.blk i X hX;have ok:=aO.1 ok X (aR hX);cases X with
 |gone=>exact hb.elim
 |mp es=>cases ok
 |mps es=>cases ok
 |var cs =>
  let⟨c',cur,elem,e1,e2,_⟩:=hr;simp only at hb;rw[e1]at hb;cases hb;simp at hc;subst hc;exact⟨_,e2,rfl⟩
 |row v sz es =>
  let⟨_,zk,e1,e2,e3⟩:=hr;simp only at hb;rw[e1]at hb;cases hb
  rcases e3 with⟨e3,_⟩ | ⟨c',cur,elem,g1,g2,_⟩
  .rw[e3]at hc;cases hc
  .rw[g1]at hc;cases hc;exact⟨_,g2,rfl⟩
 |qa v sz es=>exact hb.elim
def Zx(Z:az)(B c:Nat)(W:World):Nat->Prop:=λb=>Z b\/b=c\/(B<=b/\∃o,W.heap[b]? = some o/\o.isCells=false)
def ZD(Z:az)(D:Nat):Nat->Prop:=λb=>Z b\/b=D
structure RX(Z:az)(β:kW)(h:AH)(w:World)(c:Nat)(hh:AH)(β':kW)(W:World):Prop where
 rel:Rel (Zx Z w.heap.size c W) β' hh W
 keep:∀b,b<w.heap.size->Z b->W.heap[b]? = w.heap[b]?
 os:W.os=w.os
 tape:W.tape=w.tape
 output:W.output=w.output
 ext:∀i v bd,β i v=some bd->β' i v=some bd
 stay:lS (Own Z β h) w (Own (Zx Z w.heap.size c W) β' hh) W
def RX.grown{c:Nat}{row:Option Nat}(X:RX Z β h w c hh β' W)(ok:hh.all IJ=true)(hZ:∀b,Z b->b<w.heap.size)(hc:c<w.heap.size)(WB:¬Z c)(hcO:Own Z β h c)(hg:W.grownBy W' row)
  (hr:∀r,row=some r->r=c\/(w.heap.size<=r/\∃o:Obj,W.heap[r]? = some o/\o.isCells=false)):RX Z β h w c hh β' W':=by
 have hne:∀b o,W.heap[b]? = some o->b≠c->(o.isCells=true\/b<w.heap.size)->W'.heap[b]? = W.heap[b]? := λb o hb hbc ho=>by
  refine hg.block b (aW.1 hb).1 λe=>?_
  grind
 have Gx:∀b,b<w.heap.size->b≠c->W'.heap[b]? = W.heap[b]? := λb hb hbc=>by
  have hlt:b<W.heap.size:=bT hb X.stay.1
  grind
 have apK:∀i c',owned β' hh i c'->c'≠c:=λi c' ho e=>X.rel.CG i c' ho (.inr (.inl e))
 have hoc:∀i c',owned β' hh i c'->W'.heap[c']? = W.heap[c']? := λi c' ho=>by
  let⟨o,h1,h2⟩:=X.rel.xR ok ho
  grind
 have hnz:∀b,(∃o,W'.heap[b]? = some o/\o.isCells=true)->¬Zx Z w.heap.size c W b->¬Zx Z w.heap.size c W' b:=by
  rintro b ⟨o,h1,h2⟩ hn (hz | hz | ⟨hz,o',h3,h4⟩)
  .exact hn (.inl hz)
  .exact hn (.inr (.inl hz))
  grind
 refine⟨X.rel.Ux ok ⟨hg.size,λb o hb ho hO=>?_⟩ hoc (λb hb=>?_) (λi b ho=>?_),λb hb hz=>(Gx b hb (λe=>WB (e▸hz))).trans (X.keep b hb hz),hg.os.trans X.os,hg.tape.trans X.tape,hg.output.trans X.output,X.ext,?_,λb hb hO=>?_⟩
 .have e:=hne b o hb (λe=>hO (.inl (.inr (.inl e)))) (.inl ho)
  refine⟨e,λJm=>?_⟩
  rcases Jm with hz | hz
  .exact hnz b ⟨o,e.trans hb,ho⟩ (λhz=>hO (.inl hz)) hz
  .exact hO (.inr hz)
 .rcases hb with hb | hb | ⟨_,o,hb,_⟩
  .exact bT (hZ b hb) (cQ X.stay.1 hg.size)
  .exact bT (hb▸hc) (cQ X.stay.1 hg.size)
  grind
 .let⟨o,h1,h2⟩:=X.rel.xR ok ho;exact hnz b ⟨o,(hne b o h1 (apK i b ho) (.inl h2)).trans h1,h2⟩ (X.rel.CG i b ho)
 .exact cQ X.stay.1 hg.size
 .let⟨e1,e2⟩:=X.stay.2 b hb hO;refine⟨(Gx b hb (λe=>hO (e▸hcO))).trans e1,λJm=>e2 ?_⟩
  rcases Jm with(hz | hz | ⟨hz,_⟩) | hz
  .exact .inl (.inl hz)
  .grind
  .omega
  .exact .inr hz
def RX.body{c:Nat}{h':AH}{β'':kW}{L:Nat}(X:RX Z β h w c hh β' W)(hL:L=h.length)(R:Rel Z β h w)(ok:h'.all IJ=true)(hZ:∀b,Z b->b<w.heap.size)(hc:c<w.heap.size)
  (R':Rel (Zx Z w.heap.size c W) β'' h' W') (F:Nw (o9 [] L) (Zx Z w.heap.size c W) β' hh W β'' h' W'):RX Z β h w c h' β'' W':=by
 have hs:=F.stay.1;have hw:=X.stay.1;refine⟨R'.Ux ok ⟨aN _,λb o hb ho hO=>⟨rfl,λJm=>?_⟩⟩ (λ_ _ _=>rfl) (λb hb=>?_) (λi b ho=>?_),λb hb hz=>?_,F.os.trans X.os,F.tape.trans X.tape,F.output.trans X.output,λi v bd hb=>?_,cQ hw hs,λb hb hO=>?_⟩
 .rcases Jm with(hz | hz | ⟨_,o',h3,h4⟩) | hz
  .exact hO (.inl (.inl hz))
  .exact hO (.inl (.inr (.inl hz)))
  .grind
  .exact hO (.inr hz)
 .rcases hb with hb | hb | ⟨_,o,hb,_⟩
  .grind
  .grind
  grind
 .let⟨o,h1,h2⟩:=R'.xR ok ho
  rintro(hz | hz | ⟨_,o',h3,h4⟩)
  .exact R'.CG i b ho (.inl hz)
  .exact R'.CG i b ho (.inr (.inl hz))
  grind
 .exact(F.nN b (bT hb hw) (.inl hz)).trans (X.keep b hb hz)
 .refine F.ext i v bd ?_ (X.ext i v bd hb);unfold o9;have:i<L:=by
   rcases cG i L with h1 | h1
   .exact h1
   .rw[R.fresh i v aa]at hb;cases hb
  simp;omega
 .let⟨e1,e2⟩:=X.stay.2 b hb hO;let⟨e3,e4⟩:=F.stay.2 b (bT hb hw) e2;refine⟨e3.trans e1,λJm=>e4 ?_⟩
  rcases Jm with(hz | hz | ⟨hz,_⟩) | hz
  .exact .inl (.inl hz)
  .exact .inl (.inr (.inl hz))
  .omega
  .exact .inr hz
def RX.out{c:Nat}{D:Nat}(X:RX Z β h w c hh β' W)(hD:w.heap.size<=D)(hk:W.heap[D]? = some (.deferred (some []))):
  Rel (ZD Z D) β' hh W/\Fr Z β h w β' hh W:=by
 have hsub:∀b,ZD Z D b->Zx Z w.heap.size c W b:=by
  rintro b (hz | rfl)
  .exact .inl hz
  .exact .inr (.inr ⟨hD,_,hk,rfl⟩)
 refine⟨X.rel.shift ⟨aN _,λb hb hO=>⟨rfl,λJm=>hO ?_⟩⟩ (λ_ _ _=>rfl) (λb hb=>X.rel.xlt b (hsub b hb)) (λi b ho hz=>X.rel.CG i b ho (hsub b hz)),X.keep,X.os,X.tape,X.output,X.ext,X.stay.1,λb hb hO=>?_⟩
 .rcases Jm with hz | hz
  .exact .inl (hsub b hz)
  .exact .inr hz
 .let⟨e1,e2⟩:=X.stay.2 b hb hO
  exact⟨e1,λJm=>e2 (by
   rcases Jm with hz | hz
   .exact .inl (.inl hz)
   .exact .inr hz)⟩
def coll(a:Act)(D:Nat):Act:={a with defers:={target:=.collected D,args := #[]}::a.defers}
def O6:AX->Code
 | .normal=>.skip
 | .exit id=>.exit id
 | .ret=>.ret
def qj{h:AH}{X:AB}(hX:(h.set kb .gone)[i]? = some X):(i=kb/\X = .gone)\/(i≠kb/\h[i]? = some X):=by
 grind
def RX.start(R:Rel Z β h w){c:Nat}(hc:owned β h kb c):RX Z β h w c (h.set kb .gone) β w:=by
 have ow:∀ {i b},owned β (h.set kb .gone) i b->i≠kb/\owned β h i b:=by
  rintro i b ⟨X,hX,ho⟩
  rcases qj hX with⟨rfl,rfl⟩ | ⟨hne,hX⟩
  .let⟨_,_,h2⟩:=ho;exact h2.elim
  .exact⟨hne,X,hX,ho⟩
 have hst:lS (Own Z β h) w (Own (Zx Z w.heap.size c w) β (h.set kb .gone)) w:=by
  refine⟨aN _,λb hb hO=>⟨rfl,λJm=>hO ?_⟩⟩
  rcases Jm with(hz | rfl | ⟨hz,_⟩) | ⟨i,hz⟩
  .exact .inl hz
  .exact .inr ⟨kb,hc⟩
  .omega
  .exact .inr ⟨i,(ow hz).2⟩
 refine⟨⟨λb hb=>?_,λi b ho=>?_,λi v hi=>R.fresh i v (an hi),λi v sz es v' hX hv=>?_,λi X hX=>?_,λi j b hi hj=>R.apart i j b (ow hi).2 (ow hj).2⟩,λ_ _ _=>rfl,rfl,rfl,rfl,λ_ _ _ e=>e,hst⟩
 .rcases hb with hb | rfl | ⟨_,o,hb,_⟩
  .exact R.xlt b hb
  .exact R.qI hc
  grind
 .let⟨hne,ho⟩:=ow ho;have hlt:=R.qI ho
  rintro(hz | rfl | ⟨hz,_⟩)
  .exact R.CG i b ho hz
  .exact hne (R.apart i kb b ho hc)
  .omega
 .rcases qj hX with⟨rfl,hq⟩ | ⟨_,hX⟩
  .cases hq
  .exact R.later i v sz es v' hX hv
 .rcases qj hX with⟨rfl,rfl⟩ | ⟨_,hX⟩
  .trivial
  .exact(R.blk i X hX).mono hst (λ_ _ _ e=>e) (λ_ _=>rfl)
def acr(P:Program)(gf:Nat)(lb:Array Value)(encs:List (Array Value))(c:Nat)(Kb:az)(w:World):Prop :=
 ∀(l:Nat)(J:Nat->World->Prop)(Jx:World->Prop)(W:World),(∀b,b<w.heap.size->W.heap[b]? = w.heap[b]?)->w.heap.size<=W.heap.size->
  (∀i A B,J i A->A.grownBy B (some c)->J i B)->(∀A B,Jx A->A.grownBy B (some c)->Jx B)->
  (∀(i:Nat)(hi:i<encs.length)(W1:World),J i W1->YieldAt Fence.wide 0 P l encs[i] W1 λe W' =>
   (e = .returned (.bool true)/\J (i+1) W'/\∀b,b<w.heap.size->(b=c\/Kb b)->W'.heap[b]? = W1.heap[b]?)\/(e = .returned (.bool false)/\Jx W'))->
  J 0 W->CallsIn Fence.wide 0 P gf (#[.func (.yield l) #[] #[]]++lb) W λe W'=>(∃v,e = .returned v)/\(J encs.length W'\/Jx W')
def Hx(W:World)(l:Nat)(o:Obj):W.grownBy (W.putObj l o) (some l) :=
 ⟨rfl,rfl,rfl,ah,λk _ hk=>World.putObj_heap_other (λe=>hk (by rw[e]))⟩
def UP(hm:P.follows .mixedOrders=true)(hΓ:mH P Γ){n:Nat}{ps:Array Tmp}{asg body:Code}{g:Operand}{bA:AC}(IF:ku P n body bA=true)(ndb:Vt body=true)
  {a:Act} (R:Rel Z β h w) {kb c:Nat} (hc:owned β h kb c) {gf:Nat} {lb:Array Value} (hg:a.eval g = .func (.func gf) #[] lb) (eg:∀args w,(callFunc gf args).run P w = .ok (.enter gf args) w)
  {encs:List (Array Value)} (hseq:acr P gf lb encs c (λb=>¬Own Z β h b) w) (hps:∀x∈encs,x.size=ps.size)
  (I:Nat->AH->Prop) (X:AX->AH->Prop) (L:Nat) (hL:L=h.length) (aeE:∀i hh,I i hh->hh.all IJ=true) (ak1:∀ex hh,X ex hh->hh.all IJ=true)
  (h0:I 0 (h.set kb .gone)) (a₁:(i:Nat)->i<encs.length->Act)
  (aqb:∀(l i:Nat)(hi:i<encs.length)(W:World)(K:Act->World->Prop),K (a₁ i hi) W->asg.wpIn (Fence.wide.inRound l) 0 P (Exit.then K (λ_ _ _=>False)) {tmps:=(ps.zip encs[i]).foldl (λt (p,v)=>t.setIfInBounds p v) a.tmps,defers:=[]} W)
  (e₁:Nat->Env) (hE:∀(i:Nat)(hi:i<encs.length)(O':az)(β':kW)(W:World),lS (Own Z β h) w O' W->(∀i v bd,β i v=some bd->β' i v=some bd)->(a₁ i hi).tmps.size=n/\∀t,VR β' O' W (e₁ i t) ((a₁ i hi).tmps.getD t Go.undef))
  (hstep:∀i hh,i<encs.length->I i hh->∃ex h',eval Γ bA (o9 [] L) (AX×AH) (λex s=>some (ex,s.h)) ⟨e₁ i,hh⟩=some (ex,h')/\
   (ex = .normal->I (i+1) (j5 L [] h' 0 (h'.take L)))/\(ex≠.normal->X ex h'))
  {Q:Exit->Act->World->Prop}
  (hdone:∀(D:Nat)(W:World)(hh:AH)(β':kW),w.heap.size<=D->I encs.length hh->Rel (ZD Z D) β' hh W->Fr Z β h w β' hh W->W.heap[D]? = some (.deferred (some []))->Q .normal (coll a D) W)
  (hstop:∀(D:Nat)(ex:AX)(W:World)(hh:AH)(β':kW),w.heap.size<=D->ex≠.normal->X ex hh->Rel (ZD Z D) β' hh W->Fr Z β h w β' hh W->W.heap[D]? = some (.deferred (some []))->Q ex.exit' (coll a D) W) :
  (Code.rangeFunc g ps asg body).wpIn Fence.wide 1 P Q a w:=by
 have hZ:∀b,Z b->b<w.heap.size:=R.xlt;have Ji:c<w.heap.size:=R.qI hc;have WB:¬Z c:=R.CG kb c hc;have hcO:Own Z β h c:=.inr ⟨kb,hc⟩;refine wpIn_rangeFunc λfn _=>?_
 obtain⟨rec,Gw⟩:∃rec:LoopState->Option Code->Loop,rec=λst pe=>{state:=st,pending:=pe,fn,tmps:=a.tmps,params:=ps,assign:=asg,body,defers:=w.heap.size}:=⟨_,rfl⟩
 obtain⟨W1,Ga⟩:∃W1,(w.alloc (.deferred (some []))).alloc (.loop (rec .ready none))=W1:=⟨_,rfl⟩;have hs1:W1.heap.size=w.heap.size+2:=by rw[<-Ga];simp
 have apQ:∀b,b<w.heap.size->W1.heap[b]? = w.heap[b]? := λb hb=>by
  grind[Below.heap_alloc]
 have hL1:W1.heap[w.heap.size+1]? = some (.loop (rec .ready none)):=by
  rw[<-Ga];have:=World.alloc_heap_new (w.alloc (.deferred (some []))) (.loop (rec .ready none));simp_all
 have hK1:W1.heap[w.heap.size]? = some (.deferred (some [])):=by
  rw[<-Ga];exact(Below.heap_alloc _ _ _ ah).trans (World.alloc_heap_new w _)
 -- what holds between rounds
 obtain⟨II,hII⟩:∃II:Nat->World->Prop,II=λi W=>∃hh β',I i hh/\RX Z β h w c hh β' W:=⟨_,rfl⟩
 obtain⟨IX,hIX⟩:∃IX:Code->World->Prop,IX=λcd W=>∃ex hh β',cd=O6 ex/\ex≠.normal/\X ex hh/\RX Z β h w c hh β' W:=⟨_,rfl⟩
 have tI:∀ {i:Nat} {A B:World} {row:Option Nat},II i A->A.grownBy B row->(∀r,row=some r->r=c\/(w.heap.size<=r/\∃o:Obj,A.heap[r]? = some o/\o.isCells=false))->II i B:=by
  rw[hII]
  rintro i A B row ⟨hh,β',hi,x⟩ hg hr
  exact⟨hh,β',hi,x.grown (aeE i hh hi) hZ Ji WB hcO hg hr⟩
 have tX:∀ {cd:Code} {A B:World} {row:Option Nat},IX cd A->A.grownBy B row->(∀r,row=some r->r=c\/(w.heap.size<=r/\∃o:Obj,A.heap[r]? = some o/\o.isCells=false))->IX cd B:=by
  rw[hIX]
  rintro cd A B row ⟨ex,hh,β',he,hne,hi,x⟩ hg hr
  exact⟨ex,hh,β',he,hne,hi,x.grown (ak1 ex hh hi) hZ Ji WB hcO hg hr⟩
 have pI:∀ {i:Nat} {W:World} {l:Nat} {o o':Obj},II i W->w.heap.size<=l->W.heap[l]? = some o->o.isCells=false->II i (W.putObj l o'):=λhi hl ho hn =>
  tI hi (Hx _ _ _) λr e=>by grind
 have pX:∀ {cd:Code} {W:World} {l:Nat} {o o':Obj},IX cd W->w.heap.size<=l->W.heap[l]? = some o->o.isCells=false->IX cd (W.putObj l o'):=λhi hl ho hn =>
  tX hi (Hx _ _ _) λr e=>by grind
 have hI0:II 0 W1:=by
  have h1:II 0 w:=by rw[hII];exact⟨_,β,h0,RX.start R hc⟩
  have h2:II 0 (w.alloc (.deferred (some []))):=tI h1 (World.grownBy_alloc w _ none) λr e=>by cases e
  rw[<-Ga];exact tI h2 (World.grownBy_alloc _ _ none) λr e=>by cases e
 refine⟨w.heap.size+1,[{target:=.collected w.heap.size,args := #[]}],W1,{target:=.fn (.func gf) lb,args := #[.func (.yield (w.heap.size+1)) #[] #[]]},W1,gf,
  #[.func (.yield (w.heap.size + 1)) #[] #[]] ++ lb, W1, ?_, ?_, λ_ _ => trivial, ?_, λh => by simp[Fence.wide]at h, ?_⟩
 .rw[<-Ga,Gw];exact run_enterLoop_outer _ _ _ _ _
 .simp only[resolve,hg];simp[go_sem]
 .simp[invoke,go_sem,eg]
 .have other:∀ {A B:World} {k:Nat} {o:Obj},A.grownBy B (some c)->w.heap.size<=k->A.heap[k]? = some o->B.heap[k]? = some o:=λhg hk ho =>
   (hg.block _ (aW.1 ho).1 (λe=>by grind)).trans ho
  refine(hseq (w.heap.size+1)
   (λi W=>II i W/\W.heap[w.heap.size+1]? = some (.loop (rec .ready none))/\W.heap[w.heap.size]? = some (.deferred (some [])))
   (λW=>∃cd,IX cd W/\W.heap[w.heap.size+1]? = some (.loop (rec .done (some cd)))/\W.heap[w.heap.size]? = some (.deferred (some [])))
   W1 apQ aa
   (λi A B hs hg'=>⟨tI hs.1 hg' (λr e=>by cases e;exact .inl rfl),other hg' aa hs.2.1,other hg' (aN _) hs.2.2⟩)
   (λA B hs hg'=>by
    let⟨cd,h1,h2,h3⟩:=hs
    grind)
   ?_ ⟨hI0,hL1,hK1⟩).mono ?_
  · -- one round
   rintro i hi W ⟨hii,hl,hk⟩
   have hlt:w.heap.size+1<W.heap.size:=(aW.1 hl).1;have hy:=run_yield (P:=P) (args:=encs[i]) hl (by grind)
   rw[Gw]at hy;refine⟨fn,_,asg,body,hy,roundIn_of_wpIn trivial (aqb _ i hi W _ ⟨_,run_beginRound hl (by rw[Gw]),?_⟩)⟩
   obtain⟨W2,YM⟩:∃W2,W2=W.putObj (w.heap.size+1) (.loop {rec .ready none with state:=.busy}):=⟨_,rfl⟩
   have tQ:W2.heap[w.heap.size+1]? = some (.loop {rec .ready none with state:=.busy}):=by rw[YM];exact World.putObj_heap_same hlt
   have hk2:W2.heap[w.heap.size]? = some (.deferred (some [])):=by rw[YM];exact(World.putObj_heap_other aa).trans hk
   have hi2:II i W2:=by rw[YM];exact pI hii aa hl rfl
   have xl:∀b,b<w.heap.size->W2.heap[b]? = W.heap[b]? := λb hb=>by rw[YM];exact World.putObj_heap_other aa
   rw[hII]at hi2;let⟨hh,β',hi1,X0⟩:=hi2;let⟨ex,h',YL,hn,hx⟩:=hstep i hh hi hi1;refine wpIn_mono (Q:=λe a3 W3=>∃ex',e=ex'.exit'/\KeepsOthers W2 W3/\(∀b,b<w.heap.size->(b=c\/¬Own Z β h b)->W3.heap[b]? = W2.heap[b]?)/\(ex' = .normal->II (i+1) W3)/\(ex'≠.normal->IX (O6 ex') W3)) ?_ ?_
   .suffices hs:body.wpIn (Fence.wide.inRound (w.heap.size+1)) 0 P (λe a3 W3=>∃ex',e=ex'.exit'/\KeepsOthers W2 W3/\(∀b,b<w.heap.size->(b=c\/¬Own Z β h b)->W3.heap[b]? = W2.heap[b]?)/\(ex' = .normal->II (i+1) W3)/\(ex'≠.normal->IX (O6 ex') W3)) (a₁ i hi) W2 by
     grind
    refine Js (lr:=w.heap.size+1) hm hΓ bA body IF ndb YL (W:=λ_=>true) (λ_ _=>rfl) X0.rel (hE i hi _ β' W2 X0.stay X0.ext) (λex' s' a' w' β'' hk R' F' E'' K'=>?_)
    simp only[bp,Prod.mk.injEq]at hk;obtain⟨rfl,rfl⟩:=hk;refine⟨ex',rfl,⟨F'.stay.1,λk o hk ho=>?_⟩,λb hb hB=>?_,λhe=>?_,λhe=>?_⟩
    .have hlt:k<W2.heap.size:=(aW.1 hk).1
     by_cases hO:Own (Zx Z w.heap.size c W2) β' hh k
     .rcases hO with hz | ⟨i,hz⟩
      .exact(F'.nN k hlt hz).trans hk
      .let⟨o',h1,h2⟩:=X0.rel.xR (aeE _ _ hi1) hz
       grind
     .exact(F'.stay.2 k hlt hO).1.trans hk
    .have hlt:b<W2.heap.size:=bT hb X0.stay.1
     rcases hB with rfl | hB
     .exact F'.nN b hlt (.inr (.inl rfl))
     .exact(F'.stay.2 b hlt (X0.stay.2 b hb hB).2).1
    .rw[hII];exact⟨j5 L [] s'.h 0 (s'.h.take L),y8 β'' s'.h L [],hn he,X0.body hL R (aeE _ _ (hn he)) hZ Ji (EC R' L []) (F'.trans EE)⟩
    .rw[hIX];exact⟨ex',s'.h,β'',rfl,he,hx he,X0.body hL R (ak1 _ _ (hx he)) hZ Ji R' F'⟩
   .have fin:∀(jump:Option Code)(W3:World),KeepsOthers W2 W3->
      (Instr.endRound (w.heap.size+1) jump).run P W3 = .ok (.bool jump.isNone) (W3.putObj (w.heap.size+1) (.loop (rec (if jump.isNone then .ready else .done) jump)))/\
      W3.heap[w.heap.size+1]? = some (.loop {rec .ready none with state:=.busy})/\
      (W3.putObj (w.heap.size+1) (.loop (rec (if jump.isNone then .ready else .done) jump))).heap[w.heap.size+1]? = some (.loop (rec (if jump.isNone then .ready else .done) jump))/\
      (W3.putObj (w.heap.size+1) (.loop (rec (if jump.isNone then .ready else .done) jump))).heap[w.heap.size]? = some (.deferred (some [])):=λjump W3 hk3=>by
     have hl3:=hk3.same _ _ tQ rfl;have:=run_endRound (P:=P) jump hl3;rw[Gw]at this⊢;exact⟨this,by grind,World.putObj_heap_same (aW.1 hl3).1,(World.putObj_heap_other aa).trans (hk3.same _ _ hk2 rfl)⟩
    rintro e a3 W3 ⟨ex',rfl,hk3,apS,hn3,hx3⟩
    cases ex' with
    |normal =>
     let⟨hr,hl3,hl4,Jc⟩:=fin none W3 hk3;exact⟨_,_,hr,.inl ⟨rfl,⟨pI (hn3 rfl) aa hl3 rfl,hl4,Jc⟩,λb hb hB=>(World.putObj_heap_other aa).trans ((apS b hb hB).trans (xl b hb))⟩⟩
    |ret =>
     let⟨hr,hl3,hl4,Jc⟩:=fin (some .ret) W3 hk3;exact⟨_,_,hr,.inr ⟨rfl,.ret,pX (hx3 ah) aa hl3 rfl,hl4,Jc⟩⟩
    |exit id =>
     let⟨hr,hl3,hl4,Jc⟩:=fin (some (.exit id)) W3 hk3;exact⟨_,_,hr,.inr ⟨rfl,.exit id,pX (hx3 ah) aa hl3 rfl,hl4,Jc⟩⟩
  · -- behind the iterator
   rintro e W2 ⟨⟨v,rfl⟩,(⟨hi,hl,hk⟩ | ⟨cd,hi,hl,hk⟩)⟩
   .refine⟨none,_,by have:=run_endLoop (P:=P) hl (by rw[Gw];simp);rw[Gw]at this;exact this,?_⟩
    have key:∀(o':Obj),Q .normal (coll a w.heap.size) (W2.putObj (w.heap.size+1) o'):=λo'=>by
     have hi':=pI (o':=o') hi aa hl rfl
     rw[hII]at hi';let⟨hh,β',hi1,X0⟩:=hi';have hk':(W2.putObj (w.heap.size+1) o').heap[w.heap.size]? = some (.deferred (some [])):=(World.putObj_heap_other aa).trans hk
     let⟨r1,r2⟩:=X0.out (aN _) hk'
     grind
    exact key _
   .refine⟨some cd,_,by have:=run_endLoop (P:=P) hl (by rw[Gw];simp);rw[Gw]at this;exact this,?_⟩
    have key:∀(o':Obj),cd.wpIn Fence.wide 1 P Q (coll a w.heap.size) (W2.putObj (w.heap.size+1) o'):=λo'=>by
     have hi':=pX (o':=o') hi aa hl rfl
     rw[hIX]at hi';obtain⟨ex,hh,β',rfl,hne,hi1,X0⟩:=hi';have hk':(W2.putObj (w.heap.size+1) o').heap[w.heap.size]? = some (.deferred (some [])):=(World.putObj_heap_other aa).trans hk
     let⟨r1,r2⟩:=X0.out (aN _) hk';have:=hstop _ ex _ hh β' (aN _) hne hi1 r1 r2 hk';cases ex with
     |normal=>exact absurd rfl hne
     |ret=>exact wpIn_ret this
     |exit id=>exact wpIn_exit this
    exact key _
end
end Go.Am
