/- Part of the proof that TopPassedCard holds. -/
import Derived.Test.YtaepagegdgdlhaaGreatDoorAmRf
import Derived.RangeFuncLeaves
set_option linter.all false
namespace Go.Am
open Go.RowKit
variable{β'':kW}{s1:St}
section
variable{P:Program}{Γ:kP}
structure At(n:Nat)(Z:az)(β:kW)(h:AH)(w:World)(Zc:az)(ds:List Deferred)(s:St)(a:Act)(β':kW)(W:World):Prop where
 rel:Rel Zc β' s.h W
 keep:∀b,b<w.heap.size->Z b->W.heap[b]? = w.heap[b]?
 os:W.os=w.os
 tape:W.tape=w.tape
 output:W.output=w.output
 ext:∀i v bd,β i v=some bd->β' i v=some bd
 stay:lS (Own Z β h) w (Own Zc β' s.h) W
 env:kF Zc β' s.h W s.e a n
 defers:a.defers=ds
 sub:∀b,Z b->Zc b
variable{n:Nat}{Z:az}{β:kW}{h:AH}{w:World}{Zc:az}{ds:List Deferred}{s:St}{a:Act}{β':kW}{W:World}
def At.next{V:aB}(A:At n Z β h w Zc ds s a β' W)(R:Rel Z β h w)(hV:∀i,V i=true->h.length<=i){s':St}{a':Act}{W':World}(R':Rel Zc β'' s'.h W')(F:Nw V Zc β' s.h W β'' s'.h W')(E:kF Zc β'' s'.h W' s'.e a' n)(hd:a'.defers=a.defers):
  At n Z β h w Zc ds s' a' β'' W' :=
 ⟨R',λb hb hz=>(F.nN b (bT hb A.stay.1) (A.sub b hz)).trans (A.keep b hb hz),F.os.trans A.os,F.tape.trans A.tape,F.output.trans A.output,λi v bd hb=>F.ext i v bd (by
  cases hv:V i with
  |false=>rfl
  |true=>rw[R.fresh i v (hV i hv)]at hb;cases hb) (A.ext i v bd hb),A.stay.trans F.stay,E,hd.trans A.defers,A.sub⟩
def At.step(hm:P.follows .mixedOrders=true)(hΓ:mH P Γ)(A:At n Z β h w Zc ds s a β' W)(R:Rel Z β h w){c:Code}{c':AC}(ok:ku P n c c'=true){x:AX}
  (he:eval Γ c' (λi=>decide (h.length<=i)) (AX×St) (λx s=>some (x,s)) s=some (x,s1)) {m:Nat} {Q:Exit->Act->World->Prop}
  (K:∀a' β'' W',At n Z β h w Zc ds s1 a' β'' W'->Q x.exit' a' W'):c.wpIn Fence.wide m P Q a W:=by
 refine wpIn_wide.2 (sZ hm hΓ c' c ok he (W:=λ_=>true) (λ_ _=>rfl) A.rel A.env λx' s' a' w' β'' hk R' F' E' K'=>?_)
 simp only[bp,Prod.mk.injEq]at hk;obtain⟨rfl,rfl⟩:=hk;exact K a' β'' w' (A.next R (λi hi=>by simpa using hi) R' F' E' K'.defers)
def At.start{args:List AV}{vs:List Value}(R:Rel Z β h w)(hl:args.length=vs.length)(hv:∀(j:Nat)(y:AV)(u:Value),args[j]? = some y->vs[j]? = some u->VR β (Own Z β h) w y u)(hn:args.length<=n):
  At n Z β h w Z [] ⟨kR args,h⟩ {tmps:=vs.toArray++Array.replicate (n-vs.toArray.size) undef,defers:=[]} β w:=by
 refine⟨R,λ_ _ _=>rfl,rfl,rfl,rfl,λ_ _ _ e=>e,lS.refl _ _,⟨aj,λt=>?_⟩,rfl,λ_ h=>h⟩
 show VR β (Own Z β h) w (args.getD t .dead) ((vs.toArray++Array.replicate (n-vs.toArray.size) undef).getD t undef)
 by_cases ht:t<args.length
 .have h1:args[t]? = some args[t]:=aG ht;have h2:vs[t]? = some (vs[t]'aa):=aG aa
  have:=hv t _ _ h1 h2;rw[bV,h1];rw[bP,cR aj]
  simp only[bN,h2,bO];exact this
 .rw[bV,b9 aa]
  exact .dead _
def At.behind(A:At n Z β h w Z [] s a β' W)(R:Rel Z β h w){D:Nat}(hD:W.heap.size<=D){hh:AH}{W':World}(R':Rel (ZD Z D) β'' hh W')(F:Fr Z β' s.h W β'' hh W'):
  At n Z β h w (ZD Z D) [{target:=.collected D,args := #[]}] ⟨s.e,hh⟩ (coll a D) β'' W':=by
 have st:lS (Own Z β' s.h) W (Own (ZD Z D) β'' hh) W':=⟨F.stay.1,λb hb hO=>by
  let⟨e1,e2⟩:=F.stay.2 b hb hO;refine⟨e1,λJm=>e2 ?_⟩
  rcases Jm with(hz | hz) | hz
  .exact .inl hz
  .omega
  .exact .inr hz⟩
 exact⟨R',λb hb hz=>(F.nN b (bT hb A.stay.1) hz).trans (A.keep b hb hz),F.os.trans A.os,F.tape.trans A.tape,F.output.trans A.output,λi v bd hb=>F.ext i v bd (A.ext i v bd hb),A.stay.trans st,⟨A.env.1,λt=>(A.env.2 t).mono F.ext st⟩,by simp[coll,A.defers],λb hb=>.inl hb⟩
def At.adN{fn:Func}{res:List AR}{m:Nat}{r:AV}(A:At n Z β h w Z [] s a β' W)(ok:ri P fn.results.toList res=true)(hr:Gn s res=some r){x:Exit}(hx:x = .ret\/x = .normal){R':Ending->World->Prop}(K:∀u β' W',Rel Z β' s.h W'->Fr Z β h w β' s.h W'->VR β' (Own Z β' s.h) W' r u->R' (.returned u) W'):
  bodyPostM Fence.wide m P fn R' x a W:=by
 let⟨u,h1,h2⟩:=wQ A.rel A.env ok hr;have:LeavesInM Fence.wide m P fn a.tmps R' a.defers .returning W:=by
  rw[A.defers];exact⟨u,h1,K u β' W A.rel ⟨A.keep,A.os,A.tape,A.output,A.ext,A.stay⟩ h2⟩
 rcases hx with rfl | rfl<;>exact this
def At.Oo{fn:Func}{res:List AR}{m:Nat}{r:AV}{D:Nat}(A:At n Z β h w (ZD Z D) [{target:=.collected D,args := #[]}] s a β' W)(R:Rel Z β h w)(hD:w.heap.size<=D)(hk:W.heap[D]? = some (.deferred (some [])))
  (ok:ri P fn.results.toList res=true) (hr:Gn s res=some r) {x:Exit} (hx:x = .ret\/x = .normal) {R':Ending->World->Prop} (K:∀u β' W',Rel Z β' s.h W'->Fr Z β h w β' s.h W'->VR β' (Own Z β' s.h) W' r u->R' (.returned u) W') :
  bodyPostM Fence.wide m P fn R' x a W:=by
 obtain⟨W',ON⟩:∃W',W'=W.putObj D (.deferred none):=⟨_,rfl⟩;have ho:∀b,b≠D->W'.heap[b]? = W.heap[b]? := λb hb=>by rw[ON];exact World.putObj_heap_other hb
 have hsz:W'.heap.size=W.heap.size:=by rw[ON];simp
 have st:lS (Own (ZD Z D) β' s.h) W (Own Z β' s.h) W':=⟨aa,λb hb hO=>⟨ho b (λe=>hO (.inl (.inr e))),λJm=>hO (by
  rcases Jm with hz | hz
  .exact .inl (.inl hz)
  .exact .inr hz)⟩⟩
 have R1:Rel Z β' s.h W':=A.rel.shift st (λi c hc=>ho c (λe=>A.rel.CG i c hc (.inr e))) (λc hc=>by
   have:=R.xlt c hc;have:=A.stay.1;omega) (λi c hc hz=>A.rel.CG i c hc (.inl hz))
 have E':kF Z β' s.h W' s.e a n:=⟨A.env.1,λt=>(A.env.2 t).mono (λ_ _ _ e=>e) st⟩
 let⟨u,h1,h2⟩:=wQ R1 E' ok hr;have:LeavesInM Fence.wide m P fn a.tmps R' a.defers .returning W:=by
  rw[A.defers];refine⟨ah,.inl ⟨_,_,rfl,run_takeDeferred hk,?_⟩⟩
  rw[<-ON];refine⟨u,h1,K u β' W' R1 ⟨λb hb hz=>?_,by rw[ON];exact A.os,by rw[ON];exact A.tape,by rw[ON];exact A.output,A.ext,A.stay.trans st⟩ h2⟩
  exact(ho b aa).trans (A.keep b hb hz)
 rcases hx with rfl | rfl<;>exact this
def At.mark{D:Nat}{W':World}(A:At n Z β h w (ZD Z D) ds s a β' W)(hk:W.heap[D]? = some (.deferred (some []))){V:aB}(F:Nw V (ZD Z D) β' s.h W β'' s1.h W'):W'.heap[D]? = some (.deferred (some [])) :=
 (F.nN D (aW.1 hk).1 (.inr rfl)).trans hk
theorem At.j8(hm:P.follows .mixedOrders=true)(hΓ:mH P Γ){D:Nat}(A:At n Z β h w (ZD Z D) ds s a β' W)(R:Rel Z β h w)(hk:W.heap[D]? = some (.deferred (some []))){c:Code}{c':AC}(ok:ku P n c c'=true){x:AX}
  (he:eval Γ c' (λi=>decide (h.length<=i)) (AX×St) (λx s=>some (x,s)) s=some (x,s1)) {m:Nat} {Q:Exit->Act->World->Prop}
  (K:∀a' β'' W',At n Z β h w (ZD Z D) ds s1 a' β'' W'->W'.heap[D]? = some (.deferred (some []))->Q x.exit' a' W'):c.wpIn Fence.wide m P Q a W:=by
 refine wpIn_wide.2 (sZ hm hΓ c' c ok he (W:=λ_=>true) (λ_ _=>rfl) A.rel A.env λx' s' a' w' β'' hk' R' F' E' K'=>?_)
 simp only[bp,Prod.mk.injEq]at hk';obtain⟨rfl,rfl⟩:=hk';exact K a' β'' w' (A.next R (λi hi=>by simpa using hi) R' F' E' K'.defers) (A.mark hk F')
end
open Go.RowKit
section
variable{P:Program}{Γ:kP}{Z:az}{β:kW}{h:AH}{w:World}
def Rel.aiP(R:Rel Z β h w){i:Nat}{cs cs':List AV}(hi:h[i]? = some (.var cs))(hl:cs'.length=cs.length)
  (hv:∀(j:Nat)(y y':AV)(v:Value),cs[j]? = some y->cs'[j]? = some y'->VR β (Own Z β h) w y v->VR β (Own Z β h) w y' v) :
  Rel Z β (h.set i (.var cs')) w/\Fr Z β h w β (h.set i (.var cs')) w:=by
 have hlt:i<h.length:=(aF.1 hi).1
 have get:∀ {k X},(h.set i (.var cs'))[k]? = some X->(k=i/\X = .var cs')\/(k≠i/\h[k]? = some X):=by
  intro k X hX;rw[dR]at hX
  by_cases e:i=k
  .rw[if_pos e,if_pos (e▸hlt)]at hX;cases hX;exact .inl ⟨e.symm,rfl⟩
  .rw[if_neg e]at hX;exact .inr ⟨λe'=>e e'.symm,hX⟩
 have ow:∀ {k c},owned β (h.set i (.var cs')) k c↔owned β h k c:=by
  intro k c
  constructor
  .rintro⟨X,hX,ho⟩
   rcases get hX with⟨rfl,rfl⟩ | ⟨_,hX⟩
   .exact⟨_,hi,ho⟩
   .exact⟨X,hX,ho⟩
  .rintro⟨X,hX,ho⟩
   by_cases e:k=i
   .subst e;rw[hi]at hX;cases hX;exact⟨.var cs',by rw[dR];simp[hlt],ho⟩
   .exact⟨X,by rw[aJ (λe'=>e e'.symm)];exact hX,ho⟩
 have oo:∀c,Own Z β (h.set i (.var cs')) c↔Own Z β h c:=λc=>⟨λhc=>hc.imp id λ⟨k,hk⟩=>⟨k,ow.1 hk⟩,λhc=>hc.imp id λ⟨k,hk⟩=>⟨k,ow.2 hk⟩⟩
 have st:lS (Own Z β h) w (Own Z β (h.set i (.var cs'))) w:=⟨aN _,λb _ hO=>⟨rfl,λhh=>hO ((oo b).1 hh)⟩⟩
 refine⟨⟨R.xlt,λk c ho=>R.CG k c (ow.1 ho),λk v hk=>R.fresh k v (an hk),λk v sz es v' hX hv=>?_,λk X hX=>?_,λk j c h1 h2=>R.apart k j c (ow.1 h1) (ow.1 h2)⟩,⟨λ_ _ _=>rfl,rfl,rfl,rfl,λ_ _ _ e=>e,st⟩⟩
 .rcases get hX with⟨rfl,hq⟩ | ⟨_,hX⟩
  .cases hq
  .exact R.later k v sz es v' hX hv
 .rcases get hX with⟨rfl,rfl⟩ | ⟨_,hX⟩
  .let⟨c,cur,elem,e1,e2,e3,e4⟩:=R.blk k _ hi;refine⟨c,cur,elem,by rw[hl];exact e1,e2,by rw[hl];exact e3,λj y' hy'=>?_⟩
   have hj:j<cs.length:=by rw[<-hl];exact(aF.1 hy').1
   let⟨v,g1,g2,g3⟩:=e4 j _ (aG hj);exact⟨v,g1,g2,(hv j _ y' v (aG hj) hy' g3).mono (λ_ _ _ e=>e) st⟩
  .exact(R.blk k X hX).mono st (λ_ _ _ e=>e) (λ_ _=>rfl)
def At.jI{n:Nat}{Zc:az}{ds:List Deferred}{s:St}{a:Act}{β':kW}{W:World}(A:At n Z β h w Zc ds s a β' W){i sz:Nat}(hsz:0<sz)(hi:s.h[i]? = some (.var [.jB true []])):
  ∃β'',At n Z β h w Zc ds ⟨s.e,(s.h.set i (.var [.own s.h.length 0 0 0]))++[.row 0 sz []]⟩ a β'' W:=by
 have hlt:i<s.h.length:=(aF.1 hi).1;let⟨β1,R1,F1,hv⟩:=A.rel.sg sz hsz;have hi1:(s.h++[AB.row 0 sz []])[i]? = some (.var [.jB true []]):=by rw[aK hlt];exact hi
 let⟨R2,F2⟩:=R1.aiP hi1 (cs':=[.own s.h.length 0 0 0]) rfl (λj y y' v hy hy' h0=>by
  have hj:j=0:=by have:=(aF.1 hy).1;simpa using this
  subst hj;simp only[bz,bp]at hy hy';subst hy hy';have h1:=h0.oJ;generalize hlen:([]:List AV).length=len at h1;cases h1 with
  |jB _ _ ad c _ _ _ _ hf _ _ _ _ _ _ =>
   have hc:=hf rfl;simp only[bq]at hc hlen⊢;subst hc;exact hv ad)
 have F:=F1.trans F2;rw[gi _ _ hlt]at R2 F;exact⟨β1,R2,λb hb hz=>A.keep b hb hz,A.os,A.tape,A.output,λk v bd hb=>F.ext k v bd (A.ext k v bd hb),A.stay.trans F.stay,A.env.fr F,A.defers,A.sub⟩
def Sr{m:Nat}{row:String}{args:Array Value}{R:Value->World->Prop}(h:Rows P row args w R):RowsIn Fence.wide m P row args w R:=by
 intro c cs _;let⟨v,w',r,s⟩:=h c cs;exact⟨v,w',r,stepsIn_wide.2 s⟩
def SD{m:Nat}{o:Oper}{a:Act}{next:Act->World->Prop}{Q:Exit->Act->World->Prop}(h:o.wp P a w next Q):o.wpIn Fence.wide m P a w next Q:=by
 refine⟨λ_ _=>trivial,?_⟩
 have e:o.semAt Fence.wide.round a.eval=execOp a.eval o:=Oper.semAt_none _ _;rw[e];unfold Oper.wp at h;generalize(execOp a.eval o).run P w=r at h;unfold Oper.upon at h;unfold Oper.uponIn;split at h
 .exact h
 .exact h
 .exact h
 .exact⟨λh=>by simp[Fence.wide]at h,callsIn_wide.2 h⟩
 .exact⟨λh=>by simp[Fence.wide]at h,Sr h⟩
 .exact h
 .exact h.elim
def Ba{m:Nat}{ops:Array Oper}{Q Q':Exit->Act->World->Prop}(hQ:¬LetsOut Q)(rest:List Oper)(hn:∀a w,Q .normal a w->wpListIn Fence.wide m P ops Q' rest a w)(hp:∀ch a w,Q (.panic ch) a w->Q' (.panic ch) a w):
  ∀(os:List Oper)(a:Act)(w:World),wpList P ops Q os a w->wpListIn Fence.wide m P ops Q' (os++rest) a w
 | [],a,w,h=>hn a w h
 |o::os,a,w,h=>by
  have ih:=Ba hQ rest hn hp os;unfold wpList at h;rw[bK];unfold wpListIn;split at h
  .rename_i hw;rw[if_pos hw]
   rcases h with h | ⟨_,h⟩
   .refine SD ?_;unfold Oper.wp at h⊢;generalize(execOp a.eval o).run P w=r at h;unfold Oper.upon at h⊢;split at h
    .exact ih _ _ h
    .exact ih _ _ h
    .exact ih _ _ h
    .refine h.mono ?_
     rintro e w'' he
     cases e with
     |returned v=>exact ih _ _ he
     |panicked ch=>exact hp _ _ _ he
     |outgrown=>exact absurd he hQ
    .exact h.mono λv w' hv=>ih _ _ hv
    .exact hp _ _ _ h
    .exact h.elim
   .exact absurd h hQ
  .rename_i hw;rw[if_neg hw];exact⟨λ_ _=>trivial,ih _ _ h⟩
def NI{o:Oper}{t:Tmp}{args:Array Operand}{ats:Array TypeId}(ho:o.op = .call {callee:=.value (.tmp t),args,argTypes:=ats}){l:Nat}{a:Act}(ht:a.eval (.tmp t) = .func (.yield l) #[] #[])
  {vs:Array Value} (hvs:args.map a.eval=vs) {R:Ending->World->Prop} (hy:YieldAt Fence.wide 0 P l vs w R) {next:Act->World->Prop} {Q:Exit->Act->World->Prop}
  (hR:∀e W',R e W'->∃b,e = .returned (.bool b)) (K:∀b W',R (.returned (.bool b)) W'->next (a.put o.dst (.bool b)) W'):o.wpIn Fence.wide 0 P a w next Q:=by
 let⟨fn,tmps,assign,body,hy,hr⟩:=hy;refine⟨λ_ _=>trivial,?_⟩
 have e:o.semAt Fence.wide.round a.eval=execOp a.eval o:=Oper.semAt_none _ _;rw[e]
 have hx:(execOp a.eval o).run P w = .ok (.round l fn tmps assign body) w:=by
  unfold execOp;simp only[ho,resolve,ht];simp only[Sem.run_bind,Sem.run_pure,Result.andThen_ok,Deferred.ofValue,invoke]
  simpa[hvs]using hy
 rw[hx,Oper.uponIn_round];refine⟨λh=>by simp[Fence.wide]at h,hr.mono ?_⟩
 intro e W' he;obtain⟨b,rfl⟩:=hR e W' he;exact K b W' he
end
end Go.Am
