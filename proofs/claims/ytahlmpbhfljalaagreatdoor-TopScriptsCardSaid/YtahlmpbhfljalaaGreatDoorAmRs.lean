/- Part of the proof that TopScriptsCard holds. -/
import Derived.Test.YtahlmpbhfljalaaGreatDoorAmRf
import Derived.RangeFuncLeaves
set_option linter.all false
namespace Go.Am
open Go.RowKit
variable{β'':iW}{s1:St}
section
variable{P:Program}{Γ:ja}
structure At(n:Nat)(Z:ay)(β:iW)(h:AH)(w:World)(Zc:ay)(ds:List Deferred)(s:St)(a:Act)(β':iW)(W:World):Prop where
 rel:Rel Zc β' s.h W
 keep:∀b,b<w.heap.size->Z b->W.heap[b]? = w.heap[b]?
 os:W.os=w.os
 tape:W.tape=w.tape
 output:W.output=w.output
 ext:∀i v bd,β i v=some bd->β' i v=some bd
 stay:jJ (Own Z β h) w (Own Zc β' s.h) W
 env:iP Zc β' s.h W s.e a n
 defers:a.defers=ds
 sub:∀b,Z b->Zc b
variable{n:Nat}{Z:ay}{β:iW}{h:AH}{w:World}{Zc:ay}{ds:List Deferred}{s:St}{a:Act}{β':iW}{W:World}
def At.next{V:aA}(A:At n Z β h w Zc ds s a β' W)(R:Rel Z β h w)(z:∀i,V i=true->h.length<=i){s':St}{q:Act}{o:World}(G:Rel Zc β'' s'.h o)(F:Ct V Zc β' s.h W β'' s'.h o)(E:iP Zc β'' s'.h o s'.e q n)(y:q.defers=a.defers):
  At n Z β h w Zc ds s' q β'' o :=
 ⟨G,λb l r=>(F.kJ b (br l A.stay.1) (A.sub b r)).trans (A.keep b l r),F.os.trans A.os,F.tape.trans A.tape,F.output.trans A.output,λi v bd l=>F.ext i v bd (by
  cases x:V i with
  |false=>rfl
  |true=>rw[R.fresh i v (z i x)]at l;cases l) (A.ext i v bd l),A.stay.trans F.stay,E,y.trans A.defers,A.sub⟩
def At.step(r:P.follows .mixedOrders=true)(l:js P Γ)(A:At n Z β h w Zc ds s a β' W)(R:Rel Z β h w){c:Code}{o:AC}(ok:ir P n c o=true){x:AX}
  (y:eval Γ o (λi=>decide (h.length<=i)) (AX×St) (λx s=>some (x,s)) s=some (x,s1)) {m:Nat} {Q:Exit->Act->World->Prop}
  (K:∀b β'' q,At n Z β h w Zc ds s1 b β'' q->Q x.exit' b q):c.wpIn Fence.wide m P Q a W:=by
 refine wpIn_wide.2 (kR r l o c ok y (W:=λ_=>true) (λ_ _=>rfl) A.rel A.env λH s' b w' β'' hk z F G E=>?_)
 simp only[aP,Prod.mk.injEq]at hk;obtain⟨rfl,rfl⟩:=hk;exact K b β'' w' (A.next R (λi v=>by simpa using v) z F G E.defers)
def At.start{args:List AV}{vs:List Value}(R:Rel Z β h w)(hl:args.length=vs.length)(b:∀(j:Nat)(y:AV)(u:Value),args[j]? = some y->vs[j]? = some u->VR β (Own Z β h) w y u)(l:args.length<=n):
  At n Z β h w Z [] ⟨iX args,h⟩ {tmps:=vs.toArray++Array.replicate (n-vs.toArray.size) undef,defers:=[]} β w:=by
 refine⟨R,λ_ _ _=>rfl,rfl,rfl,rfl,λ_ _ _ e=>e,jJ.refl _ _,⟨aj,λt=>?_⟩,rfl,λ_ h=>h⟩
 show VR β (Own Z β h) w (args.getD t .dead) ((vs.toArray++Array.replicate (n-vs.toArray.size) undef).getD t undef)
 by_cases i:t<args.length
 .have h1:args[t]? = some args[t]:=aF i;have h2:vs[t]? = some (vs[t]'aa):=aF aa
  have:=b t _ _ h1 h2;rw[bK,h1];rw[aO,cT aj]
  simp only[bw,h2,cM];exact this
 .rw[bK,cS aa]
  exact .dead _
def At.behind(A:At n Z β h w Z [] s a β' W)(R:Rel Z β h w){D:Nat}(G:W.heap.size<=D){q:AH}{r:World}(E:Rel (ZD Z D) β'' q r)(F:Fr Z β' s.h W β'' q r):
  At n Z β h w (ZD Z D) [{target:=.collected D,args := #[]}] ⟨s.e,q⟩ (coll a D) β'' r:=by
 have st:jJ (Own Z β' s.h) W (Own (ZD Z D) β'' q) r:=⟨F.stay.1,λb l y=>by
  let⟨e1,z⟩:=F.stay.2 b l y;refine⟨e1,λx=>z ?_⟩
  rcases x with(o | o) | o
  .exact .inl o
  .omega
  .exact .inr o⟩
 exact⟨E,λb l o=>(F.kJ b (br l A.stay.1) o).trans (A.keep b l o),F.os.trans A.os,F.tape.trans A.tape,F.output.trans A.output,λi v bd l=>F.ext i v bd (A.ext i v bd l),A.stay.trans st,⟨A.env.1,λt=>(A.env.2 t).mono F.ext st⟩,by simp[coll,A.defers],λb l=>.inl l⟩
def At.VG{fn:Func}{res:List AR}{m:Nat}{r:AV}(A:At n Z β h w Z [] s a β' W)(ok:nv P fn.results.toList res=true)(l:oa s res=some r){x:Exit}(hx:x = .ret\/x = .normal){i:Ending->World->Prop}(K:∀u β' b,Rel Z β' s.h b->Fr Z β h w β' s.h b->VR β' (Own Z β' s.h) b r u->i (.returned u) b):
  bodyPostM Fence.wide m P fn i x a W:=by
 let⟨u,h1,h2⟩:=qg A.rel A.env ok l;have:LeavesInM Fence.wide m P fn a.tmps i a.defers .returning W:=by
  rw[A.defers];exact⟨u,h1,K u β' W A.rel ⟨A.keep,A.os,A.tape,A.output,A.ext,A.stay⟩ h2⟩
 rcases hx with rfl | rfl<;>exact this
def At.C2{fn:Func}{res:List AR}{m:Nat}{r:AV}{D:Nat}(A:At n Z β h w (ZD Z D) [{target:=.collected D,args := #[]}] s a β' W)(R:Rel Z β h w)(O:w.heap.size<=D)(hk:W.heap[D]? = some (.deferred (some [])))
  (ok:nv P fn.results.toList res=true) (M:oa s res=some r) {x:Exit} (hx:x = .ret\/x = .normal) {F:Ending->World->Prop} (K:∀u β' o,Rel Z β' s.h o->Fr Z β h w β' s.h o->VR β' (Own Z β' s.h) o r u->F (.returned u) o) :
  bodyPostM Fence.wide m P fn F x a W:=by
 obtain⟨o,l⟩:∃o,o=W.putObj D (.deferred none):=⟨_,rfl⟩;have z:∀b,b≠D->o.heap[b]? = W.heap[b]? := λb y=>by rw[l];exact World.putObj_heap_other y
 have L:o.heap.size=W.heap.size:=by rw[l];simp
 have st:jJ (Own (ZD Z D) β' s.h) W (Own Z β' s.h) o:=⟨aa,λb y G=>⟨z b (λe=>G (.inl (.inr e))),λE=>G (by
  rcases E with q | q
  .exact .inl (.inl q)
  .exact .inr q)⟩⟩
 have H:Rel Z β' s.h o:=A.rel.shift st (λi c v=>z c (λe=>A.rel.yC i c v (.inr e))) (λc v=>by
   have:=R.xlt c v;have:=A.stay.1;omega) (λi c v q=>A.rel.yC i c v (.inl q))
 have N:iP Z β' s.h o s.e a n:=⟨A.env.1,λt=>(A.env.2 t).mono (λ_ _ _ e=>e) st⟩
 let⟨u,h1,h2⟩:=qg H N ok M;have:LeavesInM Fence.wide m P fn a.tmps F a.defers .returning W:=by
  rw[A.defers];refine⟨ah,.inl ⟨_,_,rfl,run_takeDeferred hk,?_⟩⟩
  rw[<-l];refine⟨u,h1,K u β' o H ⟨λb y q=>?_,by rw[l];exact A.os,by rw[l];exact A.tape,by rw[l];exact A.output,A.ext,A.stay.trans st⟩ h2⟩
  exact(z b aa).trans (A.keep b y q)
 rcases hx with rfl | rfl<;>exact this
def At.mark{D:Nat}{b:World}(A:At n Z β h w (ZD Z D) ds s a β' W)(hk:W.heap[D]? = some (.deferred (some []))){V:aA}(F:Ct V (ZD Z D) β' s.h W β'' s1.h b):b.heap[D]? = some (.deferred (some [])) :=
 (F.kJ D (aH.1 hk).1 (.inr rfl)).trans hk
theorem At.step1(y:P.follows .mixedOrders=true)(o:js P Γ){D:Nat}(A:At n Z β h w (ZD Z D) ds s a β' W)(R:Rel Z β h w)(hk:W.heap[D]? = some (.deferred (some []))){c:Code}{q:AC}(ok:ir P n c q=true){x:AX}
  (E:eval Γ q (λi=>decide (h.length<=i)) (AX×St) (λx s=>some (x,s)) s=some (x,s1)) {m:Nat} {Q:Exit->Act->World->Prop}
  (K:∀l β'' r,At n Z β h w (ZD Z D) ds s1 l β'' r->r.heap[D]? = some (.deferred (some []))->Q x.exit' l r):c.wpIn Fence.wide m P Q a W:=by
 refine wpIn_wide.2 (kR y o q c ok E (W:=λ_=>true) (λ_ _=>rfl) A.rel A.env λL s' l w' β'' b F v H G=>?_)
 simp only[aP,Prod.mk.injEq]at b;obtain⟨rfl,rfl⟩:=b;exact K l β'' w' (A.next R (λi z=>by simpa using z) F v H G.defers) (A.mark hk v)
end
section
variable{P:Program}{Γ:ja}{Z:ay}{β:iW}{h:AH}{w:World}
def Rel.abT(R:Rel Z β h w){i:Nat}{cs cs':List AV}(z:h[i]? = some (.var cs))(hl:cs'.length=cs.length)
  (A:∀(j:Nat)(y x:AV)(v:Value),cs[j]? = some y->cs'[j]? = some x->VR β (Own Z β h) w y v->VR β (Own Z β h) w x v) :
  Rel Z β (h.set i (.var cs')) w/\Fr Z β h w β (h.set i (.var cs')) w:=by
 have r:i<h.length:=(az.1 z).1
 have get:∀ {k X},(h.set i (.var cs'))[k]? = some X->(k=i/\X = .var cs')\/(k≠i/\h[k]? = some X):=by
  intro k X l;rw[eU]at l
  by_cases e:i=k
  .rw[if_pos e,if_pos (e▸r)]at l;cases l;exact .inl ⟨e.symm,rfl⟩
  .rw[if_neg e]at l;exact .inr ⟨λe'=>e e'.symm,l⟩
 have o:∀ {k c},owned β (h.set i (.var cs')) k c↔owned β h k c:=by
  intro k c
  constructor
  .rintro⟨X,l,n⟩
   rcases get l with⟨rfl,rfl⟩ | ⟨_,l⟩
   .exact⟨_,z,n⟩
   .exact⟨X,l,n⟩
  .rintro⟨X,l,n⟩
   by_cases e:k=i
   .subst e;rw[z]at l;cases l;exact⟨.var cs',by rw[eU];simp[r],n⟩
   .exact⟨X,by rw[aL (λe'=>e e'.symm)];exact l,n⟩
 have G:∀c,Own Z β (h.set i (.var cs')) c↔Own Z β h c:=λc=>⟨λE=>E.imp id λ⟨k,hk⟩=>⟨k,o.1 hk⟩,λE=>E.imp id λ⟨k,hk⟩=>⟨k,o.2 hk⟩⟩
 have st:jJ (Own Z β h) w (Own Z β (h.set i (.var cs'))) w:=⟨aT _,λb _ L=>⟨rfl,λK=>L ((G b).1 K)⟩⟩
 refine⟨⟨R.xlt,λk c n=>R.yC k c (o.1 n),λk v hk=>R.fresh k v (ak hk),λk v sz es v' l A=>?_,λk X l=>?_,λk j c h1 h2=>R.apart k j c (o.1 h1) (o.1 h2),R.gl.stay st⟩,⟨λ_ _ _=>rfl,rfl,rfl,rfl,λ_ _ _ e=>e,st⟩⟩
 .rcases get l with⟨rfl,H⟩ | ⟨_,l⟩
  .cases H
  .exact R.later k v sz es v' l A
 .rcases get l with⟨rfl,rfl⟩ | ⟨_,l⟩
  .let⟨c,cur,elem,e1,Q,O,N⟩:=R.blk k _ z;refine⟨c,cur,elem,by rw[hl];exact e1,Q,by rw[hl];exact O,λj x q=>?_⟩
   have F:j<cs.length:=by rw[<-hl];exact(az.1 q).1
   let⟨v,g1,M,g3⟩:=N j _ (aF F);exact⟨v,g1,M,(A j _ x v (aF F) q g3).mono (λ_ _ _ e=>e) st⟩
  .exact(R.blk k X l).mono st (λ_ _ _ e=>e) (λ_ _=>rfl)
def At.iJ{n:Nat}{L:ay}{K:List Deferred}{s:St}{a:Act}{β':iW}{W:World}(A:At n Z β h w L K s a β' W){i sz:Nat}(x:0<sz)(G:s.h[i]? = some (.var [.en true []])):
  ∃β'',At n Z β h w L K ⟨s.e,(s.h.set i (.var [.own s.h.length 0 0 0]))++[.row 0 sz []]⟩ a β'' W:=by
 have o:i<s.h.length:=(az.1 G).1;obtain⟨β1,T,X,O,-⟩:=A.rel.tF sz x;have z:(s.h++[AB.row 0 sz []])[i]? = some (.var [.en true []]):=by rw[aI o];exact G
 let⟨M,U⟩:=T.abT z (cs':=[.own s.h.length 0 0 0]) rfl (λj y Y v r l h0=>by
  have Q:j=0:=by have:=(az.1 r).1;simpa using this
  subst Q;simp only[aS,aP]at r l;subst r l;have h1:=h0.lS;generalize q:([]:List AV).length=len at h1;cases h1 with
  |en _ _ ad c _ _ _ _ S _ _ _ _ _ _ =>
   have H:=S rfl;simp only[aR]at H q⊢;subst H;exact O ad)
 have F:=X.trans U;rw[eH _ _ o]at M F;exact⟨β1,M,λb E N=>A.keep b E N,A.os,A.tape,A.output,λk v bd E=>F.ext k v bd (A.ext k v bd E),A.stay.trans F.stay,A.env.fr F,A.defers,A.sub⟩
def JU{m:Nat}{row:String}{args:Array Value}{R:Value->World->Prop}(h:Rows P row args w R):RowsIn Fence.wide m P row args w R:=by
 intro c cs _;let⟨v,w',r,s⟩:=h c cs;exact⟨v,w',r,stepsIn_wide.2 s⟩
def J3{m:Nat}{o:Oper}{a:Act}{next:Act->World->Prop}{Q:Exit->Act->World->Prop}(h:o.wp P a w next Q):o.wpIn Fence.wide m P a w next Q:=by
 refine⟨λ_ _=>trivial,?_⟩
 have e:o.semAt Fence.wide.round a.eval=execOp a.eval o:=Oper.semAt_none _ _;rw[e];unfold Oper.wp at h;generalize(execOp a.eval o).run P w=r at h;unfold Oper.upon at h;unfold Oper.uponIn;split at h
 .exact h
 .exact h
 .exact h
 .exact⟨λh=>by simp[Fence.wide]at h,callsIn_wide.2 h⟩
 .exact⟨λh=>by simp[Fence.wide]at h,JU h⟩
 .exact h
 .exact h.elim
def oA{m:Nat}{ops:Array Oper}{Q y:Exit->Act->World->Prop}(q:¬LetsOut Q)(rest:List Oper)(z:∀a w,Q .normal a w->wpListIn Fence.wide m P ops y rest a w)(l:∀x a w,Q (.panic x) a w->y (.panic x) a w):
  ∀(os:List Oper)(a:Act)(w:World),wpList P ops Q os a w->wpListIn Fence.wide m P ops y (os++rest) a w
 | [],a,w,h=>z a w h
 |o::os,a,w,h=>by
  have b:=oA q rest z l os;unfold wpList at h;rw[aM];unfold wpListIn;split at h
  .rename_i i;rw[if_pos i]
   rcases h with h | ⟨_,h⟩
   .refine J3 ?_;unfold Oper.wp at h⊢;generalize(execOp a.eval o).run P w=r at h;unfold Oper.upon at h⊢;split at h
    .exact b _ _ h
    .exact b _ _ h
    .exact b _ _ h
    .refine h.mono ?_
     rintro e A n
     cases e with
     |returned v=>exact b _ _ n
     |panicked x=>exact l _ _ _ n
     |outgrown=>exact absurd n q
    .exact h.mono λv w' E=>b _ _ E
    .exact l _ _ _ h
    .exact h.elim
   .exact absurd h q
  .rename_i i;rw[if_neg i];exact⟨λ_ _=>trivial,b _ _ h⟩
def yB{o:Oper}{t:Tmp}{args:Array Operand}{r:Array TypeId}(z:o.op = .call {callee:=.value (.tmp t),args,argTypes:=r}){l:Nat}{a:Act}(x:a.eval (.tmp t) = .func (.yield l) #[] #[])
  {vs:Array Value} (q:args.map a.eval=vs) {R:Ending->World->Prop} (n:YieldAt Fence.wide 0 P l vs w R) {next:Act->World->Prop} {Q:Exit->Act->World->Prop}
  (A:∀e i,R e i->∃b,e = .returned (.bool b)) (K:∀b i,R (.returned (.bool b)) i->next (a.put o.dst (.bool b)) i):o.wpIn Fence.wide 0 P a w next Q:=by
 let⟨fn,tmps,assign,body,n,y⟩:=n;refine⟨λ_ _=>trivial,?_⟩
 have e:o.semAt Fence.wide.round a.eval=execOp a.eval o:=Oper.semAt_none _ _;rw[e]
 have hx:(execOp a.eval o).run P w = .ok (.round l fn tmps assign body) w:=by
  unfold execOp;simp only[z,resolve,x];simp only[Sem.run_bind,Sem.run_pure,Result.andThen_ok,Deferred.ofValue,invoke]
  simpa[q]using n
 rw[hx,Oper.uponIn_round];refine⟨λh=>by simp[Fence.wide]at h,y.mono ?_⟩
 intro e i v;obtain⟨b,rfl⟩:=A e i v;exact K b i v
end
end Go.Am
