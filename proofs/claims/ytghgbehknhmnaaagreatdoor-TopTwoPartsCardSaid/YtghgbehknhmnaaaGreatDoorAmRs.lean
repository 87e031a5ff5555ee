/- Part of the proof that TopTwoPartsCard holds. -/
import Derived.Test.YtghgbehknhmnaaaGreatDoorAmRf
import Derived.RangeFuncLeaves
set_option linter.all false
namespace Go.Am
open Go.RowKit
variable{β'':jO}
section
variable{P:Program}{Γ:jE}
structure At(n:Nat)(Z:az)(β:jO)(h:AH)(w:World)(Zc:az)(ds:List Deferred)(s:St)(a:Act)(β':jO)(W:World):Prop where
 rel:Rel Zc β' s.h W
 keep:∀b,b<w.heap.size->Z b->W.heap[b]? = w.heap[b]?
 os:W.os=w.os
 tape:W.tape=w.tape
 output:W.output=w.output
 ext:∀i v bd,β i v=some bd->β' i v=some bd
 stay:kC (Own Z β h) w (Own Zc β' s.h) W
 env:jt Zc β' s.h W s.e a n
 defers:a.defers=ds
 sub:∀b,Z b->Zc b
variable{n:Nat}{Z:az}{β:jO}{h:AH}{w:World}{Zc:az}{ds:List Deferred}{s:St}{a:Act}{β':jO}{W:World}
def At.next{V:aB}(A:At n Z β h w Zc ds s a β' W)(R:Rel Z β h w)(z:∀i,V i=true->h.length<=i){s':St}{q:Act}{o:World}(G:Rel Zc β'' s'.h o)(F:Dk V Zc β' s.h W β'' s'.h o)(E:jt Zc β'' s'.h o s'.e q n)(y:q.defers=a.defers):
  At n Z β h w Zc ds s' q β'' o :=
 ⟨G,λb l r=>(F.lF b (bu l A.stay.1) (A.sub b r)).trans (A.keep b l r),F.os.trans A.os,F.tape.trans A.tape,F.output.trans A.output,λi v bd l=>F.ext i v bd (by
  cases x:V i with
  |false=>rfl
  |true=>rw[R.fresh i v (z i x)]at l;cases l) (A.ext i v bd l),A.stay.trans F.stay,E,y.trans A.defers,A.sub⟩
def At.step(v:P.follows .mixedOrders=true)(l:j3 P Γ)(A:At n Z β h w Zc ds s a β' W)(R:Rel Z β h w){c:Code}{o:AC}(ok:je P n c o=true){x:AX}{q:St}
  (z:eval Γ o (λi=>decide (h.length<=i)) (AX×St) (λx s=>some (x,s)) s=some (x,q)) {m:Nat} {Q:Exit->Act->World->Prop}
  (K:∀b β'' r,At n Z β h w Zc ds q b β'' r->Q x.exit' b r):c.wpIn Fence.wide m P Q a W:=by
 refine wpIn_wide.2 (mD v l o c ok z (W:=λ_=>true) (λ_ _=>rfl) A.rel A.env λL s' b w' β'' hk E G H F=>?_)
 simp only[bn,Prod.mk.injEq]at hk;obtain⟨rfl,rfl⟩:=hk;exact K b β'' w' (A.next R (λi y=>by simpa using y) E G H F.defers)
def At.start{args:List AV}{vs:List Value}(R:Rel Z β h w)(hl:args.length=vs.length)(b:∀(j:Nat)(y:AV)(u:Value),args[j]? = some y->vs[j]? = some u->VR β (Own Z β h) w y u)(l:args.length<=n):
  At n Z β h w Z [] ⟨jJ args,h⟩ {tmps:=vs.toArray++Array.replicate (n-vs.toArray.size) undef,defers:=[]} β w:=by
 refine⟨R,λ_ _ _=>rfl,rfl,rfl,rfl,λ_ _ _ e=>e,kC.refl _ _,⟨ak,λt=>?_⟩,rfl,λ_ h=>h⟩
 show VR β (Own Z β h) w (args.getD t .dead) ((vs.toArray++Array.replicate (n-vs.toArray.size) undef).getD t undef)
 by_cases i:t<args.length
 .have h1:args[t]? = some args[t]:=aH i;have h2:vs[t]? = some (vs[t]'af):=aH af
  have:=b t _ _ h1 h2;rw[bY,h1];rw[bD,dL ak]
  simp only[bE,h2,dh];exact this
 .rw[bY,dn af]
  exact .dead _
def At.behind(A:At n Z β h w Z [] s a β' W)(R:Rel Z β h w){D:Nat}(G:W.heap.size<=D){q:AH}{r:World}(E:Rel (ZD Z D) β'' q r)(F:Fr Z β' s.h W β'' q r):
  At n Z β h w (ZD Z D) [{target:=.collected D,args := #[]}] ⟨s.e,q⟩ (coll a D) β'' r:=by
 have st:kC (Own Z β' s.h) W (Own (ZD Z D) β'' q) r:=⟨F.stay.1,λb l y=>by
  let⟨e1,z⟩:=F.stay.2 b l y;refine⟨e1,λx=>z ?_⟩
  rcases x with(o | o) | o
  .exact .inl o
  .omega
  .exact .inr o⟩
 exact⟨E,λb l o=>(F.lF b (bu l A.stay.1) o).trans (A.keep b l o),F.os.trans A.os,F.tape.trans A.tape,F.output.trans A.output,λi v bd l=>F.ext i v bd (A.ext i v bd l),A.stay.trans st,⟨A.env.1,λt=>(A.env.2 t).mono F.ext st⟩,by simp[coll,A.defers],λb l=>.inl l⟩
def At.VE{fn:Func}{res:List AR}{m:Nat}{r:AV}(A:At n Z β h w Z [] s a β' W)(ok:oI P fn.results.toList res=true)(o:pV s res=some r){x:Exit}(l:x = .ret\/x = .normal){i:Ending->World->Prop}(K:∀u β' b,Rel Z β' s.h b->Fr Z β h w β' s.h b->VR β' (Own Z β' s.h) b r u->i (.returned u) b):
  bodyPostM Fence.wide m P fn i x a W:=by
 let⟨u,h1,h2⟩:=qT A.rel A.env ok o;have:LeavesInM Fence.wide m P fn a.tmps i a.defers .returning W:=by
  rw[A.defers];exact⟨u,h1,K u β' W A.rel ⟨A.keep,A.os,A.tape,A.output,A.ext,A.stay⟩ h2⟩
 rcases l with rfl | rfl<;>exact this
def At.HB{fn:Func}{res:List AR}{m:Nat}{r:AV}{D:Nat}(A:At n Z β h w (ZD Z D) [{target:=.collected D,args := #[]}] s a β' W)(R:Rel Z β h w)(Q:w.heap.size<=D)(hk:W.heap[D]? = some (.deferred (some [])))
  (ok:oI P fn.results.toList res=true) (N:pV s res=some r) {x:Exit} (L:x = .ret\/x = .normal) {F:Ending->World->Prop} (K:∀u β' o,Rel Z β' s.h o->Fr Z β h w β' s.h o->VR β' (Own Z β' s.h) o r u->F (.returned u) o) :
  bodyPostM Fence.wide m P fn F x a W:=by
 obtain⟨o,l⟩:∃o,o=W.putObj D (.deferred none):=⟨_,rfl⟩;have z:∀b,b≠D->o.heap[b]? = W.heap[b]? := λb y=>by rw[l];exact World.putObj_heap_other y
 have M:o.heap.size=W.heap.size:=by rw[l];simp
 have st:kC (Own (ZD Z D) β' s.h) W (Own Z β' s.h) o:=⟨af,λb y G=>⟨z b (λe=>G (.inl (.inr e))),λE=>G (by
  rcases E with q | q
  .exact .inl (.inl q)
  .exact .inr q)⟩⟩
 have H:Rel Z β' s.h o:=A.rel.shift st (λi c v=>z c (λe=>A.rel.BV i c v (.inr e))) (λc v=>by
   have:=R.xlt c v;have:=A.stay.1;omega) (λi c v q=>A.rel.BV i c v (.inl q))
 have O:jt Z β' s.h o s.e a n:=⟨A.env.1,λt=>(A.env.2 t).mono (λ_ _ _ e=>e) st⟩
 let⟨u,h1,h2⟩:=qT H O ok N;have:LeavesInM Fence.wide m P fn a.tmps F a.defers .returning W:=by
  rw[A.defers];refine⟨ai,.inl ⟨_,_,rfl,run_takeDeferred hk,?_⟩⟩
  rw[<-l];refine⟨u,h1,K u β' o H ⟨λb y q=>?_,by rw[l];exact A.os,by rw[l];exact A.tape,by rw[l];exact A.output,A.ext,A.stay.trans st⟩ h2⟩
  exact(z b af).trans (A.keep b y q)
 rcases L with rfl | rfl<;>exact this
def At.mark{D:Nat}{i:St}{b:World}(A:At n Z β h w (ZD Z D) ds s a β' W)(hk:W.heap[D]? = some (.deferred (some []))){V:aB}(F:Dk V (ZD Z D) β' s.h W β'' i.h b):b.heap[D]? = some (.deferred (some [])) :=
 (F.lF D (aW.1 hk).1 (.inr rfl)).trans hk
theorem At.ja(z:P.follows .mixedOrders=true)(o:j3 P Γ){D:Nat}(A:At n Z β h w (ZD Z D) ds s a β' W)(R:Rel Z β h w)(hk:W.heap[D]? = some (.deferred (some []))){c:Code}{q:AC}(ok:je P n c q=true){x:AX}{v:St}
  (F:eval Γ q (λi=>decide (h.length<=i)) (AX×St) (λx s=>some (x,s)) s=some (x,v)) {m:Nat} {Q:Exit->Act->World->Prop}
  (K:∀l β'' r,At n Z β h w (ZD Z D) ds v l β'' r->r.heap[D]? = some (.deferred (some []))->Q x.exit' l r):c.wpIn Fence.wide m P Q a W:=by
 refine wpIn_wide.2 (mD z o q c ok F (W:=λ_=>true) (λ_ _=>rfl) A.rel A.env λM s' l w' β'' b G y L H=>?_)
 simp only[bn,Prod.mk.injEq]at b;obtain⟨rfl,rfl⟩:=b;exact K l β'' w' (A.next R (λi E=>by simpa using E) G y L H.defers) (A.mark hk y)
end
section
variable{P:Program}{Γ:jE}{Z:az}{β:jO}{h:AH}{w:World}
def Rel.ab1(R:Rel Z β h w){i:Nat}{cs cs':List AV}(z:h[i]? = some (.var cs))(hl:cs'.length=cs.length)
  (A:∀(j:Nat)(y x:AV)(v:Value),cs[j]? = some y->cs'[j]? = some x->VR β (Own Z β h) w y v->VR β (Own Z β h) w x v) :
  Rel Z β (h.set i (.var cs')) w/\Fr Z β h w β (h.set i (.var cs')) w:=by
 have r:i<h.length:=(aD.1 z).1
 have get:∀ {k X},(h.set i (.var cs'))[k]? = some X->(k=i/\X = .var cs')\/(k≠i/\h[k]? = some X):=by
  intro k X l;rw[fD]at l
  by_cases e:i=k
  .rw[if_pos e,if_pos (e▸r)]at l;cases l;exact .inl ⟨e.symm,rfl⟩
  .rw[if_neg e]at l;exact .inr ⟨λe'=>e e'.symm,l⟩
 have o:∀ {k c},owned β (h.set i (.var cs')) k c↔owned β h k c:=by
  intro k c
  constructor
  .rintro⟨X,l,n⟩
   rcases get l with⟨rfl,rfl⟩ | ⟨_,l⟩
   .exact⟨_,z,n⟩
   .exact⟨X,l,n⟩
  .rintro⟨X,l,n⟩
   by_cases e:k=i
   .subst e;rw[z]at l;cases l;exact⟨.var cs',by rw[fD];simp[r],n⟩
   .exact⟨X,by rw[aI (λe'=>e e'.symm)];exact l,n⟩
 have oo:∀c,Own Z β (h.set i (.var cs')) c↔Own Z β h c:=λc=>⟨λE=>E.imp id λ⟨k,hk⟩=>⟨k,o.1 hk⟩,λE=>E.imp id λ⟨k,hk⟩=>⟨k,o.2 hk⟩⟩
 have st:kC (Own Z β h) w (Own Z β (h.set i (.var cs'))) w:=⟨aV _,λb _ K=>⟨rfl,λH=>K ((oo b).1 H)⟩⟩
 refine⟨⟨R.xlt,λk c n=>R.BV k c (o.1 n),λk v hk=>R.fresh k v (an hk),λk v sz es v' l A=>?_,λk X l=>?_,λk j c h1 h2=>R.apart k j c (o.1 h1) (o.1 h2),R.gl.stay st⟩,⟨λ_ _ _=>rfl,rfl,rfl,rfl,λ_ _ _ e=>e,st⟩⟩
 .rcases get l with⟨rfl,G⟩ | ⟨_,l⟩
  .cases G
  .exact R.later k v sz es v' l A
 .rcases get l with⟨rfl,rfl⟩ | ⟨_,l⟩
  .let⟨c,cur,elem,e1,S,Q,O⟩:=R.blk k _ z;refine⟨c,cur,elem,by rw[hl];exact e1,S,by rw[hl];exact Q,λj x q=>?_⟩
   have F:j<cs.length:=by rw[<-hl];exact(aD.1 q).1
   let⟨v,N,M,L⟩:=O j _ (aH F);exact⟨v,N,M,(A j _ x v (aH F) q L).mono (λ_ _ _ e=>e) st⟩
  .exact(R.blk k X l).mono st (λ_ _ _ e=>e) (λ_ _=>rfl)
def At.jl{n:Nat}{L:az}{K:List Deferred}{s:St}{a:Act}{β':jO}{W:World}(A:At n Z β h w L K s a β' W){i sz:Nat}(x:0<sz)(G:s.h[i]? = some (.var [.b9 true []])):
  ∃β'',At n Z β h w L K ⟨s.e,(s.h.set i (.var [.own s.h.length 0 0 0]))++[.row 0 sz []]⟩ a β'' W:=by
 have o:i<s.h.length:=(aD.1 G).1;let⟨β1,T,X,O⟩:=A.rel.uf sz x;have z:(s.h++[AB.row 0 sz []])[i]? = some (.var [.b9 true []]):=by rw[aJ o];exact G
 let⟨M,U⟩:=T.ab1 z (cs':=[.own s.h.length 0 0 0]) rfl (λj y Y v r l h0=>by
  have Q:j=0:=by have:=(aD.1 r).1;simpa using this
  subst Q;simp only[bH,bn]at r l;subst r l;have h1:=h0.mK;generalize q:([]:List AV).length=len at h1;cases h1 with
  |b9 _ _ ad c _ _ _ _ S _ _ _ _ _ _ =>
   have H:=S rfl;simp only[bt]at H q⊢;subst H;exact O ad)
 have F:=X.trans U;rw[ep _ _ o]at M F;exact⟨β1,M,λb E N=>A.keep b E N,A.os,A.tape,A.output,λk v bd E=>F.ext k v bd (A.ext k v bd E),A.stay.trans F.stay,A.env.fr F,A.defers,A.sub⟩
def Kl{m:Nat}{row:String}{args:Array Value}{R:Value->World->Prop}(h:Rows P row args w R):RowsIn Fence.wide m P row args w R:=by
 intro c cs _;let⟨v,w',r,s⟩:=h c cs;exact⟨v,w',r,stepsIn_wide.2 s⟩
def Kw{m:Nat}{o:Oper}{a:Act}{next:Act->World->Prop}{Q:Exit->Act->World->Prop}(h:o.wp P a w next Q):o.wpIn Fence.wide m P a w next Q:=by
 refine⟨λ_ _=>trivial,?_⟩
 have e:o.semAt Fence.wide.round a.eval=execOp a.eval o:=Oper.semAt_none _ _;rw[e];unfold Oper.wp at h;generalize(execOp a.eval o).run P w=r at h;unfold Oper.upon at h;unfold Oper.uponIn;split at h
 .exact h
 .exact h
 .exact h
 .exact⟨λh=>by simp[Fence.wide]at h,callsIn_wide.2 h⟩
 .exact⟨λh=>by simp[Fence.wide]at h,Kl h⟩
 .exact h
 .exact h.elim
def xw{m:Nat}{ops:Array Oper}{Q y:Exit->Act->World->Prop}(q:¬LetsOut Q)(rest:List Oper)(z:∀a w,Q .normal a w->wpListIn Fence.wide m P ops y rest a w)(l:∀x a w,Q (.panic x) a w->y (.panic x) a w):
  ∀(os:List Oper)(a:Act)(w:World),wpList P ops Q os a w->wpListIn Fence.wide m P ops y (os++rest) a w
 | [],a,w,h=>z a w h
 |o::os,a,w,h=>by
  have b:=xw q rest z l os;unfold wpList at h;rw[aK];unfold wpListIn;split at h
  .rename_i i;rw[if_pos i]
   rcases h with h | ⟨_,h⟩
   .refine Kw ?_;unfold Oper.wp at h⊢;generalize(execOp a.eval o).run P w=r at h;unfold Oper.upon at h⊢;split at h
    .exact b _ _ h
    .exact b _ _ h
    .exact b _ _ h
    .refine h.mono ?_
     rintro e A n
     cases e with
     |returned v=>exact b _ _ n
     |panicked x=>exact l _ _ _ n
     |outgrown=>exact absurd n q
    .exact h.mono λv w' E=>b _ _ E
    .exact l _ _ _ h
    .exact h.elim
   .exact absurd h q
  .rename_i i;rw[if_neg i];exact⟨λ_ _=>trivial,b _ _ h⟩
def GV{o:Oper}{t:Tmp}{args:Array Operand}{r:Array TypeId}(A:o.op = .call {callee:=.value (.tmp t),args,argTypes:=r}){l:Nat}{a:Act}(y:a.eval (.tmp t) = .func (.yield l) #[] #[])
  {vs:Array Value} (q:args.map a.eval=vs) {R:Ending->World->Prop} (n:YieldAt Fence.wide 0 P l vs w R) {next:Act->World->Prop} {Q:Exit->Act->World->Prop}
  (E:∀e i,R e i->∃b,e = .returned (.bool b)) (K:∀b i,R (.returned (.bool b)) i->next (a.put o.dst (.bool b)) i):o.wpIn Fence.wide 0 P a w next Q:=by
 let⟨fn,tmps,assign,body,n,z⟩:=n;refine⟨λ_ _=>trivial,?_⟩
 have e:o.semAt Fence.wide.round a.eval=execOp a.eval o:=Oper.semAt_none _ _;rw[e]
 have x:(execOp a.eval o).run P w = .ok (.round l fn tmps assign body) w:=by
  unfold execOp;simp only[A,resolve,y];simp only[Sem.run_bind,Sem.run_pure,Result.andThen_ok,Deferred.ofValue,invoke]
  simpa[q]using n
 rw[x,Oper.uponIn_round];refine⟨λh=>by simp[Fence.wide]at h,z.mono ?_⟩
 intro e i v;obtain⟨b,rfl⟩:=E e i v;exact K b i v
end
end Go.Am
