/- Part of the proof that TopPassedCard holds. -/
import Derived.Test.YtaepagegdgdlhaaGreatDoorAmGh
import Derived.Scope
import Derived.OrdersIn
import Derived.TacticsIn
import Derived.LoopNIn
import Derived.RangeFuncCalls
import Derived.Test.YtaepagegdgdlhaaGreatDoorAmLp
set_option linter.all false
namespace Go.Am
def AX.exit':AX->Exit
 | .normal=>.normal
 | .exit id=>.exit id
 | .ret=>.ret
def Au:AC->ax
 | .ops l=>wr l
 | .seq a b=>Au a++Au b
 | .cond _ x y=>Au x++Au y
 | .block _ c=>Au c
 | .loop _ _ _ _ c=>Au c
 | .scope c=>Au c
 | .gho c _=>Au c
 | .oR _ _ _ _ _ c=>Au c
 |_=>[]
def ku(P:Program)(n:Nat):Code->AC->Bool
 |c,.gho c' _=>ku P n c c'
 | .loop c,.oR ad _ wr own _ c'=>ku P n c c'&&(Au c').all (λt=>mY wr t)&&own.all (λp=>decide (0<p.2))&&ad.all (λp=>decide (0<p.2.2))
 | .skip,.skip=>true
 | .label _,.skip=>true
 | .region _ ops draw,.ops l=>D8 [] l&&sI P n ops.toList ops.toList (flatten l none)&&(!draw||Od ops.toList (flatten l none))
 | .seq a b,.seq a' b'=>ku P n a a'&&ku P n b b'
 | .cond c x y,.cond c' x' y'=>nW c c'&&ku P n x x'&&ku P n y y'
 | .block id c,.block id' c'=>decide (id=id')&&ku P n c c'
 | .loop c,.loop _ wr own _ c'=>ku P n c c'&&(Au c').all (λt=>mY wr t)&&own.all (λp=>decide (0<p.2))
 | .exit id,.exit id'=>decide (id=id')
 | .ret,.ret=>true
 |_,_=>false
variable{n id:Nat}
section
variable{P:Program}{Z:az}{Γ:kP}
def u5:∀(l:IT)(g:Option (Nat×Bool))(x:AI)(t:Nat),x∈flatten l g->x.dst=some t->t∈wr l
 | .nil,g,x,t,hx,_=>by cases hx
 | .op d o rest,g,x,t,hx,hd=>by
  simp only[flatten,aP]at hx;simp only[wr,aX]
  rcases hx with rfl | hx
  .left;dsimp only at hd;subst hd;simp[vl]
  .exact .inr (u5 rest g x t hx hd)
 | .sc d a c lo hi l r rest,g,x,t,hx,hd=>by
  simp only[flatten,aX,aP]at hx;simp only[wr,aX,aP]
  rcases hx with hx | rfl | hx
  .exact .inl (u5 l _ x t hx hd)
  .right;left;dsimp only at hd;cases hd;rfl
  .exact .inr (.inr (u5 rest g x t hx hd))
def LK:Op->Bool
 | .defer _=>false
 |_=>true
def LJ{op:Op}(h:LK op=true):∀c,op≠.defer c:=by
 rintro c rfl
 cases h
def Vt:Code->Bool
 | .scope _=>false
 | .region _ ops _=>ops.toList.all λo=>LK o.op
 | .seq a b=>Vt a&&Vt b
 | .cond _ x y=>Vt x&&Vt y
 | .block _ c=>Vt c
 | .loop c=>Vt c
 |_=>true
def TO(P:Program)(ops:Array Oper)(draw:Bool)(Q:Exit->Act->World->Prop)(a:Act)(w:World):Prop:=match draw with
 |true=>wpAny P .any ops Q ops.size (Array.replicate ops.size false) a {w with drawn:=w.drawn+1}
 |false=>wpList P ops Q ops.toList a w
def TO.wp{P:Program}(hm:P.follows .mixedOrders=true){ops:Array Oper}{draw:Bool}{Q:Exit->Act->World->Prop}{a:Act}{w:World}(h:TO P ops draw Q a w):(Code.region id ops draw).wp P Q a w :=
 match draw,h with
 |true,h=>wp_region_any hm h
 |false,h=>wp_region_list h
def rW(hΓ:mH P Γ){ops:Array Oper}{draw:Bool}{l:IT}(ok:ku P n (.region id ops draw) (.ops l)=true)
  {s s':St} (hi:uZ Γ l s=some s') {W:aB} (hW:∀t∈wr l,W t=true) {a:Act} {w:World} {β:kW} (R:Rel Z β s.h w) (E:kF Z β s.h w s.e a n) {Q:Exit->Act->World->Prop}
  (k:∀a' w' β',Rel Z β' s'.h w'->Fr Z β s.h w β' s'.h w'->kF Z β' s'.h w' s'.e a' n->lz W a a'->Q .normal a' w'):TO P ops draw Q a w:=by
 simp only[ku,aH]at ok;let⟨⟨Og,Of⟩,KO⟩:=ok;let⟨s1,h1,h2,h3,h4,_⟩:=zN Γ l [] none s s' s Og (λc a h=>by cases h) hi rfl (λ_ _=>rfl) (λt ht=>by simp[mY]at ht)
 have TX:∀x∈flatten l none,∀t,x.dst=some t->W t=true:=λx hx t hd=>hW t (u5 l none x t hx hd)
 have k':∀a' w' β',Rel Z β' s1.h w'->Fr Z β s.h w β' s1.h w'->kF Z β' s1.h w' s1.e a' n->lz W a a'->Q .normal a' w':=by
  intro a' w' β' R' F' E' K';rw[h2]at R' F' E';refine k a' w' β' R' F' ⟨E'.1,λt=>?_⟩ K'
  cases hd:mY (yz l++[]) t with
  |true=>rw[h4 t hd];exact .dead _
  |false=>rw[<-h3 t hd];exact E'.2 t
 cases draw with
 |false=>exact C8 hΓ ops.toList (flatten l none) s s1 a w β Of TX h1 R E k'
 |true =>
  simp only[gA,fS]at KO;exact amA hΓ TX Of KO h1 R E k'
def yu{ρ:Type}{e:Env}{k:AX->St->Option ρ}{ex:AX}{vs:List AV}{h:AH}{r:ρ}:∀(outs:List (AX×ax)),mR e k (ex,vs,h) outs=some r->k ex ⟨e.lay (qf ex outs) vs,h⟩=some r
 | [],hp=>by cases hp
 |(x,ts)::l,hp=>by
  simp only[mR]at hp;simp only[qf];split at hp
  .rename_i he;subst he;rw[if_pos rfl];exact hp
  .rename_i he;rw[if_neg he];exact yu l hp
def tM{α β:Type}{f:α->β}:∀(l:List α)(p:α×β),p∈l.zip (l.map f)->p.2=f p.1
 | [],p,h=>by cases h
 |x::l,p,h=>by
  simp only[bF,iC,aP]at h
  rcases h with rfl | h
  .rfl
  .exact tM l p h
def Snc(F:Fence)(m0:Nat)(P:Program)(Z:az)(Γ:kP)(n:Nat)(c':AC)(c:Code):Prop :=
 ∀ ⦃V:aB⦄ ⦃ρ:Type⦄ ⦃k:AX->St->Option ρ⦄ ⦃s:St⦄ ⦃r:ρ⦄,eval Γ c' V ρ k s=some r->
  ∀ {W:aB},(∀t∈Au c',W t=true)->∀ {β:kW} {a:Act} {w:World},Rel Z β s.h w->kF Z β s.h w s.e a n->∀ {Q:Exit->Act->World->Prop},
  (∀x s' a' w' β',k x s'=some r->Rel Z β' s'.h w'->Nw V Z β s.h w β' s'.h w'->kF Z β' s'.h w' s'.e a' n->lz W a a'->Q x.exit' a' w')->c.wpIn F m0 P Q a w
def Eo{F:Fence}{m0:Nat}{ad:aD}{keep:ax}{wrs own:aC}{outs:List (AX×ax)}{x:AC}{body:Code}(Of:(Au x).all (λt=>mY wrs t)=true)(KO:own.all (λp=>decide (0<p.2))=true)(IP:ad.all (λp=>decide (0<p.2.2))=true)
  (IH:Snc F m0 P Z Γ n x body):Snc F m0 P Z Γ n (.oR ad keep wrs own outs x) (.loop body):=by
 intro V ρ k s r he W hW β a w R E Q K;simp only[Au]at hW;simp only[eval]at he;let⟨β0,R0,F0,E0⟩:=yL own s β KO R E;generalize ar0:jI own s=p0 at he R0 F0 E0;let⟨β1,R1,F01,E1⟩:=EL ad IP R0 E0;have F1:=F0.trans F01;generalize hpre:jX ad p0=pre at he R1 F01 F1 E1;generalize hL:pre.h.length=L at he;generalize hR0:rowsOf pre.e own=RR0 at he;generalize hR:tgt p0.h.length ad++RR0=RR at he;split at he
 .rename_i hV;simp only[aI]at he;let⟨⟨ex,vals,hx⟩,hit,akw⟩:=he;have hk:=yu outs akw;let⟨m,hm'⟩:=B3 hit;generalize he1:(mj RR pre.e).rj wrs=e1 at hm' hk
  -- what does not change
  have base:∀ {β':kW} {h':AH} {w':World} {a':Act},Nw (o9 RR L) Z β1 pre.h w β' h' w'->lz (λt=>(Au x).contains t) a a'->∀t,VR β' (Own Z β' h') w' (e1 t) (a'.tmps.getD t Go.undef):=by
   intro β' h' w' a' F' K' t;rw[<-he1];unfold Env.rj;split
   .exact .dead _
   .rename_i hd
    have hnt:(Au x).contains t=false:=by
     cases hc:(Au x).contains t with
     |false=>rfl
     |true =>
      have:=aO.1 Of t (by simpa using hc)
      exact absurd this hd
    rw[K'.same t hnt];refine M7 (λi v bd hi hb=>F'.ext i v bd ?_ hb) F'.stay (E1.2 t)
    unfold o9;rw[hi,fS,decide_eq_false_iff_not,<-hL];intro hle;rw[R1.fresh i v hle]at hb;cases hb
  have out:∀ {β':kW} {h':AH} {w':World},Nw (o9 RR L) Z β1 pre.h w β' h' w'->Nw V Z β s.h w β' h' w':=by
   intro β' h' w' F';refine⟨F'.nN,F'.os,F'.tape,F'.output,λi v bd hv hb=>F'.ext i v bd ?_ (F1.ext i v bd hb),F1.stay.trans F'.stay⟩
   unfold o9;rw[eE]
   constructor
   .cases hc:RR.contains i with
    |false=>rfl
    |true =>
     rw[<-hR,List.contains_eq_mem,decide_eq_true_eq,aX]at hc
     rcases hc with hc | hc
     .have hle:=Ui ad _ i (by simpa using hc)
      have h1:=F0.ext i v bd hb;rw[R0.fresh i v hle]at h1;cases h1
     .have:=aO.1 hV i hc;rw[hv]at this;cases this
   .rw[decide_eq_false_iff_not,<-hL];intro hle;have h1:=F1.ext i v bd hb;rw[R1.fresh i v hle]at h1;cases h1
  have ajU:∀ {a':Act},lz (λt=>(Au x).contains t) a a'->lz W a a':=by
   intro a' K';refine⟨K'.defers,λt ht=>K'.same t ?_⟩
   cases hc:(Au x).contains t with
   |false=>rfl
   |true =>
    have:=hW t (by simpa using hc)
    rw[ht]at this;cases this
  have rounds:∀(m:Nat)(vs:List AV)(h:AH),qh (λy:List AV×AH=>eval Γ x (o9 RR L) ((List AV×AH)⊕(AX×List AV×AH)) (λex s'=>match ex with
     | .normal=>some (.inl (head L RR keep (kO p0.h.length ad s')))
     |ex=>some (.inr (ex,(qf ex outs).map s'.e,s'.h))) ⟨e1.lay keep y.1,y.2⟩) m (vs,h)=some (ex,vals,hx)->
    ∀(β':kW)(a':Act)(w':World),Rel Z β' h w'->Nw (o9 RR L) Z β1 pre.h w β' h w'->a'.tmps.size=n->lz (λt=>(Au x).contains t) a a'->
    (∀p∈keep.zip vs,VR β' (Own Z β' h) w' p.2 (a'.tmps.getD p.1 Go.undef))->Code.roundsIn F m0 P body Q m a' w':=by
   intro m
   induction m with
   |zero=>intro vs h hi;cases hi
   |succ m ih =>
    intro vs h hi β' a' w' R' F' hn K' hvs;rw[roundsIn_succ];have E':kF Z β' h w' (e1.lay keep vs) a' n:=⟨hn,I1 (tm:=λt=>a'.tmps.getD t Go.undef) (base F' K') keep vs hvs⟩
    simp only[qh]at hi;split at hi
    .cases hi
    .rename_i y hy;let⟨vs',h'⟩:=y;refine IH hy (W:=λt=>(Au x).contains t) (λt ht=>by simpa using ht) R' E' λex' s' T3 w'' β'' hk' R'' F'' E'' K''=>?_
     cases ex' with
     |normal =>
      simp only[bp,Sum.inl.injEq,head,Prod.mk.injEq]at hk';obtain⟨rfl,rfl⟩:=hk';let⟨β3,R3,F3,E3⟩:=Lp ad p0.h.length R'' E'';refine ih _ _ hi _ T3 w'' (EC R3 L RR) (((F'.trans F'').trans F3.Y2).trans EE) E3.1 (K'.trans K'') λp hp=>?_
      rw[tM keep p hp];exact G7 R3 L RR (E3.2 p.1)
     |exit id=>simp at hk'
     |ret=>simp at hk'
    .rename_i y hy;cases hi;refine IH hy (W:=λt=>(Au x).contains t) (λt ht=>by simpa using ht) R' E' λex' s' T3 w'' β'' hk' R'' F'' E'' K''=>?_
     have fin:some (Sum.inr (α:=List AV×AH) (ex',(qf ex' outs).map s'.e,s'.h))=some (.inr (ex,vals,hx))->Q ex'.exit' T3 w'':=by
      intro hq;simp only[bp,Sum.inr.injEq,Prod.mk.injEq]at hq;obtain⟨rfl,rfl,rfl⟩:=hq;have F3:=F'.trans F'';have K3:=K'.trans K'';refine K ex' _ T3 w'' β'' hk R'' (out F3) ⟨E''.1,I1 (tm:=λt=>T3.tmps.getD t Go.undef) (base F3 K3) _ _ λp hp=>?_⟩ (ajU K3)
      rw[tM _ p hp];exact E''.2 p.1
     cases ex' with
     |normal=>simp at hk'
     |exit id=>exact fin hk'
     |ret=>exact fin hk'
  refine wpIn_loop_rounds m (rounds m _ _ hm' (y8 β1 pre.h L RR) a w (EC R1 L RR) EE E1.1 (lz.refl _ _) λp hp=>?_)
  rw[tM keep p hp];exact G7 R1 L RR (E1.2 p.1)
 .cases he
def orl{b p q:Bool}(h:(b||(p&&q))=true):(b||p)=true/\(b||q)=true:=by
 cases b<;>simp_all
def mA{F:Fence}{m0:Nat}{b:Bool}(hF:∀ {id ops draw Q a w},(b||Vt (.region id ops draw))=true->¬LetsOut Q->TO P ops draw Q a w->(Code.region id ops draw).wpIn F m0 P Q a w)(hΓ:mH P Γ){n:Nat}:∀(c':AC)(c:Code),ku P n c c'=true->(b||Vt c)=true->Snc F m0 P Z Γ n c' c
 | .skip,c,ok,nd=>@λV ρ k s r he W hW β a w R E Q K=>by
  cases c<;>first | (cases ok;done) | exact wpIn_skip (K .normal s a w β he R (Fr.refl _ _ _ _).Y2 E (lz.refl _ _)) | exact wpIn_label (K .normal s a w β he R (Fr.refl _ _ _ _).Y2 E (lz.refl _ _))
 | .exit id,c,ok,nd=>@λV ρ k s r he W hW β a w R E Q K=>by
  cases c<;>first | (cases ok;done) | skip
  rename_i id';have:id'=id:=by simpa[ku]using ok
  subst this;exact wpIn_exit (K (.exit id') s a w β he R (Fr.refl _ _ _ _).Y2 E (lz.refl _ _))
 | .ret,c,ok,nd=>@λV ρ k s r he W hW β a w R E Q K=>by
  cases c<;>first | (cases ok;done) | skip
  exact wpIn_ret (K .ret s a w β he R (Fr.refl _ _ _ _).Y2 E (lz.refl _ _))
 | .scope x,c,ok,nd=>by cases c<;>cases ok
 | .ops l,c,ok,nd=>@λV ρ k s r he W hW β a w R E Q K=>by
  cases c<;>first | (cases ok;done) | skip
  simp only[eval,aI]at he;let⟨s',hi,he⟩:=he;exact wpIn_mono (Q:=λx a w=>x = .normal/\Q .normal a w) (hF nd (λ⟨_,_,h,_⟩=>by cases h) (rW hΓ ok hi hW R E λa' w' β' R' F' E' K'=>⟨rfl,K .normal s' a' w' β' he R' F'.Y2 E' K'⟩)) λe a w h=>h.1▸h.2
 | .seq x y,c,ok,nd=>@λV ρ k s r he W hW β a w R E Q K=>by
  cases c<;>first | (cases ok;done) | skip
  simp only[ku,aH]at ok;simp only[Au,aX]at hW;simp only[eval]at he;refine wpIn_seq (mA hF hΓ x _ ok.1 (orl nd).1 he (λt ht=>hW t (.inl ht)) R E λex s' a' w' β' hk R' F' E' K'=>?_)
  cases ex with
  |normal=>exact mA hF hΓ y _ ok.2 (orl nd).2 hk (λt ht=>hW t (.inr ht)) R' E' λex s'' T3 w'' β'' hk' R'' F'' E'' K''=>K ex s'' T3 w'' β'' hk' R'' (F'.trans F'') E'' (K'.trans K'')
  |exit id=>exact K (.exit id) s' a' w' β' hk R' F' E' K'
  |ret=>exact K .ret s' a' w' β' hk R' F' E' K'
 | .cond x y z,c,ok,nd=>@λV ρ k s r he W hW β a w R E Q K=>by
  cases c<;>first | (cases ok;done) | skip
  simp only[ku,aH]at ok;simp only[Au,aX]at hW;simp only[eval]at he;have v1:=jR E ok.1.1;split at he
  .rename_i b hb;rw[hb]at v1;refine wpIn_cond v1.pF ?_;split at he
   .rename_i hb;subst hb;rw[if_pos rfl];exact mA hF hΓ y _ ok.1.2 (orl nd).1 he (λt ht=>hW t (.inl ht)) R E K
   .rename_i hb;rw[if_neg hb];exact mA hF hΓ z _ ok.2 (orl nd).2 he (λt ht=>hW t (.inr ht)) R E K
  .cases he
 | .block id x,c,ok,nd=>@λV ρ k s r he W hW β a w R E Q K=>by
  cases c<;>first | (cases ok;done) | skip
  simp only[ku,aH,decide_eq_true_eq]at ok;obtain⟨rfl,ok⟩:=ok;simp only[eval]at he;refine wpIn_block (mA hF hΓ x _ ok nd he hW R E λex s' a' w' β' hk R' F' E' K'=>?_)
  cases ex with
  |normal=>exact K .normal s' a' w' β' hk R' F' E' K'
  |ret=>exact K .ret s' a' w' β' hk R' F' E' K'
  |exit i =>
   show if i=_ then Q .normal a' w' else Q (.exit i) a' w'
   dsimp only at hk;split at hk
   .rename_i hi;rw[if_pos hi];exact K .normal s' a' w' β' hk R' F' E' K'
   .rename_i hi;rw[if_neg hi];exact K (.exit i) s' a' w' β' hk R' F' E' K'
 | .gho x g,c,ok,nd=>@λV ρ k s r he W hW β a w R E Q K=>by
  have ok':ku P n c x=true:=by
   cases c<;>exact ok
  simp only[eval]at he;refine mA hF hΓ x c ok' nd he (λt ht=>hW t (by simpa[Au]using ht)) R E λex s' a' w' β' hk R' F' E' K'=>?_
  cases ex with
  |exit id=>exact K (.exit id) s' a' w' β' hk R' F' E' K'
  |normal =>
   simp only[aI]at hk;let⟨s2,h1,h2⟩:=hk;let⟨R2,F2,E2⟩:=EK g R' E' h1;exact K .normal s2 a' w' β' h2 R2 (F'.trans F2.Y2) E2 K'
  |ret =>
   simp only[aI]at hk;let⟨s2,h1,h2⟩:=hk;let⟨R2,F2,E2⟩:=EK g R' E' h1;exact K .ret s2 a' w' β' h2 R2 (F'.trans F2.Y2) E2 K'
 | .oR ad keep wrs own outs x,c,ok,nd=>by
  cases c<;>first | (cases ok;done) | skip
  simp only[ku,aH]at ok;exact Eo ok.1.1.2 ok.1.2 ok.2 (mA hF hΓ x _ ok.1.1.1 nd)
 | .loop keep wrs own outs x,c,ok,nd=>@λV ρ k s r he W hW=>by
  cases c<;>first | (cases ok;done) | skip
  simp only[ku,aH]at ok;exact Eo (ad:=[]) (keep:=keep) (outs:=outs) ok.1.2 ok.2 rfl (mA hF hΓ x _ ok.1.1 nd) (show eval Γ (.oR [] keep wrs own outs x) V ρ k s=some r by simp only[eval]at he⊢;exact he) hW
def sZ(hm:P.follows .mixedOrders=true)(hΓ:mH P Γ)(c':AC)(c:Code)(ok:ku P n c c'=true){V:aB}{ρ:Type}{k:AX->St->Option ρ}{s:St}{r:ρ}(he:eval Γ c' V ρ k s=some r)
  {W:aB} (hW:∀t∈Au c',W t=true) {β:kW} {a:Act} {w:World} (R:Rel Z β s.h w) (E:kF Z β s.h w s.e a n) {Q:Exit->Act->World->Prop}
  (K:∀x s' a' w' β',k x s'=some r->Rel Z β' s'.h w'->Nw V Z β s.h w β' s'.h w'->kF Z β' s'.h w' s'.e a' n->lz W a a'->Q x.exit' a' w'):c.wp P Q a w :=
 wpIn_wide.1 (mA (F:=Fence.wide) (m0:=0) (b:=true) (λ_ _ h=>wpIn_wide.2 (h.wp hm)) hΓ c' c ok rfl he hW R E K)
end
def ri(P:Program):List ResultVar->List AR->Bool
 | [],[]=>true
 | .tmp t::l,.t i::l'=>decide (t=i)&&ri P l l'
 | .cell t ty::l,.cell i sz agg::l'=>decide (t=i)&&lC P ty sz&&we P ty agg&&ri P l l'
 |_,_=>false
def okF(P:Program)(f:FuncId)(F:AF):Bool:=match P.funcs[f]? with
 |some fn=>(match fn.body with
  |some c=>decide (fn.ntmps=F.nt)&&ku P F.nt c F.body&&ri P fn.results.toList F.res&&(fn.name == "runtime.NumGoroutine")==false
  |none=>false)
 |none=>false
def UQ(tmps:Array Value):ResultVar->Sem Value
 | .tmp t=>pure (tmps.getD t Go.undef)
 | .cell x t=>do loadVar t (<-asAddr (tmps.getD x Go.undef))
section
variable{P:Program}{Z:az}{Γ:kP}{β:kW}{h:AH}{w:World}
def DP(R:Rel Z β h w){e:Env}{a:Act}{n:Nat}(E:kF Z β h w e a n):∀(rs:List ResultVar)(l:List AR)(vs:List AV),ri P rs l=true->ud ⟨e,h⟩ l=some vs->
  ∃us:List Value,(rs.mapM (UQ a.tmps)).run P w = .ok us w/\vs.length=us.length/\
   ∀(j:Nat)(y:AV)(u:Value),vs[j]? = some y->us[j]? = some u->VR β (Own Z β h) w y u
 | [],[],vs,_,hr=>by
  simp only[ud]at hr;cases hr;exact⟨[],ah,rfl,λj y u hy=>by simp at hy⟩
 | [],_::_,_,ok,_=>by simp[ri]at ok
 |r::rs,[],_,ok,_=>by cases r<;>simp[ri]at ok
 |r::rs,q::l,vs,ok,hr=>by
  simp only[ud,aI]at hr;let⟨v,hv,vs',hvs,hr⟩:=hr;cases hr
  have key:ri P rs l=true/\∃u,(UQ a.tmps r).run P w = .ok u w/\VR β (Own Z β h) w v u:=by
   cases r with
   |tmp t =>
    cases q with
    |cell=>simp[ri]at ok
    |t i =>
     simp only[ri,aH,decide_eq_true_eq]at ok;obtain⟨rfl,ok⟩:=ok;simp only[AN,bp]at hv;subst hv;exact⟨ok,a.tmps.getD t Go.undef,by simp[UQ],E.2 t⟩
   |cell t ty =>
    cases q with
    |t i=>simp[ri]at ok
    |cell i sz agg =>
     simp only[ri,aH,decide_eq_true_eq]at ok;obtain⟨⟨⟨rfl,h1⟩,h2⟩,ok⟩:=ok;simp only[AN,aI]at hv;let⟨cs,hcs,hsh⟩:=hv;let⟨u,hu,hvu⟩:=Hh (P:=P) R hcs hsh (E.2 t) h1 h2;let⟨blk,o,hp,_⟩:=Cy R hcs (E.2 t);refine⟨ok,u,?_,hvu⟩;rw[hp]at hu;simp only[Instr.loadAt,Instr.sureAddr,Sem.run_bind,Sem.run_pure,Result.andThen_ok]at hu;simp only[UQ,hp,asAddr,Sem.run_bind,Sem.run_pure,Result.andThen_ok];exact hu
  let⟨ok',u,hu,hvu⟩:=key;let⟨us,h1,h2,h3⟩:=DP R E rs l vs' ok' hvs;refine⟨u::us,?_,by simp[h2],λj y z hy hz=>?_⟩
  .rw[jf];simp only[Sem.run_bind,hu,Result.andThen_ok,h1,Sem.run_pure]
  .cases j with
   |zero=>simp at hy hz;subst hy;subst hz;exact hvu
   |succ j=>exact h3 j y z (an hy) (an hz)
def wQ(R:Rel Z β h w){e:Env}{a:Act}{n:Nat}(E:kF Z β h w e a n){fn:Func}{l:List AR}(ok:ri P fn.results.toList l=true){v:AV}(hr:Gn ⟨e,h⟩ l=some v):
  ∃u,(results fn a.tmps).run P w = .ok u w/\VR β (Own Z β h) w v u:=by
 simp only[Gn,aI]at hr;let⟨vs,hvs,hr⟩:=hr;let⟨us,h1,h2,h3⟩:=DP R E _ _ _ ok hvs
 have hres:(results fn a.tmps).run P w = .ok (if hh:us.toArray.size=1 then us.toArray[0]else .tuple us.toArray) w:=by
  have aev:results fn a.tmps=(do let vs<-fn.results.mapM (UQ a.tmps);pure (if h:vs.size=1 then vs[0]else .tuple vs)):=by
   unfold results
   congr 1
  rw[aev,<-dQ (xs:=fn.results),List.mapM_toArray];simp only[Sem.run_bind,Sem.run_map,h1,Result.andThen_ok,Sem.run_pure]
 refine⟨_,hres,?_⟩;split at hr
 .cases hr
  match us,h2,h3 with
  | [u],_,h3=>exact h3 0 v u rfl rfl
 .rename_i hne;cases hr;have hl:us.length≠1:=by
   intro h1;rw[h1]at h2;let⟨x,hx⟩:=dS.1 h2;exact hne x hx
  rw[dif_neg (an hl)]
  exact .kT _ us h2 h3
def sy(hm:P.follows .mixedOrders=true)(hΓ:mH P Γ){f:FuncId}{F:AF}(ok:okF P f F=true){args:List AV}{r:AV}{h':AH}(hr:rE Γ F args h=some (r,h')):zl P f args h r h':=by
 unfold okF at ok;split at ok
 .rename_i fn hf;split at ok
  .rename_i c hc;simp only[aH,decide_eq_true_eq,beq_iff_eq]at ok;let⟨⟨⟨hn,sU⟩,hres⟩,hname⟩:=ok;refine⟨⟨fn,hf,by rw[hc];rfl,an hname⟩,λZ β w vs R hl hv=>?_⟩
   unfold rE at hr;split at hr
   .rename_i hle
    have E:kF Z β h w (kR args) {tmps:=vs.toArray++Array.replicate (fn.ntmps-vs.toArray.size) undef,defers:=[]} F.nt:=by
     refine⟨aj,λt=>?_⟩
     unfold kR
     by_cases ht:t<args.length
     .have h1:args[t]? = some args[t]:=aG ht;have h2:vs[t]? = some (vs[t]'aa):=aG aa
      have:=hv t _ _ h1 h2;rw[bV,h1];rw[bP,cR aj]
      simp only[bN,h2,bO];exact this
     .rw[bV,b9 aa]
      exact .dead _
    refine calls_of_wp hf hc (sZ hm hΓ F.body c sU hr (W:=λ_=>true) (λ_ _=>rfl) R E λx s' a' w' β' hk R' F' E' K'=>?_)
    have hfr:Fr Z β h w β' s'.h w':=⟨F'.nN,F'.os,F'.tape,F'.output,λi v bd hb=>F'.ext i v bd (by
     simp only[decide_eq_false_iff_not];intro hle;rw[R.fresh i v hle]at hb;cases hb) hb,F'.stay⟩
    have fin:(Gn s' F.res).bind (λv=>some (v,s'.h))=some (r,h')->∃u,(results fn a'.tmps).run P w' = .ok u w'/\∃v β',Ending.returned u = .returned v/\Rel Z β' h' w'/\Fr Z β h w β' h' w'/\VR β' (Own Z β' h') w' r v:=by
     intro hq;simp only[aI]at hq;let⟨v,hv,hq⟩:=hq;cases hq;let⟨u,h1,h2⟩:=wQ R' E' hres hv;exact⟨u,h1,u,β',rfl,R',hfr,h2⟩
    cases x with
    |exit id=>cases hk
    |normal=>exact⟨K'.defers,fin hk⟩
    |ret=>exact⟨K'.defers,fin hk⟩
   .cases hr
  .cases ok
 .cases ok
def LI(R:Rel Z β h w){i c:Nat}(ho:owned β h i c):c<w.heap.size:=by
 let⟨X,hX,bd,hcb,hm⟩:=ho;have hb:=R.blk i X hX;cases X with
 |gone=>cases hm
 |qa=>cases hm
 |mp es | mps es =>
  let⟨c',arr,clock,e1,e2,_⟩:=hb;dsimp only at hm;rw[hm]at e1;cases e1;cases hcb;exact(aW.1 e2).1
 |var cs =>
  let⟨c',cur,elem,e1,e2,_⟩:=hb;dsimp only at hm;rw[hm]at e1;cases e1;cases hcb;exact(aW.1 e2).1
 |row v sz es =>
  let⟨_,zk,e1,e2,e3⟩:=hb;dsimp only at hm;rw[hm]at e1;cases e1
  rcases e3 with⟨e3,_⟩ | ⟨c',cur,elem,e3,e4,_⟩
  .rw[e3]at hcb;cases hcb
  .rw[e3]at hcb;cases hcb;exact(aW.1 e4).1
def Ll(hm:P.follows .mixedOrders=true)(hΓ:mH P Γ){f:FuncId}{F:AF}(ok:okF P f F=true){args:List AV}{r:AV}(hall:args.all AV.lT=true)(hr:rV Γ F args=some r)(h:AH):zl P f args h r h:=by
 unfold rV at hr;simp only[aI]at hr;let⟨⟨r0,h1⟩,hrun,⟨r',h2⟩,hp,hr⟩:=hr;cases hr;let⟨hc,hs⟩:=sy hm hΓ ok hrun;refine⟨hc,λZ β w vs R hl hv=>?_⟩
 let β0:kW:=λ_ _=>none
 have Ve:∀c,Own (Own Z β h) β0 [] c↔Own Z β h c:=by
  intro c
  constructor
  .rintro(hc | ⟨i,X,hX,_⟩)
   .exact hc
   .simp at hX
  .exact .inl
 have R0:Rel (Own Z β h) β0 [] w:=by
  refine⟨λc hc=>?_,λi c ho=>?_,λi v _=>rfl,λi v sz es v' hX=>by simp at hX,λi b hb=>by simp at hb,λi j c ho=>?_⟩
  .rcases hc with hc | ⟨i,ho⟩
   .exact R.xlt c hc
   .exact LI R ho
  .let⟨X,hX,_⟩:=ho;simp at hX
  .let⟨X,hX,_⟩:=ho;simp at hX
 have st0:lS (Own Z β h) w (Own (Own Z β h) β0 []) w:=⟨aN _,λb _ hO=>⟨rfl,λhh=>hO ((Ve b).1 hh)⟩⟩
 refine(hs (Own Z β h) β0 w vs R0 hl λj y u hy hu=>.pure _ _ (((hv j y u hy hu).B9 (aO.1 hall y (aR hy))).mono st0)).mono ?_
 rintro e w' ⟨v,β',rfl,R1,F1,V1⟩
 let⟨R2,F2,V2,hP⟩:=LA R1 hp V1;have F3:=F1.trans F2;have hold:∀b,b<w.heap.size->w'.heap[b]? = w.heap[b]? := by
  intro b hb
  by_cases hO:Own Z β h b
  .exact F3.nN b hb hO
  .exact(F3.stay.2 b hb λhh=>hO ((Ve b).1 hh)).1
 have st1:lS (Own Z β h) w (Own Z β h) w':=⟨F3.stay.1,λb hb hO=>⟨hold b hb,hO⟩⟩
 have st2:lS (Own (Own Z β h) β' h2) w' (Own Z β h) w':=⟨aN _,λb _ hO=>⟨rfl,λhh=>hO (.inl hh)⟩⟩
 refine⟨v,β,rfl,⟨λc hc=>bT (R.xlt c hc) F3.stay.1,R.CG,R.fresh,R.later,λi X hX=>(R.blk i X hX).mono st1 (λ_ _ _ e=>e) (λc ho=>hold c (LI R ⟨X,hX,ho⟩)),R.apart⟩,
  ⟨λb hb _=>hold b hb,F3.os,F3.tape,F3.output,λ_ _ _ e=>e,st1⟩,?_⟩
 have one:∀ {x:AV} {u:Value},x.lT=true->VR β' (Own (Own Z β h) β' h2) w' x u->VR β (Own Z β h) w' x u:=λhx hu=>.pure _ _ ((hu.B9 hx).mono st2)
 dsimp only at hp V2⊢;cases r' with
 |kT vs' =>
  obtain⟨us,rfl,q1,q2⟩:=V2.CT;have sW:∀y∈vs',y.lT=true:=by simpa[AV.jO]using hP
  exact .kT _ us q1 λj y u hy hu=>one (sW y (aR hy)) (q2 j y u hy hu)
 |_=>exact one hP V2
def PD:mH P ⟨λ_ _=>none,λ_ _ _=>none⟩:=⟨λ_ _ _ _ _ h=>by simp at h,λ_ _ _ _ _ h=>by simp at h⟩
end
section
variable{P:Program}{Z:az}{Γ:kP}{β:kW}{h:AH}{w:World}
def Xe{f:FuncId}{F:AF}(ok:okF P f F=true){args:List AV}(hle:args.length<=F.nt){Rz:Ending->World->Prop}(R:Rel Z β h w){vs:List Value}(hl:args.length=vs.length)
  (hv:∀(j:Nat)(y:AV)(u:Value),args[j]? = some y->vs[j]? = some u->VR β (Own Z β h) w y u)
  (H:∀(c:Code)(fn:Func)(a:Act),ku P F.nt c F.body=true->ri P fn.results.toList F.res=true->kF Z β h w (kR args) a F.nt->a.defers=[]->c.wp P (bodyPost P fn Rz) a w):Calls P f vs.toArray w Rz:=by
 unfold okF at ok;split at ok
 .rename_i fn hf;split at ok
  .rename_i c hc;simp only[aH,decide_eq_true_eq,beq_iff_eq]at ok;let⟨⟨⟨hn,sU⟩,hres⟩,hname⟩:=ok
   have E:kF Z β h w (kR args) {tmps:=vs.toArray++Array.replicate (fn.ntmps-vs.toArray.size) undef,defers:=[]} F.nt:=by
    refine⟨aj,λt=>?_⟩
    unfold kR
    by_cases ht:t<args.length
    .have h1:args[t]? = some args[t]:=aG ht;have h2:vs[t]? = some (vs[t]'aa):=aG aa
     have:=hv t _ _ h1 h2;rw[bV,h1];rw[bP,cR aj]
     simp only[bN,h2,bO];exact this
    .rw[bV,b9 aa]
     exact .dead _
   exact calls_of_wp hf hc (H c fn _ sU hres E rfl)
  .cases ok
 .cases ok
def IK{f:FuncId}{F:AF}(ok:okF P f F=true):tw P f:=by
 unfold okF at ok;split at ok
 .rename_i fn hf;split at ok
  .rename_i c hc;simp only[aH,decide_eq_true_eq,beq_iff_eq]at ok;exact⟨fn,hf,by rw[hc];rfl,an ok.2⟩
  .cases ok
 .cases ok
def qN(sz bytes:Nat)(zero:AV):AF:=AF.mk 8 [.t 2] (.seq (.ops (.op (some 2) (.mv (.c (.jB true []))) (.nil)))
 (.seq (.seq (.ops (.op (some 3) (.mv (.t 0)) (.op (some 4) (.zO .sl false (.t 3)) (.nil))))
 (.cond (.t 4) (.seq (.ops (.op (some 2) (.mv (.c (.jB true []))) (.nil)))
 (.ret)) (.skip)))
 (.seq (.ops (.op (some 5) (.BQ sz zero 0 []) (.op (some 6) (.mv (.t 0)) (.op (some 7) (.app sz bytes (.t 5) (.t 6)) (.op (some 2) (.mv (.t 7)) (.nil))))))
 (.ret))))
def mO(sz bytes:Nat)(args:List AV)(h:AH):Option (AV×AH):=match args with
 | [a]=>(elems h a).bind λes=>if kK sz es=true/\0<sz/\es.length*bytes<=140737488355328/\es.length<=140737488355328 then some (.own h.length 0 0 es.length,h++[.row 0 sz es])else none
 |_=>none
def Tu (hm:P.follows .mixedOrders=true) (hΓ:mH P Γ) {f:FuncId} {sz bytes:Nat} {zero:AV} (ok:okF P f (qN sz bytes zero)=true) {args:List AV} {r:AV} {h':AH} (hr:mO sz bytes args h=some (r,h')):zl P f args h r h':=by
 unfold mO at hr;split at hr
 .rename_i a;simp only[aI]at hr;obtain⟨es,lJ,hr⟩:=hr;split at hr
  .rename_i hc;cases hr;obtain⟨hc1,yC,hc3,hc4⟩:=hc
   have WJ:append h sz bytes (.jB true []) es=some (.own h.length 0 0 es.length,h++[.row 0 sz es]):=by
    simp only[append];rw[if_pos ⟨.inl trivial,by simp[kK],hc1,an hc3,an hc4⟩]
    simp
   by_cases hne:es=[]
   .refine⟨IK ok, λZ β w vs R hl hv => Xe ok (by simp[qN]) R hl hv λc fn act sU hres E hd => ?_⟩
    subst hne
    -- the two ways
    have aen:isNil .sl false a=some .xI:=by
     cases a<;>simp only[elems]at lJ<;>first | (cases lJ;done) | skip
     .cases lJ;simp[isNil]
     .rename_i b v o n;have hn:n=0:=by
       split at lJ
       .split at lJ
        .rename_i hc;simp only[bp]at lJ;have:=congrArg List.length lJ;simp at this;omega
        .cases lJ
       .split at lJ
        .rename_i hc;simp only[bp]at lJ;have:=congrArg List.length lJ;simp at this;omega
        .cases lJ
       .cases lJ
      subst hn;simp[isNil]
    cases c<;>first | (cases sU;done) | skip
    rename_i c1 c2;simp only[qN,ku,aH]at sU;obtain⟨Og,sU⟩:=sU;cases c1<;>first | (cases Og;done) | skip
    cases c2<;>first | (cases sU;done) | skip
    rename_i c2 c3;simp only[ku,aH]at sU;obtain⟨sU,KO⟩:=sU;cases c2<;>first | (cases sU;done) | skip
    rename_i c4 c5;simp only[ku,aH]at sU;obtain⟨IP,ok5⟩:=sU;cases c4<;>first | (cases IP;done) | skip
    cases c5<;>first | (cases ok5;done) | skip
    rename_i cc cx cy;simp only[ku,aH]at ok5;obtain⟨⟨tF,okx⟩,oky⟩:=ok5;have h0:kR [a] 0=a:=rfl;have iA:uZ Γ (.op (some 2) (.mv (.c (.jB true []))) .nil) ⟨kR [a],h⟩=some ⟨(kR [a]).put 2 (.jB true []),h⟩:=rfl;generalize hs1:(⟨(kR [a]).put 2 (.jB true []),h⟩:St)=s1 at iA
    have iB:uZ Γ (.op (some 3) (.mv (.t 0)) (.op (some 4) (.zO .sl false (.t 3)) .nil)) s1=some ⟨(((kR [a]).put 2 (.jB true [])).put 3 a).put 4 .xI,h⟩:=by
     rw[<-hs1];show ((mc h (isNil .sl false a)).bind λr=>some (St.put ⟨((kR [a]).put 2 (.jB true [])).put 3 a,r.2⟩ (some 4) r.1))=_
     rw[aen];rfl
    refine wp_seq (TO.wp hm (rW hΓ Og iA (W:=λ_=>true) (λ_ _=>rfl) R E λa1 w1 β1 R1 F1 E1 K1=>?_))
    refine wp_seq (wp_seq (TO.wp hm (rW hΓ IP iB (W:=λ_=>true) (λ_ _=>rfl) R1 E1 λa2 w2 β2 R2 F2 E2 K2=>?_)))
    have apG:s1.h=h:=by rw[<-hs1]
    rw[apG]at F1 F2 R1;have Wx:=jR E2 tF;have hcb:∃b,a2.eval cc = .bool b:=by
     have:AO.get ((((kR [a]).put 2 (.jB true [])).put 3 a).put 4 .xI) (.t 4) = .xI:=rfl;rw[this]at Wx;generalize a2.eval cc=u at Wx;cases Wx with
     |pure _ _ hq=>cases hq
     |xI b=>exact⟨b,rfl⟩
    obtain⟨b,hcb⟩:=hcb;have F12:=F1.trans F2;have K12:=K1.trans K2;generalize hs2:(⟨(((kR [a]).put 2 (.jB true [])).put 3 a).put 4 .xI,h⟩:St)=s2 at R2 F2 E2 F12;have SY:s2.h=h:=by rw[<-hs2]
    refine wp_cond hcb ?_
    -- the end, by either way
    have fin:∀ {s3:St} {a3:Act} {w3:World} {β3:kW} {r3:AV} {h3:AH},s3.e 2=r3->s3.h=h3->Rel Z β3 s3.h w3->Nw (λi=>decide (h.length<=i)) Z β2 s2.h w2 β3 s3.h w3->kF Z β3 s3.h w3 s3.e a3 8->lz (λ_=>true) a2 a3->
      (∀u w3 β3,Rel Z β3 h3 w3->Fr Z β h w β3 h3 w3->VR β3 (Own Z β3 h3) w3 r3 u->∃v β',Ending.returned u = .returned v/\Rel Z β' (h++[.row 0 sz []]) w3/\Fr Z β h w β' (h++[.row 0 sz []]) w3/\VR β' (Own Z β' (h++[.row 0 sz []])) w3 (.own h.length 0 0 0) v)->
      bodyPost P fn (λe w'=>∃v β',e = .returned v/\Rel Z β' (h++[.row 0 sz []]) w'/\Fr Z β h w β' (h++[.row 0 sz []]) w'/\VR β' (Own Z β' (h++[.row 0 sz []])) w' (.own h.length 0 0 0) v) .ret a3 w3:=by
     intro s3 a3 w3 β3 r3 h3 e2 eh R3 F3 E3 K3 hf;obtain⟨u,h1,h2⟩:=wQ R3 E3 (v:=r3) hres (by simp[qN,ud,e2])
     rw[eh]at R3 F3 h2;rw[SY]at F3
     have F4:Fr Z β2 h w2 β3 h3 w3:=⟨F3.nN,F3.os,F3.tape,F3.output,λi v bd hb=>F3.ext i v bd (by
      simp only[decide_eq_false_iff_not];intro hle;rw[SY]at R2;rw[R2.fresh i v hle]at hb;cases hb) hb,F3.stay⟩
     rw[SY]at F12;exact⟨(K12.trans K3).defers.trans hd,u,h1,hf u w3 β3 R3 (F12.trans F4) h2⟩
    cases b with
    |true =>
     rw[if_pos rfl]
     refine sZ hm hΓ _ _ okx (V:=λi=>decide (h.length<=i)) (ρ:=St) (k:=λx s=>match x with | .ret=>some s | _=>none)
      (s:=s2) (r:=⟨s2.e.put 2 (.jB true []),s2.h⟩) rfl (W:=λ_=>true) (λ_ _=>rfl) R2 E2 λx s' a3 w3 β3 hk R3 F3 E3 K3=>?_
     cases x with
     |normal=>cases hk
     |exit=>cases hk
     |ret =>
      cases hk;refine fin (s3:=⟨s2.e.put 2 (.jB true []),s2.h⟩) (r3:=.jB true []) (h3:=h) rfl SY R3 F3 E3 K3 λu w3 β3 R3 F3 hv=>?_
      have hv:=hv.oJ;obtain⟨ad,rfl⟩:∃ad,u = .slice ad 0 0:=by
       cases hv with
       |jB _ _ ad c _ _ _ _ hf _ _ _ _ _ _ =>
        have hc:=hf rfl;simp only[bq]at hc⊢;subst hc;exact⟨ad,rfl⟩
      obtain⟨β4,R4,F4,V4⟩:=R3.sg sz yC;exact⟨_,β4,rfl,R4,F3.trans F4,V4 ad⟩
    |false =>
     rw[if_neg ah]
     cases cy<;>first | (cases oky;done) | skip
     all_goals first | refine wp_skip ?_ | refine wp_label ?_
     all_goals
      have akZ:append s2.h sz bytes (.jB true []) []=some (.own h.length 0 0 0,h++[.row 0 sz []]):=by rw[SY];exact WJ
      have apY:elems s2.h a=some []:=by rw[SY];exact lJ
      have ha0:s2.e 0=a:=by rw[<-hs2];rfl
      refine sZ hm hΓ _ _ KO (V:=λi=>decide (h.length<=i)) (ρ:=St) (k:=λx s=>match x with | .ret=>some s | _=>none)
       (s:=s2) (r:=⟨(((s2.e.put 5 (.jB true [])).put 6 a).put 7 (.own h.length 0 0 0)).put 2 (.own h.length 0 0 0),h++[.row 0 sz []]⟩) ?_ (W:=λ_=>true) (λ_ _=>rfl) R2 E2 λx s' a3 w3 β3 hk R3 F3 E3 K3=>?_
      .simp[ha0,apY,akZ]
      .cases x with
       |normal=>cases hk
       |exit=>cases hk
       |ret =>
        cases hk;exact fin (r3:=.own h.length 0 0 0) (h3:=h++[.row 0 sz []]) rfl rfl R3 F3 E3 K3 λu w3 β3 R3 F3 hv=>⟨u,β3,rfl,R3,F3,hv⟩
   .refine sy hm hΓ ok ?_
    have aen:isNil .sl false a=some (.bool false):=by
     cases a<;>simp only[elems]at lJ<;>first | (cases lJ;done) | skip
     .cases lJ;simp[isNil,hne]
     .rename_i b v o n;have hn:n≠0:=by
       rintro rfl
       split at lJ
       .split at lJ
        .simp only[jl,bp]at lJ;exact hne lJ.symm
        .cases lJ
       .split at lJ
        .simp only[jl,bp]at lJ;exact hne lJ.symm
        .cases lJ
       .cases lJ
      simp[isNil,hn]
    have h0:kR [a] 0=a:=rfl;simp[rE,qN,aen,lJ,WJ]
  .cases hr
 .cases hr
end
section
variable{P:Program}{Z:az}{Γ:kP}{β:kW}{h:AH}{w:World}
end
section
variable{P:Program}{Z:az}{Γ:kP}{xs:List AI}{w:World}
def Zk{l m:Nat}{row:String}{args:Array Value}{R:Value->World->Prop}(h:Rows P row args w R):RowsIn (Fence.wide.inRound l) m P row args w R:=by
 intro c cs _;let⟨v,w',r,s⟩:=h c cs;exact⟨v,w',r,stepsIn_wide.2 s⟩
def ID{l m:Nat}{o:Oper}(hd:∀c,o.op≠.defer c){a:Act}{next:Act->World->Prop}{Q:Exit->Act->World->Prop}(h:o.wp P a w next Q):o.wpIn (Fence.wide.inRound l) m P a w next Q:=by
 refine⟨λ_ _=>trivial,?_⟩
 have e:o.semAt (Fence.wide.inRound l).round a.eval=execOp a.eval o:=Oper.semAt_some l _ _ hd;rw[e];unfold Oper.wp at h;generalize(execOp a.eval o).run P w=r at h;unfold Oper.upon at h;unfold Oper.uponIn;split at h
 .exact h
 .exact h
 .exact h
 .exact⟨λh=>by simp[Fence.wide,Fence.inRound]at h,CallsIn.inRound l (callsIn_wide.2 h)⟩
 .exact⟨λh=>by simp[Fence.wide,Fence.inRound]at h,Zk h⟩
 .exact h
 .exact h.elim
def zD{o:Oper}{a:Act}{K K':Act->World->Prop}{Q:Exit->Act->World->Prop}(h:o.wp P a w K Q)(hk:∀a w,K a w->K' a w):o.wp P a w K' Q:=Oper.wp_mono hk h
def Qc{l m:Nat}{ops:Array Oper}{Q:Exit->Act->World->Prop}(hQ:¬LetsOut Q):∀(os:List Oper)(_:∀o∈os,∀c,o.op≠.defer c)(a:Act)(w:World),wpList P ops Q os a w->wpListIn (Fence.wide.inRound l) m P ops Q os a w
 | [],_,a,w,h=>h
 |o::os,hd,a,w,h=>by
  have ih:=Qc (l:=l) (m:=m) (ops:=ops) hQ os (λx hx=>hd x (by simp[hx]))
  unfold wpList at h;unfold wpListIn;split at h
  .rename_i hw;rw[if_pos hw]
   rcases h with h | ⟨_,h⟩
   .exact ID (hd o ah) (zD h ih)
   .exact absurd h hQ
  .rename_i hw;rw[if_neg hw];exact⟨λ_ _=>trivial,ih _ _ h⟩
def KB{l m:Nat}{ops:Array Oper}{Q:Exit->Act->World->Prop}(hd:∀o∈ops.toList,∀c,o.op≠.defer c)(hQ:¬LetsOut Q):∀(fuel:Nat)(S:Array Bool)(a:Act)(w:World),wpAny P .any ops Q fuel S a w->wpAnyIn (Fence.wide.inRound l) m P .any ops Q fuel S a w
 |0,S,a,w,h=>h
 |n+1,S,a,w,h=>by
  refine⟨h.1,λi hi=>?_⟩
  have h2:=h.2 i hi;unfold wpOp at h2;unfold wpOpIn;cases ho:ops[i]? with
  |none=>rw[ho]at h2;exact KB hd hQ n _ a w h2
  |some o =>
   rw[ho]at h2;simp only at h2⊢;split at h2
   .rename_i hw;rw[if_pos hw]
    rcases h2 with h2 | ⟨_,h2⟩
    .exact ID (hd o (by
      rw[aW]at ho;let⟨h1,h2⟩:=ho;rw[<-h2];simp)) (zD h2 λa w=>KB hd hQ n _ a w)
    .exact absurd h2 hQ
   .rename_i hw;rw[if_neg hw];exact⟨λ_ _=>trivial,KB hd hQ n _ _ w h2⟩
def Js{lr m0:Nat}(hm:P.follows .mixedOrders=true)(hΓ:mH P Γ){n:Nat}(c':AC)(c:Code)(ok:ku P n c c'=true)(nd:Vt c=true){V:aB}{ρ:Type}{k:AX->St->Option ρ}{s:St}{r:ρ}(he:eval Γ c' V ρ k s=some r)
  {W:aB} (hW:∀t∈Au c',W t=true) {β:kW} {a:Act} {w:World} (R:Rel Z β s.h w) (E:kF Z β s.h w s.e a n) {Q:Exit->Act->World->Prop}
  (K:∀x s' a' w' β',k x s'=some r->Rel Z β' s'.h w'->Nw V Z β s.h w β' s'.h w'->kF Z β' s'.h w' s'.e a' n->lz W a a'->Q x.exit' a' w'):c.wpIn (Fence.wide.inRound lr) m0 P Q a w :=
 mA (b:=false) (λ{_ ops draw _ _ _} nd hQ h=>by
  have C5:∀o∈ops.toList,∀c,o.op≠.defer c:=λo ho=>LJ (aO.1 nd o ho)
  cases draw with
  |true=>exact wpIn_region_any hm (KB C5 hQ _ _ _ _ h)
  |false=>exact wpIn_region_list (Qc hQ ops.toList C5 _ _ h)) hΓ c' c ok nd he hW R E K
end
end Go.Am
