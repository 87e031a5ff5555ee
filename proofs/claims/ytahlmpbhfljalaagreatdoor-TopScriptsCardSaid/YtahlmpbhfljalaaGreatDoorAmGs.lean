/- Part of the proof that TopScriptsCard holds. -/
import Derived.Test.YtahlmpbhfljalaaGreatDoorAmPx
import Derived.Scope
import Derived.OrdersIn
import Derived.TacticsIn
import Derived.LoopNIn
import Derived.RangeFuncCalls
import Derived.Test.YtahlmpbhfljalaaGreatDoorTrQ
set_option linter.all false
namespace Go.Am
def AX.exit':AX->Exit
 | .normal=>.normal
 | .exit id=>.exit id
 | .ret=>.ret
 | .mD p=>.panic (US p)
def rD:AC->au
 | .ops l=>wr l
 | .seq a b=>rD a++rD b
 | .cond _ x y=>rD x++rD y
 | .block _ c=>rD c
 | .loop _ _ _ _ c=>rD c
 | .scope c=>rD c
 | .QL c _=>rD c
 | .qk l last=>TK l++wr last
 | .mV _ _ _ c=>rD c
 |_=>[]
def ir(P:Program)(n:Nat):Code->AC->Bool
 |c,.QL h _=>ir P n c h
 | .loop c,.mV _ wr _ h=>ir P n c h&&(rD h).all (λt=>jN wr t)
 | .region _ ops true,.qk [(i,z)] .nil=>r8 [] i&&ku P n ops.pop.toList ops.pop.toList (flatten i none)&&CT ops.pop.toList (flatten i none)&&G8 ops.toList&&(match ops.back? with
   |some o=>G7 P n ops.toList o z
   |none=>false)
 | .region _ ops false,.qk l last=>MP P n ops.toList last ops.toList l
 | .skip,.skip=>true
 | .label _,.skip=>true
 | .region _ ops r,.ops l=>r8 [] l&&ku P n ops.toList ops.toList (flatten l none)&&(!r||CT ops.toList (flatten l none))
 | .seq a b,.seq F E=>ir P n a F&&ir P n b E
 | .cond c x y,.cond h A v=>kj c h&&ir P n x A&&ir P n y v
 | .block id c,.block q h=>decide (id=q)&&ir P n c h
 | .loop c,.loop _ wr own _ h=>ir P n c h&&(rD h).all (λt=>jN wr t)&&own.all (λp=>decide (0<p.2))
 | .exit id,.exit q=>decide (id=q)
 | .ret,.ret=>true
 |_,_=>false
variable{n m0:Nat}{x:AC}
section
variable{P:Program}{Z:ay}{Γ:ja}
def EP:Op->Bool
 | .defer _=>false
 |_=>true
def EO{op:Op}(h:EP op=true):∀c,op≠.defer c:=by
 rintro c rfl
 cases h
def C3:Code->Bool
 | .scope _=>false
 | .region _ ops _=>ops.toList.all λo=>EP o.op
 | .seq a b=>C3 a&&C3 b
 | .cond _ x y=>C3 x&&C3 y
 | .block _ c=>C3 c
 | .loop c=>C3 c
 |_=>true
def Ij(P:Program)(ops:Array Oper)(b:Bool)(Q:Exit->Act->World->Prop)(a:Act)(w:World):Prop:=match b with
 |true=>wpAny P .any ops Q ops.size (Array.replicate ops.size false) a {w with drawn:=w.drawn+1}
 |false=>wpList P ops Q ops.toList a w
def Ij.wp{P:Program}(i:P.follows .mixedOrders=true){id:Nat}{ops:Array Oper}{b:Bool}{Q:Exit->Act->World->Prop}{a:Act}{w:World}(h:Ij P ops b Q a w):(Code.region id ops b).wp P Q a w :=
 match b,h with
 |true,h=>wp_region_any i h
 |false,h=>wp_region_list h
def qR(hΓ:js P Γ){id:Nat}{ops:Array Oper}{draw:Bool}{l:IT}(ok:ir P n (.region id ops draw) (.ops l)=true)
  {s s':St} (hi:qX Γ l s=some s') {W:aA} (hW:∀t∈wr l,W t=true) {a:Act} {w:World} {β:iW} (R:Rel Z β s.h w) (E:iP Z β s.h w s.e a n) {Q:Exit->Act->World->Prop}
  (k:∀a' w' β',Rel Z β' s'.h w'->Fr Z β s.h w β' s'.h w'->iP Z β' s'.h w' s'.e a' n->iM W a a'->Q .normal a' w'):Ij P ops draw Q a w:=by
 simp only[ir,aC]at ok;let⟨⟨ZJ,ok2⟩,DP⟩:=ok;let⟨s1,h1,h2,h3,h4,_⟩:=sF Γ l [] none s s' s ZJ (λc a h=>by cases h) hi rfl (λ_ _=>rfl) (λt ht=>by simp[jN]at ht)
 have QJ:∀x∈flatten l none,∀t,x.dst=some t->W t=true:=λx hx t hd=>hW t (mu l none x t hx hd)
 have k':∀a' w' β',Rel Z β' s1.h w'->Fr Z β s.h w β' s1.h w'->iP Z β' s1.h w' s1.e a' n->iM W a a'->Q .normal a' w':=by
  intro a' w' β' R' F' E' K';rw[h2]at R' F' E';refine k a' w' β' R' F' ⟨E'.1,λt=>?_⟩ K'
  cases hd:jN (sE l++[]) t with
  |true=>rw[h4 t hd];exact .dead _
  |false=>rw[<-h3 t hd];exact E'.2 t
 cases draw with
 |false=>exact tM hΓ ops.toList (flatten l none) s s1 a w β ok2 QJ h1 R E k'
 |true =>
  simp only[eA,fV]at DP;exact TF hΓ QJ ok2 DP h1 R E k'
def uq{ρ:Type}{e:Env}{k:AX->St->Option ρ}{o:AX}{vs:List AV}{h:AH}{r:ρ}:∀(b:List (AX×au)),l7 e k (o,vs,h) b=some r->k o ⟨e.lay (lp o b) vs,h⟩=some r
 | [],i=>by cases i
 |(x,q)::l,i=>by
  simp only[l7]at i;simp only[lp];split at i
  .rename_i n;subst n;rw[if_pos rfl];exact i
  .rename_i n;rw[if_neg n];exact uq l i
def mG{α β:Type}{f:α->β}:∀(l:List α)(p:α×β),p∈l.zip (l.map f)->p.2=f p.1
 | [],p,h=>by cases h
 |x::l,p,h=>by
  simp only[bF,eR,aY]at h
  rcases h with rfl | h
  .rfl
  .exact mG l p h
def Snc(F:Fence)(m0:Nat)(P:Program)(Z:ay)(Γ:ja)(n:Nat)(i:AC)(c:Code):Prop :=
 ∀ ⦃V:aA⦄ ⦃ρ:Type⦄ ⦃k:AX->St->Option ρ⦄ ⦃s:St⦄ ⦃r:ρ⦄,eval Γ i V ρ k s=some r->
  ∀ {W:aA},(∀t∈rD i,W t=true)->∀ {β:iW} {a:Act} {w:World},Rel Z β s.h w->iP Z β s.h w s.e a n->∀ {Q:Exit->Act->World->Prop},
  (∀x s' b w' β',k x s'=some r->Rel Z β' s'.h w'->Ct V Z β s.h w β' s'.h w'->iP Z β' s'.h w' s'.e b n->iM W a b->Q x.exit' b w')->c.wpIn F m0 P Q a w
def vl{F:Fence}{keep:au}{o:List (AX×au)}{body:Code}(IH:Snc F m0 P Z Γ n x body){N:aA}{β1:iW}{h1:AH}{w:World}{a:Act}{e1:Env}
  (base:∀ {β':iW} {h':AH} {w':World} {b:Act},Ct N Z β1 h1 w β' h' w'->iM (λt=>(rD x).contains t) a b->∀t,VR β' (Own Z β' h') w' (e1 t) (b.tmps.getD t Go.undef))
  (M:St->List AV×AH) (hhd:∀ {s':St} {β':iW} {w':World} {b:Act},Rel Z β' s'.h w'->iP Z β' s'.h w' s'.e b n->∃β3,Rel Z β3 (M s').2 w'/\Ct N Z β' s'.h w' β3 (M s').2 w'/\∀p∈keep.zip (M s').1,VR β3 (Own Z β3 (M s').2) w' p.2 (b.tmps.getD p.1 Go.undef))
  {A:AX} {l:List AV} {hx:AH} {Q:Exit->Act->World->Prop}
  (K:∀(s':St)(b:Act)(w':World)(β':iW),s'.e=e1.lay (lp A o) l->s'.h=hx->Rel Z β' s'.h w'->Ct N Z β1 h1 w β' s'.h w'->iP Z β' s'.h w' s'.e b n->iM (λt=>(rD x).contains t) a b->Q A.exit' b w') :
  ∀(m:Nat)(vs:List AV)(h:AH),mW (λy:List AV×AH=>eval Γ x N ((List AV×AH)⊕(AX×List AV×AH)) (λA s'=>match A with
     | .normal=>some (.inl (M s'))
     |A=>some (.inr (A,(lp A o).map s'.e,s'.h))) ⟨e1.lay keep y.1,y.2⟩) m (vs,h)=some (A,l,hx)->
    ∀(β':iW)(b:Act)(w':World),Rel Z β' h w'->Ct N Z β1 h1 w β' h w'->b.tmps.size=n->iM (λt=>(rD x).contains t) a b->
    (∀p∈keep.zip vs,VR β' (Own Z β' h) w' p.2 (b.tmps.getD p.1 Go.undef))->Code.roundsIn F m0 P body Q m b w':=by
 intro m
 induction m with
 |zero=>intro vs h E;cases E
 |succ m ih =>
  intro vs h E β' b w' R' F' hn K' U;rw[roundsIn_succ];have E':iP Z β' h w' (e1.lay keep vs) b n:=⟨hn,C4 (tm:=λt=>b.tmps.getD t Go.undef) (base F' K') keep vs U⟩
  simp only[mW]at E;split at E
  .cases E
  .rename_i y T;let⟨S,h'⟩:=y;refine IH T (W:=λt=>(rD x).contains t) (λt X=>by simpa using X) R' E' λi s' r z β'' q G L v H=>?_
   cases i with
   |normal =>
    have Y:M s'=(S,h'):=by simpa using q
    let⟨β3,R3,O,V3⟩:=hhd G v;rw[Y]at R3 O V3;exact ih _ _ E _ r z R3 ((F'.trans L).trans O) v.1 (K'.trans H) V3
   |_=>simp at q
  .rename_i y T;cases E;refine IH T (W:=λt=>(rD x).contains t) (λt X=>by simpa using X) R' E' λi s' r z β'' q G L v H=>?_
   have fin:some (Sum.inr (α:=List AV×AH) (i,(lp i o).map s'.e,s'.h))=some (.inr (A,l,hx))->Q i.exit' r z:=by
    intro hq;simp only[aP,Sum.inr.injEq,Prod.mk.injEq]at hq;obtain⟨rfl,rfl,rfl⟩:=hq;have O:=F'.trans L;have K3:=K'.trans H
    exact K ⟨_,s'.h⟩ r z β'' rfl rfl G O ⟨v.1,C4 (tm:=λt=>r.tmps.getD t Go.undef) (base O K3) _ _ λp hp=>by
     rw[mG _ p hp];exact v.2 p.1⟩ K3
   cases i with
   |normal=>simp at q
   |_=>exact fin q
def zf{ρ:Type}{e:Env}{k:AX->St->Option ρ}{i:AX}{vs:List AV}{h:AH}{r:ρ}{b:List (AX×au)}(l:rE e k b (i,vs,h)=some r):k i ⟨e.lay (lp i b) vs,h⟩=some r:=by
 cases i with
 |mD p=>exact l
 |_=>exact uq b l
def M8{W:aA}(n:∀t∈rD x,W t=true){a b:Act}(h:iM (λt=>(rD x).contains t) a b):iM W a b:=by
 refine⟨h.defers,λt i=>h.same t ?_⟩
 cases l:(rD x).contains t with
 |false=>rfl
 |true =>
  have:=n t (ak l)
  rw[i]at this;cases this
def Ju{b:aB}(h:(rD x).all (λt=>jN b t)=true){t:Nat}(i:¬(b.any λr=>decide (r.1<=t)&&decide (t<=r.2))=true):(rD x).contains t=false:=by
 cases l:(rD x).contains t with
 |false=>rfl
 |true=>exact absurd (aJ.1 h t (ak l)) i
def Hl{F:Fence}{keep:au}{q own:aB}{H:List (AX×au)}{body:Code}(U:(rD x).all (λt=>jN q t)=true)(DP:own.all (λp=>decide (0<p.2))=true)
  (IH:Snc F m0 P Z Γ n x body):Snc F m0 P Z Γ n (.loop keep q own H x) (.loop body):=by
 intro V ρ k s r o W hW β a w R E Q K;simp only[rD]at hW;simp only[eval]at o;let⟨β1,N,S,T⟩:=uE own s β DP R E;generalize hpre:iJ own s=pre at o N S T;generalize hL:pre.h.length=L at o;generalize hR:rowsOf pre.e own=l at o;split at o
 .rename_i hV;simp only[aD]at o;let⟨⟨ex,vals,hx⟩,hit,y⟩:=o;have hk:=zf y;let⟨m,M⟩:=tV hit;generalize Y:(nj l pre.e).od q=e1 at M hk
  have base:∀ {β':iW} {h':AH} {w':World} {G:Act},Ct (nS l L) Z β1 pre.h w β' h' w'->iM (λt=>(rD x).contains t) a G->∀t,VR β' (Own Z β' h') w' (e1 t) (G.tmps.getD t Go.undef):=by
   intro β' h' w' G b K' t;rw[<-Y];unfold Env.od;split
   .exact .dead _
   .rename_i hd;rw[K'.same t (Ju U hd)];refine Gn (λi v bd hi A=>b.ext i v bd ?_ A) b.stay (T.2 t)
    unfold nS;rw[hi,fV,decide_eq_false_iff_not,<-hL];intro z;rw[N.fresh i v z]at A;cases A
  have out:∀ {β':iW} {h':AH} {w':World},Ct (nS l L) Z β1 pre.h w β' h' w'->Ct V Z β s.h w β' h' w':=by
   intro β' h' w' b;refine⟨b.kJ,b.os,b.tape,b.output,λi v bd hv A=>b.ext i v bd ?_ (S.ext i v bd A),S.stay.trans b.stay⟩
   unfold nS;rw[eG]
   constructor
   .cases hc:l.contains i with
    |false=>rfl
    |true =>
     have:=aJ.1 hV i (by simpa using hc)
     rw[hv]at this;cases this
   .rw[decide_eq_false_iff_not,<-hL];intro z;have h1:=S.ext i v bd A;rw[N.fresh i v z]at h1;cases h1
  refine wpIn_loop_rounds m (vl IH base (head L l keep) (λ{s' β' w' G} O E'=>⟨_,zI O L l,zK,λp X=>by
   rw[mG keep p X]
   exact wo O L l (E'.2 p.1)⟩) (λs' G w' β' h1 h2 O b E' K'=>by
    let⟨e',h'⟩:=s';dsimp only at h1 h2;subst h1 h2;exact K ex _ G w' β' hk O (out b) E' (M8 hW K')) m _ _ M (uW β1 pre.h L l) a w (zI N L l) zK T.1 (iM.refl _ _) λp X=>?_)
  rw[mG keep p X];exact wo N L l (T.2 p.1)
 .cases o
def EX{F:Fence}{keep:au}{q:aB}{y:List (AX×au)}{body:Code}(z:(rD x).all (λt=>jN q t)=true)
  (IH:Snc F m0 P Z Γ n x body):Snc F m0 P Z Γ n (.mV keep q y x) (.loop body):=by
 intro V ρ k s r T W U β a w R E Q K;simp only[rD]at U;simp only[eval,aD]at T;let⟨⟨Y,S,hx⟩,hit,o⟩:=T;have hk:=zf o;let⟨m,G⟩:=tV hit
 have old:∀ {i v:Nat} {bd:Bd},β i v=some bd->decide (s.h.length<=i)=false:=by
  intro i v bd l;rw[decide_eq_false_iff_not];intro H;rw[R.fresh i v H]at l;cases l
 refine wpIn_loop_rounds m (vl IH (β1:=β) (h1:=s.h) (w:=w) (a:=a) (λ{β' h' w' L} b N t=>?_) (λs'=>(keep.map s'.e,s'.h)) (λ{s' β' w' L} M O=>⟨_,M,(Fr.refl _ _ _ _).Iw,λp A=>by
   rw[mG keep p A]
   exact O.2 p.1⟩) (λs' L w' β' h1 h2 M b O N=>by
    let⟨e',h'⟩:=s';dsimp only at h1 h2;subst h1 h2;exact K Y _ L w' β' hk M ⟨b.kJ,b.os,b.tape,b.output,λi v bd _ l=>b.ext i v bd (old l) l,b.stay⟩ O (M8 U N)) m _ _ G β a w R (Fr.refl _ _ _ _).Iw E.1 (iM.refl _ _) λp A=>?_)
 .unfold Env.od;split
  .exact .dead _
  .rename_i X;rw[N.same t (Ju z X)];exact(E.2 t).mono (λi v bd l=>b.ext i v bd (old l) l) b.stay
 .rw[mG keep p A];exact E.2 p.1
def AG(G:js P Γ){id:Nat}{ops:Array Oper}{q:Bool}{l:List (IT×XO)}{last:IT}(ok:ir P n (.region id ops q) (.qk l last)=true)
  {ρ:Type} {k:AX->St->Option ρ} {s:St} {r:ρ} (K:oq Γ last k l s=some r) {W:aA} (M:∀t∈TK l++wr last,W t=true) {a:Act} {w:World} {β:iW} (R:Rel Z β s.h w) (E:iP Z β s.h w s.e a n) {Q:Exit->Act->World->Prop}
  (kn:∀s' v w' β',k .normal s'=some r->Rel Z β' s'.h w'->Fr Z β s.h w β' s'.h w'->iP Z β' s'.h w' s'.e v n->iM W a v->Q .normal v w')
  (kp:∀p s' v w' β',k (.mD p) s'=some r->Rel Z β' s'.h w'->Fr Z β s.h w β' s'.h w'->iP Z β' s'.h w' s'.e v n->iM W a v->Q (.panic (US p)) v w'):Ij P ops q Q a w:=by
 simp only[aZ]at M;cases q with
 |false=>exact FI G (λt H=>M t (.inr H)) l ops.toList (by simpa[ir]using ok) K (λt H=>M t (.inl H)) R E kn kp
 |true =>
  unfold ir at ok;split at ok<;>first | (cases ok;done) | skip
  all_goals (rename_i F A;first | (cases F;done) | (cases A;done) | skip)
  cases F;cases A;simp only[aC]at ok;rename_i i z;let⟨⟨⟨⟨U,T⟩,DP⟩,He⟩,Lj⟩:=ok;cases L:ops.back? with
  |none=>rw[L]at Lj;cases Lj
  |some o =>
  rw[L]at Lj;have hp:ops=ops.pop.push o:=by
   obtain⟨xs,x,rfl⟩:=Array.eq_push_of_size_ne_zero (xs:=ops) λh=>by simp[ei h]at L
   simp at L;subst L;simp
  generalize ops.pop=b at *
  subst hp;simp only[oq,aD]at K;let⟨s',hi,K⟩:=K;let⟨s1,h1,h2,h3⟩:=Da (Z:=Z) U hi
  have y:Array.replicate (b.push o).size false=(Array.replicate b.size false).push false:=by
   apply cq;simp[gG]
  show wpAny P .any (b.push o) Q (b.push o).size (Array.replicate (b.push o).size false) a _;rw[y,Array.size_push];refine OQ rfl He b.size (Array.replicate b.size false) a _ ah ah (λj i N=>?_) (TF G (W:=W) (λx hx t hd=>M t (.inl (by simp[TK,mu i none x t hx hd]))) T DP h1 R E λv w' β' R' F' E' K'=>?_)
  .rw[<-y]at N;simp[eP]at N;split at N<;>simp at N
  .rw[h2]at R' F';show wpOp P (b.push o) Q b.size (λa w=>Q .normal a w) v w'
   unfold wpOp;rw[show (b.push o)[b.size]? = some o by simp]
   exact FJ G Lj K (W:=W) (λt H=>M t (.inl (by simp[TK,H]))) R' (h3 E') (λS a2 O β2 hk X Y E2 K2=>kn S a2 O β2 (by simpa[oq,qX]using hk) X (F'.trans Y) E2 (K'.trans K2)) λp S a2 O β2 hk X Y E2 K2=>kp p S a2 O β2 hk X (F'.trans Y) E2 (K'.trans K2)
def orl{b p q:Bool}(h:(b||(p&&q))=true):(b||p)=true/\(b||q)=true:=by
 cases b<;>simp_all
def jR{F:Fence}{m0:Nat}{b:Bool}(O:∀ {id ops N Q a w},(b||C3 (.region id ops N))=true->¬LetsOut Q->Ij P ops N Q a w->(Code.region id ops N).wpIn F m0 P Q a w)(v:js P Γ){n:Nat}:∀(c':AC)(c:Code),ir P n c c'=true->(b||C3 c)=true->Snc F m0 P Z Γ n c' c
 | .skip,c,ok,nd=>@λV ρ k s r o W M β a w R E Q K=>by
  cases c<;>first | (cases ok;done) | exact wpIn_skip (K .normal s a w β o R (Fr.refl _ _ _ _).Iw E (iM.refl _ _)) | exact wpIn_label (K .normal s a w β o R (Fr.refl _ _ _ _).Iw E (iM.refl _ _))
 | .exit id,c,ok,nd=>@λV ρ k s r o W M β a w R E Q K=>by
  cases c<;>first | (cases ok;done) | skip
  rename_i X;have:X=id:=by simpa[ir]using ok
  subst this;exact wpIn_exit (K (.exit X) s a w β o R (Fr.refl _ _ _ _).Iw E (iM.refl _ _))
 | .ret,c,ok,nd=>@λV ρ k s r o W M β a w R E Q K=>by
  cases c<;>first | (cases ok;done) | skip
  exact wpIn_ret (K .ret s a w β o R (Fr.refl _ _ _ _).Iw E (iM.refl _ _))
 | .scope x,c,ok,nd=>by cases c<;>cases ok
 | .ops l,c,ok,nd=>@λV ρ k s r o W M β a w R E Q K=>by
  cases c<;>first | (cases ok;done) | skip
  simp only[eval,aD]at o;let⟨s',Y,o⟩:=o;exact wpIn_mono (Q:=λx a w=>x = .normal/\Q .normal a w) (O nd (λ⟨_,_,h,_⟩=>by cases h) (qR v ok Y M R E λq w' β' A H L G=>⟨rfl,K .normal s' q w' β' o A H.Iw L G⟩)) λe a w h=>h.1▸h.2
 | .seq x y,c,ok,nd=>@λV ρ k s r o W M β a w R E Q K=>by
  cases c<;>first | (cases ok;done) | skip
  simp only[ir,aC]at ok;simp only[rD,aZ]at M;simp only[eval]at o;refine wpIn_seq (jR O v x _ ok.1 (orl nd).1 o (λt S=>M t (.inl S)) R E λT s' q w' β' hk A H L G=>?_)
  cases T with
  |normal=>exact jR O v y _ ok.2 (orl nd).2 hk (λt S=>M t (.inr S)) A L λT s'' a'' w'' β'' hk' R'' F'' E'' K''=>K T s'' a'' w'' β'' hk' R'' (H.trans F'') E'' (G.trans K'')
  |exit id=>exact K (.exit id) s' q w' β' hk A H L G
  |ret=>exact K .ret s' q w' β' hk A H L G
  |mD p=>exact K (.mD p) s' q w' β' hk A H L G
 | .cond x y z,c,ok,nd=>@λV ρ k s r o W M β a w R E Q K=>by
  cases c<;>first | (cases ok;done) | skip
  simp only[ir,aC]at ok;simp only[rD,aZ]at M;simp only[eval]at o;have v1:=gW R.gl E ok.1.1;split at o
  .rename_i b hb;rw[hb]at v1;refine wpIn_cond v1.lK ?_;split at o
   .rename_i hb;subst hb;rw[if_pos rfl];exact jR O v y _ ok.1.2 (orl nd).1 o (λt S=>M t (.inl S)) R E K
   .rename_i hb;rw[if_neg hb];exact jR O v z _ ok.2 (orl nd).2 o (λt S=>M t (.inr S)) R E K
  .cases o
 | .block id x,c,ok,nd=>@λV ρ k s r o W M β a w R E Q K=>by
  cases c<;>first | (cases ok;done) | skip
  simp only[ir,aC,decide_eq_true_eq]at ok;obtain⟨rfl,ok⟩:=ok;simp only[eval]at o;refine wpIn_block (jR O v x _ ok nd o M R E λT s' q w' β' hk A H L G=>?_)
  cases T with
  |normal=>exact K .normal s' q w' β' hk A H L G
  |ret=>exact K .ret s' q w' β' hk A H L G
  |mD p=>exact K (.mD p) s' q w' β' hk A H L G
  |exit i =>
   show if i=_ then Q .normal q w' else Q (.exit i) q w'
   dsimp only at hk;split at hk
   .rename_i Y;rw[if_pos Y];exact K .normal s' q w' β' hk A H L G
   .rename_i Y;rw[if_neg Y];exact K (.exit i) s' q w' β' hk A H L G
 | .QL x g,c,ok,nd=>@λV ρ k s r o W M β a w R E Q K=>by
  have ok':ir P n c x=true:=by
   cases c<;>exact ok
  simp only[eval]at o;refine jR O v x c ok' nd o (λt S=>M t (by simpa[rD]using S)) R E λT s' q w' β' hk A H L G=>?_
  cases T with
  |exit id=>exact K (.exit id) s' q w' β' hk A H L G
  |mD p=>exact K (.mD p) s' q w' β' hk A H L G
  |normal =>
   simp only[aD]at hk;let⟨s2,h1,h2⟩:=hk;let⟨R2,F2,E2⟩:=zN g A L h1;exact K .normal s2 q w' β' h2 R2 (H.trans F2.Iw) E2 G
  |ret =>
   simp only[aD]at hk;let⟨s2,h1,h2⟩:=hk;let⟨R2,F2,E2⟩:=zN g A L h1;exact K .ret s2 q w' β' h2 R2 (H.trans F2.Iw) E2 G
 | .qk l last,c,ok,nd=>@λV ρ k s r o W M β a w R E Q K=>by
  cases c<;>first | (simp[ir]at ok;done) | skip
  simp only[eval]at o;simp only[rD]at M;exact wpIn_mono (Q:=λx a w=>x≠.outgrown/\Q x a w) (O nd (λ⟨_,_,h,_⟩=>h rfl) (AG v ok o M R E (λs' q w' β' hk A H L G=>⟨(by intro h;cases h),K .normal s' q w' β' hk A H.Iw L G⟩) λp s' q w' β' hk A H L G=>⟨(by intro h;cases h),K (.mD p) s' q w' β' hk A H.Iw L G⟩)) λe a w h=>h.2
 | .mV keep wrs U x,c,ok,nd=>by
  cases c<;>first | (cases ok;done) | skip
  simp only[ir,aC]at ok;exact EX ok.2 (jR O v x _ ok.1 nd)
 | .loop keep wrs own U x,c,ok,nd=>by
  cases c<;>first | (cases ok;done) | skip
  simp only[ir,aC]at ok;exact Hl ok.1.2 ok.2 (jR O v x _ ok.1.1 nd)
def kR(q:P.follows .mixedOrders=true)(l:js P Γ)(i:AC)(c:Code)(ok:ir P n c i=true){V:aA}{ρ:Type}{k:AX->St->Option ρ}{s:St}{r:ρ}(v:eval Γ i V ρ k s=some r)
  {W:aA} (y:∀t∈rD i,W t=true) {β:iW} {a:Act} {w:World} (R:Rel Z β s.h w) (E:iP Z β s.h w s.e a n) {Q:Exit->Act->World->Prop}
  (K:∀x s' o w' β',k x s'=some r->Rel Z β' s'.h w'->Ct V Z β s.h w β' s'.h w'->iP Z β' s'.h w' s'.e o n->iM W a o->Q x.exit' o w'):c.wp P Q a w :=
 wpIn_wide.1 (jR (F:=Fence.wide) (m0:=0) (b:=true) (λ_ _ h=>wpIn_wide.2 (h.wp q)) l i c ok rfl v y R E K)
end
def nv(P:Program):List ResultVar->List AR->Bool
 | [],[]=>true
 | .tmp t::l,.t i::b=>decide (t=i)&&nv P l b
 | .cell t ty::l,.cell i sz agg::b=>decide (t=i)&&jg P ty sz&&rJ P ty agg&&nv P l b
 |_,_=>false
def okF(P:Program)(f:FuncId)(F:AF):Bool:=match P.funcs[f]? with
 |some fn=>(match fn.body with
  |some c=>decide (fn.ntmps=F.nt)&&ir P F.nt c F.body&&nv P fn.results.toList F.res&&(fn.name == "runtime.NumGoroutine")==false
  |none=>false)
 |none=>false
def Mp(tmps:Array Value):ResultVar->Sem Value
 | .tmp t=>pure (tmps.getD t Go.undef)
 | .cell x t=>do loadVar t (<-asAddr (tmps.getD x Go.undef))
variable{f:FuncId}{F:AF}
section
variable{P:Program}{Z:ay}{Γ:ja}{β:iW}{h:AH}{w:World}
def yY(R:Rel Z β h w){e:Env}{a:Act}{n:Nat}(E:iP Z β h w e a n):∀(A:List ResultVar)(l:List AR)(vs:List AV),nv P A l=true->pQ ⟨e,h⟩ l=some vs->
  ∃F:List Value,(A.mapM (Mp a.tmps)).run P w = .ok F w/\vs.length=F.length/\
   ∀(j:Nat)(y:AV)(u:Value),vs[j]? = some y->F[j]? = some u->VR β (Own Z β h) w y u
 | [],[],vs,_,x=>by
  simp only[pQ]at x;cases x;exact⟨[],ah,rfl,λj y u G=>by simp at G⟩
 | [],_::_,_,ok,_=>by simp[nv]at ok
 |r::A,[],_,ok,_=>by cases r<;>simp[nv]at ok
 |r::A,q::l,vs,ok,x=>by
  simp only[pQ,aD]at x;let⟨v,L,M,Q,x⟩:=x;cases x
  have key:nv P A l=true/\∃u,(Mp a.tmps r).run P w = .ok u w/\VR β (Own Z β h) w v u:=by
   cases r with
   |tmp t =>
    cases q with
    |cell=>simp[nv]at ok
    |t i =>
     simp only[nv,aC,decide_eq_true_eq]at ok;obtain⟨rfl,ok⟩:=ok;simp only[wh,aP]at L;subst L;exact⟨ok,a.tmps.getD t Go.undef,by simp[Mp],E.2 t⟩
   |cell t ty =>
    cases q with
    |t i=>simp[nv]at ok
    |cell i sz agg =>
     simp only[nv,aC,decide_eq_true_eq]at ok;obtain⟨⟨⟨rfl,h1⟩,h2⟩,ok⟩:=ok;simp only[wh,aD]at L;let⟨cs,K,S⟩:=L;let⟨u,H,b⟩:=BD (P:=P) R K S (E.2 t) h1 h2;let⟨blk,o,T,_⟩:=xN R K (E.2 t);refine⟨ok,u,?_,b⟩;rw[T]at H;simp only[Instr.loadAt,Instr.sureAddr,Sem.run_bind,Sem.run_pure,Result.andThen_ok]at H;simp only[Mp,T,asAddr,Sem.run_bind,Sem.run_pure,Result.andThen_ok];exact H
  let⟨N,u,H,b⟩:=key;let⟨F,h1,h2,h3⟩:=yY R E A l M N Q;refine⟨u::F,?_,by simp[h2],λj y z G O=>?_⟩
  .rw[gD];simp only[Sem.run_bind,H,Result.andThen_ok,h1,Sem.run_pure]
  .cases j with
   |zero=>simp at G O;subst G;subst O;exact b
   |succ j=>exact h3 j y z (ak G) (ak O)
def qg(R:Rel Z β h w){e:Env}{a:Act}{n:Nat}(E:iP Z β h w e a n){fn:Func}{l:List AR}(ok:nv P fn.results.toList l=true){v:AV}(i:oa ⟨e,h⟩ l=some v):
  ∃u,(results fn a.tmps).run P w = .ok u w/\VR β (Own Z β h) w v u:=by
 simp only[oa,aD]at i;let⟨vs,r,i⟩:=i;let⟨b,h1,h2,h3⟩:=yY R E _ _ _ ok r
 have o:(results fn a.tmps).run P w = .ok (if z:b.toArray.size=1 then b.toArray[0]else .tuple b.toArray) w:=by
  have q:results fn a.tmps=(do let vs<-fn.results.mapM (Mp a.tmps);pure (if h:vs.size=1 then vs[0]else .tuple vs)):=by
   unfold results
   congr 1
  rw[q,<-dy (xs:=fn.results),List.mapM_toArray];simp only[Sem.run_bind,Sem.run_map,h1,Result.andThen_ok,Sem.run_pure]
 refine⟨_,o,?_⟩;split at i
 .cases i
  match b,h2,h3 with
  | [u],_,h3=>exact h3 0 v u rfl rfl
 .rename_i y;cases i;have hl:b.length≠1:=by
   intro h1;rw[h1]at h2;let⟨x,hx⟩:=dP.1 h2;exact y x hx
  rw[dif_neg (ak hl)]
  exact .iV _ b h2 h3
def Bn(U:P.follows .mixedOrders=true)(A:js P Γ)(ok:okF P f F=true){args:List AV}(o:args.length<=F.nt){ρ:Type}{k:AX->St->Option ρ}{r:ρ}
  (O:eval Γ F.body (λi=>decide (h.length<=i)) ρ k ⟨iX args,h⟩=some r) {vs:List Value} (R:Rel Z β h w) (hl:args.length=vs.length) (z:∀(j:Nat)(y:AV)(u:Value),args[j]? = some y->vs[j]? = some u->VR β (Own Z β h) w y u)
  {Post:Ending->World->Prop} (hx:∀i s,k (.exit i) s=none) (T:∀s' v w' β',(k .normal s'=some r\/k .ret s'=some r)->Rel Z β' s'.h w'->Fr Z β h w β' s'.h w'->(∀x,oa s' F.res=some x->VR β' (Own Z β' s'.h) w' x v)->Post (.returned v) w')
  (hs:∀s',k .normal s'=some r\/k .ret s'=some r->(oa s' F.res).isSome=true)
  (Q:∀p s' w' β',k (.mD p) s'=some r->Rel Z β' s'.h w'->Fr Z β h w β' s'.h w'->Post (.panicked (US p)) w'):Calls P f vs.toArray w Post:=by
 unfold okF at ok;split at ok
 .rename_i fn X;split at ok
  .rename_i c Y;simp only[aC,decide_eq_true_eq,beq_iff_eq]at ok;let⟨⟨⟨S,b⟩,n⟩,G⟩:=ok
   have E:iP Z β h w (iX args) {tmps:=vs.toArray++Array.replicate (fn.ntmps-vs.toArray.size) undef,defers:=[]} F.nt:=by
    refine⟨aj,λt=>?_⟩
    unfold iX
    by_cases N:t<args.length
    .have h1:args[t]? = some args[t]:=aF N;have h2:vs[t]? = some (vs[t]'aa):=aF aa
     have:=z t _ _ h1 h2;rw[bK,h1];rw[aO,cT aj]
     simp only[bw,h2,cM];exact this
    .rw[bK,cS aa]
     exact .dead _
   refine calls_of_wp X Y (kR U A F.body c b O (W:=λ_=>true) (λ_ _=>rfl) R E λx s' a' w' β' hk K l E' L=>?_)
   have q:Fr Z β h w β' s'.h w':=⟨l.kJ,l.os,l.tape,l.output,λi v bd H=>l.ext i v bd (by
    simp only[decide_eq_false_iff_not];intro o;rw[R.fresh i v o]at H;cases H) H,l.stay⟩
   have fin:k .normal s'=some r\/k .ret s'=some r->∃u,(results fn a'.tmps).run P w' = .ok u w'/\Post (.returned u) w':=by
    intro M;let⟨v,z⟩:=cC.1 (hs s' M);let⟨u,h1,h2⟩:=qg K E' n z;exact⟨u,h1,T s' u w' β' M K q λx hx=>by rw[z]at hx;cases hx;exact h2⟩
   cases x with
   |exit id=>rw[hx]at hk;cases hk
   |normal=>exact⟨L.defers,fin (.inl hk)⟩
   |ret=>exact⟨L.defers,fin (.inr hk)⟩
   |mD p=>exact⟨L.defers,Q p s' w' β' hk K q⟩
  .cases ok
 .cases ok
def qU(ok:okF P f F=true):jH P f:=by
 unfold okF at ok;split at ok
 .rename_i fn b;split at ok
  .rename_i c i;simp only[aC,decide_eq_true_eq,beq_iff_eq]at ok;exact⟨fn,b,by rw[i];rfl,ak ok.2⟩
  .cases ok
 .cases ok
def oG(q:P.follows .mixedOrders=true)(l:js P Γ)(ok:okF P f F=true){args:List AV}{r:AV}{h':AH}(b:jU Γ F args h=some (r,h')):nC P f args h r h':=by
 refine⟨qU ok,λZ β w vs R hl o=>?_⟩
 unfold jU at b;split at b
 .rename_i n
  have go:∀ {s':St},(oa s' F.res).bind (λv=>some (v,s'.h))=some (r,h')->oa s' F.res=some r/\s'.h=h':=by
   intro s' i;simp only[aD]at i;let⟨v,h1,i⟩:=i;cases i;exact⟨h1,rfl⟩
  refine Bn q l ok n b R hl o (λ_ _=>rfl) (λs' v w' β' hk x y V=>?_) (λs' hk=>?_) (λp s' w' β' hk=>by cases hk)
  .obtain⟨h1,rfl⟩:=go (hk.elim id id);exact⟨v,β',rfl,x,y,V r h1⟩
  .rw[(go (hk.elim id id)).1];rfl
 .cases b
def Mf(z:P.follows .mixedOrders=true)(l:js P Γ)(ok:okF P f F=true){args:List AV}{r:AV⊕Pn}{h':AH}(b:lZ Γ F args h=some (r,h')):RY P f args h r h':=by
 refine⟨qU ok,λZ β w vs R hl y=>?_⟩
 unfold lZ at b;split at b
 .rename_i n
  have go:∀ {s':St},(oa s' F.res).bind (λv=>some (Sum.inl (β:=Pn) v,s'.h))=some (r,h')->∃v,oa s' F.res=some v/\r = .inl v/\s'.h=h':=by
   intro s' i;simp only[aD]at i;let⟨v,h1,i⟩:=i;cases i;exact⟨v,h1,rfl,rfl⟩
  refine Bn z l ok n b R hl y (λ_ _=>rfl) (λs' v w' β' hk o q V=>?_) (λs' hk=>?_) (λp s' w' β' hk o q=>?_)
  .obtain⟨x,h1,rfl,rfl⟩:=go (hk.elim id id);exact⟨β',o,q,v,rfl,V x h1⟩
  .let⟨x,h1,_⟩:=go (hk.elim id id);rw[h1];rfl
  .cases hk;exact⟨β',o,q,rfl⟩
 .cases b
def L8{args:List AV}(b:args.all AV.jE=true){r0 r:AV}{h1 h2:AH}(hs:nC P f args [] r0 h1)(l:lP h1 r0=some (r,h2))(h:AH):nC P f args h r h :=
 rT b ⟨hs.1,λZ β w vs R hl i=>(hs.2 Z β w vs R hl i).mono λe w' ⟨v,β',n,q,x,o⟩=>⟨v,β',r0,h1,h2,n,l,q,x,o⟩⟩ h
def Ep(q:P.follows .mixedOrders=true)(n:js P Γ)(ok:okF P f F=true){args:List AV}{r:AV}(l:args.all AV.jE=true)(i:qP Γ F args=some r)(h:AH):nC P f args h r h:=by
 unfold qP at i;simp only[aD]at i;let⟨⟨r0,h1⟩,b,⟨r',h2⟩,o,i⟩:=i;cases i;exact L8 l (oG q n ok b) o h
def IB:js P ⟨λ_ _=>none,λ_ _ _=>none,λ_ _ _=>none⟩:=⟨λ_ _ _ _ _ h=>by simp at h,λ_ _ _ _ _ h=>by simp at h,λ_ _ _ _ _ h=>by simp at h⟩
end
section
variable{P:Program}{Z:ay}{Γ:ja}{β:iW}{h:AH}{w:World}
def NP{f:FuncId}{F:AF}(ok:okF P f F=true){args:List AV}(r:args.length<=F.nt){n:Ending->World->Prop}(R:Rel Z β h w){vs:List Value}(hl:args.length=vs.length)
  (o:∀(j:Nat)(y:AV)(u:Value),args[j]? = some y->vs[j]? = some u->VR β (Own Z β h) w y u)
  (H:∀(c:Code)(fn:Func)(a:Act),ir P F.nt c F.body=true->nv P fn.results.toList F.res=true->iP Z β h w (iX args) a F.nt->a.defers=[]->c.wp P (bodyPost P fn n) a w):Calls P f vs.toArray w n:=by
 unfold okF at ok;split at ok
 .rename_i fn v;split at ok
  .rename_i c x;simp only[aC,decide_eq_true_eq,beq_iff_eq]at ok;let⟨⟨⟨z,b⟩,i⟩,l⟩:=ok
   have E:iP Z β h w (iX args) {tmps:=vs.toArray++Array.replicate (fn.ntmps-vs.toArray.size) undef,defers:=[]} F.nt:=by
    refine⟨aj,λt=>?_⟩
    unfold iX
    by_cases q:t<args.length
    .have h1:args[t]? = some args[t]:=aF q;have h2:vs[t]? = some (vs[t]'aa):=aF aa
     have:=o t _ _ h1 h2;rw[bK,h1];rw[aO,cT aj]
     simp only[bw,h2,cM];exact this
    .rw[bK,cS aa]
     exact .dead _
   exact calls_of_wp v x (H c fn _ b i E rfl)
  .cases ok
 .cases ok
def nM(sz bytes:Nat)(zero:AV):AF:=AF.mk 8 [.t 2] (.seq (.ops (.op (some 2) (.mv (.c (.en true []))) (.nil)))
 (.seq (.seq (.ops (.op (some 3) (.mv (.t 0)) (.op (some 4) (.xB .sl false (.t 3)) (.nil))))
 (.cond (.t 4) (.seq (.ops (.op (some 2) (.mv (.c (.en true []))) (.nil)))
 (.ret)) (.skip)))
 (.seq (.ops (.op (some 5) (.Pg sz zero 0 []) (.op (some 6) (.mv (.t 0)) (.op (some 7) (.app sz bytes (.t 5) (.t 6)) (.op (some 2) (.mv (.t 7)) (.nil))))))
 (.ret))))
def iL(sz bytes:Nat)(args:List AV)(h:AH):Option (AV×AH):=match args with
 | [a]=>(elems h a).bind λes=>if iU sz es=true/\0<sz/\es.length*bytes<=140737488355328/\es.length<=140737488355328 then some (.own h.length 0 0 es.length,h++[.row 0 sz es])else none
 |_=>none
def KR (hm:P.follows .mixedOrders=true) (G:js P Γ) {f:FuncId} {sz bytes:Nat} {zero:AV} (ok:okF P f (nM sz bytes zero)=true) {args:List AV} {r:AV} {h':AH} (L:iL sz bytes args h=some (r,h')):nC P f args h r h':=by
 unfold iL at L;split at L
 .rename_i a;simp only[aD]at L;obtain⟨es,l,L⟩:=L;split at L
  .rename_i X;cases L;obtain⟨hc1,Nz,hc3,hc4⟩:=X
   have N:append h sz bytes (.en true []) es=some (.own h.length 0 0 es.length,h++[.row 0 sz es]):=by
    simp only[append];rw[if_pos ⟨.inl trivial,by simp[iU],hc1,ak hc3,ak hc4⟩]
    simp
   by_cases M:es=[]
   .refine⟨qU ok, λZ β w vs R hl O => NP ok (by simp[nM]) R hl O λc fn act q hres E hd => ?_⟩
    subst M;have H:isNil .sl false a=some .th:=by
     cases a<;>simp only[elems]at l<;>first | (cases l;done) | skip
     .cases l;simp[isNil]
     .rename_i b v o n;have hn:n=0:=by
       split at l
       .split at l
        .rename_i X;simp only[aP]at l;have:=congrArg List.length l;simp at this;omega
        .cases l
       .split at l
        .rename_i X;simp only[aP]at l;have:=congrArg List.length l;simp at this;omega
        .cases l
       .cases l
      subst hn;simp[isNil]
    cases c<;>first | (cases q;done) | skip
    rename_i c1 c2;simp only[nM,ir,aC]at q;obtain⟨ZJ,q⟩:=q;cases c1<;>first | (cases ZJ;done) | skip
    cases c2<;>first | (cases q;done) | skip
    rename_i c2 c3;simp only[ir,aC]at q;obtain⟨q,DP⟩:=q;cases c2<;>first | (cases q;done) | skip
    rename_i c4 c5;simp only[ir,aC]at q;obtain⟨He,Lj⟩:=q;cases c4<;>first | (cases He;done) | skip
    cases c5<;>first | (cases Lj;done) | skip
    rename_i cc cx cy;simp only[ir,aC]at Lj;obtain⟨⟨qF,okx⟩,oky⟩:=Lj;have h0:iX [a] 0=a:=rfl;have iA:qX Γ (.op (some 2) (.mv (.c (.en true []))) .nil) ⟨iX [a],h⟩=some ⟨(iX [a]).put 2 (.en true []),h⟩:=rfl;generalize hs1:(⟨(iX [a]).put 2 (.en true []),h⟩:St)=s1 at iA
    have iB:qX Γ (.op (some 3) (.mv (.t 0)) (.op (some 4) (.xB .sl false (.t 3)) .nil)) s1=some ⟨(((iX [a]).put 2 (.en true [])).put 3 a).put 4 .th,h⟩:=by
     rw[<-hs1];show ((jv h (isNil .sl false a)).bind λr=>some (St.put ⟨((iX [a]).put 2 (.en true [])).put 3 a,r.2⟩ (some 4) r.1))=_
     rw[H];rfl
    refine wp_seq (Ij.wp hm (qR G ZJ iA (W:=λ_=>true) (λ_ _=>rfl) R E λa1 w1 β1 R1 F1 E1 K1=>?_))
    refine wp_seq (wp_seq (Ij.wp hm (qR G He iB (W:=λ_=>true) (λ_ _=>rfl) R1 E1 λa2 w2 β2 Y F2 E2 K2=>?_)))
    have aji:s1.h=h:=by rw[<-hs1]
    rw[aji]at F1 F2 R1;have Q:=gW Y.gl E2 qF;have S:∃b,a2.eval cc = .bool b:=by
     have:AO.get ((((iX [a]).put 2 (.en true [])).put 3 a).put 4 .th) (.t 4) = .th:=rfl;rw[this]at Q;generalize a2.eval cc=u at Q;cases Q with
     |pure _ _ hq=>cases hq
     |th b=>exact⟨b,rfl⟩
    obtain⟨b,S⟩:=S;have U:=F1.trans F2;have K12:=K1.trans K2;generalize hs2:(⟨(((iX [a]).put 2 (.en true [])).put 3 a).put 4 .th,h⟩:St)=F at Y F2 E2 U;have y:F.h=h:=by rw[<-hs2]
    refine wp_cond S ?_
    have fin:∀ {s3:St} {a3:Act} {z:World} {β3:iW} {r3:AV} {h3:AH},s3.e 2=r3->s3.h=h3->Rel Z β3 s3.h z->Ct (λi=>decide (h.length<=i)) Z β2 F.h w2 β3 s3.h z->iP Z β3 s3.h z s3.e a3 8->iM (λ_=>true) a2 a3->
      (∀u z β3,Rel Z β3 h3 z->Fr Z β h w β3 h3 z->VR β3 (Own Z β3 h3) z r3 u->∃v β',Ending.returned u = .returned v/\Rel Z β' (h++[.row 0 sz []]) z/\Fr Z β h w β' (h++[.row 0 sz []]) z/\VR β' (Own Z β' (h++[.row 0 sz []])) z (.own h.length 0 0 0) v)->
      bodyPost P fn (λe w'=>∃v β',e = .returned v/\Rel Z β' (h++[.row 0 sz []]) w'/\Fr Z β h w β' (h++[.row 0 sz []]) w'/\VR β' (Own Z β' (h++[.row 0 sz []])) w' (.own h.length 0 0 0) v) .ret a3 z:=by
     intro s3 a3 z β3 r3 h3 e2 eh K A E3 K3 hf;obtain⟨u,h1,h2⟩:=qg K E3 (v:=r3) hres (by simp[nM,pQ,e2])
     rw[eh]at K A h2;rw[y]at A
     have F4:Fr Z β2 h w2 β3 h3 z:=⟨A.kJ,A.os,A.tape,A.output,λi v bd hb=>A.ext i v bd (by
      simp only[decide_eq_false_iff_not];intro hle;rw[y]at Y;rw[Y.fresh i v hle]at hb;cases hb) hb,A.stay⟩
     rw[y]at U;exact⟨(K12.trans K3).defers.trans hd,u,h1,hf u z β3 K (U.trans F4) h2⟩
    cases b with
    |true =>
     rw[if_pos rfl]
     refine kR hm G _ _ okx (V:=λi=>decide (h.length<=i)) (ρ:=St) (k:=λx s=>match x with | .ret=>some s | _=>none)
      (s:=F) (r:=⟨F.e.put 2 (.en true []),F.h⟩) rfl (W:=λ_=>true) (λ_ _=>rfl) Y E2 λx s' a3 z β3 hk K A E3 K3=>?_
     cases x with
     |normal=>cases hk
     |exit=>cases hk
     |mD p=>cases hk
     |ret =>
      cases hk;refine fin (s3:=⟨F.e.put 2 (.en true []),F.h⟩) (r3:=.en true []) (h3:=h) rfl y K A E3 K3 λu z β3 K A O=>?_
      have O:=O.lS;obtain⟨ad,rfl⟩:∃ad,u = .slice ad 0 0:=by
       cases O with
       |en _ _ ad c _ _ _ _ hf _ _ _ _ _ _ =>
        have X:=hf rfl;simp only[aR]at X⊢;subst X;exact⟨ad,rfl⟩
      obtain⟨β4,R4,F4,V4,-⟩:=K.tF sz Nz;exact⟨_,β4,rfl,R4,A.trans F4,V4 ad⟩
    |false =>
     rw[if_neg ah]
     cases cy<;>first | (cases oky;done) | skip
     all_goals first | refine wp_skip ?_ | refine wp_label ?_
     all_goals
      have T:append F.h sz bytes (.en true []) []=some (.own h.length 0 0 0,h++[.row 0 sz []]):=by rw[y];exact N
      have ajx:elems F.h a=some []:=by rw[y];exact l
      have ha0:F.e 0=a:=by rw[<-hs2];rfl
      refine kR hm G _ _ DP (V:=λi=>decide (h.length<=i)) (ρ:=St) (k:=λx s=>match x with | .ret=>some s | _=>none)
       (s:=F) (r:=⟨(((F.e.put 5 (.en true [])).put 6 a).put 7 (.own h.length 0 0 0)).put 2 (.own h.length 0 0 0),h++[.row 0 sz []]⟩) ?_ (W:=λ_=>true) (λ_ _=>rfl) Y E2 λx s' a3 z β3 hk K A E3 K3=>?_
      .simp[ha0,B6 ajx,T]
      .cases x with
       |normal=>cases hk
       |exit=>cases hk
       |mD p=>cases hk
       |ret =>
        cases hk;exact fin (r3:=.own h.length 0 0 0) (h3:=h++[.row 0 sz []]) rfl rfl K A E3 K3 λu z β3 K A O=>⟨u,β3,rfl,K,A,O⟩
   .refine oG hm G ok ?_
    have H:isNil .sl false a=some (.bool false):=by
     cases a<;>simp only[elems]at l<;>first | (cases l;done) | skip
     .cases l;simp[isNil,M]
     .rename_i b v o n;have hn:n≠0:=by
       rintro rfl
       split at l
       .split at l
        .simp only[gH,aP]at l;exact M l.symm
        .cases l
       .split at l
        .simp only[gH,aP]at l;exact M l.symm
        .cases l
       .cases l
      simp[isNil,hn]
    have h0:iX [a] 0=a:=rfl;simp[jU,nM,H,B6 l,N]
  .cases L
 .cases L
end
section
variable{P:Program}{Z:ay}{Γ:ja}{xs:List AI}{w:World}
def PW{l m:Nat}{row:String}{args:Array Value}{R:Value->World->Prop}(h:Rows P row args w R):RowsIn (Fence.wide.inRound l) m P row args w R:=by
 intro c cs _;let⟨v,w',r,s⟩:=h c cs;exact⟨v,w',r,stepsIn_wide.2 s⟩
def CQ{l m:Nat}{o:Oper}(b:∀c,o.op≠.defer c){a:Act}{next:Act->World->Prop}{Q:Exit->Act->World->Prop}(h:o.wp P a w next Q):o.wpIn (Fence.wide.inRound l) m P a w next Q:=by
 refine⟨λ_ _=>trivial,?_⟩
 have e:o.semAt (Fence.wide.inRound l).round a.eval=execOp a.eval o:=Oper.semAt_some l _ _ b;rw[e];unfold Oper.wp at h;generalize(execOp a.eval o).run P w=r at h;unfold Oper.upon at h;unfold Oper.uponIn;split at h
 .exact h
 .exact h
 .exact h
 .exact⟨λh=>by simp[Fence.wide,Fence.inRound]at h,CallsIn.inRound l (callsIn_wide.2 h)⟩
 .exact⟨λh=>by simp[Fence.wide,Fence.inRound]at h,PW h⟩
 .exact h
 .exact h.elim
def vp{o:Oper}{a:Act}{K b:Act->World->Prop}{Q:Exit->Act->World->Prop}(h:o.wp P a w K Q)(hk:∀a w,K a w->b a w):o.wp P a w b Q:=Oper.wp_mono hk h
def I3{l m:Nat}{ops:Array Oper}{Q:Exit->Act->World->Prop}(q:¬LetsOut Q):∀(os:List Oper)(_:∀o∈os,∀c,o.op≠.defer c)(a:Act)(w:World),wpList P ops Q os a w->wpListIn (Fence.wide.inRound l) m P ops Q os a w
 | [],_,a,w,h=>h
 |o::os,n,a,w,h=>by
  have i:=I3 (l:=l) (m:=m) (ops:=ops) q os (λx hx=>n x (by simp[hx]))
  unfold wpList at h;unfold wpListIn;split at h
  .rename_i b;rw[if_pos b]
   rcases h with h | ⟨_,h⟩
   .exact CQ (n o ah) (vp h i)
   .exact absurd h q
  .rename_i b;rw[if_neg b];exact⟨λ_ _=>trivial,i _ _ h⟩
def DL{l m:Nat}{ops:Array Oper}{Q:Exit->Act->World->Prop}(r:∀o∈ops.toList,∀c,o.op≠.defer c)(v:¬LetsOut Q):∀(b:Nat)(S:Array Bool)(a:Act)(w:World),wpAny P .any ops Q b S a w->wpAnyIn (Fence.wide.inRound l) m P .any ops Q b S a w
 |0,S,a,w,h=>h
 |n+1,S,a,w,h=>by
  refine⟨h.1,λi y=>?_⟩
  have h2:=h.2 i y;unfold wpOp at h2;unfold wpOpIn;cases q:ops[i]? with
  |none=>rw[q]at h2;exact DL r v n _ a w h2
  |some o =>
   rw[q]at h2;simp only at h2⊢;split at h2
   .rename_i x;rw[if_pos x]
    rcases h2 with h2 | ⟨_,h2⟩
    .exact CQ (r o (by
      rw[aH]at q;let⟨h1,h2⟩:=q;rw[<-h2];simp)) (vp h2 λa w=>DL r v n _ a w)
    .exact absurd h2 v
   .rename_i x;rw[if_neg x];exact⟨λ_ _=>trivial,DL r v n _ _ w h2⟩
def Dn{lr m0:Nat}(F:P.follows .mixedOrders=true)(v:js P Γ){n:Nat}(q:AC)(c:Code)(ok:ir P n c q=true)(nd:C3 c=true){V:aA}{ρ:Type}{k:AX->St->Option ρ}{s:St}{r:ρ}(G:eval Γ q V ρ k s=some r)
  {W:aA} (H:∀t∈rD q,W t=true) {β:iW} {a:Act} {w:World} (R:Rel Z β s.h w) (E:iP Z β s.h w s.e a n) {Q:Exit->Act->World->Prop}
  (K:∀x s' y w' β',k x s'=some r->Rel Z β' s'.h w'->Ct V Z β s.h w β' s'.h w'->iP Z β' s'.h w' s'.e y n->iM W a y->Q x.exit' y w'):c.wpIn (Fence.wide.inRound lr) m0 P Q a w :=
 jR (b:=false) (λ{_ ops l _ _ _} nd z h=>by
  have i:∀o∈ops.toList,∀c,o.op≠.defer c:=λo A=>EO (aJ.1 nd o A)
  cases l with
  |true=>exact wpIn_region_any F (DL i z _ _ _ _ h)
  |false=>exact wpIn_region_list (I3 z ops.toList i _ _ h)) v q c ok nd G H R E K
end
section
variable{P:Program}{Z:ay}{Γ:ja}{β:iW}{h:AH}{w:World}
end
open Go.Tr
attribute [local simp] Go.Am.mN Go.Am.sI Go.Am.sJ Go.Am.sK Go.Am.sL Go.Am.sg Go.Am.si Go.Am.sj Go.Am.su Go.Am.sM Go.Am.sN Go.Am.oR Go.Am.oQ Go.Am.oT Go.Am.oS Go.Am.ko Go.Am.jx
variable{X:AH}{Γ:ja}{n L z:Nat}
def vh{cs:List AV}(h:cs.length=n):Am.shape n true cs=some (.agg cs):=by
 subst h;exact Bk cs
def yd(n:Nat):AV->Bool
 | .own b _ _ _=>decide (b<n)
 | .ptr b _ _ _=>decide (b<n)
 | .kZ b=>decide (b<n)
 | .undef=>true
 | .fn _ a c=>(a++c).all λx=>x.jE||match x with | .ptr b _ _ _=>decide (b<n) | .kZ b=>decide (b<n) | _=>false
 |v=>v.jD
def Ax(n:Nat):AB->Bool
 | .var cs=>cs.all (yd n)
 | .mp _ es=>es.all λp=>p.2.Ko||yd n p.2
 |_=>true
def tT(X:AH):Prop:=X.all (Ax X.length)=true
def ER{R:au}(E:n<=L)(A:∀r∈R,n<=r)(h0:AH){c:AV}(y:yd n c=true):jV L R h0 c=c:=by
 have l:∀b,b<n->R.contains b=false:=λb q=>by
  cases z:R.contains b with
  |false=>rfl
  |true =>
   have:=A b (ak z)
   omega
 cases c with
 |own b v o k =>
  have q:b<n:=by simpa[yd]using y
  simp only[jV,l b q,if_pos (show b<L by omega)]
  rfl
 |ptr b v i o =>
  have q:b<n:=by simpa[yd]using y
  simp only[jV,l b q];rw[if_pos ⟨aa,ah⟩]
 |kZ b =>
  have q:b<n:=by simpa[yd]using y
  simp only[jV,l b q];rw[if_pos ⟨aa,ah⟩]
 |undef=>rfl
 |fn f a c =>
  simp only[jV];rw[if_pos];simp only[yd,aJ]at y⊢;intro x hx;have:=y x hx;rw[bP]at this⊢
  rcases this with h | h
  .exact .inl h
  .right;cases x<;>simp_all
   .omega
   .omega
 |_=>simp_all[yd,jV,AV.jD]
def MT{R:au}(o:n<=L)(l:∀r∈R,n<=r)(h0:AH){c:AV}(b:(c.Ko||yd n c)=true):jX L R h0 c=c:=by
 cases h:c.Ko with
 |true=>exact IZ h
 |false =>
  rw[h,fV]at b;have i:=ER o l h0 b;unfold jX;split
  .rfl
  .cases c<;>first | exact i | (simp[yd,AV.jD]at b;done)
def zw{n L:Nat}{R:au}(z:n<=L)(y:∀r∈R,n<=r)(h0:AH):∀(h:AH)(i:Nat),h.all (Ax n)=true->i+h.length<=n->iQ L R h0 i h=h
 | [],_,_,_=>rfl
 |b::h,i,o,F=>by
  simp only[cm,aC]at o;simp only[aK]at F;simp only[iQ,zw z y h0 h (i+1) o.2 aa]
  have A:R.contains i=false:=by
   cases E:R.contains i with
   |false=>rfl
   |true =>
    have:=y i (ak E)
    omega
  congr 1
  cases b with
  |gone=>rfl
  |var cs =>
   simp only[mc,AB.var.injEq];have l:cs.all (yd n)=true:=o.1;rw[aJ]at l
   conv=>rhs;rw[<-fu cs]
   exact dZ λx hx=>ER z y h0 (l x hx)
  |row v sz es=>simp only[mc,A];rfl
  |lu v sz es=>simp only[mc,A];rfl
  |mp q es =>
   simp only[mc,AB.mp.injEq,true_and];have l:(es.all λp=>p.2.Ko||yd n p.2)=true:=o.1
   rw[aJ]at l
   conv=>rhs;rw[<-fu es]
   refine dZ λx hx=>?_
   rw[MT z y h0 (l x hx)];rfl
def tT.same(b:tT X)(h0:AH):iQ X.length [] h0 0 X=X:=zw (aT _) ah h0 X 0 b aa
def tT.tail(l:tT X){R:au}(o:X.length<=L)(n:∀r∈R,X.length<=r)(h0 Y:AH):iQ L R h0 0 (X++Y)=X++iQ L R h0 X.length Y:=by
 have app:∀(a b:AH)(i:Nat),iQ L R h0 i (a++b)=iQ L R h0 i a++iQ L R h0 (i+a.length) b:=by
  intro a b
  induction a with
  |nil=>intro i;simp[iQ]
  |cons x a h =>
   intro i;simp only[aM,iQ,h,aK];rw[show i+1+a.length=i+(a.length+1)from by omega]
 rw[app,zw o n h0 X 0 l aa,b8]
def kS(h:X.all gX=true):tT X:=by
 unfold tT;rw[aJ]at h⊢;intro b n;have:=h b n;cases b with
 |var cs =>
  simp only[gX,Ax,aJ]at this⊢;intro c l;have:=this c l;cases c<;>simp_all[yd,AV.jD]
 |mp q es =>
  simp only[gX,Ax,aJ]at this⊢;exact λp i=>by rw[this p i];rfl
 |_=>exact this
def Rd{α:Type}(X:AH)(z:Nat)(sv:AV)(cs:α->List AV)(l:List α):Prop :=
 yR false sv=some l.length/\∀k (h:k<l.length),∃p,Pt z sv (.int .i64 (k:Int)) X=some (p,X)/\iC X p=some (cs l[k])
def CN{α:Type}(X:AH){cs:α->List AV}(b:∀x,(cs x).length=z)(l:List α)(f:Bool):Rd X z (.en f (l.map λx=>.agg (cs x))) cs l:=by
 refine⟨an,λk h=>⟨.iw (cs l[k]),?_,rfl⟩⟩
 simp(disch:=omega)[h,b]
def bIx(z:Nat):AC:=.seq (.ops (.op (some 9) (.bin .lss (.t 8) (.t 7)) (.nil)))
 (.seq (.cond (.t 9) (.skip) (.exit 0))
 (.seq (.block 1 (.seq (.ops (.op (some 10) (.mv (.t 8)) (.op (some 5) (.mv (.t 10)) (.nil))))
 (.seq (.ops (.op (some 11) (.mv (.t 1)) (.op (some 12) (.mv (.t 0)) (.op (some 13) (.mv (.t 5)) (.op (some 14) (.DS z (.t 12) (.t 13)) (.op (some 15) (.load z true (.t 14)) (.op (some 16) (.jS (.t 11) [(.t 15)]) (.nil))))))))
 (.cond (.t 16) (.seq (.ops (.op (some 17) (.mv (.t 5)) (.op (some 4) (.mv (.t 17)) (.nil))))
 (.ret)) (.skip)))))
 (.ops (.op (some 18) (.bin .add (.t 8) (.c (.int .i64 1))) (.op (some 8) (.mv (.t 18)) (.nil))))))
def dIx(z:Nat):AC:=bIx z
@[simp]theorem eIx{V:aA}{ρ:Type}(z:Nat)(k:AX->St->Option ρ)(s:St):eval Γ (dIx z) V ρ k s=eval Γ (bIx z) V ρ k s:=rfl
def cIx(z:Nat):AF:=AF.mk 19 [.t 4] (.seq (.ops (.op (some 4) (.mv (.c (.int .i64 0))) (.nil)))
 (.seq (.seq (.ops (.op (some 6) (.mv (.t 0)) (.op (some 7) (.len false (.t 6)) (.op (some 8) (.mv (.c (.int .i64 0))) (.nil)))))
 (.block 0 (.loop [8] [(4,5),(8,18)] [] [(.exit 0,[]),(.ret,[4])] (dIx z))))
 (.seq (.ops (.op (some 4) (.mv (.c (.int .i64 (-1)))) (.nil)))
 (.ret))))
def DR{α:Type}(l:List α)(q:α->Bool):Int:=(l.find? q).elim (-1) λ_=>((l.findIdx q:Nat):Int)
def C9{α:Type}(l:List α)(q:α->Bool): -1<=DR l q/\DR l q<l.length/\(0<=DR l q↔l.any q=true):=by
 unfold DR;cases b:l.find? q with
 |none =>
  refine⟨ah,by simp only[dI];omega,?_⟩
  rw[ct];simp only[dI]
  constructor
  .omega
  .rintro⟨x,hx,i⟩
   exact absurd i (cv.1 b x hx)
 |some y =>
  have h:l.findIdx q<l.length:=dX ⟨y,bN b,cW b⟩;refine⟨ah,ak h,?_⟩
  rw[ct];simp only[cG];exact⟨λ_=>⟨y,bN b,cW b⟩,λ_=>aa⟩
def ixG{α:Type}{cs:α->List AV}(S:∀x,(cs x).length=z){l:List α}(hl:l.length<=1000000000000){sv:AV}(G:tT X)(N:Rd X z sv cs l)(g:FuncId)(first cap:List AV)(q:α->Bool)
  (hg:∀x∈l,∃Z,Z.all gX=true/\rF Γ g (first ++ .agg (cs x)::cap) X=some (.bool (q x),X++Z)):∃Z,Z.all gX=true/\jU Γ (cIx z) [sv,.fn (.func g) first cap] X=some (.int .i64 (DR l q),X++Z):=by
 have h:∀e0:Env,e0 0=sv->e0 7 = .int .i64 l.length->e0 1 = .fn (.func g) first cap->
   ∃y,(∃Z,Z.all gX=true/\y=(l.find? q).elim (AX.exit 0,[],X) λ_=>(.ret,[.int .i64 (l.findIdx q:Nat)],X++Z))/\iter (round Γ [8] [(.exit 0,[]),(.ret,[4])] (dIx z) e0 X.length []) ([.int .i64 0],X)=some y:=λe0 h0 M h1 =>
  ji (f := round Γ [8] [(.exit 0, []), (.ret, [4])] (dIx z) e0 X.length []) l.length (λi (_ : Unit) => ([.int .i64 (i : Int)], X)) (λy => ∃ Z, Z.all gX = true /\ y = (l.find? q).elim (AX.exit 0, [], X) λ_ => (.ret, [.int .i64 (l.findIdx q : Nat)], X ++ Z)) (λi _ => ∀ j (h : j < l.length), j < i -> q l[j] = false)
   (λk _ hk H=>by
    let⟨Z,L,h⟩:=hg _ (aU hk);let⟨p,O,Q⟩:=N.2 k hk;have v:=vh (S l[k]);have K:=fG (l₁:=X) (l₂:=Z) rfl;cases F:q l[k]with
    |true =>
     have E:l.findIdx q=k:=(List.findIdx_eq hk).2 ⟨F,λj r=>H j aa r⟩
     have n:l.find? q=some l[k]:=by rw[<-nL,E,aF hk]
     refine .inr ⟨_,⟨Z,L,rfl⟩,?_⟩;rw[n,E];rw[F]at h;generalize l[k]=y at *
     simp(disch:=omega)[round_eq,bIx,h0,M,h1,hk,O,Q,v,h]
    |false =>
     refine .inl ⟨(),λj r T=>?_,?_⟩
     .by_cases A:j=k
      .subst A;exact F
      .exact H j r aa
     .rw[F]at h;generalize l[k]=y at *
      simp(disch:=omega)[round_eq,bIx,h0,M,h1,hk,O,Q,v,h,K,G.tail,G.same])
   (λ_ H=>by
    have n:l.find? q=none:=cv.2 λx hx=>by
     obtain⟨j,r,rfl⟩:=bn.1 hx;rw[H j r r];simp
    exact⟨_,⟨[],rfl,rfl⟩,by rw[n];simp(disch:=omega)[round_eq,bIx,h0,M,h1,G.same]⟩) (bp _) () (λ_ _ h=>aa)
 have hs:=N.1;generalize b:jU Γ (cIx z) _ _=res;rw[b6]at b;simp(disch:=omega)[-yR,cIx,hs,G.same]at b;generalize hx:iter _ _=o at b;obtain⟨_,⟨Z,L,rfl⟩,rfl⟩:∃y,_/\o=some y:=by rw[<-hx];exact h _ an an an
 unfold DR;cases P:l.find? q with
 |none =>
  rw[P]at b;simp(disch:=omega)at b;exact⟨[],rfl,by rw[<-b,b9];rfl⟩
 |some y =>
  rw[P]at b;simp(disch:=omega)at b;exact⟨Z,L,b.symm⟩
def cCf(k:FuncId):AF:=AF.mk 9 [.t 4] (.seq (.ops (.op (some 4) (.mv (.c (.bool false))) (.nil)))
 (.seq (.ops (.op (some 5) (.mv (.t 0)) (.op (some 6) (.mv (.t 1)) (.op (some 7) (.call k [(.t 5),(.t 6)]) (.op (some 8) (.bin .geq (.t 7) (.c (.int .i64 0))) (.op (some 4) (.mv (.t 8)) (.nil)))))))
 (.ret)))
def cfG{α:Type}{l:List α}{q:α->Bool}{k:FuncId}{sv o:AV}{X':AH}(h:rF Γ k [sv,o] X=some (.int .i64 (DR l q),X')):jU Γ (cCf k) [sv,o] X=some (.bool (l.any q),X'):=by
 rw[b6];let⟨_,_,n⟩:=C9 l q;generalize DR l q=i at *
 by_cases c:0<=i
 .have b:=n.1 c;simp(disch:=omega)[cCf,h,c,b]
 .have b:l.any q=false:=by simpa using λh=>c (n.2 h)
  simp(disch:=omega)[cCf,h,c,b]
def bBs(z:Nat):AC:=.seq (.seq (.ops (.op (some 15) (.mv (.t 9)) (.op (some 16) (.mv (.t 10)) (.op (some 17) (.bin .lss (.t 15) (.t 16)) (.nil)))))
 (.cond (.t 17) (.skip) (.exit 0)))
 (.block 1 (.seq (.ops (.op (some 18) (.mv (.t 9)) (.op (some 19) (.mv (.t 10)) (.op (some 20) (.bin .add (.t 18) (.t 19)) (.op (some 21) (.conv .u64 (.t 20)) (.op (some 22) (.bin .shr (.t 21) (.c (.int .u64 1))) (.op (some 23) (.conv .i64 (.t 22)) (.op (some 11) (.mv (.t 23)) (.nil)))))))))
 (.seq (.ops (.op (some 24) (.mv (.t 2)) (.op (some 25) (.mv (.t 0)) (.op (some 26) (.mv (.t 11)) (.op (some 27) (.DS z (.t 25) (.t 26)) (.op (some 28) (.load z true (.t 27)) (.op (some 29) (.mv (.t 1)) (.op (some 30) (.jS (.t 24) [(.t 28),(.t 29)]) (.op (some 31) (.bin .lss (.t 30) (.c (.int .i64 0))) (.nil))))))))))
 (.cond (.t 31) (.ops (.op (some 32) (.mv (.t 11)) (.op (some 33) (.bin .add (.t 32) (.c (.int .i64 1))) (.op (some 9) (.mv (.t 33)) (.nil))))) (.ops (.op (some 34) (.mv (.t 11)) (.op (some 10) (.mv (.t 34)) (.nil))))))))
def dBs(z:Nat):AC:=bBs z
@[simp]theorem eBs{V:aA}{ρ:Type}(z:Nat)(k:AX->St->Option ρ)(s:St):eval Γ (dBs z) V ρ k s=eval Γ (bBs z) V ρ k s:=rfl
def cBs(z:Nat):AF:=AF.mk 49 [.t 6,.t 7] (.seq (.ops (.op (some 6) (.mv (.c (.int .i64 0))) (.op (some 7) (.mv (.c (.bool false))) (.nil))))
 (.seq (.ops (.op (some 12) (.mv (.t 0)) (.op (some 13) (.len false (.t 12)) (.op (some 8) (.mv (.t 13)) (.nil)))))
 (.seq (.ops (.op (some 14) (.mv (.t 8)) (.op (some 9) (.mv (.c (.int .i64 0))) (.op (some 10) (.mv (.t 14)) (.nil)))))
 (.seq (.block 0 (.loop [9,10] [(9,11),(15,34)] [] [(.exit 0,[9])] (dBs z)))
 (.seq (.ops (.op (some 35) (.mv (.t 9)) (.op (some 36) (.mv (.t 9)) (.op (some 37) (.mv (.t 8)) (.op (some 38) (.bin .lss (.t 36) (.t 37)) (.op (some 39) (.mv (.t 38)) (.sc 48 true 39 40 47 (.op (some 40) (.mv (.t 2)) (.op (some 41) (.mv (.t 0)) (.op (some 42) (.mv (.t 9)) (.op (some 43) (.DS z (.t 41) (.t 42)) (.op (some 44) (.load z true (.t 43)) (.op (some 45) (.mv (.t 1)) (.op (some 46) (.jS (.t 40) [(.t 44),(.t 45)]) (.op (some 47) (.bin .eql (.t 46) (.c (.int .i64 0))) (.nil))))))))) (.t 47) (.op (some 6) (.mv (.t 35)) (.op (some 7) (.mv (.t 48)) (.nil))))))))))
 (.ret))))))
def bsG{α:Type}{cs:α->List AV}(M:∀x,(cs x).length=z){l:List α}(hl:l.length<=1000000){sv:AV}(F:tT X)(G:Rd X z sv cs l)(kv:AV)(g:FuncId)(first cap:List AV)(c:α->Int)
  (N:∀i j (h:j<l.length) (_:i<j),c l[j]<0->c l[i]<0) (hg:∀x∈l,rF Γ g (first ++ .agg (cs x)::kv::cap) X=some (.int .i64 (c x),X)) :
  jU Γ (cBs z) [sv,kv,.fn (.func g) first cap] X=some (.iV [.int .i64 (jZ (λx=>decide (c x<0)) l:Nat),.bool ((l[jZ (λx=>decide (c x<0)) l]?).elim false λx=>decide (c x=0))],X):=by
 have O:=λ{i} h=>sX (p:=λx=>decide (c x<0)) (l:=l) (λi j h K y=>by simpa using N i j h K (ak y)) (i:=i) h
 have E:=lB (λx=>decide (c x<0)) l
 generalize jZ (λx=>decide (c x<0)) l=u at *
 have h:∀e0:Env,e0 0=sv->e0 1=kv->e0 2 = .fn (.func g) first cap->
   iter (round Γ [9,10] [(.exit 0,[9])] (dBs z) e0 X.length []) ([.int .i64 0,.int .i64 l.length],X)=some (.exit 0,[.int .i64 (u:Nat)],X):=λe0 h0 h1 h2 =>
  vF (f:=round Γ [9,10] [(.exit 0,[9])] (dBs z) e0 X.length []) (λi j=>([.int .i64 (i:Int),.int .i64 (j:Int)],X)) l.length u E (λc=>(.exit 0,[.int .i64 (c:Int)],X))
   (λa j P Q=>by
    have L:=Jf (i:=a) (j:=j);obtain⟨m,H⟩:∃m,m=(a+j) / 2:=⟨_,rfl⟩;rw[<-H]at L⊢;have q:m<l.length:=aa
    have r:=O q;have h:=hg _ (aU q);let⟨p,y,o⟩:=G.2 m q;have b:=vh (M l[m]);generalize l[m]=x at *
    rw[decide_eq_true_eq]at r
    by_cases n:m<u
    .have v:=r.1 n;simp(disch:=omega)[round_eq,bBs,h0,h1,h2,wrap_u64,L,y,o,b,h,n,v,F.same]
    .have v:¬c x<0:=λh'=>n (r.2 h')
     simp(disch:=omega)[round_eq,bBs,h0,h1,h2,wrap_u64,L,y,o,b,h,n,v,F.same])
   (λa S=>by simp(disch:=omega)[round_eq,bBs,F.same]) _ 0 l.length rfl (bp _) E (aT _)
 have hs:=G.1;rw[b6];simp(disch:=omega)[-yR,cBs,hs,F.same];rw[h _ an an an]
 by_cases A:u<l.length
 .have h:=hg _ (aU A);let⟨p,y,o⟩:=G.2 u A;have b:=vh (M l[u]);rw[aF A];generalize l[u]=x at *
  simp(disch:=omega)[A,y,o,b,h]
 .rw[cS aa]
  simp(disch:=omega)[A]
def bEq(z:Nat)(agg:Bool)(o:j5):AC:=.seq (.ops (.op (some 14) (.bin .lss (.t 13) (.t 12)) (.nil)))
 (.seq (.cond (.t 14) (.skip) (.exit 0))
 (.seq (.block 1 (.seq (.ops (.op (some 15) (.mv (.t 13)) (.op (some 5) (.mv (.t 15)) (.nil))))
 (.seq (.ops (.op (some 16) (.mv (.t 0)) (.op (some 17) (.mv (.t 5)) (.op (some 18) (.DS z (.t 16) (.t 17)) (.op (some 19) (.load z agg (.t 18)) (.op (some 20) (.mv (.t 1)) (.op (some 21) (.mv (.t 5)) (.op (some 22) (.DS z (.t 20) (.t 21)) (.op (some 23) (.load z agg (.t 22)) (.op (some 24) o (.nil)))))))))))
 (.cond (.t 24) (.seq (.ops (.op (some 4) (.mv (.c (.bool false))) (.nil)))
 (.ret)) (.skip)))))
 (.ops (.op (some 25) (.bin .add (.t 13) (.c (.int .i64 1))) (.op (some 13) (.mv (.t 25)) (.nil))))))
def dEq(z:Nat)(agg:Bool)(o:j5):AC:=bEq z agg o
@[simp]theorem eEq{V:aA}{ρ:Type}(z:Nat)(agg:Bool)(o:j5)(k:AX->St->Option ρ)(s:St):eval Γ (dEq z agg o) V ρ k s=eval Γ (bEq z agg o) V ρ k s:=rfl
attribute [local simp] Go.Am.mN Go.Am.sI Go.Am.sJ Go.Am.sK Go.Am.sL Go.Am.sg Go.Am.si Go.Am.sj Go.Am.su Go.Am.sM Go.Am.sN Go.Am.oR Go.Am.oQ Go.Am.oT Go.Am.oS Go.Am.ko Go.Am.jx
def bSf(z bytes:Nat)(zero:List AV):AC:=.seq (.ops (.op (some 11) (.bin .lss (.t 10) (.t 9)) (.nil)))
 (.seq (.cond (.t 11) (.skip) (.exit 0))
 (.seq (.block 1 (.seq (.ops (.op (some 12) (.DS z (.t 8) (.t 10)) (.op (some 13) (.load z true (.t 12)) (.op (some 7) (.alloc zero) (.op none (.store z (.t 7) (.t 13)) (.nil))))))
 (.seq (.ops (.op (some 14) (.mv (.t 1)) (.op (some 15) (.load z true (.t 7)) (.op (some 16) (.jS (.t 14) [(.t 15)]) (.nil)))))
 (.cond (.t 16) (.ops (.op (some 17) (.mv (.t 5)) (.op (some 18) (.load z true (.t 7)) (.op (some 19) (.DD z (.agg zero) 1 [(0,(.t 18))]) (.op (some 20) (.app z bytes (.t 17) (.t 19)) (.op (some 5) (.mv (.t 20)) (.nil))))))) (.skip)))))
 (.ops (.op (some 21) (.bin .add (.t 10) (.c (.int .i64 1))) (.op (some 10) (.mv (.t 21)) (.nil))))))
def dSf(z bytes:Nat)(zero:List AV):AC:=bSf z bytes zero
variable{X:AH}{Γ:ja}{z n:Nat}
@[simp]theorem eSf{V:aA}{ρ:Type}(z bytes:Nat)(zero:List AV)(k:AX->St->Option ρ)(s:St):eval Γ (dSf z bytes zero) V ρ k s=eval Γ (bSf z bytes zero) V ρ k s:=rfl
def cSf(z bytes:Nat)(zero:List AV):AF:=AF.mk 23 [.t 4] (.seq (.ops (.op (some 4) (.mv (.c (.en false []))) (.nil)))
 (.seq (.ops (.op (some 5) (.mv (.c (.en true []))) (.nil)))
 (.seq (.seq (.ops (.op (some 8) (.mv (.t 0)) (.op (some 9) (.len false (.t 8)) (.op (some 10) (.mv (.c (.int .i64 0))) (.nil)))))
 (.block 0 (.loop [5,10] [(5,5),(7,7),(10,21)] [(5,z)] [(.exit 0,[5])] (dSf z bytes zero))))
 (.seq (.ops (.op (some 22) (.mv (.t 5)) (.op (some 4) (.mv (.t 22)) (.nil))))
 (.ret)))))
def yq{cs:List AV}(h:cs.all AV.jD=true):cs.all AV.qF=true:=by
 rw[aJ]at h⊢;exact λx hx=>nI (h x hx)
def zk{α:Type}{a b:List α}(h:b.length=a.length):over a 0 b=b:=by
 unfold over;rw[gH,aN,dO aa,b9]
def Su{α:Type}{bytes:Nat}{zero:List AV}{cs:α->List AV}(hb:bytes<=1000)(hz:∀x,(cs x).length=z)(hS:∀x,(cs x).all AV.jD=true)(h0:zero.length=z)(S:zero.all AV.jD=true){l:List α}(hl:l.length<=1000000)(f:Bool)(K:AH->Prop)(hK:K X)(M:∀F,K F->tT F/\F.length=X.length)(g:FuncId)(first cap:List AV)(q:α->Bool)
  (hfn:j8 [X.length] (.fn (.func g) first cap) = .fn (.func g) first cap) (hg:∀x∈l,∀F,K F->∀Y,∃n,K n/\rF Γ g (first ++ .agg (cs x)::cap) (F++Y)=some (.bool (q x),n++Y)) :
  ∃n,K n/\jU Γ (cSf z bytes zero) [.en f (l.map λx=>.agg (cs x)),.fn (.func g) first cap] X=some (.own X.length 0 0 (l.filter q).length,n++[.row 0 z ((l.filter q).map λx=>.agg (cs x))]):=by
 have h:∀e0:Env,e0 8 = .en f (l.map λx=>.agg (cs x))->e0 9 = .int .i64 l.length->e0 1 = .fn (.func g) first cap->
   ∃y,(∃n,K n/\y=(AX.exit 0,[AV.own X.length 0 0 (l.filter q).length],n++[.row 0 z ((l.filter q).map λx=>.agg (cs x))]))/\
   iter (round Γ [5,10] [(.exit 0,[5])] (dSf z bytes zero) e0 (X.length+1) [X.length]) ([.own X.length 0 0 0,.int .i64 0],X++[.row 0 z []])=some y:=λe0 h8 h9 h1 =>
  ji (f:=round Γ [5,10] [(.exit 0,[5])] (dSf z bytes zero) e0 (X.length+1) [X.length]) l.length (λi (a:AH×List α)=>([.own X.length 0 0 a.2.length,.int .i64 (i:Int)],a.1++[.row 0 z (a.2.map λx=>.agg (cs x))])) (λy=>∃n,K n/\y=(AX.exit 0,[AV.own X.length 0 0 (l.filter q).length],n++[.row 0 z ((l.filter q).map λx=>.agg (cs x))])) (λi a=>K a.1/\a.2=(l.take i).filter q)
   (λi a hi G=>by
    let⟨F,a⟩:=a;let⟨E,G⟩:=G;simp only at E G;let⟨hX,A⟩:=M F E;have O:=λh0 Y=>hX.tail (L:=X.length+1) (R:=[X.length]) aa (by simp[A]) h0 Y
    have r:=jq F;rw[A]at O r;have h:=hg _ (aU hi) F E;obtain⟨x,hx⟩:∃x,x=l[i]:=⟨_,rfl⟩;rw[<-hx]at h;let⟨n,N,h⟩:=h [.row 0 z (a.map λx=>.agg (cs x)),.var (cs x)]
    let⟨hX2,b⟩:=M n N;have P:=λh0 Y=>hX2.tail (L:=X.length+1) (R:=[X.length]) aa (by simp[b]) h0 Y
    have H:=jq n;rw[b]at P H;have U:(l.take (i+1)).filter q=a++[x].filter q:=by rw[G,hx,bu hi,cV]
    have hal:a.length<=i:=by rw[G];exact bQ (bG _ _) (by rw[bI];omega)
    have W:=vh (hz x);have T:=hz x;have Q:=hS x;have hOx:=yq Q;have Z:=zk (show (cs x).length=zero.length by rw[hz,h0])
    have h0O:=yq S;left;refine⟨(n,a++[x].filter q),⟨N,U.symm⟩,?_⟩;have hbb:(a.length+1)*bytes<=140737488355328:=bQ (Nat.mul_le_mul (show a.length+1<=1000001 by omega) hb) af
    clear G U;cases hq:q x with
    |true =>
     rw[hq]at h;simp(disch:=omega)[round_eq,bSf,h8,h9,h1,hi,<-hx,T,W,Q,hOx,h0,S,h0O,Z,hbb,bX,hq,h,A,b,O,r,P,H,agp,ny,Ei,Eh]
    |false =>
     rw[hq]at h;simp(disch:=omega)[round_eq,bSf,h8,h9,h1,hi,<-hx,T,W,Q,hOx,h0,S,h0O,Z,hbb,bX,hq,h,A,b,O,r,P,H,agp,ny,Ei,Eh])
   (λa G=>by
    let⟨F,a⟩:=a;let⟨E,G⟩:=G;simp only at E G;let⟨hX,A⟩:=M F E;have O:=λh0 Y=>hX.tail (L:=X.length+1) (R:=[X.length]) aa (by simp[A]) h0 Y
    have r:=jq F;rw[A]at O r;rw[eM]at G;subst G;exact⟨_,⟨F,E,rfl⟩,by simp(disch:=omega)[round_eq,bSf,h9,A,O,r,agp,ny]⟩) (bp _) (X,[]) ⟨hK,ah⟩
 let⟨hX,_⟩:=M X hK;have O:=λh0 Y=>hX.tail (L:=X.length+1) (R:=[X.length]) aa ah h0 Y
 have r:=jq X;generalize v:jU Γ (cSf z bytes zero) _ _=res;rw[b6]at v;simp(disch:=omega)[cSf,O,r,agp,ny]at v;generalize hx:iter _ _=o at v;obtain⟨_,⟨n,N,rfl⟩,rfl⟩:∃y,_/\o=some y:=by rw[<-hx];exact h _ an an (by simp(disch:=omega)[hfn])
 let⟨_,b⟩:=M n N;simp(disch:=omega)[b,agp,ny]at v;exact⟨n,N,v.symm⟩
def bDe(z:Nat)(zero:List AV):AC:=.seq (.seq (.ops (.op (some 16) (.mv (.t 6)) (.op (some 17) (.mv (.t 0)) (.op (some 18) (.len false (.t 17)) (.op (some 19) (.bin .lss (.t 16) (.t 18)) (.nil))))))
 (.cond (.t 19) (.skip) (.exit 0)))
 (.seq (.block 1 (.seq (.ops (.op (some 22) (.mv (.t 0)) (.op (some 23) (.mv (.t 6)) (.op (some 24) (.DS z (.t 22) (.t 23)) (.op (some 25) (.load z true (.t 24)) (.op (some 7) (.alloc zero) (.op none (.store z (.t 7) (.t 25)) (.nil))))))))
 (.seq (.ops (.op (some 26) (.mv (.t 1)) (.op (some 27) (.load z true (.t 7)) (.op (some 28) (.jS (.t 26) [(.t 27)]) (.op (some 29) (.un .not (.t 28)) (.nil))))))
 (.cond (.t 29) (.seq (.ops (.op (some 30) (.mv (.t 0)) (.op (some 31) (.mv (.t 5)) (.op (some 32) (.load z true (.t 7)) (.op (some 33) (.DS z (.t 30) (.t 31)) (.op none (.store z (.t 33) (.t 32)) (.nil)))))))
 (.ops (.op (some 34) (.mv (.t 5)) (.op (some 35) (.bin .add (.t 34) (.c (.int .i64 1))) (.op (some 5) (.mv (.t 35)) (.nil)))))) (.skip)))))
 (.ops (.op (some 20) (.mv (.t 6)) (.op (some 21) (.bin .add (.t 20) (.c (.int .i64 1))) (.op (some 6) (.mv (.t 21)) (.nil))))))
def dDe(z:Nat)(zero:List AV):AC:=bDe z zero
@[simp]theorem eDe{V:aA}{ρ:Type}(z:Nat)(zero:List AV)(k:AX->St->Option ρ)(s:St):eval Γ (dDe z zero) V ρ k s=eval Γ (bDe z zero) V ρ k s:=rfl
def cDe(z:Nat)(zero:List AV)(k:FuncId):AF:=AF.mk 42 [.t 4] (.seq (.ops (.op (some 4) (.mv (.c (.en false []))) (.nil)))
 (.seq (.ops (.op (some 8) (.mv (.t 0)) (.op (some 9) (.mv (.t 1)) (.op (some 10) (.call k [(.t 8),(.t 9)]) (.op (some 5) (.mv (.t 10)) (.nil))))))
 (.seq (.seq (.ops (.op (some 11) (.mv (.t 5)) (.op (some 12) (.bin .eql (.t 11) (.c (.int .i64 (-1)))) (.nil))))
 (.cond (.t 12) (.seq (.ops (.op (some 13) (.mv (.t 0)) (.op (some 4) (.mv (.t 13)) (.nil))))
 (.ret)) (.skip)))
 (.seq (.seq (.ops (.op (some 14) (.mv (.t 5)) (.op (some 15) (.bin .add (.t 14) (.c (.int .i64 1))) (.op (some 6) (.mv (.t 15)) (.nil)))))
 (.block 0 (.loop [5,6] [(5,7),(16,35)] [] [(.exit 0,[5])] (dDe z zero))))
 (.seq (.ops (.op (some 36) (.mv (.t 0)) (.op (some 37) (.mv (.t 5)) (.op (some 38) (.yQ z (.t 36) (some (.t 37)) none none) (.op none (.XH z (.agg zero) (.t 38)) (.nil))))))
 (.seq (.ops (.op (some 39) (.mv (.t 0)) (.op (some 40) (.mv (.t 5)) (.op (some 41) (.yQ z (.t 39) none (some (.t 40)) none) (.op (some 4) (.mv (.t 41)) (.nil))))))
 (.ret)))))))
def Mu{α:Type}(X:AH){cs:α->List AV}(b:∀x,(cs x).length=z)(l:List α):Rd (X++[.row 0 z (l.map λx=>.agg (cs x))]) z (.own X.length 0 0 l.length) cs l:=by
 refine⟨an,λk h=>⟨.ptr X.length 0 k 0,?_,?_⟩⟩
 .simp(disch:=omega)[h,iZ,ny]
 .simp(disch:=omega)[h,ny]
def LY{m:Nat}(h:n<=m){c:AV}(b:yd n c=true):yd m c=true:=by
 cases c<;>simp_all[yd]<;>first | omega | skip
 refine⟨λx hx=>(b.1 x hx).imp id λh=>?_,λx hx=>(b.2 x hx).imp id λh=>?_⟩
 .cases x<;>simp_all<;>omega
 .cases x<;>simp_all<;>omega
def CG{m:Nat}(h:n<=m)(i:X.all (Ax n)=true):X.all (Ax m)=true:=by
 rw[aJ]at i⊢;intro b r;have:=i b r;cases b with
 |var cs =>
  simp only[Ax,aJ]at this⊢;exact λc o=>LY h (this c o)
 |mp q es =>
  simp only[Ax,aJ,bP]at this⊢;exact λp l=>(this p l).imp id (LY h)
 |_=>exact this
def vZ{b:AB}(h:gX b=true):Ax n b=true:=by
 cases b with
 |var cs =>
  simp only[gX,Ax,aJ]at h⊢;intro c l;have:=h c l;cases c<;>simp_all[yd,AV.jD]
 |mp q es =>
  simp only[gX,Ax,aJ]at h⊢;exact λp i=>by rw[h p i];rfl
 |_=>exact h
def CD(b:tT X)(z:Nat)(es:List AV):tT (X++[.row 0 z es]):=by
 unfold tT at b⊢;rw[cg,aC];exact⟨CG ah b,rfl⟩
def ID{Y:AH}(i:tT X)(h:Y.all gX=true):tT (X++Y):=by
 unfold tT at i⊢;rw[cg,aC];refine⟨CG ah i,?_⟩
 rw[aJ]at h⊢;exact λb l=>vZ (h b l)
def IC(i:tT X)(k:Nat){A:AB}(l:gX A=true):tT (X.set k A):=by
 unfold tT at i⊢;rw[dM];rw[aJ]at i⊢;intro b h
 rcases fN h with h | rfl
 .exact i b h
 .exact vZ l
def aeT{α:Type}{zero:List AV}{k:FuncId}{cs:α->List AV}(T:∀x,(cs x).length=z)(hS:∀x,(cs x).all AV.jD=true)(h0:zero.length=z)(Q:zero.all AV.jD=true){l:List α}(hl:l.length<=1000000)(hX:tT X)(g:FuncId)(first cap:List AV)(q:α->Bool)
  (hk:∃Z,Z.all gX=true/\rF Γ k [.own X.length 0 0 l.length,.fn (.func g) first cap] (X++[.row 0 z (l.map λx=>.agg (cs x))])=some (.int .i64 (DR l q),X++[.row 0 z (l.map λx=>.agg (cs x))]++Z))
  (hg:∀x∈l,∀Y,∃Z,Z.all gX=true/\rF Γ g (first ++ .agg (cs x)::cap) (X++Y)=some (.bool (q x),X++Y++Z)) :
  ∃r k' Z,Z.all gX=true/\r.take k'=(l.filter λx=>!q x).map (λx=>.agg (cs x))/\k'<=r.length/\
   jU Γ (cDe z zero k) [.own X.length 0 0 l.length,.fn (.func g) first cap] (X++[.row 0 z (l.map λx=>.agg (cs x))])=some (.own X.length 0 0 k',X ++ .row 0 z r::Z):=by
 let⟨v,M,hk⟩:=hk;generalize n:jU Γ (cDe z zero k) _ _=res;rw[b6]at n;let⟨hi1,hi2,hi3⟩:=C9 l q
 by_cases K:DR l q = -1
 .refine⟨l.map λx=>.agg (cs x),l.length,v,M,?_,ah,?_⟩
  .rw[bf ah,bJ.2]
   intro x hx;cases U:q x with
   |false=>rfl
   |true =>
    have:=hi3.2 (ct.2 ⟨x,hx,U⟩);omega
  .rw[K]at hk;simp(disch:=omega)[cDe,hk]at n;rw[<-n]
 .have O:∃y,l.find? q=some y:=by
   unfold DR at K;cases O:l.find? q with
   |none=>rw[O]at K;exact absurd rfl K
   |some y=>exact⟨y,rfl⟩
  let⟨y,O⟩:=O;have hlt:l.findIdx q<l.length:=dX ⟨y,bN O,cW O⟩;have SZ:DR l q=(l.findIdx q:Nat):=by unfold DR;rw[O];rfl
  have hpre:(l.take (l.findIdx q+1)).filter (λx=>!q x)=l.take (l.findIdx q):=by
   rw[bu hlt,cV];have e2:[l[l.findIdx q]].filter (λx=>!q x)=[]:=by simp[gK]
   rw[e2,b9,bJ];intro c hc;let⟨i,hi,e⟩:=eN hc;rw[bI]at hi;rw[dV]at e;have:=gm (p:=q) (xs:=l) (i:=i) aa
   rw[e]at this
   simpa using this
  rw[SZ]at hk;generalize l.findIdx q=i0 at *
  obtain⟨L,hL⟩:∃L,L=X.length+(v.length+1):=⟨_,rfl⟩;have E:∀es,(X++AB.row 0 z es::v).length=L:=λes=>by simp[hL]
  have hT:∀h0 es,iQ L [] h0 0 (X ++ .row 0 z es::v)=X ++ .row 0 z es::v:=λh0 es=>by
   have h1:tT (X ++ .row 0 z es::v):=by
    have h1:=CD hX z es;unfold tT at h1⊢;rw[E];rw[aG]at h1;rw[show X++AB.row 0 z es::v=(X++[.row 0 z es])++v by simp,cg,aC]
    refine⟨CG aj h1,?_⟩
    rw[aJ]at M⊢;exact λb hb=>vZ (M b hb)
   have:=h1.same h0
   rwa [E]at this
  have H:∀es Y,(X++AB.row 0 z es::(v++Y)).take L=X ++ .row 0 z es::v:=λes Y=>by
   rw[show X++AB.row 0 z es::(v++Y)=(X ++ .row 0 z es::v)++Y by simp]
   exact fG (E es)
  have A:∀es,(X++AB.row 0 z es::v).take L=X ++ .row 0 z es::v:=λes=>bf (by rw[E];exact aT _)
  subst hL
  have h:∀e0:Env,e0 0 = .own X.length 0 0 l.length->e0 1 = .fn (.func g) first cap->
    ∃y,(∃(r:List α) (i:Nat),r.take i=l.filter (λx=>!q x)/\i<=l.length/\r.length=l.length/\y=(AX.exit 0,[AV.int .i64 (i:Nat)],X ++ .row 0 z (r.map λx=>.agg (cs x))::v))/\
    iter (round Γ [5,6] [(.exit 0,[5])] (dDe z zero) e0 (X.length+(v.length+1)) []) ([.int .i64 i0,.int .i64 ((i0:Int)+1)],X ++ .row 0 z (l.map λx=>.agg (cs x))::v)=some y:=λe0 q0 q1 =>
   ji (i := i0 + 1) (f := round Γ [5, 6] [(.exit 0, [5])] (dDe z zero) e0 (X.length + (v.length + 1)) []) l.length (λj (s : Nat × List α) => ([.int .i64 (s.1 : Int), .int .i64 (j : Int)], X ++ .row 0 z (s.2.map λx => .agg (cs x)) :: v)) (λy => ∃ (r : List α) (i : Nat), r.take i = l.filter (λx => !q x) /\ i <= l.length /\ r.length = l.length /\ y = (AX.exit 0, [AV.int .i64 (i : Nat)], X ++ .row 0 z (r.map λx => .agg (cs x)) :: v))
    (λj s=>s.2.take s.1=(l.take j).filter (λx=>!q x)/\s.1<j/\s.2.length=l.length/\∀m,j<=m->s.2[m]? = l[m]?)
    (λj s W hs=>by
     let⟨i,r⟩:=s;let⟨G,w2,F,S⟩:=hs;simp only at G w2 F S;have h:=hg _ (aU W);obtain⟨x,hx⟩:∃x,x=l[j]:=⟨_,rfl⟩;rw[<-hx]at h;let⟨Z',_,h⟩:=h (.row 0 z (r.map λx=>.agg (cs x))::(v++[.var (cs x)]))
     simp only[bV,aM,aN]at h;have hgx:r[j]? = some x:=by rw[S _ aa,hx];exact aF W
     have N:j<r.length:=aa
     have hir:i<r.length:=aa
     have hrj:r[j]=x:=bB ((aF N).symm.trans hgx);have hsh:=vh (T x);have hzx:=T x;have P:=hS x;have hOx:=yq P;have h0O:=yq Q;have hov:=zk (show (cs x).length=zero.length by rw[T,h0])
     have hzi:=T r[i];have ajl:=zk (show (cs x).length=(cs r[i]).length by rw[T,T])
     left;cases U:q x with
     |true =>
      rw[U]at h;refine⟨(i,r),⟨?_,by simp only;omega,F,λm hm=>S m aa⟩,?_⟩
      .rw[bu W,cV,<-hx,G];simp[bX,U]
      .simp(disch:=omega)[round_eq,bDe,q0,q1,iZ,W,N,hrj,<-F,hzx,hsh,P,hOx,h0,Q,h0O,hov,h,hT,H,A,lq,wD,mB,yL,oF,agp,ny,Ei,Eh]
     |false =>
      rw[U]at h;refine⟨(i+1,r.set i x),⟨?_,by simp only;omega,ak F,λm hm=>?_⟩,?_⟩
      .rw[bu W,cV,<-hx,bu (ak hir),List.take_set_of_le (aT _),G]
       simp[bX,U]
      .rw[aL aa]
       exact S m aa
      .simp(disch:=omega)[round_eq,bDe,q0,q1,iZ,W,N,hir,hrj,<-F,hzx,hzi,ajl,hsh,P,hOx,h0,Q,h0O,hov,h,hT,H,A,List.map_set,AV.jT,lq,wD,mB,yL,oF,agp,ny,Ei,Eh])
    (λs hs=>by
     let⟨i,r⟩:=s;let⟨G,w2,F,S⟩:=hs;simp only at G w2 F S;rw[eM]at G;refine⟨_,⟨r,i,G,aa,F,rfl⟩,?_⟩
     simp(disch:=omega)[round_eq,bDe,q0,hT,H,A]) aa (i0,l) ⟨hpre.symm,ah,rfl,λm _=>rfl⟩
  have hne:¬((i0:Int) = -1):=aa
  simp(disch:=omega)[cDe,hk,hne,hT,H,A]at n;generalize hx:iter _ _=o at n;obtain⟨y,⟨r,i,G,w2,F,rfl⟩,rfl⟩:∃y,_/\o=some y:=by rw[<-hx];exact h _ an an
  simp(disch:=omega)[agp,ny,Ei,Eh,w2,F]at n;refine⟨_,i,v,M,?_,?_,n.symm⟩
  .unfold over;rw[bV,fA (by rw[bI,cw];omega),List.take_take,Nat.min_self,<-List.map_take,G]
  .unfold over;simp only[aG,bI,cw];omega
end Go.Am
