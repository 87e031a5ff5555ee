/- Part of the proof that TopTwoPartsCard holds. -/
import Derived.Test.YtghgbehknhmnaaaGreatDoorAmPx
import Derived.Scope
import Derived.OrdersIn
import Derived.TacticsIn
import Derived.LoopNIn
import Derived.RangeFuncCalls
import Derived.Test.YtghgbehknhmnaaaGreatDoorAmLp
set_option linter.all false
namespace Go.Am
def AX.exit':AX->Exit
 | .normal=>.normal
 | .exit id=>.exit id
 | .ret=>.ret
 | .ny p=>.panic (UW p)
def sG:AC->ax
 | .ops l=>wr l
 | .seq a b=>sG a++sG b
 | .cond _ x y=>sG x++sG y
 | .block _ c=>sG c
 | .loop _ _ _ _ c=>sG c
 | .scope c=>sG c
 | .Ts c _=>sG c
 | .vk l last=>TT l++wr last
 | .sy _ _ _ c=>sG c
 |_=>[]
def je(P:Program)(n:Nat):Code->AC->Bool
 |c,.Ts h _=>je P n c h
 | .loop c,.sy _ wr _ h=>je P n c h&&(sG h).all (λt=>ku wr t)
 | .region _ ops true,.vk [(i,z)] .nil=>sS [] i&&lY P n ops.pop.toList ops.pop.toList (flatten i none)&&DM ops.pop.toList (flatten i none)&&Ht ops.toList&&(match ops.back? with
   |some o=>Hs P n ops.toList o z
   |none=>false)
 | .region _ ops false,.vk l last=>M7 P n ops.toList last ops.toList l
 | .skip,.skip=>true
 | .label _,.skip=>true
 | .region _ ops r,.ops l=>sS [] l&&lY P n ops.toList ops.toList (flatten l none)&&(!r||DM ops.toList (flatten l none))
 | .seq a b,.seq E b'=>je P n a E&&je P n b b'
 | .cond c x y,.cond h A v=>lD c h&&je P n x A&&je P n y v
 | .block id c,.block q h=>decide (id=q)&&je P n c h
 | .loop c,.loop _ wr own _ h=>je P n c h&&(sG h).all (λt=>ku wr t)&&own.all (λp=>decide (0<p.2))
 | .exit id,.exit q=>decide (id=q)
 | .ret,.ret=>true
 |_,_=>false
variable{n m0:Nat}{x:AC}
section
variable{P:Program}{Z:az}{Γ:jE}
def FA:Op->Bool
 | .defer _=>false
 |_=>true
def Fz{op:Op}(h:FA op=true):∀c,op≠.defer c:=by
 rintro c rfl
 cases h
def Nk:Code->Bool
 | .scope _=>false
 | .region _ ops _=>ops.toList.all λo=>FA o.op
 | .seq a b=>Nk a&&Nk b
 | .cond _ x y=>Nk x&&Nk y
 | .block _ c=>Nk c
 | .loop c=>Nk c
 |_=>true
def Iq(P:Program)(ops:Array Oper)(b:Bool)(Q:Exit->Act->World->Prop)(a:Act)(w:World):Prop:=match b with
 |true=>wpAny P .any ops Q ops.size (Array.replicate ops.size false) a {w with drawn:=w.drawn+1}
 |false=>wpList P ops Q ops.toList a w
def Iq.wp{P:Program}(i:P.follows .mixedOrders=true){id:Nat}{ops:Array Oper}{b:Bool}{Q:Exit->Act->World->Prop}{a:Act}{w:World}(h:Iq P ops b Q a w):(Code.region id ops b).wp P Q a w :=
 match b,h with
 |true,h=>wp_region_any i h
 |false,h=>wp_region_list h
def rM(hΓ:j3 P Γ){id:Nat}{ops:Array Oper}{draw:Bool}{l:IT}(ok:je P n (.region id ops draw) (.ops l)=true)
  {s s':St} (hi:rT Γ l s=some s') {W:aB} (hW:∀t∈wr l,W t=true) {a:Act} {w:World} {β:jO} (R:Rel Z β s.h w) (E:jt Z β s.h w s.e a n) {Q:Exit->Act->World->Prop}
  (k:∀a' w' β',Rel Z β' s'.h w'->Fr Z β s.h w β' s'.h w'->jt Z β' s'.h w' s'.e a' n->jA W a a'->Q .normal a' w'):Iq P ops draw Q a w:=by
 simp only[je,aF]at ok;let⟨⟨ok1,ok2⟩,EB⟩:=ok;let⟨s1,h1,h2,h3,h4,_⟩:=sX Γ l [] none s s' s ok1 (λc a h=>by cases h) hi rfl (λ_ _=>rfl) (λt ht=>by simp[ku]at ht)
 have Cx:∀x∈flatten l none,∀t,x.dst=some t->W t=true:=λx hx t hd=>hW t (nk l none x t hx hd)
 have k':∀a' w' β',Rel Z β' s1.h w'->Fr Z β s.h w β' s1.h w'->jt Z β' s1.h w' s1.e a' n->jA W a a'->Q .normal a' w':=by
  intro a' w' β' R' F' E' K';rw[h2]at R' F' E';refine k a' w' β' R' F' ⟨E'.1,λt=>?_⟩ K'
  cases hd:ku (sW l++[]) t with
  |true=>rw[h4 t hd];exact .dead _
  |false=>rw[<-h3 t hd];exact E'.2 t
 cases draw with
 |false=>exact zJ hΓ ops.toList (flatten l none) s s1 a w β ok2 Cx h1 R E k'
 |true =>
  simp only[eM,fU]at EB;exact TQ hΓ Cx ok2 EB h1 R E k'
def uL{ρ:Type}{e:Env}{k:AX->St->Option ρ}{ex:AX}{vs:List AV}{h:AH}{r:ρ}:∀(b:List (AX×ax)),mR e k (ex,vs,h) b=some r->k ex ⟨e.lay (lT ex b) vs,h⟩=some r
 | [],i=>by cases i
 |(x,o)::l,i=>by
  simp only[mR]at i;simp only[lT];split at i
  .rename_i n;subst n;rw[if_pos rfl];exact i
  .rename_i n;rw[if_neg n];exact uL l i
def nD{α β:Type}{f:α->β}:∀(l:List α)(p:α×β),p∈l.zip (l.map f)->p.2=f p.1
 | [],p,h=>by cases h
 |x::l,p,h=>by
  simp only[bN,dZ,bw]at h
  rcases h with rfl | h
  .rfl
  .exact nD l p h
def X9(F:Fence)(m0:Nat)(P:Program)(Z:az)(Γ:jE)(n:Nat)(i:AC)(c:Code):Prop :=
 ∀ ⦃V:aB⦄ ⦃ρ:Type⦄ ⦃k:AX->St->Option ρ⦄ ⦃s:St⦄ ⦃r:ρ⦄,eval Γ i V ρ k s=some r->
  ∀ {W:aB},(∀t∈sG i,W t=true)->∀ {β:jO} {a:Act} {w:World},Rel Z β s.h w->jt Z β s.h w s.e a n->∀ {Q:Exit->Act->World->Prop},
  (∀x s' b w' β',k x s'=some r->Rel Z β' s'.h w'->Dk V Z β s.h w β' s'.h w'->jt Z β' s'.h w' s'.e b n->jA W a b->Q x.exit' b w')->c.wpIn F m0 P Q a w
def we{F:Fence}{keep:ax}{o:List (AX×ax)}{body:Code}(IH:X9 F m0 P Z Γ n x body){M:aB}{β1:jO}{h1:AH}{w:World}{a:Act}{e1:Env}
  (base:∀ {β':jO} {h':AH} {w':World} {b:Act},Dk M Z β1 h1 w β' h' w'->jA (λt=>(sG x).contains t) a b->∀t,VR β' (Own Z β' h') w' (e1 t) (b.tmps.getD t Go.undef))
  (L:St->List AV×AH) (hhd:∀ {s':St} {β':jO} {w':World} {b:Act},Rel Z β' s'.h w'->jt Z β' s'.h w' s'.e b n->∃β3,Rel Z β3 (L s').2 w'/\Dk M Z β' s'.h w' β3 (L s').2 w'/\∀p∈keep.zip (L s').1,VR β3 (Own Z β3 (L s').2) w' p.2 (b.tmps.getD p.1 Go.undef))
  {ex:AX} {l:List AV} {T:AH} {Q:Exit->Act->World->Prop}
  (K:∀(s':St)(b:Act)(w':World)(β':jO),s'.e=e1.lay (lT ex o) l->s'.h=T->Rel Z β' s'.h w'->Dk M Z β1 h1 w β' s'.h w'->jt Z β' s'.h w' s'.e b n->jA (λt=>(sG x).contains t) a b->Q ex.exit' b w') :
  ∀(m:Nat)(vs:List AV)(h:AH),nN (λy:List AV×AH=>eval Γ x M ((List AV×AH)⊕(AX×List AV×AH)) (λex s'=>match ex with
     | .normal=>some (.inl (L s'))
     |ex=>some (.inr (ex,(lT ex o).map s'.e,s'.h))) ⟨e1.lay keep y.1,y.2⟩) m (vs,h)=some (ex,l,T)->
    ∀(β':jO)(b:Act)(w':World),Rel Z β' h w'->Dk M Z β1 h1 w β' h w'->b.tmps.size=n->jA (λt=>(sG x).contains t) a b->
    (∀p∈keep.zip vs,VR β' (Own Z β' h) w' p.2 (b.tmps.getD p.1 Go.undef))->Code.roundsIn F m0 P body Q m b w':=by
 intro m
 induction m with
 |zero=>intro vs h A;cases A
 |succ m ih =>
  intro vs h A β' b w' R' F' hn K' U;rw[roundsIn_succ];have E':jt Z β' h w' (e1.lay keep vs) b n:=⟨hn,DQ (tm:=λt=>b.tmps.getD t Go.undef) (base F' K') keep vs U⟩
  simp only[nN]at A;split at A
  .cases A
  .rename_i y S;let⟨O,h'⟩:=y;refine IH S (W:=λt=>(sG x).contains t) (λt X=>by simpa using X) R' E' λi s' r z β'' q E H v G=>?_
   cases i with
   |normal =>
    have Y:L s'=(O,h'):=by simpa using q
    let⟨β3,R3,N,V3⟩:=hhd E v;rw[Y]at R3 N V3;exact ih _ _ A _ r z R3 ((F'.trans H).trans N) v.1 (K'.trans G) V3
   |_=>simp at q
  .rename_i y S;cases A;refine IH S (W:=λt=>(sG x).contains t) (λt X=>by simpa using X) R' E' λi s' r z β'' q E H v G=>?_
   have fin:some (Sum.inr (α:=List AV×AH) (i,(lT i o).map s'.e,s'.h))=some (.inr (ex,l,T))->Q i.exit' r z:=by
    intro hq;simp only[bn,Sum.inr.injEq,Prod.mk.injEq]at hq;obtain⟨rfl,rfl,rfl⟩:=hq;have N:=F'.trans H;have K3:=K'.trans G
    exact K ⟨_,s'.h⟩ r z β'' rfl rfl E N ⟨v.1,DQ (tm:=λt=>r.tmps.getD t Go.undef) (base N K3) _ _ λp hp=>by
     rw[nD _ p hp];exact v.2 p.1⟩ K3
   cases i with
   |normal=>simp at q
   |_=>exact fin q
def Ao{ρ:Type}{e:Env}{k:AX->St->Option ρ}{ex:AX}{vs:List AV}{h:AH}{r:ρ}{b:List (AX×ax)}(i:sv e k b (ex,vs,h)=some r):k ex ⟨e.lay (lT ex b) vs,h⟩=some r:=by
 cases ex with
 |ny p=>exact i
 |_=>exact uL b i
def Nz{W:aB}(n:∀t∈sG x,W t=true){a b:Act}(h:jA (λt=>(sG x).contains t) a b):jA W a b:=by
 refine⟨h.defers,λt i=>h.same t ?_⟩
 cases l:(sG x).contains t with
 |false=>rfl
 |true =>
  have:=n t (an l)
  rw[i]at this;cases this
def JD{b:aC}(h:(sG x).all (λt=>ku b t)=true){t:Nat}(i:¬(b.any λr=>decide (r.1<=t)&&decide (t<=r.2))=true):(sG x).contains t=false:=by
 cases l:(sG x).contains t with
 |false=>rfl
 |true=>exact absurd (aM.1 h t (an l)) i
def HA{F:Fence}{keep:ax}{q own:aC}{H:List (AX×ax)}{body:Code}(U:(sG x).all (λt=>ku q t)=true)(EB:own.all (λp=>decide (0<p.2))=true)
  (IH:X9 F m0 P Z Γ n x body):X9 F m0 P Z Γ n (.loop keep q own H x) (.loop body):=by
 intro V ρ k s r o W hW β a w R E Q K;simp only[sG]at hW;simp only[eval]at o;let⟨β1,N,S,T⟩:=vi own s β EB R E;generalize hpre:jl own s=pre at o N S T;generalize hL:pre.h.length=L at o;generalize hR:rowsOf pre.e own=l at o;split at o
 .rename_i hV;simp only[aG]at o;let⟨⟨ex,vals,hx⟩,Y,y⟩:=o;have hk:=Ao y;let⟨m,M⟩:=uz Y;generalize he1:(nV l pre.e).oV q=e1 at M hk
  have base:∀ {β':jO} {h':AH} {w':World} {G:Act},Dk (pO l L) Z β1 pre.h w β' h' w'->jA (λt=>(sG x).contains t) a G->∀t,VR β' (Own Z β' h') w' (e1 t) (G.tmps.getD t Go.undef):=by
   intro β' h' w' G b K' t;rw[<-he1];unfold Env.oV;split
   .exact .dead _
   .rename_i hd;rw[K'.same t (JD U hd)];refine GM (λi v bd hi A=>b.ext i v bd ?_ A) b.stay (T.2 t)
    unfold pO;rw[hi,fU,decide_eq_false_iff_not,<-hL];intro z;rw[N.fresh i v z]at A;cases A
  have out:∀ {β':jO} {h':AH} {w':World},Dk (pO l L) Z β1 pre.h w β' h' w'->Dk V Z β s.h w β' h' w':=by
   intro β' h' w' b;refine⟨b.lF,b.os,b.tape,b.output,λi v bd hv A=>b.ext i v bd ?_ (S.ext i v bd A),S.stay.trans b.stay⟩
   unfold pO;rw[eX]
   constructor
   .cases hc:l.contains i with
    |false=>rfl
    |true =>
     have:=aM.1 hV i (by simpa using hc)
     rw[hv]at this;cases this
   .rw[decide_eq_false_iff_not,<-hL];intro z;have h1:=S.ext i v bd A;rw[N.fresh i v z]at h1;cases h1
  refine wpIn_loop_rounds m (we IH base (head L l keep) (λ{s' β' w' G} O E'=>⟨_,AY O L l,A9,λp X=>by
   rw[nD keep p X]
   exact xq O L l (E'.2 p.1)⟩) (λs' G w' β' h1 h2 O b E' K'=>by
    let⟨e',h'⟩:=s';dsimp only at h1 h2;subst h1 h2;exact K ex _ G w' β' hk O (out b) E' (Nz hW K')) m _ _ M (vP β1 pre.h L l) a w (AY N L l) A9 T.1 (jA.refl _ _) λp X=>?_)
  rw[nD keep p X];exact xq N L l (T.2 p.1)
 .cases o
def FG{F:Fence}{keep:ax}{q:aC}{y:List (AX×ax)}{body:Code}(z:(sG x).all (λt=>ku q t)=true)
  (IH:X9 F m0 P Z Γ n x body):X9 F m0 P Z Γ n (.sy keep q y x) (.loop body):=by
 intro V ρ k s r U W X β a w R E Q K;simp only[sG]at X;simp only[eval,aG]at U;let⟨⟨ex,T,hx⟩,L,o⟩:=U;have hk:=Ao o;let⟨m,G⟩:=uz L
 have old:∀ {i v:Nat} {bd:Bd},β i v=some bd->decide (s.h.length<=i)=false:=by
  intro i v bd l;rw[decide_eq_false_iff_not];intro H;rw[R.fresh i v H]at l;cases l
 refine wpIn_loop_rounds m (we IH (β1:=β) (h1:=s.h) (w:=w) (a:=a) (λ{β' h' w' M} b O t=>?_) (λs'=>(keep.map s'.e,s'.h)) (λ{s' β' w' M} N S=>⟨_,N,(Fr.refl _ _ _ _).LD,λp A=>by
   rw[nD keep p A]
   exact S.2 p.1⟩) (λs' M w' β' h1 h2 N b S O=>by
    let⟨e',h'⟩:=s';dsimp only at h1 h2;subst h1 h2;exact K ex _ M w' β' hk N ⟨b.lF,b.os,b.tape,b.output,λi v bd _ l=>b.ext i v bd (old l) l,b.stay⟩ S (Nz X O)) m _ _ G β a w R (Fr.refl _ _ _ _).LD E.1 (jA.refl _ _) λp A=>?_)
 .unfold Env.oV;split
  .exact .dead _
  .rename_i Y;rw[O.same t (JD z Y)];exact(E.2 t).mono (λi v bd l=>b.ext i v bd (old l) l) b.stay
 .rw[nD keep p A];exact E.2 p.1
def B4(G:j3 P Γ){id:Nat}{ops:Array Oper}{q:Bool}{l:List (IT×XO)}{last:IT}(ok:je P n (.region id ops q) (.vk l last)=true)
  {ρ:Type} {k:AX->St->Option ρ} {s:St} {r:ρ} (K:oW Γ last k l s=some r) {W:aB} (M:∀t∈TT l++wr last,W t=true) {a:Act} {w:World} {β:jO} (R:Rel Z β s.h w) (E:jt Z β s.h w s.e a n) {Q:Exit->Act->World->Prop}
  (kn:∀s' v w' β',k .normal s'=some r->Rel Z β' s'.h w'->Fr Z β s.h w β' s'.h w'->jt Z β' s'.h w' s'.e v n->jA W a v->Q .normal v w')
  (kp:∀p s' v w' β',k (.ny p) s'=some r->Rel Z β' s'.h w'->Fr Z β s.h w β' s'.h w'->jt Z β' s'.h w' s'.e v n->jA W a v->Q (.panic (UW p)) v w'):Iq P ops q Q a w:=by
 simp only[aY]at M;cases q with
 |false=>exact Gg G (λt H=>M t (.inr H)) l ops.toList (by simpa[je]using ok) K (λt H=>M t (.inl H)) R E kn kp
 |true =>
  unfold je at ok;split at ok<;>first | (cases ok;done) | skip
  all_goals (rename_i F A;first | (cases F;done) | (cases A;done) | skip)
  cases F;cases A;simp only[aF]at ok;rename_i i z;let⟨⟨⟨⟨U,T⟩,EB⟩,Hw⟩,PC⟩:=ok;cases L:ops.back? with
  |none=>rw[L]at PC;cases PC
  |some o =>
  rw[L]at PC;have hp:ops=ops.pop.push o:=by
   obtain⟨xs,x,rfl⟩:=Array.eq_push_of_size_ne_zero (xs:=ops) λh=>by simp[eB h]at L
   simp at L;subst L;simp
  generalize ops.pop=b at *
  subst hp;simp only[oW,aG]at K;let⟨s',hi,K⟩:=K;let⟨s1,h1,h2,h3⟩:=DV (Z:=Z) U hi
  have y:Array.replicate (b.push o).size false=(Array.replicate b.size false).push false:=by
   apply cR;simp[ij]
  show wpAny P .any (b.push o) Q (b.push o).size (Array.replicate (b.push o).size false) a _;rw[y,Array.size_push];refine Pc rfl Hw b.size (Array.replicate b.size false) a _ ai ai (λj i N=>?_) (TQ G (W:=W) (λx hx t hd=>M t (.inl (by simp[TT,nk i none x t hx hd]))) T EB h1 R E λv w' β' R' F' E' K'=>?_)
  .rw[<-y]at N;simp[fh]at N;split at N<;>simp at N
  .rw[h2]at R' F';show wpOp P (b.push o) Q b.size (λa w=>Q .normal a w) v w'
   unfold wpOp;rw[show (b.push o)[b.size]? = some o by simp]
   exact Gh G PC K (W:=W) (λt H=>M t (.inl (by simp[TT,H]))) R' (h3 E') (λS X O β2 hk Y F2 E2 K2=>kn S X O β2 (by simpa[oW,rT]using hk) Y (F'.trans F2) E2 (K'.trans K2)) λp S X O β2 hk Y F2 E2 K2=>kp p S X O β2 hk Y (F'.trans F2) E2 (K'.trans K2)
def orl{b p q:Bool}(h:(b||(p&&q))=true):(b||p)=true/\(b||q)=true:=by
 cases b<;>simp_all
def kI{F:Fence}{m0:Nat}{b:Bool}(O:∀ {id ops N Q a w},(b||Nk (.region id ops N))=true->¬LetsOut Q->Iq P ops N Q a w->(Code.region id ops N).wpIn F m0 P Q a w)(v:j3 P Γ){n:Nat}:∀(c':AC)(c:Code),je P n c c'=true->(b||Nk c)=true->X9 F m0 P Z Γ n c' c
 | .skip,c,ok,nd=>@λV ρ k s r o W M β a w R E Q K=>by
  cases c<;>first | (cases ok;done) | exact wpIn_skip (K .normal s a w β o R (Fr.refl _ _ _ _).LD E (jA.refl _ _)) | exact wpIn_label (K .normal s a w β o R (Fr.refl _ _ _ _).LD E (jA.refl _ _))
 | .exit id,c,ok,nd=>@λV ρ k s r o W M β a w R E Q K=>by
  cases c<;>first | (cases ok;done) | skip
  rename_i U;have:U=id:=by simpa[je]using ok
  subst this;exact wpIn_exit (K (.exit U) s a w β o R (Fr.refl _ _ _ _).LD E (jA.refl _ _))
 | .ret,c,ok,nd=>@λV ρ k s r o W M β a w R E Q K=>by
  cases c<;>first | (cases ok;done) | skip
  exact wpIn_ret (K .ret s a w β o R (Fr.refl _ _ _ _).LD E (jA.refl _ _))
 | .scope x,c,ok,nd=>by cases c<;>cases ok
 | .ops l,c,ok,nd=>@λV ρ k s r o W M β a w R E Q K=>by
  cases c<;>first | (cases ok;done) | skip
  simp only[eval,aG]at o;let⟨s',X,o⟩:=o;exact wpIn_mono (Q:=λx a w=>x = .normal/\Q .normal a w) (O nd (λ⟨_,_,h,_⟩=>by cases h) (rM v ok X M R E λq w' β' A H L G=>⟨rfl,K .normal s' q w' β' o A H.LD L G⟩)) λe a w h=>h.1▸h.2
 | .seq x y,c,ok,nd=>@λV ρ k s r o W M β a w R E Q K=>by
  cases c<;>first | (cases ok;done) | skip
  simp only[je,aF]at ok;simp only[sG,aY]at M;simp only[eval]at o;refine wpIn_seq (kI O v x _ ok.1 (orl nd).1 o (λt S=>M t (.inl S)) R E λex s' q w' β' hk A H L G=>?_)
  cases ex with
  |normal=>exact kI O v y _ ok.2 (orl nd).2 hk (λt S=>M t (.inr S)) A L λex s'' a'' w'' β'' hk' R'' F'' E'' K''=>K ex s'' a'' w'' β'' hk' R'' (H.trans F'') E'' (G.trans K'')
  |exit id=>exact K (.exit id) s' q w' β' hk A H L G
  |ret=>exact K .ret s' q w' β' hk A H L G
  |ny p=>exact K (.ny p) s' q w' β' hk A H L G
 | .cond x y z,c,ok,nd=>@λV ρ k s r o W M β a w R E Q K=>by
  cases c<;>first | (cases ok;done) | skip
  simp only[je,aF]at ok;simp only[sG,aY]at M;simp only[eval]at o;have v1:=hU E ok.1.1;split at o
  .rename_i b Y;rw[Y]at v1;refine wpIn_cond v1.mY ?_;split at o
   .rename_i Y;subst Y;rw[if_pos rfl];exact kI O v y _ ok.1.2 (orl nd).1 o (λt S=>M t (.inl S)) R E K
   .rename_i Y;rw[if_neg Y];exact kI O v z _ ok.2 (orl nd).2 o (λt S=>M t (.inr S)) R E K
  .cases o
 | .block id x,c,ok,nd=>@λV ρ k s r o W M β a w R E Q K=>by
  cases c<;>first | (cases ok;done) | skip
  simp only[je,aF,decide_eq_true_eq]at ok;obtain⟨rfl,ok⟩:=ok;simp only[eval]at o;refine wpIn_block (kI O v x _ ok nd o M R E λex s' q w' β' hk A H L G=>?_)
  cases ex with
  |normal=>exact K .normal s' q w' β' hk A H L G
  |ret=>exact K .ret s' q w' β' hk A H L G
  |ny p=>exact K (.ny p) s' q w' β' hk A H L G
  |exit i =>
   show if i=_ then Q .normal q w' else Q (.exit i) q w'
   dsimp only at hk;split at hk
   .rename_i X;rw[if_pos X];exact K .normal s' q w' β' hk A H L G
   .rename_i X;rw[if_neg X];exact K (.exit i) s' q w' β' hk A H L G
 | .Ts x g,c,ok,nd=>@λV ρ k s r o W M β a w R E Q K=>by
  have ok':je P n c x=true:=by
   cases c<;>exact ok
  simp only[eval]at o;refine kI O v x c ok' nd o (λt S=>M t (by simpa[sG]using S)) R E λex s' q w' β' hk A H L G=>?_
  cases ex with
  |exit id=>exact K (.exit id) s' q w' β' hk A H L G
  |ny p=>exact K (.ny p) s' q w' β' hk A H L G
  |normal =>
   simp only[aG]at hk;let⟨s2,h1,h2⟩:=hk;let⟨R2,F2,E2⟩:=Be g A L h1;exact K .normal s2 q w' β' h2 R2 (H.trans F2.LD) E2 G
  |ret =>
   simp only[aG]at hk;let⟨s2,h1,h2⟩:=hk;let⟨R2,F2,E2⟩:=Be g A L h1;exact K .ret s2 q w' β' h2 R2 (H.trans F2.LD) E2 G
 | .vk l last,c,ok,nd=>@λV ρ k s r o W M β a w R E Q K=>by
  cases c<;>first | (simp[je]at ok;done) | skip
  simp only[eval]at o;simp only[sG]at M;exact wpIn_mono (Q:=λx a w=>x≠.outgrown/\Q x a w) (O nd (λ⟨_,_,h,_⟩=>h rfl) (B4 v ok o M R E (λs' q w' β' hk A H L G=>⟨(by intro h;cases h),K .normal s' q w' β' hk A H.LD L G⟩) λp s' q w' β' hk A H L G=>⟨(by intro h;cases h),K (.ny p) s' q w' β' hk A H.LD L G⟩)) λe a w h=>h.2
 | .sy keep wrs T x,c,ok,nd=>by
  cases c<;>first | (cases ok;done) | skip
  simp only[je,aF]at ok;exact FG ok.2 (kI O v x _ ok.1 nd)
 | .loop keep wrs own T x,c,ok,nd=>by
  cases c<;>first | (cases ok;done) | skip
  simp only[je,aF]at ok;exact HA ok.1.2 ok.2 (kI O v x _ ok.1.1 nd)
def mD(q:P.follows .mixedOrders=true)(l:j3 P Γ)(i:AC)(c:Code)(ok:je P n c i=true){V:aB}{ρ:Type}{k:AX->St->Option ρ}{s:St}{r:ρ}(v:eval Γ i V ρ k s=some r)
  {W:aB} (y:∀t∈sG i,W t=true) {β:jO} {a:Act} {w:World} (R:Rel Z β s.h w) (E:jt Z β s.h w s.e a n) {Q:Exit->Act->World->Prop}
  (K:∀x s' o w' β',k x s'=some r->Rel Z β' s'.h w'->Dk V Z β s.h w β' s'.h w'->jt Z β' s'.h w' s'.e o n->jA W a o->Q x.exit' o w'):c.wp P Q a w :=
 wpIn_wide.1 (kI (F:=Fence.wide) (m0:=0) (b:=true) (λ_ _ h=>wpIn_wide.2 (h.wp q)) l i c ok rfl v y R E K)
end
def oI(P:Program):List ResultVar->List AR->Bool
 | [],[]=>true
 | .tmp t::l,.t i::b=>decide (t=i)&&oI P l b
 | .cell t ty::l,.cell i sz agg::b=>decide (t=i)&&jP P ty sz&&tV P ty agg&&oI P l b
 |_,_=>false
def okF(P:Program)(f:FuncId)(F:AF):Bool:=match P.funcs[f]? with
 |some fn=>(match fn.body with
  |some c=>decide (fn.ntmps=F.nt)&&je P F.nt c F.body&&oI P fn.results.toList F.res&&(fn.name == "runtime.NumGoroutine")==false
  |none=>false)
 |none=>false
def MF(tmps:Array Value):ResultVar->Sem Value
 | .tmp t=>pure (tmps.getD t Go.undef)
 | .cell x t=>do loadVar t (<-asAddr (tmps.getD x Go.undef))
variable{f:FuncId}{F:AF}
section
variable{P:Program}{Z:az}{Γ:jE}{β:jO}{h:AH}{w:World}
def Ag(R:Rel Z β h w){e:Env}{a:Act}{n:Nat}(E:jt Z β h w e a n):∀(A:List ResultVar)(l:List AR)(vs:List AV),oI P A l=true->qx ⟨e,h⟩ l=some vs->
  ∃F:List Value,(A.mapM (MF a.tmps)).run P w = .ok F w/\vs.length=F.length/\
   ∀(j:Nat)(y:AV)(u:Value),vs[j]? = some y->F[j]? = some u->VR β (Own Z β h) w y u
 | [],[],vs,_,x=>by
  simp only[qx]at x;cases x;exact⟨[],ai,rfl,λj y u G=>by simp at G⟩
 | [],_::_,_,ok,_=>by simp[oI]at ok
 |r::A,[],_,ok,_=>by cases r<;>simp[oI]at ok
 |r::A,q::l,vs,ok,x=>by
  simp only[qx,aG]at x;let⟨v,L,M,Q,x⟩:=x;cases x
  have key:oI P A l=true/\∃u,(MF a.tmps r).run P w = .ok u w/\VR β (Own Z β h) w v u:=by
   cases r with
   |tmp t =>
    cases q with
    |cell=>simp[oI]at ok
    |t i =>
     simp only[oI,aF,decide_eq_true_eq]at ok;obtain⟨rfl,ok⟩:=ok;simp only[xh,bn]at L;subst L;exact⟨ok,a.tmps.getD t Go.undef,by simp[MF],E.2 t⟩
   |cell t ty =>
    cases q with
    |t i=>simp[oI]at ok
    |cell i sz agg =>
     simp only[oI,aF,decide_eq_true_eq]at ok;obtain⟨⟨⟨rfl,h1⟩,h2⟩,ok⟩:=ok;simp only[xh,aG]at L;let⟨cs,K,S⟩:=L;let⟨u,H,b⟩:=CD (P:=P) R K S (E.2 t) h1 h2;let⟨blk,o,T,_⟩:=y9 R K (E.2 t);refine⟨ok,u,?_,b⟩;rw[T]at H;simp only[Instr.loadAt,Instr.sureAddr,Sem.run_bind,Sem.run_pure,Result.andThen_ok]at H;simp only[MF,T,asAddr,Sem.run_bind,Sem.run_pure,Result.andThen_ok];exact H
  let⟨N,u,H,b⟩:=key;let⟨F,h1,h2,h3⟩:=Ag R E A l M N Q;refine⟨u::F,?_,by simp[h2],λj y z G O=>?_⟩
  .rw[ic];simp only[Sem.run_bind,H,Result.andThen_ok,h1,Sem.run_pure]
  .cases j with
   |zero=>simp at G O;subst G;subst O;exact b
   |succ j=>exact h3 j y z (an G) (an O)
def qT(R:Rel Z β h w){e:Env}{a:Act}{n:Nat}(E:jt Z β h w e a n){fn:Func}{l:List AR}(ok:oI P fn.results.toList l=true){v:AV}(i:pV ⟨e,h⟩ l=some v):
  ∃u,(results fn a.tmps).run P w = .ok u w/\VR β (Own Z β h) w v u:=by
 simp only[pV,aG]at i;let⟨vs,r,i⟩:=i;let⟨b,h1,h2,h3⟩:=Ag R E _ _ _ ok r
 have o:(results fn a.tmps).run P w = .ok (if A:b.toArray.size=1 then b.toArray[0]else .tuple b.toArray) w:=by
  have q:results fn a.tmps=(do let vs<-fn.results.mapM (MF a.tmps);pure (if h:vs.size=1 then vs[0]else .tuple vs)):=by
   unfold results
   congr 1
  rw[q,<-dI (xs:=fn.results),List.mapM_toArray];simp only[Sem.run_bind,Sem.run_map,h1,Result.andThen_ok,Sem.run_pure]
 refine⟨_,o,?_⟩;split at i
 .cases i
  match b,h2,h3 with
  | [u],_,h3=>exact h3 0 v u rfl rfl
 .rename_i y;cases i;have hl:b.length≠1:=by
   intro h1;rw[h1]at h2;let⟨x,z⟩:=dV.1 h2;exact y x z
  rw[dif_neg (an hl)]
  exact .jg _ b h2 h3
def Cq(X:P.follows .mixedOrders=true)(G:j3 P Γ)(ok:okF P f F=true){args:List AV}(o:args.length<=F.nt){ρ:Type}{k:AX->St->Option ρ}{r:ρ}
  (Q:eval Γ F.body (λi=>decide (h.length<=i)) ρ k ⟨jJ args,h⟩=some r) {vs:List Value} (R:Rel Z β h w) (hl:args.length=vs.length) (A:∀(j:Nat)(y:AV)(u:Value),args[j]? = some y->vs[j]? = some u->VR β (Own Z β h) w y u)
  {Post:Ending->World->Prop} (z:∀i s,k (.exit i) s=none) (U:∀s' v w' β',(k .normal s'=some r\/k .ret s'=some r)->Rel Z β' s'.h w'->Fr Z β h w β' s'.h w'->(∀x,pV s' F.res=some x->VR β' (Own Z β' s'.h) w' x v)->Post (.returned v) w')
  (hs:∀s',k .normal s'=some r\/k .ret s'=some r->(pV s' F.res).isSome=true)
  (S:∀p s' w' β',k (.ny p) s'=some r->Rel Z β' s'.h w'->Fr Z β h w β' s'.h w'->Post (.panicked (UW p)) w'):Calls P f vs.toArray w Post:=by
 unfold okF at ok;split at ok
 .rename_i fn Y;split at ok
  .rename_i c hc;simp only[aF,decide_eq_true_eq,beq_iff_eq]at ok;let⟨⟨⟨T,b⟩,n⟩,H⟩:=ok
   have E:jt Z β h w (jJ args) {tmps:=vs.toArray++Array.replicate (fn.ntmps-vs.toArray.size) undef,defers:=[]} F.nt:=by
    refine⟨ak,λt=>?_⟩
    unfold jJ
    by_cases O:t<args.length
    .have h1:args[t]? = some args[t]:=aH O;have h2:vs[t]? = some (vs[t]'af):=aH af
     have:=A t _ _ h1 h2;rw[bY,h1];rw[bD,dL ak]
     simp only[bE,h2,dh];exact this
    .rw[bY,dn af]
     exact .dead _
   refine calls_of_wp Y hc (mD X G F.body c b Q (W:=λ_=>true) (λ_ _=>rfl) R E λx s' a' w' β' hk L l E' M=>?_)
   have q:Fr Z β h w β' s'.h w':=⟨l.lF,l.os,l.tape,l.output,λi v bd K=>l.ext i v bd (by
    simp only[decide_eq_false_iff_not];intro o;rw[R.fresh i v o]at K;cases K) K,l.stay⟩
   have fin:k .normal s'=some r\/k .ret s'=some r->∃u,(results fn a'.tmps).run P w' = .ok u w'/\Post (.returned u) w':=by
    intro N;let⟨v,A⟩:=bM.1 (hs s' N);let⟨u,h1,h2⟩:=qT L E' n A;exact⟨u,h1,U s' u w' β' N L q λx z=>by rw[A]at z;cases z;exact h2⟩
   cases x with
   |exit id=>rw[z]at hk;cases hk
   |normal=>exact⟨M.defers,fin (.inl hk)⟩
   |ret=>exact⟨M.defers,fin (.inr hk)⟩
   |ny p=>exact⟨M.defers,S p s' w' β' hk L q⟩
  .cases ok
 .cases ok
def rP(ok:okF P f F=true):oO P f:=by
 unfold okF at ok;split at ok
 .rename_i fn b;split at ok
  .rename_i c i;simp only[aF,decide_eq_true_eq,beq_iff_eq]at ok;exact⟨fn,b,by rw[i];rfl,an ok.2⟩
  .cases ok
 .cases ok
def pU(q:P.follows .mixedOrders=true)(l:j3 P Γ)(ok:okF P f F=true){args:List AV}{r:AV}{h':AH}(b:kU Γ F args h=some (r,h')):ux P f args h r h':=by
 refine⟨rP ok,λZ β w vs R hl o=>?_⟩
 unfold kU at b;split at b
 .rename_i n
  have go:∀ {s':St},(pV s' F.res).bind (λv=>some (v,s'.h))=some (r,h')->pV s' F.res=some r/\s'.h=h':=by
   intro s' i;simp only[aG]at i;let⟨v,h1,i⟩:=i;cases i;exact⟨h1,rfl⟩
  refine Cq q l ok n b R hl o (λ_ _=>rfl) (λs' v w' β' hk x y V=>?_) (λs' hk=>?_) (λp s' w' β' hk=>by cases hk)
  .obtain⟨h1,rfl⟩:=go (hk.elim id id);exact⟨v,β',rfl,x,y,V r h1⟩
  .rw[(go (hk.elim id id)).1];rfl
 .cases b
def My(z:P.follows .mixedOrders=true)(l:j3 P Γ)(ok:okF P f F=true){args:List AV}{r:AV⊕Pn}{h':AH}(b:mQ Γ F args h=some (r,h')):SB P f args h r h':=by
 refine⟨rP ok,λZ β w vs R hl y=>?_⟩
 unfold mQ at b;split at b
 .rename_i n
  have go:∀ {s':St},(pV s' F.res).bind (λv=>some (Sum.inl (β:=Pn) v,s'.h))=some (r,h')->∃v,pV s' F.res=some v/\r = .inl v/\s'.h=h':=by
   intro s' i;simp only[aG]at i;let⟨v,h1,i⟩:=i;cases i;exact⟨v,h1,rfl,rfl⟩
  refine Cq z l ok n b R hl y (λ_ _=>rfl) (λs' v w' β' hk o q V=>?_) (λs' hk=>?_) (λp s' w' β' hk o q=>?_)
  .obtain⟨x,h1,rfl,rfl⟩:=go (hk.elim id id);exact⟨β',o,q,v,rfl,V x h1⟩
  .let⟨x,h1,_⟩:=go (hk.elim id id);rw[h1];rfl
  .cases hk;exact⟨β',o,q,rfl⟩
 .cases b
def Mo{args:List AV}(b:args.all AV.j8=true){r0 r:AV}{h1 h2:AH}(hs:ux P f args [] r0 h1)(l:nr h1 r0=some (r,h2))(h:AH):ux P f args h r h :=
 wh b ⟨hs.1,λZ β w vs R hl i=>(hs.2 Z β w vs R hl i).mono λe w' ⟨v,β',n,q,x,o⟩=>⟨v,β',r0,h1,h2,n,l,q,x,o⟩⟩ h
def E9(q:P.follows .mixedOrders=true)(n:j3 P Γ)(ok:okF P f F=true){args:List AV}{r:AV}(l:args.all AV.j8=true)(i:pg Γ F args=some r)(h:AH):ux P f args h r h:=by
 unfold pg at i;simp only[aG]at i;let⟨⟨r0,h1⟩,b,⟨r',h2⟩,o,i⟩:=i;cases i;exact Mo l (pU q n ok b) o h
def IG:j3 P ⟨λ_ _=>none,λ_ _ _=>none,λ_ _ _=>none⟩:=⟨λ_ _ _ _ _ h=>by simp at h,λ_ _ _ _ _ h=>by simp at h,λ_ _ _ _ _ h=>by simp at h⟩
end
section
variable{P:Program}{Z:az}{Γ:jE}{β:jO}{h:AH}{w:World}
def Oe{f:FuncId}{F:AF}(ok:okF P f F=true){args:List AV}(r:args.length<=F.nt){n:Ending->World->Prop}(R:Rel Z β h w){vs:List Value}(hl:args.length=vs.length)
  (o:∀(j:Nat)(y:AV)(u:Value),args[j]? = some y->vs[j]? = some u->VR β (Own Z β h) w y u)
  (H:∀(c:Code)(fn:Func)(a:Act),je P F.nt c F.body=true->oI P fn.results.toList F.res=true->jt Z β h w (jJ args) a F.nt->a.defers=[]->c.wp P (bodyPost P fn n) a w):Calls P f vs.toArray w n:=by
 unfold okF at ok;split at ok
 .rename_i fn v;split at ok
  .rename_i c x;simp only[aF,decide_eq_true_eq,beq_iff_eq]at ok;let⟨⟨⟨z,b⟩,i⟩,l⟩:=ok
   have E:jt Z β h w (jJ args) {tmps:=vs.toArray++Array.replicate (fn.ntmps-vs.toArray.size) undef,defers:=[]} F.nt:=by
    refine⟨ak,λt=>?_⟩
    unfold jJ
    by_cases q:t<args.length
    .have h1:args[t]? = some args[t]:=aH q;have h2:vs[t]? = some (vs[t]'af):=aH af
     have:=o t _ _ h1 h2;rw[bY,h1];rw[bD,dL ak]
     simp only[bE,h2,dh];exact this
    .rw[bY,dn af]
     exact .dead _
   exact calls_of_wp v x (H c fn _ b i E rfl)
  .cases ok
 .cases ok
def nT(sz bytes:Nat)(zero:AV):AF:=AF.mk 8 [.t 2] (.seq (.ops (.op (some 2) (.mv (.c (.b9 true []))) (.nil)))
 (.seq (.seq (.ops (.op (some 3) (.mv (.t 0)) (.op (some 4) (.yQ .sl false (.t 3)) (.nil))))
 (.cond (.t 4) (.seq (.ops (.op (some 2) (.mv (.c (.b9 true []))) (.nil)))
 (.ret)) (.skip)))
 (.seq (.ops (.op (some 5) (.Si sz zero 0 []) (.op (some 6) (.mv (.t 0)) (.op (some 7) (.app sz bytes (.t 5) (.t 6)) (.op (some 2) (.mv (.t 7)) (.nil))))))
 (.ret))))
def jd(sz bytes:Nat)(args:List AV)(h:AH):Option (AV×AH):=match args with
 | [a]=>(elems h a).bind λes=>if jw sz es=true/\0<sz/\es.length*bytes<=140737488355328/\es.length<=140737488355328 then some (.own h.length 0 0 es.length,h++[.row 0 sz es])else none
 |_=>none
def Lc (hm:P.follows .mixedOrders=true) (G:j3 P Γ) {f:FuncId} {sz bytes:Nat} {zero:AV} (ok:okF P f (nT sz bytes zero)=true) {args:List AV} {r:AV} {h':AH} (L:jd sz bytes args h=some (r,h')):ux P f args h r h':=by
 unfold jd at L;split at L
 .rename_i a;simp only[aG]at L;obtain⟨es,l,L⟩:=L;split at L
  .rename_i X;cases L;obtain⟨hc1,NW,hc3,hc4⟩:=X
   have N:append h sz bytes (.b9 true []) es=some (.own h.length 0 0 es.length,h++[.row 0 sz es]):=by
    simp only[append];rw[if_pos ⟨.inl trivial,by simp[jw],hc1,an hc3,an hc4⟩]
    simp
   by_cases M:es=[]
   .refine⟨rP ok, λZ β w vs R hl O => Oe ok (by simp[nT]) R hl O λc fn act q hres E hd => ?_⟩
    subst M;have H:isNil .sl false a=some .tT:=by
     cases a<;>simp only[elems]at l<;>first | (cases l;done) | skip
     .cases l;simp[isNil]
     .rename_i b v o n;have hn:n=0:=by
       split at l
       .split at l
        .rename_i X;simp only[bn]at l;have:=congrArg List.length l;simp at this;omega
        .cases l
       .split at l
        .rename_i X;simp only[bn]at l;have:=congrArg List.length l;simp at this;omega
        .cases l
       .cases l
      subst hn;simp[isNil]
    cases c<;>first | (cases q;done) | skip
    rename_i c1 c2;simp only[nT,je,aF]at q;obtain⟨Y,q⟩:=q;cases c1<;>first | (cases Y;done) | skip
    cases c2<;>first | (cases q;done) | skip
    rename_i c2 c3;simp only[je,aF]at q;obtain⟨q,EB⟩:=q;cases c2<;>first | (cases q;done) | skip
    rename_i c4 c5;simp only[je,aF]at q;obtain⟨Hw,PC⟩:=q;cases c4<;>first | (cases Hw;done) | skip
    cases c5<;>first | (cases PC;done) | skip
    rename_i cc cx cy;simp only[je,aF]at PC;obtain⟨⟨sw,okx⟩,oky⟩:=PC;have h0:jJ [a] 0=a:=rfl;have iA:rT Γ (.op (some 2) (.mv (.c (.b9 true []))) .nil) ⟨jJ [a],h⟩=some ⟨(jJ [a]).put 2 (.b9 true []),h⟩:=rfl;generalize hs1:(⟨(jJ [a]).put 2 (.b9 true []),h⟩:St)=s1 at iA
    have iB:rT Γ (.op (some 3) (.mv (.t 0)) (.op (some 4) (.yQ .sl false (.t 3)) .nil)) s1=some ⟨(((jJ [a]).put 2 (.b9 true [])).put 3 a).put 4 .tT,h⟩:=by
     rw[<-hs1];show ((kG h (isNil .sl false a)).bind λr=>some (St.put ⟨((jJ [a]).put 2 (.b9 true [])).put 3 a,r.2⟩ (some 4) r.1))=_
     rw[H];rfl
    refine wp_seq (Iq.wp hm (rM G Y iA (W:=λ_=>true) (λ_ _=>rfl) R E λa1 w1 β1 R1 F1 E1 K1=>?_))
    refine wp_seq (wp_seq (Iq.wp hm (rM G Hw iB (W:=λ_=>true) (λ_ _=>rfl) R1 E1 λa2 w2 β2 R2 F2 E2 K2=>?_)))
    have ajU:s1.h=h:=by rw[<-hs1]
    rw[ajU]at F1 F2 R1;have Q:=hU E2 sw;have S:∃b,a2.eval cc = .bool b:=by
     have:AO.get ((((jJ [a]).put 2 (.b9 true [])).put 3 a).put 4 .tT) (.t 4) = .tT:=rfl;rw[this]at Q;generalize a2.eval cc=u at Q;cases Q with
     |pure _ _ hq=>cases hq
     |tT b=>exact⟨b,rfl⟩
    obtain⟨b,S⟩:=S;have U:=F1.trans F2;have K12:=K1.trans K2;generalize hs2:(⟨(((jJ [a]).put 2 (.b9 true [])).put 3 a).put 4 .tT,h⟩:St)=F at R2 F2 E2 U;have y:F.h=h:=by rw[<-hs2]
    refine wp_cond S ?_
    have fin:∀ {s3:St} {a3:Act} {z:World} {β3:jO} {r3:AV} {h3:AH},s3.e 2=r3->s3.h=h3->Rel Z β3 s3.h z->Dk (λi=>decide (h.length<=i)) Z β2 F.h w2 β3 s3.h z->jt Z β3 s3.h z s3.e a3 8->jA (λ_=>true) a2 a3->
      (∀u z β3,Rel Z β3 h3 z->Fr Z β h w β3 h3 z->VR β3 (Own Z β3 h3) z r3 u->∃v β',Ending.returned u = .returned v/\Rel Z β' (h++[.row 0 sz []]) z/\Fr Z β h w β' (h++[.row 0 sz []]) z/\VR β' (Own Z β' (h++[.row 0 sz []])) z (.own h.length 0 0 0) v)->
      bodyPost P fn (λe w'=>∃v β',e = .returned v/\Rel Z β' (h++[.row 0 sz []]) w'/\Fr Z β h w β' (h++[.row 0 sz []]) w'/\VR β' (Own Z β' (h++[.row 0 sz []])) w' (.own h.length 0 0 0) v) .ret a3 z:=by
     intro s3 a3 z β3 r3 h3 e2 eh K A E3 K3 hf;obtain⟨u,h1,h2⟩:=qT K E3 (v:=r3) hres (by simp[nT,qx,e2])
     rw[eh]at K A h2;rw[y]at A
     have F4:Fr Z β2 h w2 β3 h3 z:=⟨A.lF,A.os,A.tape,A.output,λi v bd hb=>A.ext i v bd (by
      simp only[decide_eq_false_iff_not];intro hle;rw[y]at R2;rw[R2.fresh i v hle]at hb;cases hb) hb,A.stay⟩
     rw[y]at U;exact⟨(K12.trans K3).defers.trans hd,u,h1,hf u z β3 K (U.trans F4) h2⟩
    cases b with
    |true =>
     rw[if_pos rfl]
     refine mD hm G _ _ okx (V:=λi=>decide (h.length<=i)) (ρ:=St) (k:=λx s=>match x with | .ret=>some s | _=>none)
      (s:=F) (r:=⟨F.e.put 2 (.b9 true []),F.h⟩) rfl (W:=λ_=>true) (λ_ _=>rfl) R2 E2 λx s' a3 z β3 hk K A E3 K3=>?_
     cases x with
     |normal=>cases hk
     |exit=>cases hk
     |ny p=>cases hk
     |ret =>
      cases hk;refine fin (s3:=⟨F.e.put 2 (.b9 true []),F.h⟩) (r3:=.b9 true []) (h3:=h) rfl y K A E3 K3 λu z β3 K A O=>?_
      have O:=O.mK;obtain⟨ad,rfl⟩:∃ad,u = .slice ad 0 0:=by
       cases O with
       |b9 _ _ ad c _ _ _ _ hf _ _ _ _ _ _ =>
        have X:=hf rfl;simp only[bt]at X⊢;subst X;exact⟨ad,rfl⟩
      obtain⟨β4,R4,F4,V4⟩:=K.uf sz NW;exact⟨_,β4,rfl,R4,A.trans F4,V4 ad⟩
    |false =>
     rw[if_neg ai]
     cases cy<;>first | (cases oky;done) | skip
     all_goals first | refine wp_skip ?_ | refine wp_label ?_
     all_goals
      have T:append F.h sz bytes (.b9 true []) []=some (.own h.length 0 0 0,h++[.row 0 sz []]):=by rw[y];exact N
      have aj9:elems F.h a=some []:=by rw[y];exact l
      have ha0:F.e 0=a:=by rw[<-hs2];rfl
      refine mD hm G _ _ EB (V:=λi=>decide (h.length<=i)) (ρ:=St) (k:=λx s=>match x with | .ret=>some s | _=>none)
       (s:=F) (r:=⟨(((F.e.put 5 (.b9 true [])).put 6 a).put 7 (.own h.length 0 0 0)).put 2 (.own h.length 0 0 0),h++[.row 0 sz []]⟩) ?_ (W:=λ_=>true) (λ_ _=>rfl) R2 E2 λx s' a3 z β3 hk K A E3 K3=>?_
      .simp[ha0,aj9,T]
      .cases x with
       |normal=>cases hk
       |exit=>cases hk
       |ny p=>cases hk
       |ret =>
        cases hk;exact fin (r3:=.own h.length 0 0 0) (h3:=h++[.row 0 sz []]) rfl rfl K A E3 K3 λu z β3 K A O=>⟨u,β3,rfl,K,A,O⟩
   .refine pU hm G ok ?_
    have H:isNil .sl false a=some (.bool false):=by
     cases a<;>simp only[elems]at l<;>first | (cases l;done) | skip
     .cases l;simp[isNil,M]
     .rename_i b v o n;have hn:n≠0:=by
       rintro rfl
       split at l
       .split at l
        .simp only[ir,bn]at l;exact M l.symm
        .cases l
       .split at l
        .simp only[ir,bn]at l;exact M l.symm
        .cases l
       .cases l
      simp[isNil,hn]
    have h0:jJ [a] 0=a:=rfl;simp[kU,nT,H,l,N]
  .cases L
 .cases L
end
section
variable{P:Program}{Z:az}{Γ:jE}{β:jO}{h:AH}{w:World}
end
section
variable{P:Program}{Z:az}{Γ:jE}{xs:List AI}{w:World}
def Qm{l m:Nat}{row:String}{args:Array Value}{R:Value->World->Prop}(h:Rows P row args w R):RowsIn (Fence.wide.inRound l) m P row args w R:=by
 intro c cs _;let⟨v,w',r,s⟩:=h c cs;exact⟨v,w',r,stepsIn_wide.2 s⟩
def DJ{l m:Nat}{o:Oper}(b:∀c,o.op≠.defer c){a:Act}{next:Act->World->Prop}{Q:Exit->Act->World->Prop}(h:o.wp P a w next Q):o.wpIn (Fence.wide.inRound l) m P a w next Q:=by
 refine⟨λ_ _=>trivial,?_⟩
 have e:o.semAt (Fence.wide.inRound l).round a.eval=execOp a.eval o:=Oper.semAt_some l _ _ b;rw[e];unfold Oper.wp at h;generalize(execOp a.eval o).run P w=r at h;unfold Oper.upon at h;unfold Oper.uponIn;split at h
 .exact h
 .exact h
 .exact h
 .exact⟨λh=>by simp[Fence.wide,Fence.inRound]at h,CallsIn.inRound l (callsIn_wide.2 h)⟩
 .exact⟨λh=>by simp[Fence.wide,Fence.inRound]at h,Qm h⟩
 .exact h
 .exact h.elim
def wo{o:Oper}{a:Act}{K b:Act->World->Prop}{Q:Exit->Act->World->Prop}(h:o.wp P a w K Q)(hk:∀a w,K a w->b a w):o.wp P a w b Q:=Oper.wp_mono hk h
def Jb{l m:Nat}{ops:Array Oper}{Q:Exit->Act->World->Prop}(q:¬LetsOut Q):∀(os:List Oper)(_:∀o∈os,∀c,o.op≠.defer c)(a:Act)(w:World),wpList P ops Q os a w->wpListIn (Fence.wide.inRound l) m P ops Q os a w
 | [],_,a,w,h=>h
 |o::os,n,a,w,h=>by
  have i:=Jb (l:=l) (m:=m) (ops:=ops) q os (λx r=>n x (by simp[r]))
  unfold wpList at h;unfold wpListIn;split at h
  .rename_i b;rw[if_pos b]
   rcases h with h | ⟨_,h⟩
   .exact DJ (n o ai) (wo h i)
   .exact absurd h q
  .rename_i b;rw[if_neg b];exact⟨λ_ _=>trivial,i _ _ h⟩
def Ex{l m:Nat}{ops:Array Oper}{Q:Exit->Act->World->Prop}(r:∀o∈ops.toList,∀c,o.op≠.defer c)(v:¬LetsOut Q):∀(b:Nat)(S:Array Bool)(a:Act)(w:World),wpAny P .any ops Q b S a w->wpAnyIn (Fence.wide.inRound l) m P .any ops Q b S a w
 |0,S,a,w,h=>h
 |n+1,S,a,w,h=>by
  refine⟨h.1,λi y=>?_⟩
  have h2:=h.2 i y;unfold wpOp at h2;unfold wpOpIn;cases q:ops[i]? with
  |none=>rw[q]at h2;exact Ex r v n _ a w h2
  |some o =>
   rw[q]at h2;simp only at h2⊢;split at h2
   .rename_i x;rw[if_pos x]
    rcases h2 with h2 | ⟨_,h2⟩
    .exact DJ (r o (by
      rw[aW]at q;let⟨h1,h2⟩:=q;rw[<-h2];simp)) (wo h2 λa w=>Ex r v n _ a w)
    .exact absurd h2 v
   .rename_i x;rw[if_neg x];exact⟨λ_ _=>trivial,Ex r v n _ _ w h2⟩
def D9{lr m0:Nat}(F:P.follows .mixedOrders=true)(v:j3 P Γ){n:Nat}(q:AC)(c:Code)(ok:je P n c q=true)(nd:Nk c=true){V:aB}{ρ:Type}{k:AX->St->Option ρ}{s:St}{r:ρ}(G:eval Γ q V ρ k s=some r)
  {W:aB} (H:∀t∈sG q,W t=true) {β:jO} {a:Act} {w:World} (R:Rel Z β s.h w) (E:jt Z β s.h w s.e a n) {Q:Exit->Act->World->Prop}
  (K:∀x s' y w' β',k x s'=some r->Rel Z β' s'.h w'->Dk V Z β s.h w β' s'.h w'->jt Z β' s'.h w' s'.e y n->jA W a y->Q x.exit' y w'):c.wpIn (Fence.wide.inRound lr) m0 P Q a w :=
 kI (b:=false) (λ{_ ops l _ _ _} nd z h=>by
  have i:∀o∈ops.toList,∀c,o.op≠.defer c:=λo A=>Fz (aM.1 nd o A)
  cases l with
  |true=>exact wpIn_region_any F (Ex i z _ _ _ _ h)
  |false=>exact wpIn_region_list (Jb z ops.toList i _ _ h)) v q c ok nd G H R E K
end
end Go.Am
