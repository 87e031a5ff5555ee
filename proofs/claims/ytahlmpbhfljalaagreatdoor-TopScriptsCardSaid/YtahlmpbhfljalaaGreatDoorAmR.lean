/- Part of the proof that TopScriptsCard holds. -/
import Derived.Test.YtahlmpbhfljalaaGreatDoorAmO
import Derived.Test.YtahlmpbhfljalaaGreatDoorAmCs
set_option linter.all false
namespace Go.Am
variable{av s:AV}{h':AH}
section
variable{P:Program}{Z:ay}{β:iW}{h:AH}{w:World}
def gY.keep{s:Sem Value}{v:Option AV}(hk:jv h v=some (av,h'))(b:∀x,v=some x->gY P Z β h w s x h):gY P Z β h w s av h':=by
 cases v with
 |none=>cases hk
 |some x =>
  cases hk;exact b _ rfl
def uG{e:TypeId}(b:ua.zm P e=true):∃i z,P.info? e=some i/\i.zero=some z/\z.cells.size=i.size:=by
 grind[ua.zm]
def xQ{sz bytes:Nat}{news:List AV}(b:append h sz bytes s news=some (av,h')):iU sz news=true:=by
 unfold append at b;split at b
 .grind
 .grind
 .cases b
def La{sz bytes:Nat}{news:List AV}(b:append h sz bytes s news=some (av,h')):news.length<=140737488355328:=by
 unfold append at b;split at b
 .grind
 .grind
 .cases b
def J7(d:TypeDesc):(match d with | .int _=>False | _=>True)\/((d matches .slice _)=false/\(d matches .string)=false):=by grind
def xP(b:ByteArray)(l:aq)(h:b.data.toList=l):((b.extract 0 l.length).data.map λc=>Value.int .u8 c.toNat)=(l.map λc=>Value.int .u8 c.toNat).toArray:=by
 apply cq;subst h;simp
section
variable{t:TypeId}{n:Nat}
def KG{elem:TypeId}(i:P.underlying t=some (.slice elem))(w:World)(ad:Option Addr)(m l m' b:Nat):(Op.equalIn (n+1) t (.slice ad m l) (.slice none m' b)).run P w = .ok ad.isNone w:=by
 cases ad<;>simp[Op.equalIn,run_underlying i]
def Dq{elem:TypeId}(b:P.underlying t=some (.pointer elem))(w:World)(ad:Option Addr):(Op.equalIn (n+1) t (.pointer ad) (.pointer none)).run P w = .ok ad.isNone w:=by
 cases ad<;>simp[Op.equalIn,run_underlying b]
def Q8{p r:Array TypeId}{v:Bool}(b:P.underlying t=some (.func p r v))(w:World):(Op.equalIn (n+1) t .nilFunc .nilFunc).run P w = .ok true w:=by
 simp[Op.equalIn,run_underlying b]
def Q7{p r:Array TypeId}{v:Bool}(b:P.underlying t=some (.func p r v))(w:World)(f:Fn)(x y:Array Value):(Op.equalIn (n+1) t (.func f x y) .nilFunc).run P w = .ok false w:=by
 simp[Op.equalIn,run_underlying b]
def Q6{b}(i:P.underlying t=some (.interface b))(w:World):(Op.equalIn (n+1) t .nilIface .nilIface).run P w = .ok true w:=by
 simp[Op.equalIn,run_underlying i]
def Q5{i}(l:P.underlying t=some (.interface i))(w:World)(b:TypeId)(x:Value):(Op.equalIn (n+1) t (.iface b x) .nilIface).run P w = .ok false w:=by
 simp[Op.equalIn,run_underlying l]
end
def Km(R:Rel Z β h w){a:Act}{n:Nat}{e:Env}(E:iP Z β h w e a n){t:TypeId}{d:TypeDesc}(G:P.underlying t=some d){k:NK}{c:Value}
  (r:SJ k d c=true) {neg:Bool} {y av:AV} {x:Operand} (l:isNil k neg y=some av) (q:VR β (Own Z β h) w y (a.eval x)) :
  gY P Z β h w (do eqGuard (if neg then .neq else .eql) t x (.const c) (a.eval x) (a.eval (.const c));binOp (if neg then .neq else .eql) t (a.eval x) (a.eval (.const c))) av h:=by
 have key:∀ {b:Bool},((eqGuard (if neg then .neq else .eql) t x (.const c) (a.eval x) c).run P w = .ok () w)->((binOp (if neg then .neq else .eql) t (a.eval x) c).run P w = .ok (.bool b) w)->VR β (Own Z β h) w av (.bool b)->
   gY P Z β h w (do eqGuard (if neg then .neq else .eql) t x (.const c) (a.eval x) (a.eval (.const c));binOp (if neg then .neq else .eql) t (a.eval x) (a.eval (.const c))) av h:=by
  intro b h1 h2 h3;refine gY.of R (v:=.bool b) ?_ h3;show (eqGuard _ t x (.const c) (a.eval x) c >>= λ_=>binOp _ t (a.eval x) c).run P w=_
  simp_all
 have A:∀ {ad:Option Addr} {m S:Nat} {elem:TypeId} {m' F:Nat},d = .slice elem->c = .slice none m' F->a.eval x = .slice ad m S->VR β (Own Z β h) w av (.bool (if neg then !ad.isNone else ad.isNone))->
   gY P Z β h w (do eqGuard (if neg then .neq else .eql) t x (.const c) (a.eval x) (a.eval (.const c));binOp (if neg then .neq else .eql) t (a.eval x) (a.eval (.const c))) av h:=by
  intro ad m S elem m' F e1 X W q;subst e1 X;rw[W]at key⊢;refine key (b:=if neg then !ad.isNone else ad.isNone) ?_ ?_ q
  .cases neg<;>simp[eqGuard]
  .cases neg<;>simp[binOp,Op.equal,Op.maxDepth,KG G]
 cases y with
 |kG =>
  cases k<;>simp only[isNil]at l<;>first | (cases l;done) | skip
  cases l;cases d<;>first | (cases r;done) | skip
  cases c<;>first | (cases r;done) | skip
  rename_i p;cases p<;>first | (cases r;done) | skip
  have z:a.eval x = .pointer none:=by generalize a.eval x=u at q;cases q with | pure _ _ q=>cases q;rfl
  rw[z]at key⊢;refine key (b:=!neg) ?_ ?_ (.of_bool _)
  .cases neg<;>simp[eqGuard]
  .cases neg<;>simp[binOp,Op.equal,Op.maxDepth,Dq G]
 |ptr b M i o =>
  cases k<;>simp only[isNil]at l<;>first | (cases l;done) | skip
  cases l;cases d<;>first | (cases r;done) | skip
  cases c<;>first | (cases r;done) | skip
  rename_i p;cases p<;>first | (cases r;done) | skip
  let⟨bd,cc,_,_,z⟩:=q.jl;rw[z]at key⊢;refine key (b:=neg) ?_ ?_ (.of_bool _)
  .cases neg<;>simp[eqGuard]
  .cases neg<;>simp[binOp,Op.equal,Op.maxDepth,Dq G]
 |iw cs =>
  cases k<;>simp only[isNil]at l<;>first | (cases l;done) | skip
  cases l;cases d<;>first | (cases r;done) | skip
  cases c<;>first | (cases r;done) | skip
  rename_i p;cases p<;>first | (cases r;done) | skip
  obtain⟨ad,z⟩:∃ad,a.eval x = .pointer (some ad):=by
   generalize a.eval x=u at q;cases q with
   |pure _ _ q=>cases q
   |iw=>exact⟨_,rfl⟩
  rw[z]at key⊢;refine key (b:=neg) ?_ ?_ (.of_bool _)
  .cases neg<;>simp[eqGuard]
  .cases neg<;>simp[binOp,Op.equal,Op.maxDepth,Dq G]
 |kU =>
  cases k<;>simp only[isNil]at l<;>first | (cases l;done) | skip
  cases l;cases d<;>first | (cases r;done) | skip
  cases c<;>first | (cases r;done) | skip
  have z:a.eval x = .nilFunc:=by generalize a.eval x=u at q;cases q with | pure _ _ q=>cases q;rfl
  rw[z]at key⊢;refine key (b:=!neg) ?_ ?_ (.of_bool _)
  .cases neg<;>simp[eqGuard]
  .cases neg<;>simp[binOp,Op.equal,Op.maxDepth,Q8 G]
 |fn f fi ca =>
  cases k<;>simp only[isNil]at l<;>first | (cases l;done) | skip
  cases l;cases d<;>first | (cases r;done) | skip
  cases c<;>first | (cases r;done) | skip
  obtain⟨Q,T,a2,z⟩:∃Q T a2,a.eval x = .func Q T a2:=by
   generalize a.eval x=u at q;cases q with
   |pure _ _ q=>cases q
   |fn=>grind
  rw[z]at key⊢;refine key (b:=neg) ?_ ?_ (.of_bool _)
  .cases neg<;>simp[eqGuard]
  .cases neg<;>simp[binOp,Op.equal,Op.maxDepth,Q7 G]
 |kg =>
  cases k<;>simp only[isNil]at l<;>first | (cases l;done) | skip
  cases l;cases d<;>first | (cases r;done) | skip
  cases c<;>first | (cases r;done) | skip
  have z:a.eval x = .nilIface:=by generalize a.eval x=u at q;cases q with | pure _ _ q=>cases q;rfl
  rw[z]at key⊢;refine key (b:=!neg) ?_ ?_ (.of_bool _)
  .cases neg<;>simp[eqGuard]
  .cases neg<;>simp[binOp,Op.equal,Op.maxDepth,Q6 G]
 |uc tt M =>
  cases k<;>simp only[isNil]at l<;>first | (cases l;done) | skip
  cases l;cases d<;>first | (cases r;done) | skip
  cases c<;>first | (cases r;done) | skip
  obtain⟨O,N,z⟩:∃O N,a.eval x = .iface O N:=by
   generalize a.eval x=u at q;cases q with
   |pure _ _ q=>cases q
   |uc=>exact⟨_,_,rfl⟩
  rw[z]at key⊢;refine key (b:=neg) ?_ ?_ (.of_bool _)
  .cases neg<;>simp[eqGuard]
  .cases neg<;>simp[binOp,Op.equal,Op.maxDepth,Q5 G]
 |en full es =>
  cases k<;>simp only[isNil]at l<;>first | (cases l;done) | skip
  cases d<;>first | (cases r;done) | skip
  cases c<;>first | (cases r;done) | skip
  rename_i pp m' F;cases pp<;>first | (cases r;done) | skip
  let⟨ad,cc,z,Y,L⟩:=kE R (a:=.en full es) rfl q;split at l
  .cases l;exact A rfl rfl z (.th _)
  .rename_i H;cases l;let⟨blk,o,sz,_,K,_⟩:=L H;refine A rfl rfl z ?_;rw[K];cases neg<;>exact .of_bool _
 |own b M o m =>
  cases k<;>simp only[isNil]at l<;>first | (cases l;done) | skip
  cases d<;>first | (cases r;done) | skip
  cases c<;>first | (cases r;done) | skip
  rename_i pp m' F;cases pp<;>first | (cases r;done) | skip
  let⟨bd,ad,cc,U,z,h2⟩:=q.jL;split at l
  .cases l;exact A rfl rfl z (.th _)
  .rename_i H;cases l;refine A rfl rfl z ?_
   rcases h2 with⟨_,h2⟩ | ⟨cb,_,K,_,_⟩
   .exact absurd h2 H
   .rw[K];cases neg<;>exact .of_bool _
 |_=>simp[isNil]at l
set_option maxHeartbeats 1600000 in
def HJ(R:Rel Z β h w){Γ:ja}{e:Env}{a:Act}{n:Nat}(E:iP Z β h w e a n){o:Oper}{x:j5}(ok:ua P o.op x=true){av:AV}{h':AH}(hx:exec Γ e h x=some (av,h'))
  (S3:∀f ys,x≠.call f ys/\x≠.kY f ys) (Wu:∀y ys,x≠.jS y ys) (Ww:∀y ys,x≠.qB y ys) (Wx:∀y ys,x≠.s5 y ys) (Wy:∀y ys,x≠.o8 y ys) (Wv:∀y ys,x≠.calls y ys) (Je:∀y ys,x≠.oZ y ys/\x≠.ni y ys) (Ny:∀y ys,x≠.vM y ys/\x≠.vN y ys) (Wi:∀sz y z,x≠.store sz y z) (QF:∀sz y z q,x≠.nE sz y z q) (ajs:∀y,x≠.J8 y) (Kw:∀y,x≠.mv y) (SY:∀q m k y,x≠.sx q m k y) :
  ∃s,execOp a.eval o=(do pure (.value (<-s)))/\gY P Z β h w s av h':=by
 obtain⟨dst,op,type,pos,after,guard⟩:=o;dsimp only at ok;unfold ua at ok;split at ok
 case h_1=>simp only[exec]at hx;cases hx
 case h_2 op t x c yt k neg x' =>
  simp only[aC,decide_eq_true_eq]at ok;obtain⟨⟨rfl,h1⟩,h2⟩:=ok;obtain⟨d,G,A⟩:=iH h2;have v1:=gW R.gl E h1;simp only[exec]at hx;exact⟨do eqGuard (if neg then .neq else .eql) t x (.const c) (a.eval x) (a.eval (.const c));binOp (if neg then .neq else .eql) t (a.eval x) (a.eval (.const c)),rfl,gY.keep hx λav L=>Km R E G A L v1⟩
 case h_3=>exact absurd rfl (Kw _)
 case h_4=>exact absurd rfl (Kw _)
 case h_5 c x y c' x' y' =>
  simp only[aC]at ok;obtain⟨⟨h1,h2⟩,h3⟩:=ok;simp only[exec]at hx;have vc:=gW R.gl E h1;split at hx
  .rename_i t ht;cases hx;rw[ht]at vc;refine⟨do pure (if<-asBool (a.eval c)then a.eval x else a.eval y),by simp[execOp],gY.of R (v:=if t then a.eval x else a.eval y) ?_ ?_⟩
   .rw[vc.lK];simp[asBool]
   .cases t
    .exact gW R.gl E h3
    .exact gW R.gl E h2
  .cases hx
 case h_6 t zero =>
  simp only[exec]at hx;cases hx;exact⟨_,rfl,Lc R ok⟩
 case h_7 t x y =>
  simp only[exec]at hx;split at hx
  .rename_i hok;cases hx;exact⟨_,rfl,RL R t hok (gW R.gl E ok)⟩
  .cases hx
 case h_8 t ps zero qs =>
  simp only[exec,aD]at hx;obtain⟨cs,hcs,hx⟩:=hx;cases hx;exact⟨_,rfl,K0 R E ok hcs⟩
 case h_9 t k ps sz zero m qs =>
  simp only[exec,aD]at hx;obtain⟨es,S,hx⟩:=hx;cases hx;exact⟨_,rfl,JA R E ok (tf h _ _ _ S)⟩
 case h_10 t k ps sz zero m qs =>
  simp only[exec,aD]at hx;obtain⟨⟨es,h1⟩,S,hx⟩:=hx;cases hx;exact⟨_,rfl,JA R E ok S⟩
 case h_11 t k ps sz zero m qs =>
  simp only[exec,aD]at hx;obtain⟨⟨es,h1⟩,S,hx⟩:=hx;cases hx;exact⟨_,rfl,OB R E ok S⟩
 case h_12 t x sz agg y =>
  simp only[aC]at ok;obtain⟨⟨h1,h2⟩,h3⟩:=ok;simp only[exec,aD]at hx;obtain⟨cs,hcs,hx⟩:=hx;exact⟨_,rfl,gY.keep hx λav L=>vu R hcs L (gW R.gl E h3) h1 h2⟩
 case h_13 t x sz agg y q0 =>
  simp only[aC]at ok;obtain⟨⟨h1,h2⟩,h3⟩:=ok;simp only[exec]at hx;split at hx
  case isFalse=>cases hx
  simp only[aD]at hx;obtain⟨cs,hcs,hx⟩:=hx;exact⟨_,rfl,gY.keep hx λav L=>vu R hcs L (gW R.gl E h3) h1 h2⟩
 case h_14=>exact absurd rfl (Wi _ _ _)
 case h_15=>exact absurd rfl (QF _ _ _ _)
 case h_16=>exact absurd rfl (ajs _)
 case h_17 op t x y yt op' x' y' =>
  simp only[aC,decide_eq_true_eq]at ok;obtain⟨⟨⟨rfl,_⟩,h2⟩,h3⟩:=ok;simp only[exec]at hx;refine⟨do eqGuard op t x y (a.eval x) (a.eval y);binOp op t (a.eval x) (a.eval y),rfl,gY.keep hx λav L=>?_⟩
  obtain⟨m,g⟩:=RM (P:=P) R L (gW R.gl E h2) (gW R.gl E h3) t;obtain⟨v,w',β',hr,k⟩:=m;exact⟨v,w',β',by simp only[Sem.run_bind,g,Result.andThen_ok,hr],k⟩
 case h_18 op t x y yt neg ks x' y' =>
  simp only[aC,decide_eq_true_eq]at ok;obtain⟨⟨⟨rfl,h1⟩,h2⟩,h3⟩:=ok;simp only[exec]at hx;have v1:=gW R.gl E h2;have v2:=gW R.gl E h3;split at hx
  .rename_i p q hp A;simp only[aD]at hx;obtain⟨r,hr,hx⟩:=hx;split at hx
   .rename_i hlen;cases hx;rw[hp]at v1;rw[A]at v2;obtain⟨m,g⟩:=PN (P:=P) R h1 neg hlen.1 hlen.2 hr v1 v2;obtain⟨v,w',β',hr,k⟩:=m;refine⟨do eqGuard (if neg then .neq else .eql) t x y (a.eval x) (a.eval y);binOp (if neg then .neq else .eql) t (a.eval x) (a.eval y),rfl,v,w',β',?_,k⟩
    simp only[Sem.run_bind,g,Result.andThen_ok,hr]
   .cases hx
  .cases hx
 case h_19 op t x op' y =>
  simp only[aC,decide_eq_true_eq]at ok;obtain⟨rfl,h2⟩:=ok;simp only[exec]at hx;exact⟨_,rfl,gY.keep hx λav L=>TV R L (gW R.gl E h2)⟩
 case h_20 s d x k y =>
  simp only[aC]at ok;obtain⟨⟨h1,h2⟩,h3⟩:=ok;obtain⟨dd,G,A⟩:=iH h2
  have hd':P.underlying d=some (.int k):=by
   cases dd<;>first | (cases A;done) | skip
   simp at A;subst A;exact G
  have v1:=gW R.gl E h3;simp only[exec]at hx;split at hx
  .rename_i kk i hi;cases hx;rw[hi]at v1;exact⟨_,rfl,Oj R h1 hd' v1⟩
  .cases hx
 case h_21 s d x y =>
  simp only[aC]at ok;obtain⟨⟨h1,h2⟩,h3⟩:=ok;obtain⟨ds,hs,hq1⟩:=iH h1;obtain⟨dd,G,Kv⟩:=iH h2;have hd':P.underlying d=some .string:=by cases dd<;>first | exact G | (cases Kv;done)
  cases ds<;>first | (cases hq1;done) | skip
  rename_i ee;obtain⟨de,K,Q⟩:=iH hq1
  have he':P.underlying ee=some (.int .u8):=by
   cases de<;>first | (cases Q;done) | skip
   simp at Q;subst Q;exact K
  simp only[exec,aD]at hx;obtain⟨es,S,l,hl,hx⟩:=hx;cases hx;exact⟨_,rfl,RI R hs he' hd' S hl (gW R.gl E h3)⟩
 case h_22 t x t' y =>
  simp only[aC,decide_eq_true_eq]at ok;obtain⟨⟨rfl,h1⟩,h2⟩:=ok;simp only[exec]at hx;cases hx;exact⟨_,rfl,gY.of R (run_makeInterface w t _ h1) (.uc t _ _ (gW R.gl E h2))⟩
 case h_23 f fi ca f' fi' ca' =>
  simp only[aC,decide_eq_true_eq]at ok;obtain⟨⟨rfl,h1⟩,h2⟩:=ok;simp only[exec]at hx;cases hx;obtain⟨p1,p2⟩:=lJ R.gl E h1;obtain⟨q1,q2⟩:=lJ R.gl E h2;refine⟨_,rfl,gY.of R (v:=.func f (fi.map a.eval) (ca.map a.eval)) (by simp[Instr.makeFunc]) ?_⟩
  have:=VR.fn (β:=β) (O:=Own Z β h) (w:=w) f (getAll e fi') (getAll e ca') (fi.toList.map a.eval) (ca.toList.map a.eval) p1 q1 p2 q2
  rwa [show (fi.toList.map a.eval).toArray=fi.map a.eval from cq ah,show (ca.toList.map a.eval).toArray=ca.map a.eval from cq ah]at this
 case h_24 t l c sz bytes zero l' c' =>
  simp only[aC]at ok;obtain⟨⟨h1,h2⟩,h3⟩:=ok;simp only[exec]at hx;split at hx
  .rename_i H mm hn hm;split at hx
   .rename_i X;cases hx;exact⟨_,rfl,Qf R h1 hn hm X.1 X.2.1 X.2.2 (gW R.gl E h2) (gW R.gl E h3)⟩
   .cases hx
  .cases hx
 case h_25 t x lo hi mx y lo' hi' =>
  simp only[aC,Option.isNone_iff_eq_none]at ok;obtain⟨⟨⟨⟨h1,rfl⟩,h2⟩,h3⟩,h4⟩:=ok;obtain⟨d,G,A⟩:=iH h1;have hd':P.underlying t=some .string:=by cases d<;>first | exact G | (cases A;done)
  have v1:=gW R.gl E h2;simp only[exec]at hx;split at hx
  .rename_i l hl;rw[hl]at v1;simp only[aD]at hx;obtain⟨b,hb,c,X,hx⟩:=hx;split at hx
   .rename_i W;cases hx;exact⟨_,rfl,PL R E hd' h3 h4 X hb W.1 W.2 v1⟩
   .cases hx
  .cases hx
 case h_26 t x lo hi mx sz y lo' hi' mx' =>
  simp only[aC,decide_eq_true_eq]at ok;obtain⟨⟨⟨⟨⟨h0,h1⟩,h2⟩,h3⟩,h4⟩,h5⟩:=ok;obtain⟨d,G,A⟩:=iH h1;cases d<;>first | (cases A;done) | skip
  rename_i elem;have v1:=gW R.gl E h2;have hsome:mx'.isSome=true->∃p q,mx=some p/\mx'=some q:=by
   intro hs;cases mx' with
   |none=>cases hs
   |some q=>cases mx with
    |none=>simp[kr]at h5
    |some p=>exact⟨p,q,rfl,rfl⟩
  have adT:hi'.isSome=true->hi.isSome=true:=by
   intro hs;cases hi' with
   |none=>cases hs
   |some q=>cases hi with
    |none=>simp[kr]at h4
    |some p=>rfl
  simp only[exec]at hx;split at hx
  .rename_i full es hl;rw[hl]at v1;obtain⟨ad,c,K,X,_⟩:=kE R (a:=.en full es) rfl v1;rw[K]at v1;simp only[aD]at hx;obtain⟨yy,Ll,xx,hxx,hx⟩:=hx;split at hx
   .split at hx
    .rename_i W;obtain⟨AN,l1,l2⟩:=W;cases hx;have hm:jB c e (none:Option AO)=some c:=rfl;have hrun:=yf (P:=P) (w:=w) R.gl E G A h3 h4 h5 (λhs=>by cases mx<;>simp_all[kr]) (len:=es.length) (cap:=c) (ad:=ad) hxx Ll hm l1 aa (aT _)
     refine⟨Instr.sliceAt t (a.eval x) (lo.map a.eval) (hi.map a.eval) (mx.map a.eval),rfl,gY.of R (v:=_) (by rw[K];exact hrun) (.pure _ _ (I2 v1.lS AN h0 l1 aa l2 ?_))⟩
     intro hf;simp only[aC,decide_eq_true_eq]at hf;obtain⟨hf1,hf2⟩:=hf;subst hf1;generalize hce:es.length=ce at v1;cases v1.lS with
     |en _ _ _ _ _ _ _ _ hff=>have:=hff rfl;omega
    .cases hx
   .rename_i q hq';simp only[aD]at hx;obtain⟨mm,hmm,hx⟩:=hx;split at hx
    .rename_i W;obtain⟨AN,l0,l1,l2,l3⟩:=W;cases hx;have hrun:=yf (P:=P) (w:=w) R.gl E G A h3 h4 h5 (λ_=>adT l0) (len:=es.length) (cap:=c) (ad:=ad) (m:=mm) hxx Ll hmm l1 l2 aa
     refine⟨Instr.sliceAt t (a.eval x) (lo.map a.eval) (hi.map a.eval) (mx.map a.eval),rfl,gY.of R (v:=_) (by rw[K];exact hrun) (.pure _ _ (I2 v1.lS AN h0 l1 l2 aa ?_))⟩
     intro hf;simp only[decide_eq_true_eq]at hf;exact hf.symm
    .cases hx
  .rename_i r vv Y H hl;rw[hl]at v1;obtain⟨bd,ad,c,hbd,K,h6⟩:=v1.jL
   have cut:∀xx yy mm,iZ h r vv=some sz->xx<=yy->yy<=mm->mm<=c->yy<=H->VR β (Own Z β h) w (.own r vv (Y+xx) (yy-xx)) (.slice (if mm=xx then ad else ad.map (·.add (xx*sz))) (yy-xx) (mm-xx)):=by
    intro xx yy mm hr l1 l2 l3 l4;obtain⟨s1,s2⟩:=Bp R hr hbd;refine .own r vv (Y+xx) (yy-xx) bd _ (mm-xx) hbd ?_
    by_cases hmx:mm=xx
    .exact .inl ⟨aa,aa⟩
    .rcases h6 with⟨h6,h6'⟩ | ⟨cb,g1,g2,g3,g4⟩
     .exact .inl ⟨aa,aa⟩
     .refine .inr ⟨cb,g1,?_,aa,?_⟩
      .rw[if_neg hmx,g2];simp only[cB,addr_add,s1,bL];rw[cz]
      .have e1:Y+xx+(mm-xx)<=Y+c:=by omega
       have:=bl bd.sz e1;omega
   have hnc:H<=c:=by rcases h6 with⟨_,h6⟩ | ⟨_,_,_,h6,_⟩<;>omega
   simp only[aD]at hx;obtain⟨yy,Ll,xx,hxx,hx⟩:=hx;split at hx
   .split at hx
    .rename_i W;obtain⟨hr,l1,l2⟩:=W;cases hx;have hm:jB c e (none:Option AO)=some c:=rfl;have hrun:=yf (P:=P) (w:=w) R.gl E G A h3 h4 h5 (λhs=>by cases mx<;>simp_all[kr]) (len:=H) (cap:=c) (ad:=ad) hxx Ll hm l1 aa (aT _)
     exact⟨Instr.sliceAt t (a.eval x) (lo.map a.eval) (hi.map a.eval) (mx.map a.eval),rfl,gY.of R (v:=_) (by rw[K];exact hrun) (cut xx yy c hr l1 aa (aT _) l2)⟩
    .cases hx
   .rename_i q hq';simp only[aD]at hx;obtain⟨mm,hmm,hx⟩:=hx;split at hx
    .rename_i W;obtain⟨hr,l0,l1,l2,l3⟩:=W;cases hx;have hrun:=yf (P:=P) (w:=w) R.gl E G A h3 h4 h5 (λ_=>adT l0) (len:=H) (cap:=c) (ad:=ad) (m:=mm) hxx Ll hmm l1 l2 aa
     exact⟨Instr.sliceAt t (a.eval x) (lo.map a.eval) (hi.map a.eval) (mx.map a.eval),rfl,gY.of R (v:=_) (by rw[K];exact hrun) (cut xx yy mm hr l1 l2 aa aa)⟩
    .cases hx
  .cases hx
 case h_27 t x k off y =>
  simp only[aC]at ok;obtain⟨h1,h2⟩:=ok;obtain⟨d,G,A⟩:=iH h1;cases d<;>first | (cases A;done) | skip
  rename_i fs;dsimp only at A;split at A
  .rename_i f hf;simp only[aC,decide_eq_true_eq]at A;obtain⟨hoff,T⟩:=A;have Dg:∃i,P.info? f.type=some i/\i.size≠0:=by
    split at T
    .rename_i i hi;exact⟨i,hi,ak T⟩
    .cases T
   have v1:=gW R.gl E h2;simp only[exec]at hx;split at hx
   .rename_i b vv i Y hl;cases hx;rw[hl]at v1;obtain⟨bd,c,hb,X,K⟩:=v1.jl;refine⟨_,rfl,gY.of R (v:=.pointer (some ⟨c,bd.base+i*bd.sz+Y+off,none⟩)) (by rw[K];exact Jk G hf hoff Dg c _ w) ?_⟩
    have:=VR.ptr (β:=β) (O:=Own Z β h) (w:=w) b vv i (Y+off) bd c hb X
    rwa [<-cz]at this
   .rename_i cs hl;split at hx
    .rename_i W;cases hx;rw[hl]at v1;generalize hv1:a.eval x=u at v1;cases v1 with
     |pure _ _ hv=>cases hv
     |iw _ blk Y f' hO hw q1 q3 q2 =>
      refine⟨Instr.fieldAt t (a.eval x) k,rfl,gY.of R (v:=.pointer (some ⟨blk,Y+off,none⟩)) (by rw[hv1];exact Jk G hf hoff Dg blk _ w) ?_⟩
      refine .iw _ blk (Y+off) (λj=>f' (off+j)) hO hw (λj y hy=>?_) (λj y hy=>?_) (λj y hy=>?_)
      .rw[bR]at hy;rw[cz];exact q1 _ y hy
      .rw[bR]at hy;exact q3 _ y hy
      .rw[bR]at hy;exact q2 _ y hy
    .cases hx
   .cases hx
  .cases A
 case h_28 t x k off sz agg y =>
  simp only[aC]at ok;obtain⟨h1,h2⟩:=ok;obtain⟨d,G,A⟩:=iH h1;cases d<;>first | (cases A;done) | skip
  rename_i fs;dsimp only at A;split at A
  .rename_i f hf;simp only[aC,decide_eq_true_eq]at A;obtain⟨⟨hoff,T⟩,hag⟩:=A;have v1:=gW R.gl E h2;simp only[exec]at hx;split at hx
   .rename_i cs hl;split at hx
    .rw[hl]at v1;obtain⟨vs,K,hl',q1,q2⟩:=v1.nk;refine⟨Instr.field t (a.eval x) k,rfl,gY.keep hx λav L=>?_⟩
     obtain⟨v,hr,hv⟩:=yS (P:=P) L T hag hl' q1 q2;refine gY.of R (v:=v) ?_ hv;rw[K];simp only[Instr.field,Sem.run_bind,run_underlying G,Result.andThen_ok,hf,asAgg,Sem.run_pure,hoff,hr]
    .cases hx
   .cases hx
  .cases A
 case h_29 t x i sz y j =>
  simp only[aC]at ok;obtain⟨⟨h1,h2⟩,h3⟩:=ok;obtain⟨d,G,A⟩:=iH h1;cases d<;>first | (cases A;done) | skip
  rename_i elem;dsimp only at A;have v1:=gW R.gl E h2;have v2:=gW R.gl E h3;simp only[exec]at hx
  have run:∀(ad:Addr)(len c:Nat)(kk:IntKind)(ii:Int),0<=ii->ii<len->(Instr.indexAt t (.slice (some ad) len c) (.int kk ii)).run P w = .ok (.pointer (some (ad.add (ii.toNat*sz)))) w:=by
   intro ad len c kk ii l1 l2;simp only[Instr.indexAt,asIntOf,Sem.run_bind,Sem.run_pure,Result.andThen_ok,run_underlying G];rw[if_pos ⟨l1,l2⟩];simp[jr A]
  split at hx
  .rename_i full es hl;simp only[aD]at hx;obtain⟨H,hn,yy,Ll,hx⟩:=hx;split at hx
   .rename_i hlen;cases hx;rw[hl]at v1;obtain⟨kk,ii,BO,l1,l2⟩:=mU hn v2;have hlt:=(az.1 Ll).1;generalize hv1:a.eval x=u at v1;cases v1.lS with
    |en _ _ ad c blk Y sz' f hf X ha hs q1 q3 q2 =>
     have hne:es≠[]:=by rintro rfl;simp at Ll
     obtain⟨rfl,hO,hb⟩:=ha hne;have ajf:sz'=sz:=by have:=(hs H yy Ll).1;omega
     subst ajf;refine⟨Instr.indexAt t (a.eval x) (a.eval i),rfl,gY.of R (v:=.pointer (some ⟨blk,Y+H*sz',none⟩)) ?_ ?_⟩
     .rw[hv1,BO,run ⟨blk,Y,none⟩ es.length c kk ii l1 aa,addr_add,l2]
     .exact .iw _ blk (Y+H*sz') (f H) hO hb (λj y hy=>q1 H yy Ll j y hy) (λj y hy=>q3 H yy Ll j y hy) (λj y hy=>q2 H yy Ll j y hy)
   .cases hx
  .rename_i b vv Y m hl;simp only[aD]at hx;obtain⟨H,hn,hx⟩:=hx;split at hx
   .rename_i X;obtain⟨hlt,hr⟩:=X;cases hx;rw[hl]at v1;obtain⟨kk,ii,BO,l1,l2⟩:=mU hn v2;obtain⟨bd,ad,c,hbd,K,h6⟩:=v1.jL;obtain⟨s1,s2⟩:=Bp R hr hbd
    rcases h6 with⟨_,h6⟩ | ⟨cb,g1,g2,g3,g4⟩
    .omega
    .subst g2;refine⟨Instr.indexAt t (a.eval x) (a.eval i),rfl,gY.of R (v:=.pointer (some ⟨cb,bd.base+(Y+H)*bd.sz+0,none⟩)) ?_ (.ptr b vv (Y+H) 0 bd cb hbd g1)⟩;rw[K,BO,run _ m c kk ii l1 aa,addr_add,l2,s1,bL]
     congr 4;omega
   .cases hx
  .cases hx
 case h_30 t x i m sz y j =>
  simp only[aC]at ok;obtain⟨⟨h1,h2⟩,h3⟩:=ok;obtain⟨d,G,A⟩:=iH h1;cases d<;>first | (cases A;done) | skip
  rename_i len elem;simp only[aC,decide_eq_true_eq]at A;obtain⟨rfl,A⟩:=A;have v1:=gW R.gl E h2;have v2:=gW R.gl E h3
  have run:∀(ad:Addr)(kk:IntKind)(ii:Int),0<=ii->ii<len->(Instr.indexAt t (.pointer (some ad)) (.int kk ii)).run P w = .ok (.pointer (some (ad.add (ii.toNat*sz)))) w:=by
   intro ad kk ii l1 l2;simp only[Instr.indexAt,asIntOf,Sem.run_bind,Sem.run_pure,Result.andThen_ok,run_underlying G,Instr.sureAddr];rw[if_pos ⟨l1,l2⟩];simp[jr A]
  simp only[exec,aD]at hx;obtain⟨H,hn,hx⟩:=hx;obtain⟨kk,ii,BO,l1,l2⟩:=mU hn v2;split at hx
  .rename_i hlt;split at hx
   .rename_i b vv jj Y hl;cases hx;rw[hl]at v1;obtain⟨bd,c,hb,X,K⟩:=v1.jl;refine⟨_,rfl,gY.of R (v:=.pointer (some ⟨c,bd.base+jj*bd.sz+(Y+H*sz),none⟩)) ?_ (.ptr b vv jj (Y+H*sz) bd c hb X)⟩;rw[K,BO,run _ kk ii l1 aa,addr_add,l2,cz]
   .rename_i cs hl;split at hx
    .rename_i W;cases hx;rw[hl]at v1;generalize hv1:a.eval x=u at v1;cases v1 with
     |pure _ _ hv=>cases hv
     |iw _ blk Y f' hO hw q1 q3 q2 =>
      refine⟨Instr.indexAt t (a.eval x) (a.eval i),rfl,gY.of R (v:=.pointer (some ⟨blk,Y+H*sz,none⟩)) (by rw[hv1,BO,run _ kk ii l1 aa,addr_add,l2]) ?_⟩
      refine .iw _ blk (Y+H*sz) (λj=>f' (H*sz+j)) hO hw (λj y hy=>?_) (λj y hy=>?_) (λj y hy=>?_)
      .rw[bR]at hy;rw[cz];exact q1 _ y hy
      .rw[bR]at hy;exact q3 _ y hy
      .rw[bR]at hy;exact q2 _ y hy
    .cases hx
   .cases hx
  .cases hx
 case h_31 t x i y j =>
  simp only[aC]at ok;obtain⟨⟨h1,h2⟩,h3⟩:=ok;obtain⟨d,G,A⟩:=iH h1;have hd':P.underlying t=some .string:=by cases d<;>first | exact G | (cases A;done)
  have v1:=gW R.gl E h2;have v2:=gW R.gl E h3;simp only[exec]at hx;split at hx
  .rename_i l hl;simp only[aD]at hx;obtain⟨H,hn,c,X,hx⟩:=hx;cases hx;rw[hl]at v1;obtain⟨kk,ii,BO,l1,l2⟩:=mU hn v2;obtain⟨b,K,hb⟩:=v1.lN;refine⟨_,rfl,gY.of R (v:=.int .u8 c.toNat) ?_ (.of_int _ _)⟩;have hbc:b[ii.toNat]? = some c:=by
    rw[l2];have hlt:H<b.data.toList.length:=by rw[hb];exact(az.1 X).1
    have hlt':H<b.size:=by simpa using hlt
    rw[getElem?_pos b H hlt'];rw[<-hb]at X;have e1:b.data.toList[H]? = some b.data.toList[H]:=aF hlt;rw[e1]at X;exact X
   rw[K,BO];simp only[Instr.index,asIntOf,Sem.run_bind,Sem.run_pure,Result.andThen_ok,run_underlying hd',l1,if_true,hbc]
  .cases hx
 case h_32 x i y j =>
  simp only[aC,decide_eq_true_eq]at ok;obtain⟨rfl,h2⟩:=ok;have v1:=gW R.gl E h2;simp only[exec]at hx;split at hx
  .rename_i vs hl;simp only[aD]at hx;obtain⟨v,hv,hx⟩:=hx;cases hx;rw[hl]at v1;obtain⟨us,K,hl',q⟩:=v1.CA;have hlt:i<us.length:=by rw[<-hl'];exact(az.1 hv).1
   refine⟨_,rfl,gY.of R (v:=us[i]) ?_ (q i av us[i] hv (by simp[hlt]))⟩
   rw[K];simp[Instr.extract,hlt]
  .cases hx
 case h_33=>exact absurd rfl (S3 _ _).1
 case h_34=>exact absurd rfl (S3 _ _).2
 case h_35=>exact absurd rfl (Wu _ _)
 case h_36 b args argTypes sz bytes y1 y2 =>
  simp only[aC,decide_eq_true_eq]at ok;obtain⟨rfl,ok⟩:=ok;split at ok
  .rename_i x1 x2 t u F M;simp only[aC,decide_eq_true_eq]at ok;obtain⟨⟨⟨⟨h1,h2⟩,h0⟩,h3⟩,h4⟩:=ok;obtain rfl:args = #[x1,x2]:=by apply cq;simpa using F
   obtain rfl:argTypes = #[t,u]:=by apply cq;simpa using M
   obtain⟨d,G,A⟩:=iH h3;cases d<;>first | (cases A;done) | skip
   rename_i elem;simp only[aC]at A;obtain⟨⟨T,hby⟩,hz⟩:=A;obtain⟨i,z,hi,Pd,hzs⟩:=uG hz;obtain⟨d2,hd2,Kv⟩:=iH h4;have hnot:=(J7 d2).resolve_right (λhh=>by cases d2<;>first | (cases hh.1;done) | (cases hh.2;done) | (cases Kv;done))
   have hs':i.size=sz:=by simpa[jg,hi]using T
   have hb':i.bytes=bytes:=by simpa[tQ,hi]using hby
   simp only[exec,aD]at hx;obtain⟨news,hnews,hx⟩:=hx;have v2:=gW R.gl E h2
   by_cases U:∃s,y2.get e = .str s
   .obtain⟨s,hs2⟩:=U;rw[hs2]at v2 hnews;cases hnews;obtain⟨b,hbv,hbs⟩:=v2.lN;have AN:iU sz (s.map λc=>AV.int .u8 (c.toNat:Int))=true:=xQ hx
    have adK:s≠[]->sz=1:=λhne=>by
     cases s with
     |nil=>exact absurd rfl hne
     |cons c s=>simp[iU,AV.cells]at AN;exact AN.1.symm
    refine⟨Builtin.append_ #[t,u] type #[a.eval x1,a.eval x2],by simp[execOp,resolve,invoke,builtin],?_⟩
    refine rz R G hi Pd hzs hs' hb' h0 rfl hx (gW R.gl E h1) (news:=s.map λc=>.int .u8 (c.toNat:Int)) (.inl ⟨u,d2,rfl,hd2,hnot,?_,?_⟩) (.inl ⟨u,d2,rfl,hd2,hnot⟩) ?_ ?_ ?_
    .rw[hbv];have:s.length=b.size:=by rw[<-hbs];simp
     simp only[cw,this];rfl
    .intro w' _;rw[hbv,cw];simp only[Builtin.firstCells,Sem.run_pure];rw[xP b s hbs]
    .cases s with
     |nil=>simp
     |cons c s=>rw[adK ah];simp
    .intro k x hk;rw[bM]at hk;cases X:s[k]? with
     |none=>rw[X]at hk;cases hk
     |some c =>
      rw[X]at hk;simp only[cB,aP]at hk;subst hk;have h1s:=adK (by intro e;rw[e]at X;simp at X)
      subst h1s;refine⟨rfl,λj y hy=>?_⟩
      cases j with
      |succ j=>simp[AV.cells]at hy
      |zero =>
       simp only[AV.cells,aS,aP]at hy;subst hy;exact⟨.int .u8 (c.toNat:Int),by simp[X],rfl,.int _ _⟩
    .intro q A;obtain⟨c,_,rfl⟩:=b7.1 A;rfl
   have hnews:elems h (y2.get e)=some news:=by
    generalize y2.get e=q at hnews U;cases q<;>first | exact hnews | exact absurd ⟨_,rfl⟩ U
   obtain⟨ad,c,K,X,hsrc⟩:=kE R hnews v2;have AN:iU sz news=true:=xQ hx
   obtain⟨olds,o1,o2,o3,o4⟩:=tC (P:=P) (O:=Own Z β h) (w:=w) (ad:=ad) (c:=c) (sz:=sz) (es:=news) rfl (λhne=>by
    obtain⟨blk,Y,sz2,_,e1,e2⟩:=hsrc hne;exact⟨blk,Y,e1,e2.iU AN⟩)
   refine⟨Builtin.append_ #[t,u] type #[a.eval x1,a.eval x2],by simp[execOp,resolve,invoke,builtin],?_⟩
   refine rz R G hi Pd hzs hs' hb' h0 rfl hx (gW R.gl E h1) (news:=olds) (.inl ⟨u,d2,rfl,hd2,hnot,?_,?_⟩) (.inl ⟨u,d2,rfl,hd2,hnot⟩) o1 o3 o2
   .rw[K];rfl
   .intro w' hw';rw[K];exact o4 w' hw'
  .cases ok
 case h_37 b args argTypes str y =>
  simp only[aC,decide_eq_true_eq]at ok;obtain⟨rfl,ok⟩:=ok;split at ok
  .rename_i x t F M;simp only[aC]at ok;obtain⟨h1,h3⟩:=ok;obtain rfl:args = #[x]:=by apply cq;simpa using F
   obtain rfl:argTypes = #[t]:=by apply cq;simpa using M
   obtain⟨d,G,A⟩:=iH h3;have v1:=gW R.gl E h1;simp only[exec,aD]at hx;obtain⟨H,N,hx⟩:=hx;cases hx;refine⟨Builtin.len_ #[t] type #[a.eval x],by simp[execOp,resolve,invoke,builtin],gY.of R (v:=goInt H) ?_ (.of_int _ _)⟩
   have hval:(∃b:ByteArray,a.eval x = .string b/\b.size=H/\str=true)\/(str=false/\∃ad c,a.eval x = .slice ad H c):=by
    generalize hg:y.get e=av at v1 N;cases av with
    |str s =>
     simp only[yR]at N;split at N
     .rename_i U;cases N;obtain⟨b,K,hb⟩:=v1.lN;exact .inl ⟨b,K,by rw[<-hb];rfl,U⟩
     .cases N
    |en f es =>
     simp only[yR]at N;split at N
     .cases N
     .rename_i U;cases N;obtain⟨ad,c,K,_⟩:=kE R (a:=.en f es) rfl v1;exact .inr ⟨ak U,ad,c,K⟩
    |own b vv Y m =>
     simp only[yR]at N;split at N
     .cases N
     .rename_i U;cases N;obtain⟨bd,ad,c,_,K,_⟩:=v1.jL;exact .inr ⟨ak U,ad,c,K⟩
    |_=>simp[yR]at N
   rcases hval with⟨b,K,hb,rfl⟩ | ⟨rfl,ad,c,K⟩
   .have hd':P.underlying t=some .string:=by cases d<;>first | exact G | (cases A;done)
    simp[Builtin.len_,run_underlying hd',K,hb]
   .cases d<;>first | (cases A;done) | skip
    simp[Builtin.len_,run_underlying G,K]
  .cases ok
 case h_38 b args argTypes isMax ys =>
  simp only[aC,decide_eq_true_eq]at ok;obtain⟨rfl,h1⟩:=ok;obtain⟨p1,p2⟩:=lJ R.gl E h1;simp only[exec]at hx;split at hx
  .rename_i y l hl;rw[hl]at p1 p2;cases hus:args.toList.map a.eval with
   |nil=>rw[hus]at p1;simp at p1
   |cons u us =>
    rw[hus]at p1 p2;have F:args.map a.eval=(u::us).toArray:=by apply cq;simp[hus]
    refine⟨(us.foldlM (if isMax then Builtin.max2 else Builtin.min2) u),?_,gY.keep hx λav L=>?_⟩
    .cases isMax<;>simp[execOp,resolve,invoke,builtin,F,Builtin.max_,Builtin.min_]
    .obtain⟨q,r1,r2⟩:=M0 (P:=P) (isMax:=isMax) l us L (p2 0 y u rfl rfl) (ak p1) (λj y q h1 h2=>p2 (j+1) y q (ak h1) (ak h2))
     exact gY.of R r1 r2
  .cases hx
 case h_39 b args argTypes sz zero y =>
  simp only[aC,decide_eq_true_eq]at ok;obtain⟨rfl,ok⟩:=ok;split at ok
  .rename_i x t F M;simp only[aC]at ok;obtain⟨h1,h3⟩:=ok;obtain rfl:args = #[x]:=by apply cq;simpa using F
   obtain rfl:argTypes = #[t]:=by apply cq;simpa using M
   obtain⟨d,G,A⟩:=iH h3;cases d<;>first | (cases A;done) | skip
   rename_i elem;simp only[aC]at A;obtain⟨⟨T,hz0⟩,hz⟩:=A;obtain⟨i,z,hi,Pd,hzs⟩:=uG hz0;obtain⟨i2,z2,hi2,Hw,hev⟩:=ox hz;rw[hi]at hi2;cases hi2;rw[Pd]at Hw;cases Hw;have v1:=gW R.gl E h1;simp only[exec]at hx;refine⟨Builtin.clear_ #[t] type #[a.eval x],by simp[execOp,resolve,invoke,builtin],?_⟩
   split at hx
   .rename_i b vv Y H hl;split at hx
    .rename_i v' sz' es S;split at hx
     .rename_i X;obtain⟨c1,c0,c3⟩:=X;cases hx;rw[hl]at v1;exact Rr (ty:=type) R G T hi Pd hzs hev v1 S c1 c0 c3
     .cases hx
    .cases hx
   .rename_i full es hl;split at hx
    .rename_i S;subst S;cases hx;rw[hl]at v1;exact Om R G v1
    .cases hx
   .cases hx
  .cases ok
 case h_40 t x y =>
  simp only[exec]at hx;split at hx
  .rename_i hok;cases hx;exact⟨_,rfl,Mv R t hok (gW R.gl E ok)⟩
  .cases hx
 case h_41 t x sz agg y =>
  simp only[aC]at ok;obtain⟨⟨h1,h2⟩,h3⟩:=ok;simp only[exec]at hx;split at hx
  .rename_i cs hcs;refine⟨_,rfl,gY.keep hx λav L=>vu R (a:=.iw cs) rfl L (by rw[<-hcs];exact gW R.gl E h3) h1 h2⟩
  .cases hx
 case h_42=>exact absurd rfl (Wx _ _)
 case h_43=>exact absurd rfl (Ww _ _)
 case h_44 t r q =>
  obtain rfl:r=none:=by simpa using ok
  simp only[exec]at hx;cases hx;exact⟨_,rfl,Qg R t _⟩
 case h_45 t m k c q zero m' k' =>
  simp only[aC,cD]at ok;obtain⟨⟨⟨rfl,h1⟩,h2⟩,h3⟩:=ok;obtain⟨d,G,A⟩:=iH h1;cases d<;>first | (cases A;done) | skip
  rename_i kt et;simp only[aC]at A;obtain⟨hq1,Kv⟩:=A;obtain⟨d2,hd2,Q⟩:=iH hq1;cases d2<;>first | (cases Q;done) | skip
  simp only[decide_eq_true_eq]at Q;subst Q;simp only[exec,aD]at hx;obtain⟨⟨b,es⟩,hm,n0,hk,hx⟩:=hx;cases hx;obtain⟨e1,e2⟩:=tK hm;have e3:=zD hk;have v1:=gW R.gl E h2;have v2:=gW R.gl E h3;rw[e1]at v1;rw[e3]at v2;exact⟨_,rfl,by have:=EU R G hd2 Kv e2 v1 v2 false;simpa using this⟩
 case h_46=>exact absurd rfl (SY _ _ _ _)
 case h_47 b args argTypes q y =>
  simp only[aC,decide_eq_true_eq]at ok;obtain⟨rfl,ok⟩:=ok;split at ok
  .rename_i x t F M;simp only[aC]at ok;obtain⟨h1,h3⟩:=ok;obtain rfl:args = #[x]:=by apply cq;simpa using F
   obtain rfl:argTypes = #[t]:=by apply cq;simpa using M
   obtain⟨d,G,A⟩:=iH h3;cases d<;>first | (cases A;done) | skip
   have v1:=gW R.gl E h1;simp only[exec,aD]at hx;obtain⟨⟨b,es⟩,hm,hx⟩:=hx;cases hx;obtain⟨e1,e2⟩:=tK hm;rw[e1]at v1;exact⟨Builtin.len_ #[t] type #[a.eval x],by simp[execOp,resolve,invoke,builtin],M1 R G e2 v1⟩
  .cases ok
 case h_48=>exact absurd rfl (Wy _ _)
 case h_49 s d x y =>
  simp only[aC]at ok;obtain⟨⟨h1,h2⟩,h3⟩:=ok;obtain⟨ds,hs,hq1⟩:=iH h1;have hs':P.underlying s=some .string:=by cases ds<;>first | exact hs | (cases hq1;done)
  obtain⟨dd,G,Kv⟩:=iH h2;cases dd<;>first | (cases Kv;done) | skip
  rename_i ee;obtain⟨de,K,Q⟩:=iH Kv
  have he':P.underlying ee=some (.int .u8):=by
   cases de<;>first | (cases Q;done) | skip
   simp at Q;subst Q;exact K
  have v1:=gW R.gl E h3;simp only[exec]at hx;split at hx
  .rename_i l hl;cases hx;rw[hl]at v1;exact⟨_,rfl,PI R hs' G he' v1⟩
  .cases hx
 case h_50=>exact absurd rfl (Wv _ _)
 case h_51=>exact absurd rfl (Je _ _).1
 case h_52 t x sz agg y =>
  simp only[aC]at ok;obtain⟨⟨h1,h2⟩,h3⟩:=ok;simp only[exec]at hx;split at hx
  case isFalse=>cases hx
  simp only[aD]at hx;obtain⟨cs,hcs,hx⟩:=hx;exact⟨_,rfl,gY.keep hx λav L=>vu R hcs L (gW R.gl E h3) h1 h2⟩
 case h_53 t m k c q zero m' k' =>
  simp only[aC]at ok;obtain⟨⟨⟨rfl,h1⟩,h2⟩,h3⟩:=ok;obtain⟨d,G,A⟩:=iH h1;cases d<;>first | (cases A;done) | skip
  rename_i kt et;simp only[aC]at A;obtain⟨hq1,Kv⟩:=A;obtain⟨d2,hd2,Q⟩:=iH hq1;cases d2<;>first | (cases Q;done) | skip
  simp only[decide_eq_true_eq]at Q;subst Q;simp only[exec,aD]at hx;obtain⟨⟨b,es⟩,hm,n0,hk,hx⟩:=hx;cases hx;obtain⟨e1,e2⟩:=tK hm;have e3:=zD hk;have v1:=gW R.gl E h2;have v2:=gW R.gl E h3;rw[e1]at v1;rw[e3]at v2;exact⟨_,rfl,by have:=EU R G hd2 Kv e2 v1 v2 true;simpa using this⟩
 case h_54=>exact absurd rfl (SY _ _ _ _)
 case h_55=>exact absurd rfl (Ny _ _).1
 case h_56=>exact absurd rfl (Ny _ _).2
 case h_57 op t x y yt neg x' y' =>
  simp only[aC,decide_eq_true_eq]at ok;obtain⟨⟨⟨rfl,h1⟩,h2⟩,h3⟩:=ok;obtain⟨d,G,A⟩:=iH h1;have hd':P.underlying t=some .bool:=by cases d<;>first | exact G | (cases A;done)
  simp only[exec]at hx;have v1:=gW R.gl E h2;have v2:=gW R.gl E h3;split at hx
  .rename_i p q hp A;cases hx;rw[hp]at v1;rw[A]at v2;obtain⟨m,g⟩:=RO (P:=P) R hd' neg v1 v2;obtain⟨v,w',β',hr,k⟩:=m;refine⟨do eqGuard (if neg then .neq else .eql) t x y (a.eval x) (a.eval y);binOp (if neg then .neq else .eql) t (a.eval x) (a.eval y),rfl,v,w',β',?_,k⟩
   simp only[Sem.run_bind,g,Result.andThen_ok,hr]
  .cases hx
 case h_58 b args argTypes sz bytes zero y1 y2 =>
  simp only[aC,decide_eq_true_eq]at ok;obtain⟨rfl,ok⟩:=ok;split at ok
  .rename_i x1 x2 t u F M;simp only[aC,decide_eq_true_eq]at ok;obtain⟨⟨⟨⟨h1,h2⟩,h0⟩,h3⟩,h4⟩:=ok;obtain rfl:args = #[x1,x2]:=by apply cq;simpa using F
   obtain rfl:argTypes = #[t,u]:=by apply cq;simpa using M
   obtain⟨d,G,A⟩:=iH h3;cases d<;>first | (cases A;done) | skip
   rename_i elem;simp only[aC]at A;obtain⟨⟨⟨T,hby⟩,hz⟩,hzv⟩:=A;obtain⟨i,z,hi,Pd,hzs⟩:=uG hz;obtain⟨i2,z2,hi2,Hw,hev⟩:=ox hzv;rw[hi]at hi2;cases hi2;rw[Pd]at Hw;cases Hw;obtain⟨d2,hd2,Kv⟩:=iH h4;have hint:∃k,d2 = .int k:=by cases d2<;>first | exact⟨_,rfl⟩ | (cases Kv;done)
   obtain⟨k2,rfl⟩:=hint;have hs':i.size=sz:=by simpa[jg,hi]using T
   have hb':i.bytes=bytes:=by simpa[tQ,hi]using hby
   simp only[exec,aD]at hx;obtain⟨H,N,hx⟩:=hx;have v2:=gW R.gl E h2;obtain⟨kk,ii,K,l1,l2⟩:=mU N v2;have W:=La hx;obtain⟨z1,z2,z3⟩:=oy (O:=Own Z β h) (w:=w) hev H;refine⟨Builtin.append_ #[t,u] type #[a.eval x1,a.eval x2],by simp[execOp,resolve,invoke,builtin],?_⟩
   refine rz R G hi Pd hzs hs' hb' h0 rfl hx (gW R.gl E h1) (news:=(Builtin.zeroCells z.cells H).toList) (.inr ⟨u,k2,kk,ii,rfl,hd2,K,l1,ak l2,?_⟩) (.inr ah) ?_ ?_ (λq A=>aJ.1 z3 q A)
   .simp at W;omega
   .simp[size_zeroCells,hzs,hs']
   .rw[hzs,hs']at z1;exact z1.congr λk _=>ah
  .cases ok
 case h_59 b args argTypes sz y1 y2 =>
  simp only[aC,decide_eq_true_eq]at ok;obtain⟨rfl,ok⟩:=ok;split at ok
  .rename_i x1 x2 t l F M;simp only[aC]at ok;obtain⟨⟨h1,h2⟩,h3⟩:=ok;obtain rfl:args = #[x1,x2]:=by apply cq;simpa using F
   have NA:argTypes[0]? = some t:=by rw[<-cI,M];rfl
   obtain⟨d,G,A⟩:=iH h3;cases d<;>first | (cases A;done) | skip
   rename_i elem;have v1:=gW R.gl E h1;have v2:=gW R.gl E h2;simp only[exec,aD]at hx;obtain⟨src,hsrc,hx⟩:=hx;refine⟨Builtin.copy_ argTypes type #[a.eval x1,a.eval x2],by simp[execOp,resolve,invoke,builtin],?_⟩
   split at hx
   .rename_i b vv Y H hl;split at hx
    .rename_i v' sz' es S;split at hx
     .rename_i X;obtain⟨c1,c0,c2,c3⟩:=X;cases hx;rw[hl]at v1;have hcp:=Oi (ty:=type) R NA G A hsrc v2 v1 S c1 c0 c2 c3
      rwa [show ((min src.length H:Nat):Int)=min (src.length:Int) H from by omega]at hcp
     .cases hx
    .cases hx
   .rename_i full es hl;split at hx
    .rename_i S;subst S;cases hx;rw[hl]at v1;exact KO R NA G A hsrc v2 v1
    .cases hx
   .cases hx
  .cases ok
 case h_60 t t' zero =>
  simp only[aC,decide_eq_true_eq]at ok;obtain⟨rfl,ok⟩:=ok;simp only[exec]at hx;cases hx;exact⟨_,rfl,Ih R ok⟩
 case h_61 t x t' y =>
  simp only[aC,decide_eq_true_eq]at ok;obtain⟨rfl,ok⟩:=ok;simp only[exec]at hx;split at hx
  .rename_i hok;cases hx;exact⟨_,rfl,OC R t hok (gW R.gl E ok)⟩
  .cases hx
 case h_62=>exact absurd rfl (Je _ _).2
 case h_63 t x i n sz agg y j =>
  simp only[aC]at ok;obtain⟨⟨h1,h2⟩,h3⟩:=ok;obtain⟨d,G,A⟩:=iH h1;cases d<;>first | (cases A;done) | skip
  rename_i len el;simp only[aC,decide_eq_true_eq]at A;obtain⟨⟨rfl,T⟩,hag⟩:=A;have v1:=gW R.gl E h2;have v2:=gW R.gl E h3;simp only[exec]at hx;split at hx
  .rename_i cs hl;simp only[aD]at hx;obtain⟨k,hk,hx⟩:=hx;obtain⟨kk,ii,BO,l1,l2⟩:=mU hk v2;split at hx
   .rename_i hlt;rw[hl]at v1;obtain⟨vs,K,hl',q1,q2⟩:=v1.nk;refine⟨Instr.index t (a.eval x) (a.eval i),rfl,gY.keep hx λav L=>?_⟩
    obtain⟨v,hr,hv⟩:=yS (P:=P) (w:=w) L T hag hl' q1 q2;refine gY.of R (v:=v) ?_ hv;rw[K,BO];simp only[Instr.index,asIntOf,Sem.run_bind,Sem.run_pure,Result.andThen_ok,run_underlying G];rw[if_pos ⟨l1,aa⟩]
    simp only[Sem.run_bind,jr T,Result.andThen_ok,l2,hr]
   .cases hx
  .cases hx
 case h_64=>cases ok
end
section
variable{P:Program}{Z:ay}{β:iW}{h:AH}{w:World}
def rT{f:FuncId}{args:List AV}{r':AV}(M:args.all AV.jE=true) (T:jH P f/\∀(Z:ay)(β:iW)(w:World)(vs:List Value),Rel Z β [] w->args.length=vs.length->
  (∀(j:Nat)(y:AV)(u:Value),args[j]? = some y->vs[j]? = some u->VR β (Own Z β []) w y u)->
  Calls P f vs.toArray w λe w'=>∃v β' r0 h1 h2,e = .returned v/\lP h1 r0=some (r',h2)/\Rel Z β' h1 w'/\Fr Z β [] w β' h1 w'/\VR β' (Own Z β' h1) w' r0 v) (h:AH):nC P f args h r' h:=by
 let⟨q,hs⟩:=T;refine⟨q,λZ β w vs R hl hv=>?_⟩
 let β0:iW:=λ_ _=>none
 have l:∀c,Own (Own Z β h) β0 [] c↔Own Z β h c:=by
  intro c
  constructor
  .rintro(q | ⟨i,X,o,_⟩)
   .exact q
   .simp at o
  .exact .inl
 have R0:Rel (Own Z β h) β0 [] w:=by
  refine⟨λc q=>?_,λi c E=>?_,λi v _=>rfl,λi v sz es v' o=>by simp at o,λi b r=>by simp at r,λi j c E=>?_,λp N=>⟨λF=>(R.gl p N).1 ((l p.1).1 F),(R.gl p N).2⟩⟩
  .rcases q with q | ⟨i,E⟩
   .exact R.xlt c q
   .exact R.mS E
  .let⟨X,o,_⟩:=E;simp at o
  .let⟨X,o,_⟩:=E;simp at o
 have S:jJ (Own Z β h) w (Own (Own Z β h) β0 []) w:=⟨aT _,λb _ z=>⟨rfl,λF=>z ((l b).1 F)⟩⟩
 refine(hs (Own Z β h) β0 w vs R0 hl λj y u K L=>.pure _ _ (((hv j y u K L).Bv (aJ.1 M y (bE K))).mono S)).mono ?_
 rintro e w' ⟨v,β',r0,h1,h2,rfl,N,R1,F1,V1⟩
 let⟨R2,F2,W,U⟩:=MA R1 N V1;have H:=F1.trans F2;have n:∀b,b<w.heap.size->w'.heap[b]? = w.heap[b]? := by
  intro b r
  by_cases z:Own Z β h b
  .exact H.kJ b r z
  .exact(H.stay.2 b r λF=>z ((l b).1 F)).1
 have A:jJ (Own Z β h) w (Own Z β h) w':=⟨H.stay.1,λb r z=>⟨n b r,z⟩⟩
 have Q:jJ (Own (Own Z β h) β' h2) w' (Own Z β h) w':=⟨aT _,λb _ z=>⟨rfl,λF=>z (.inl F)⟩⟩
 refine⟨v,β,rfl,⟨λc q=>br (R.xlt c q) H.stay.1,R.yC,R.fresh,R.later,λi X o=>(R.blk i X o).mono A (λ_ _ _ e=>e) (λc E=>n c (R.mS ⟨X,o,E⟩)),R.apart,R.gl.stay A⟩,
  ⟨λb r _=>n b r,H.os,H.tape,H.output,λ_ _ _ e=>e,A⟩,?_⟩
 have one:∀ {x:AV} {u:Value},x.jE=true->VR β' (Own (Own Z β h) β' h2) w' x u->VR β (Own Z β h) w' x u:=λhx L=>.pure _ _ ((L.Bv hx).mono Q)
 cases r' with
 |iV O =>
  obtain⟨Y,rfl,q1,q2⟩:=W.CA;have G:∀y∈O,y.jE=true:=by simpa[AV.rI]using U
  exact .iV _ Y q1 λj y u K L=>one (G y (bE K)) (q2 j y u K L)
 |_=>exact one U W
def HI(R:Rel Z β h w){Γ:ja}(L:js P Γ){e:Env}{a:Act}{n:Nat}(E:iP Z β h w e a n){o:Oper}{x:j5}(ok:ua P o.op x=true){av:AV}{h':AH}(hx:exec Γ e h x=some (av,h'))
  {next:Act->World->Prop} {Q:Exit->Act->World->Prop}
  (K:∀v w' β',Rel Z β' h' w'->Fr Z β h w β' h' w'->VR β' (Own Z β' h') w' av v->next (a.put o.dst v) w'):o.wp P a w next Q:=by
 by_cases Kw:∃y,x = .mv y
 .obtain⟨y,rfl⟩:=Kw;let⟨dst,op,type,pos,after,guard⟩:=o;dsimp only at ok;simp only[exec]at hx;cases hx;unfold ua at ok;split at ok<;>rename_i heq<;>first | (cases ok;done) | (cases heq;done) | skip
  all_goals
   cases heq;have v1:=gW R.gl E ok;unfold Oper.wp;simp only[execOp,Sem.run_pure];exact K _ w β R (Fr.refl Z β h w) v1
 by_cases Y:∃y,x = .J8 y
 .obtain⟨y,rfl⟩:=Y;let⟨dst,op,type,pos,after,guard⟩:=o;dsimp only at ok;unfold ua at ok;split at ok<;>rename_i heq<;>first | (cases ok;done) | (cases heq;done) | skip
  cases heq;have v1:=gW R.gl E ok;simp only[exec]at hx;unfold Oper.wp;simp only[execOp];split at hx
  .rename_i b vv i oo hl;cases hx;rw[hl]at v1;let⟨bd,c,hb,hc,S⟩:=v1.jl;rw[S]at v1⊢;exact K _ w β R (Fr.refl Z β h w) v1
  .rename_i cs hl;cases hx;rw[hl]at v1;generalize hv1:a.eval _=u at v1;cases v1 with
   |pure _ _ W=>cases W
   |iw _ blk oo f' hO hw q1 q3 q2 =>
    exact K _ w β R (Fr.refl Z β h w) (.iw _ blk oo f' hO hw q1 q3 q2)
  .rename_i f fa fc hl;split at hx
   .cases hx;rw[hl]at v1;generalize hv1:a.eval _=u at v1;cases v1 with
    |pure _ _ W=>cases W
    |fn _ _ _ va vc q1 q2 q3 q4 =>
     exact K _ w β R (Fr.refl Z β h w) (.fn _ _ _ va vc q1 q2 q3 q4)
   .cases hx
  .cases hx
 by_cases hst:∃sz y z,x = .store sz y z
 .obtain⟨sz,y,z,rfl⟩:=hst;let⟨dst,op,type,pos,after,guard⟩:=o;dsimp only at ok;unfold ua at ok;split at ok<;>rename_i heq<;>first | (cases ok;done) | (cases heq;done) | skip
  cases heq;simp only[aC]at ok;let⟨⟨h1,h2⟩,h3⟩:=ok;simp only[exec,aD]at hx;let⟨h1',hs,hx⟩:=hx;cases hx;let⟨w',hr,R',F'⟩:=Bh (P:=P) R hs (gW R.gl E h2) (gW R.gl E h3) h1;unfold Oper.wp;simp only[execOp,Sem.run_bind,hr,Result.andThen_ok,Sem.run_pure];exact K _ w' β R' F' .undef
 by_cases hsr:∃sz y z q,x = .nE sz y z q
 .obtain⟨sz,y,z,q,rfl⟩:=hsr;let⟨dst,op,type,pos,after,guard⟩:=o;dsimp only at ok;unfold ua at ok;split at ok<;>rename_i heq<;>first | (cases ok;done) | (cases heq;done) | skip
  cases heq;simp only[aC]at ok;let⟨⟨h1,h2⟩,h3⟩:=ok;simp only[exec]at hx;split at hx
  case isFalse=>cases hx
  simp only[aD]at hx;let⟨h1',hs,hx⟩:=hx;cases hx;let⟨w',hr,R',F'⟩:=Bh (P:=P) R hs (gW R.gl E h2) (gW R.gl E h3) h1;unfold Oper.wp;simp only[execOp,Sem.run_bind,hr,Result.andThen_ok,Sem.run_pure];exact K _ w' β R' F' .undef
 by_cases hmp:∃q m k y,x = .sx q m k y
 .obtain⟨q,m,k,y,rfl⟩:=hmp;let⟨dst,op,type,pos,after,guard⟩:=o;dsimp only at ok;unfold ua at ok;split at ok<;>rename_i heq<;>first | (cases ok;done) | (cases heq;done) | skip
  all_goals
   cases heq;simp only[aC]at ok;let⟨⟨⟨h1,h2⟩,h3⟩,h4⟩:=ok;let⟨d,hd,H⟩:=iH h1;cases d<;>first | (cases H;done) | skip
   let⟨d2,hd2,hq3⟩:=iH H;cases d2<;>first | (cases hq3;done) | skip
   simp only[decide_eq_true_eq]at hq3;subst hq3;simp only[exec,aD]at hx;let⟨⟨b,es⟩,hm,n0,hk,hx⟩:=hx;cases hx;let⟨e1,e2⟩:=tK hm;have e3:=zD hk;have v1:=gW R.gl E h2;have v2:=gW R.gl E h3;rw[e1]at v1;rw[e3]at v2;let⟨w',hr,R',F'⟩:=MZ (P:=P) R hd hd2 e2 v1 v2 (gW R.gl E h4);unfold Oper.wp;simp only[execOp,Sem.run_bind,hr,Result.andThen_ok,Sem.run_pure];exact K _ w' β R' F' .undef
 by_cases G:∃f A,x = .call f A\/x = .kY f A\/x = .s5 f A\/x = .o8 f A\/x = .calls f A\/x = .vM f A\/x = .vN f A
 .let⟨f,A,G⟩:=G;let⟨dst,op,type,pos,after,guard⟩:=o;dsimp only at ok
  have key:∃c:Array Operand×Array TypeId,op = .call {callee:=.value (.func f),args:=c.1,argTypes:=c.2}/\jP c.1.toList A=true:=by
   rcases G with rfl | rfl | rfl | rfl | rfl | rfl | rfl
   all_goals
    unfold ua at ok;split at ok<;>rename_i heq<;>first | (cases ok;done) | (cases heq;done) | skip
    cases heq;simp only[aC,decide_eq_true_eq]at ok;obtain⟨rfl,ok⟩:=ok;exact⟨(_,_),rfl,ok⟩
  obtain⟨⟨args,ats⟩,rfl,hok⟩:=key;let⟨p1,p2⟩:=lJ R.gl E hok
  have hs:nC P f (getAll e A) h av h':=by
   rcases G with rfl | rfl | H | H | H | H | H
   .exact qC L hx
   rotate_left
   .subst H;simp only[exec]at hx;split at hx
    .rename_i N;simp only[aD]at hx;let⟨⟨r,h2⟩,⟨⟨r0,h1⟩,hrun,O⟩,hx⟩:=hx;cases hx;let⟨hc,hs⟩:=L.h f _ _ _ _ hrun;exact rT N ⟨hc,λZ β w vs R hl W=>(hs Z β w vs R hl W).mono λe w' ⟨v,β',S,R',F',V'⟩=>⟨v,β',r0,h1,h2,S,O,R',F',V'⟩⟩ h
    .cases hx
   .subst H;simp only[exec]at hx;unfold qu at hx;split at hx
    .rename_i r F H;split at hx
     .cases hx;exact qC L H
     .cases hx
    .cases hx
   .subst H;simp only[exec]at hx;unfold pF at hx;split at hx
    .rename_i r F H;split at hx
     .rename_i S;cases hx;subst S;exact qC L H
     .cases hx
    .cases hx
   .subst H;simp only[exec,aD]at hx;let⟨⟨l,h1⟩,O,r,hr,hx⟩:=hx;cases hx;exact qC L (by unfold rF;rw[O];simp only[hr])
   .subst H;simp only[exec,aD]at hx;let⟨⟨l,h1⟩,O,hx⟩:=hx;let⟨hc,hs⟩:=L.h f _ _ _ _ hx;refine⟨hc,λZ β w vs R hl W=>?_⟩
    let⟨k1,k2,k3,k4,k5⟩:=qh _ R O hl W;refine(hs Z β w vs k1 k3 k4).mono ?_
    rintro e w' ⟨v,β',rfl,m1,m2,m3⟩
    exact⟨v,β',rfl,m1,k2.trans m2,m3⟩
   .simp only[exec]at hx;split at hx
    .rename_i N;cases O:Γ.p f (getAll e A)with
     |none=>rw[O]at hx;cases hx
     |some r=>rw[O]at hx;cases hx;exact L.p f _ _ h N O
    .cases hx
  unfold Oper.wp
  have S:execOp a.eval ⟨dst,.call {callee:=.value (.func f),args:=args,argTypes:=ats},type,pos,after,guard⟩=callFunc f (args.toList.map a.eval).toArray:=by
   have:(args.toList.map a.eval).toArray=args.map a.eval:=cq ah
   simp[execOp,resolve,Deferred.ofValue,invoke,Act.eval,this]
  rw[S];exact hs.wp R p1 p2 K
 by_cases M:∃y A,x = .jS y A\/x = .qB y A\/x = .oZ y A\/x = .ni y A
 .obtain ⟨y, A, M⟩ := M;obtain ⟨dst, op, type, pos, after, guard⟩ := o;dsimp only at ok
  have key:∃(t:Tmp) (c:Array Operand×Array TypeId),op = .call {callee:=.value (.tmp t),args:=c.1,argTypes:=c.2}/\kj (.tmp t) y=true/\jP c.1.toList A=true:=by
   rcases M with rfl | rfl | rfl | rfl
   all_goals
    unfold ua at ok;split at ok<;>rename_i heq<;>first | (cases ok;done) | (cases heq;done) | skip
    cases heq;simp only[aC]at ok;exact⟨_,(_,_),rfl,ok.1,ok.2⟩
  obtain⟨t,⟨args,ats⟩,rfl,h1,h2⟩:=key;let⟨p1,p2⟩:=lJ R.gl E h2;have v1:=gW R.gl E h1
  have hx':∃g first cap,y.get e = .fn (.func g) first cap/\rF Γ g (first++getAll e A++cap) h=some (av,h'):=by
   rcases M with rfl | rfl | rfl | rfl
   .simp only[exec]at hx;split at hx
    .rename_i g first cap hg;split at hx
     .exact⟨_,_,_,hg,hx⟩
     .cases hx
    .cases hx
   .simp only[exec]at hx;split at hx
    .rename_i g first cap hg;split at hx
     .unfold pF at hx;split at hx
      .rename_i r F H;split at hx
       .rename_i S;cases hx;subst S;exact⟨_,_,_,hg,H⟩
       .cases hx
      .cases hx
     .cases hx
    .cases hx
   .simp only[exec]at hx;split at hx
    .rename_i g first cap hg;split at hx
     .unfold qu at hx;split at hx
      .rename_i r F H;split at hx
       .cases hx;exact⟨_,_,_,hg,H⟩
       .cases hx
      .cases hx
     .cases hx
    .cases hx
   .simp only[exec]at hx;split at hx
    .rename_i g first cap hg;split at hx
     .split at hx
      .rename_i N;cases O:Γ.p _ (first++getAll e A++cap)with
       |none=>rw[O]at hx;cases hx
       |some r =>
        rw[O]at hx;cases hx;refine⟨_,_,_,hg,?_⟩;unfold rF
        have hpu:∀l:List AV,l.all AV.jE=true->jk h l=some (l,h):=λl=>by
         induction l with
         |nil=>intro _;rfl
         |cons a l ih =>
          intro hl;simp only[cm,aC]at hl;simp[jk,lG,hl.1,ih hl.2]
        rw[hpu _ N];simp only[O]
      .cases hx
     .cases hx
    .cases hx
  let⟨g,first,cap,hg,hx'⟩:=hx';rw[hg]at v1;have hs:nC P g _ h av h':=qC L hx';generalize hv1:a.eval (.tmp t)=u at v1;cases v1 with
  |pure _ _ W=>cases W
  |fn _ _ _ va vc q1 q2 q3 q4 =>
  unfold Oper.wp
  have S:execOp a.eval ⟨dst,.call {callee:=.value (.tmp t),args:=args,argTypes:=ats},type,pos,after,guard⟩=callFunc g (va++args.toList.map a.eval++vc).toArray:=by
   have:(va++args.toList.map a.eval++vc).toArray=va.toArray++args.map a.eval++vc.toArray:=cq ah
   rw[this];simp[execOp,resolve,Deferred.ofValue,invoke,hv1]
  rw[S];refine hs.wp R (by simp only[aG,q1,q2,p1]) ?_ K
  intro j yy uu U X;rw[eF]at U X;have e1:(first++getAll e A).length=(va++args.toList.map a.eval).length:=by simp only[aG,q1,p1]
  rw[e1]at U;split at U
  .rename_i hlt;rw[if_pos hlt]at X;rw[eF]at U X;rw[q1]at U;split at U
   .rename_i T;rw[if_pos T]at X;exact q3 _ _ _ U X
   .rename_i T;rw[if_neg T]at X;exact p2 _ _ _ U X
  .rename_i hlt;rw[if_neg hlt]at X;exact q4 _ _ _ U X
 let⟨s,S,hm⟩:=HJ R E ok hx (λf A=>⟨λF=>G ⟨f,A,.inl F⟩,λF=>G ⟨f,A,.inr (.inl F)⟩⟩) (λy A F=>M ⟨y,A,.inl F⟩) (λy A F=>M ⟨y,A,.inr (.inl F)⟩) (λy A F=>G ⟨y,A,.inr (.inr (.inl F))⟩) (λy A F=>G ⟨y,A,.inr (.inr (.inr (.inl F)))⟩) (λy A F=>G ⟨y,A,.inr (.inr (.inr (.inr (.inl F))))⟩) (λy A=>⟨λF=>M ⟨y,A,.inr (.inr (.inl F))⟩,λF=>M ⟨y,A,.inr (.inr (.inr F))⟩⟩) (λy A=>⟨λF=>G ⟨y,A,.inr (.inr (.inr (.inr (.inr (.inl F)))))⟩,λF=>G ⟨y,A,.inr (.inr (.inr (.inr (.inr (.inr F)))))⟩⟩) (λsz y z F=>hst ⟨sz,y,z,F⟩) (λsz y z q F=>hsr ⟨sz,y,z,q,F⟩) (λy F=>Y ⟨y,F⟩) (λy F=>Kw ⟨y,F⟩) (λq m k y F=>hmp ⟨q,m,k,y,F⟩)
 exact DV S hm K
end
def oper? : Option AO->List AO
 |none=>[]
 |some x=>[x]
def j5.ops:j5->List AO
 | .mv x=>[x]
 | .pick c a b=>[c,a,b]
 | .alloc _=>[]
 | .box x=>[x]
 | .xg .. => []
 | .OD _ x=>[x]
 | .Nq _ _ _ x i=>[x,i]
 | .ni f as=>f::as
 | .build _ ps=>ps.map λp=>p.2.2
 | .Pg _ _ _ ps=>ps.map λp=>p.2
 | .DD _ _ _ ps=>ps.map λp=>p.2
 | .K6 _ _ _ ps=>ps.map λp=>p.2
 | .load _ _ a=>[a]
 | .store _ a x=>[a,x]
 | .nE _ a x q=>[a,x,.t q]
 | .nw _ _ a q=>[a,.t q]
 | .J8 x=>[x]
 | .bin _ x y=>[x,y]
 | .seq _ _ x y=>[x,y]
 | .un _ x=>[x]
 | .conv _ x=>[x]
 | .Co x=>[x]
 | .SK _ x=>[x]
 | .Hi _ a c=>a++c
 | .Z2 _ _ _ l c=>[l,c]
 | .GR x n o=>x::(oper? n++oper? o)
 | .yQ _ x n o r=>x::(oper? n++(oper? o++oper? r))
 | .B4 _ x=>[x]
 | .WO _ _ _ x=>[x]
 | .DS _ x i=>[x,i]
 | .uK _ _ x i=>[x,i]
 | .idxs x i=>[x,i]
 | .ext x _=>[x]
 | .call _ as=>as
 | .kY _ as=>as
 | .jS f as=>f::as
 | .app _ _ s x=>[s,x]
 | .len _ x=>[x]
 | .mm _ xs=>xs
 | .no=>[]
 | .xB _ _ x=>[x]
 | .XH _ _ x=>[x]
 | .Ez x=>[x]
 | .oN _ _ x=>[x]
 | .qB f as=>f::as
 | .J9 _=>[]
 | .uJ _ _ m k=>[m,k]
 | .sx _ m k x=>[m,k,x]
 | .Hh _ m=>[m]
 | .rG _ _ m k=>[m,k]
 | .beq _ x y=>[x,y]
 | .OP _ _ _ s x=>[s,x]
 | .copy _ d s=>[d,s]
 | .s5 _ as=>as
 | .o8 _ as=>as
 | .Sr x=>[x]
 | .qn _ _ t=>[.t t]
 | .calls _ as=>as
 | .vM _ as=>as
 | .vN _ as=>as
 | .oZ f as=>f::as
variable{h' h h2:AH}{v b:AV}{sz:Nat}
section
variable{Γ:ja}{e e':Env}{h:AH}
def iS:∀(l:List AO),(∀x∈l,x.get e=x.get e')->getAll e l=getAll e' l
 | [],_=>rfl
 |x::l,hl=>by
  simp only[getAll];rw[hl x ah,iS l λy b=>hl y (by simp[b])]
def xy:∀(l:List (Nat×Nat×AO))(cs:List AV),(∀p∈l,p.2.2.get e=p.2.2.get e')->parts e l cs=parts e' l cs
 | [],_,_=>rfl
 |(off,size,x)::l,cs,hl=>by
  have hx:x.get e=x.get e':=hl (off,size,x) ah
  simp only[parts,hx];rw[xy l _ λy b=>hl y (by simp[b])]
def ru(sz:Nat):∀(l:List (Nat×AO))(es:List AV)(h:AH),(∀p∈l,p.2.get e=p.2.get e')->lz e sz l es h=lz e' sz l es h
 | [],_,_,_=>rfl
 |(i,x)::l,es,h,hl=>by
  have hx:x.get e=x.get e':=hl (i,x) ah
  simp only[lz,hx]
  congr 1
  funext r
  rw[ru sz l _ _ λy b=>hl y (by simp[b])]
def uw(sz:Nat):∀(l:List (Nat×AO))(es:List AV),(∀p∈l,p.2.get e=p.2.get e')->lC e sz l es=lC e' sz l es
 | [],_,_=>rfl
 |(i,x)::l,es,hl=>by
  have hx:x.get e=x.get e':=hl (i,x) ah
  simp only[lC,hx];rw[uw sz l _ λy b=>hl y (by simp[b])]
def ot(d:Nat)(x:Option AO)(hx:∀y∈oper? x,y.get e=y.get e'):jB d e x=jB d e' x:=by
 cases x with
 |none=>rfl
 |some y=>simp only[jB,hx y (by simp[oper?])]
def zU(op:j5)(b:∀x∈op.ops,x.get e=x.get e'):exec Γ e h op=exec Γ e' h op:=by
 cases op with
 |build zero ps=>simp only[exec];rw[xy ps _ λp l=>b p.2.2 (by simp only[j5.ops,b7];exact⟨p,l,rfl⟩)]
 |Pg sz zero len ps=>simp only[exec];rw[uw _ ps _ λp l=>b p.2 (by simp only[j5.ops,b7];exact⟨p,l,rfl⟩)]
 |DD sz zero len ps=>simp only[exec];rw[ru _ ps _ _ λp l=>b p.2 (by simp only[j5.ops,b7];exact⟨p,l,rfl⟩)]
 |K6 sz zero len ps=>simp only[exec];rw[ru _ ps _ _ λp l=>b p.2 (by simp only[j5.ops,b7];exact⟨p,l,rfl⟩)]
 |Hi f a c=>simp only[exec];rw[iS a λy i=>b y (by simp[j5.ops,i]),iS c λy i=>b y (by simp[j5.ops,i])]
 |call f as=>simp only[exec];rw[iS as b]
 |kY f as=>simp only[exec];rw[iS as b]
 |jS f as =>
  simp only[exec];rw[iS as λy i=>b y (by simp[j5.ops,i]),b f (by simp[j5.ops])]
 |s5 f as=>simp only[exec];rw[iS as b]
 |o8 f as=>simp only[exec];rw[iS as b]
 |calls f as=>simp only[exec];rw[iS as b]
 |vM f as=>simp only[exec];rw[iS as b]
 |vN f as=>simp only[exec];rw[iS as b]
 |ni f as =>
  simp only[exec];rw[iS as λy i=>b y (by simp[j5.ops,i]),b f (by simp[j5.ops])]
 |oZ f as =>
  simp only[exec];rw[iS as λy i=>b y (by simp[j5.ops,i]),b f (by simp[j5.ops])]
 |qB f as =>
  simp only[exec];rw[iS as λy i=>b y (by simp[j5.ops,i]),b f (by simp[j5.ops])]
 |mm m xs=>simp only[exec];rw[iS xs b]
 |GR x o r =>
  simp only[exec];rw[b x (by simp[j5.ops])]
  have h1:=λd=>ot (e:=e) (e':=e') d o λy i=>b y (by simp[j5.ops,i])
  have h2:=λd=>ot (e:=e) (e':=e') d r λy i=>b y (by simp[j5.ops,i])
  simp only[h1,h2]
 |yQ sz x o r v =>
  simp only[exec];rw[b x (by simp[j5.ops])]
  have h1:=λd=>ot (e:=e) (e':=e') d o λy i=>b y (by simp[j5.ops,i])
  have h2:=λd=>ot (e:=e) (e':=e') d r λy i=>b y (by simp[j5.ops,i])
  cases v with
  |none=>simp only[h1,h2]
  |some m=>simp only[h1,h2,b m (by simp[j5.ops,oper?])]
 |qn sz agg t =>
  have n:e t=e' t:=b (.t t) (by simp[j5.ops])
  simp only[exec,n]
 |nE sz a x q =>
  have n:e q=e' q:=b (.t q) (by simp[j5.ops])
  simp only[exec,n];rw[b a (by simp[j5.ops]),b x (by simp[j5.ops])]
 |rG q z m k=>simp only[exec];rw[b m (by simp[j5.ops]),b k (by simp[j5.ops])]
 |nw sz agg a q =>
  have n:e q=e' q:=b (.t q) (by simp[j5.ops])
  simp only[exec,n];rw[b a (by simp[j5.ops])]
 |_=>simp only[j5.ops,aY,dz,or_false,forall_eq_or_imp,forall_eq]at b<;>simp only[exec,b]
def j5.Wb:j5->Bool
 | .mv _ | .pick .. | .build .. | .Pg .. | .J8 _ | .bin .. | .beq .. | .seq .. | .un .. | .conv .. | .SK .. | .Hi .. | .GR .. | .B4 .. | .WO .. | .uK .. | .idxs .. | .ext .. | .kY .. | .ni .. | .len .. | .mm .. | .no | .xB .. | .Ez _ | .oN .. | .s5 .. | .Sr _=>true
 |_=>false
def j5.qp:j5->Bool
 | .load .. | .nw .. | .Co _ | .yQ .. | .DS .. | .qB .. | .uJ .. | .rG .. | .Hh .. | .qn .. | .calls .. => true
 |x=>x.Wb
def j5.BI:j5->Bool
 | .yQ .. | .DS .. => true
 |_=>false
def j5.Kn:j5->Bool
 | .store .. | .nE .. | .alloc _ | .box _=>true
 |_=>false
def j5.qt:j5->Bool
 | .alloc _ | .box _ | .o8 .. | .oZ .. => true
 |_=>false
def j5.Hr:j5->Bool
 | .load .. | .nw .. | .Co _ | .uJ .. | .rG .. => true
 |_=>false
def j5.Fk:j5->Bool
 | .load _ _ (.t _)=>true
 |_=>false
theorem NX{agg:Bool}{t:Nat}{bs:AH}(l:∀b v i o,e t = .ptr b v i o->b<h.length)(hx:exec Γ e (h++bs) (.load sz agg (.t t))=some (v,h')):exec Γ e h (.load sz agg (.t t))=some (v,h):=by
 simp only[exec,jv,aD]at hx⊢;let⟨cs,h1,r,h2,hx⟩:=hx;cases hx;refine⟨cs,?_,_,h2,rfl⟩
 change iC (h++bs) (e t)=some cs at h1
 change iC h (e t)=some cs
 generalize e t=a at *
 unfold iC at h1⊢;cases a<;>first | exact h1 | skip
 rename_i b v i o;have:=l b v i o rfl;dsimp only at h1⊢;rw[aI this]at h1;exact h1
theorem rm{a:AV}{cs:List AV}(l:iC h a=some cs)(bs:AH):iC (h++bs) a=some cs:=by
 unfold iC at l⊢;cases a<;>first | exact l | skip
 rename_i b v i o;dsimp only at l⊢;cases n:h[b]? with
 |none=>rw[n]at l;cases l
 |some X =>
  have q:b<h.length:=(az.1 n).1;rw[aI q,n];rw[n]at l;exact l
def HL{a:AV}{es:List AV}(i:elems h a=some es)(bs:AH):elems (h++bs) a=some es:=by
 unfold elems at i⊢;cases a<;>first | exact i | skip
 rename_i b v o n;dsimp only at i⊢;cases l:h[b]? with
 |none=>rw[l]at i;cases i
 |some X =>
  have q:b<h.length:=(az.1 l).1;rw[aI q,l];rw[l]at i;exact i
def Hj{q:IntKind}{a:AV}{r:Nat×List (Int×AV)}(i:oL q h a=some r)(bs:AH):oL q (h++bs) a=some r:=by
 unfold oL at i⊢;cases a<;>first | exact i | skip
 rename_i b;dsimp only at i⊢;cases l:h[b]? with
 |none=>rw[l]at i;cases i
 |some X =>
  have n:b<h.length:=(az.1 l).1;rw[aI n,l];rw[l]at i;exact i
theorem Jl(op:j5)(hs:op.Hr=true)(hx:exec Γ e h op=some (v,h'))(bs:AH):exec Γ e (h++bs) op=some (v,h++bs):=by
 cases op<;>first | (cases hs;done) | skip
 case load =>
  simp only[exec,jv,aD]at hx⊢;let⟨cs,h1,r,h2,hx⟩:=hx;cases hx;exact⟨cs,rm h1 bs,_,h2,rfl⟩
 case nw =>
  simp only[exec,jv]at hx⊢;split at hx
  .rename_i b;rw[if_pos b];simp only[aD]at hx⊢;let⟨cs,h1,r,h2,hx⟩:=hx;cases hx;exact⟨cs,rm h1 bs,_,h2,rfl⟩
  .cases hx
 case Co =>
  simp only[exec,aD]at hx⊢;let⟨cs,h1,r,h2,hx⟩:=hx;cases hx;exact⟨cs,HL h1 bs,_,h2,rfl⟩
 all_goals
  simp only[exec,aD]at hx⊢;let⟨cs,h1,r,h2,hx⟩:=hx;cases hx;exact⟨cs,Hj h1 bs,_,h2,rfl⟩
def zV(op:j5)(hs:op.qt=true)(hx:exec Γ e h op=some (v,h')):∃bs,h'=h++bs:=by
 cases op<;>first | (cases hs;done) | skip
 case alloc =>
  simp only[exec]at hx;cases hx;exact⟨_,rfl⟩
 case box =>
  simp only[exec]at hx;split at hx
  .cases hx;exact⟨_,rfl⟩
  .cases hx
 case o8 =>
  simp only[exec]at hx;unfold qu at hx;split at hx
  .split at hx
   .rename_i b;cases hx;refine⟨h'.drop h.length,?_⟩
    conv=>rhs;lhs;rw[<-b]
    exact(cF _ _).symm
   .cases hx
  .cases hx
 case oZ =>
  simp only[exec]at hx;split at hx
  .split at hx
   .unfold qu at hx;split at hx
    .split at hx
     .rename_i b;cases hx;refine⟨h'.drop h.length,?_⟩
      conv=>rhs;lhs;rw[<-b]
      exact(cF _ _).symm
     .cases hx
    .cases hx
   .cases hx
  .cases hx
def NZ(op:j5)(i:op.Wb=true):exec Γ e h op=(exec Γ e [] op).map λr=>(r.1,h):=by
 cases op<;>first | (cases i;done) | skip
 case mv=>rfl
 case no=>rfl
 case xB=>simp only[exec];generalize isNil _ _ _=q;cases q<;>rfl
 case Hi=>rfl
 case Ez=>simp only[exec];split<;>rfl
 case s5 f as =>
  simp only[exec];split
  .cases l:((Γ.h f (getAll e as) []).bind λx=>lP x.snd x.fst)with
   |none=>rfl
   |some r=>rfl
  .rfl
 case oN=>simp only[exec,jv];split<;>first | rfl | (generalize shape _ _ _=q;cases q<;>rfl)
 case SK=>rfl
 case pick=>simp only[exec];split<;>rfl
 case build=>simp only[exec];rename_i zero ps;cases parts e ps zero<;>rfl
 case Pg=>simp only[exec];rename_i sz zero len ps;cases lC e sz ps (List.replicate len zero)<;>rfl
 case J8=>simp only[exec];split<;>first | rfl | (split<;>rfl)
 case bin=>simp only[exec];generalize Am.bin _ _ _=q;cases q<;>rfl
 case beq=>simp only[exec];split<;>rfl
 case seq=>simp only[exec];split<;>first | rfl | (generalize iO _ _ _=q;cases q<;>simp only[Option.bind_none,bH,gp]<;>split<;>rfl)
 case un=>simp only[exec];generalize Am.un _ _=q;cases q<;>rfl
 case conv=>simp only[exec];split<;>rfl
 case Sr=>simp only[exec];split<;>rfl
 case GR =>
  simp only[exec];split<;>first | rfl | skip
  generalize jB _ _ _=q1;cases q1<;>first | rfl | skip
  simp only[bH];generalize jB _ _ _=b;cases b<;>first | rfl | skip
  simp only[bH];split<;>rfl
 case B4=>simp only[exec];split<;>first | rfl | (split<;>rfl)
 case WO=>simp only[exec];split<;>first | rfl | (split<;>first | rfl | (generalize shape _ _ _=q;cases q<;>rfl))
 case uK =>
  simp only[exec];generalize nat? _=q;cases q<;>first | rfl | skip
  simp only[bH];split<;>first | rfl | (split<;>first | rfl | (split<;>rfl))
 case idxs =>
  simp only[exec];split<;>first | rfl | skip
  generalize nat? _=q;cases q<;>first | rfl | skip
  simp only[bH];generalize((_:aq)[(_:Nat)]? : Option UInt8)=q;cases q<;>rfl
 case ext =>
  simp only[exec];split<;>first | rfl | skip
  generalize((_:List AV)[(_:Nat)]? : Option AV)=q;cases q<;>rfl
 case kY=>simp only[exec];split<;>first | rfl | (generalize Γ.p _ _=q;cases q<;>rfl)
 case ni=>simp only[exec];split<;>first | rfl | (split<;>first | rfl | (split<;>first | rfl | (generalize Γ.p _ _=q;cases q<;>rfl)))
 case len=>simp only[exec];generalize yR _ _=q;cases q<;>rfl
 case mm =>
  simp only[exec];split<;>first | rfl | (generalize uv _ _ _=q;cases q<;>rfl)
def NY(op:j5)(l:op.qp=true)(hx:exec Γ e h op=some (v,h')):h'=h:=by
 by_cases b:op.Wb=true
 .rw[NZ op b]at hx;cases i:exec Γ e [] op with
  |none=>rw[i]at hx;cases hx
  |some r=>rw[i]at hx;cases hx;rfl
 .cases op<;>first | (exact absurd rfl b) | (exact absurd l b) | skip
  case calls =>
   simp only[exec]at hx;unfold pF at hx;split at hx
   .split at hx
    .cases hx;rfl
    .cases hx
   .cases hx
  case qB =>
   simp only[exec]at hx;split at hx
   .split at hx
    .unfold pF at hx;split at hx
     .split at hx
      .cases hx;rfl
      .cases hx
     .cases hx
    .cases hx
   .cases hx
  case uJ | rG =>
   simp only[exec,aD]at hx;let⟨_,_,_,_,hx⟩:=hx;cases hx;rfl
  case Hh =>
   simp only[exec,aD]at hx;let⟨_,_,hx⟩:=hx;cases hx;rfl
  case load =>
   simp only[exec,jv,aD]at hx;let⟨_,_,_,_,hx⟩:=hx;cases hx;rfl
  case qn =>
   simp only[exec,jv]at hx;split at hx
   .simp only[aD]at hx;let⟨_,_,_,_,hx⟩:=hx;cases hx;rfl
   .cases hx
  case nw =>
   simp only[exec,jv]at hx;split at hx
   .simp only[aD]at hx;let⟨_,_,_,_,hx⟩:=hx;cases hx;rfl
   .cases hx
  case Co =>
   simp only[exec,aD]at hx;let⟨_,_,_,_,hx⟩:=hx;cases hx;rfl
  case yQ =>
   simp only[exec]at hx;split at hx<;>first | (cases hx;done) | skip
   all_goals
    simp only[aD]at hx;let⟨_,_,_,_,hx⟩:=hx;split at hx
    .split at hx
     .cases hx;rfl
     .cases hx
    .simp only[aD]at hx;let⟨_,_,hx⟩:=hx;split at hx
     .cases hx;rfl
     .cases hx
  case DS =>
   simp only[exec]at hx;split at hx<;>first | (cases hx;done) | skip
   .simp only[aD]at hx;let⟨_,_,_,_,hx⟩:=hx;split at hx
    .cases hx;rfl
    .cases hx
   .simp only[aD]at hx;let⟨_,_,hx⟩:=hx;split at hx
    .cases hx;rfl
    .cases hx
theorem FH(op:j5)(hs:op.BI=true)(q:∀b v,iZ h2 b v=iZ h b v)(hx:exec Γ e h op=some (v,h')):exec Γ e h2 op=some (v,h2):=by
 cases op<;>first | (cases hs;done) | skip
 case yQ sz x y z r =>
  simp only[exec]at hx⊢;split at hx
  .simp only[aD]at hx;let⟨a,n,b,o,hx⟩:=hx;simp only[n,o,bH];split at hx
   .split at hx
    .rename_i l;cases hx;rw[if_pos l]
    .cases hx
   .simp only[aD]at hx;let⟨c,l,hx⟩:=hx;simp only[l,bH];split at hx
    .rename_i l;cases hx;rw[if_pos l]
    .cases hx
  .simp only[aD]at hx;let⟨a,n,b,o,hx⟩:=hx;simp only[n,o,bH,q];split at hx
   .split at hx
    .rename_i l;cases hx;rw[if_pos l]
    .cases hx
   .simp only[aD]at hx;let⟨c,l,hx⟩:=hx;simp only[l,bH];split at hx
    .rename_i l;cases hx;rw[if_pos l]
    .cases hx
  .cases hx
 case DS sz x i =>
  simp only[exec]at hx⊢;split at hx
  .simp only[aD]at hx;let⟨a,n,b,o,hx⟩:=hx;simp only[n,o,bH];split at hx
   .rename_i l;cases hx;rw[if_pos l]
   .cases hx
  .simp only[aD]at hx;let⟨a,n,hx⟩:=hx;simp only[n,bH,q];split at hx
   .rename_i l;cases hx;rw[if_pos l]
   .cases hx
  .cases hx
def qf{b:Nat}{X Y:AB}(o:h[b]? = some X) (hs:∀v,(match Y with | .row v' sz _=>if v=v' then some sz else none | .lu v' sz _=>if v=v' then some sz else none | _=>none) =
  (match X with | .row v' sz _=>if v=v' then some sz else none | .lu v' sz _=>if v=v' then some sz else none | _=>none)) (i v:Nat):iZ (h.set b Y) i v=iZ h i v:=by
 have l:b<h.length:=(az.1 o).1;unfold iZ
 by_cases n:i=b
 .subst n;rw[bh l,o];have:=hs v;cases X<;>cases Y<;>exact this
 .rw[aL (λe=>n e.symm)]
def yX{cs:List AV}(i v:Nat):iZ (h++[.var cs]) i v=iZ h i v:=by
 unfold iZ
 by_cases b:i<h.length
 .rw[aI b]
 .rw[aQ aa,cS (l:=h) aa]
  cases n:i-h.length with
  |zero=>rfl
  |succ j=>rfl
def za{a r:AV}(l:mQ h a=some (r,h'))(i v:Nat):iZ h' i v=iZ h i v:=by
 cases a<;>simp only[mQ]at l
 case own b x o n =>
  split at l
  .rename_i v' sz es q;split at l
   .cases l;exact qf q (λ_=>rfl) i v
   .cases l
  .split at l
   .cases l;rfl
   .cases l
  .cases l
 all_goals
  split at l
  .cases l;rfl
  .cases l
def zc:∀ {l n:List AV} {h h':AH},rU h l=some (n,h')->∀(i v:Nat),iZ h' i v=iZ h i v
 | [],n,h,h',b,i,v=>by simp only[rU]at b;cases b;rfl
 |a::l,n,h,h',b,i,v=>by
  simp only[rU,aD]at b;let⟨⟨r,h1⟩,q,⟨l2,h2⟩,o,b⟩:=b;cases b;rw[zc o,za q]
def ze{a o:AV}(b:lG h a=some (o,h'))(i v:Nat):iZ h' i v=iZ h i v:=by
 unfold lG at b;split at b
 .cases b;rfl
 .split at b
  .simp only[aD]at b;let⟨⟨l,h1⟩,n,b⟩:=b;cases b;exact zc n i v
  .exact za b i v
theorem Jm(op:j5)(hs:op.Kn=true)(hx:exec Γ e h op=some (v,h'))(i u:Nat):iZ h' i u=iZ h i u:=by
 cases op<;>first | (cases hs;done) | skip
 case alloc zero=>simp only[exec]at hx;cases hx;exact yX i u
 case box x =>
  simp only[exec]at hx;split at hx
  .cases hx;exact yX i u
  .cases hx
 case store sz a x =>
  simp only[exec,aD]at hx;let⟨h1,b,hx⟩:=hx;cases hx;unfold storeAt at b;split at b
  .split at b
   .rename_i l;split at b
    .cases b;exact qf l (λ_=>rfl) i u
    .cases b
   .simp only[aD]at b;let⟨⟨o,h2⟩,n,b⟩:=b;split at b
    .rename_i l;simp only[aD]at b;let⟨y,r,b⟩:=b;split at b
     .cases b;rw[qf l (λ_=>rfl) i u,ze n]
     .cases b
    .cases b
   .cases b
  .cases b
 case nE sz a x q =>
  simp only[exec]at hx;split at hx
  case isFalse=>cases hx
  simp only[aD]at hx;let⟨h1,b,hx⟩:=hx;cases hx;unfold storeAt at b;split at b
  .split at b
   .rename_i l;split at b
    .cases b;exact qf l (λ_=>rfl) i u
    .cases b
   .simp only[aD]at b;let⟨⟨o,h2⟩,n,b⟩:=b;split at b
    .rename_i l;simp only[aD]at b;let⟨y,r,b⟩:=b;split at b
     .cases b;rw[qf l (λ_=>rfl) i u,ze n]
     .cases b
    .cases b
   .cases b
  .cases b
def CE{a x:AV}(n:ob h a=true)(hs:storeAt h sz a x=some h'){p:AV}(q:kQ a p=true){cs:List AV}(l:iC h p=some cs):iC h' p=some cs:=by
 unfold storeAt at hs;split at hs
 .rename_i b v i o;unfold ob at n;dsimp only at n;split at n
  .rename_i y r;rw[r]at hs;dsimp only at hs;split at hs
   .cases hs;cases p<;>first | (simp[kQ]at q;done) | skip
    .rename_i A v' z o';simp only[kQ,decide_eq_true_eq]at q;unfold iC at l⊢;dsimp only at l⊢;rw[aL q];exact l
    .unfold iC at l⊢;exact l
   .cases hs
  .cases n
 .cases hs
def j5.xC(x:j5):Bool:=x.qt||match x with
 | .app .. | .vM .. => true
 |_=>false
def j5.SP:j5->Bool
 | .qn .. => true
 |_=>false
def jm(h h':AH):Prop:=h.length<=h'.length/\∀(b:Nat)(cs:List AV),b<h.length->(h[b]? = some (.var cs)↔h'[b]? = some (.var cs))
theorem jm.refl(h:AH):jm h h:=⟨aT _,λ_ _ _=>Iff.rfl⟩
def jm.trans{i:AH}(a:jm h h')(b:jm h' i):jm h i :=
 ⟨bQ a.1 b.1,λk cs hk=>(a.2 k cs hk).trans (b.2 k cs (br hk a.1))⟩
def jm.app(h bs:AH):jm h (h++bs):=⟨ah,λk cs hk=>by rw[aI hk]⟩
def Ie{bytes:Nat}{s:AV}{news:List AV}(hx:append h sz bytes s news=some (v,h')):jm h h':=by
 unfold append at hx;split at hx
 .split at hx
  .cases hx;exact jm.app _ _
  .cases hx
 .rename_i b v0 o n;split at hx
  .rename_i v' i es l;split at hx
   .cases hx;refine⟨ah,λk cs hk=>?_⟩
    by_cases e1:b=k
    .subst e1;rw[l,bh hk]
     constructor<;>intro h<;>cases h
    .rw[aL e1]
   .cases hx
  .cases hx
 .cases hx
def ED{a:AV}(i:mQ h a=some (b,h')):jm h h':=by
 unfold mQ at i;split at i
 .rename_i c v o n;split at i
  .rename_i v' sz es l;split at i
   .cases i;refine⟨ah,λk cs hk=>?_⟩
    by_cases e1:c=k
    .subst e1;rw[l,bh hk]
     constructor<;>intro h<;>cases h
    .rw[aL e1]
   .cases i
  .split at i
   .cases i;exact jm.refl _
   .cases i
  .cases i
 .split at i
  .cases i;exact jm.refl _
  .cases i
def EE:∀(l:List AV){h h':AH}{m:List AV},rU h l=some (m,h')->jm h h'
 | [],h,h',m,i=>by cases i;exact jm.refl _
 |a::l,h,h',m,i=>by
  simp only[rU,aD]at i;let⟨⟨b,h1⟩,h2,⟨c,h3⟩,h4,i⟩:=i;cases i;exact(ED h2).trans (EE l h4)
def MB{a:AV}(i:lG h a=some (b,h')):jm h h':=by
 unfold lG at i;split at i
 .cases i;exact jm.refl _
 .split at i
  .simp only[aD]at i;let⟨⟨c,h1⟩,h2,i⟩:=i;cases i;exact EE _ h2
  .exact ED i
def Bw:∀(l:List AV){h h':AH}{m:List AV},jk h l=some (m,h')->jm h h'
 | [],h,h',m,i=>by cases i;exact jm.refl _
 |a::l,h,h',m,i=>by
  simp only[jk,aD]at i;let⟨⟨b,h1⟩,h2,⟨c,h3⟩,h4,i⟩:=i;cases i;exact(MB h2).trans (Bw l h4)
theorem NV(op:j5)(b:op.xC=true)(hx:exec Γ e h op=some (v,h')):jm h h':=by
 unfold j5.xC at b;rw[bP]at b
 rcases b with b | b
 .obtain⟨bs,rfl⟩:=zV op b hx;exact jm.app _ _
 .split at b
  .simp only[exec,aD]at hx;let⟨_,_,hx⟩:=hx;exact Ie hx
  .simp only[exec,aD]at hx;let⟨⟨l,h1⟩,i,r,_,hx⟩:=hx;cases hx;exact Bw _ i
  .cases b
theorem NW{agg:Bool}{t:Nat}(hx:exec Γ e h (.qn sz agg t)=some (v,h'))(y:∀(b:Nat)(cs:List AV),(∃v i o,e t = .ptr b v i o)->h[b]? = some (.var cs)->h2[b]? = some (.var cs)):exec Γ e h2 (.qn sz agg t)=some (v,h2):=by
 simp only[exec]at hx⊢;generalize z:e t=p at hx⊢;split at hx
 case isFalse=>cases hx
 rename_i q;cases p<;>first | (simp[ob]at q;done) | skip
 rename_i b x i o;simp only[ob]at q;split at q
 case h_2=>cases q
 rename_i cs l;have n:=y b cs ⟨x,i,o,z⟩ l;have e1:ob h2 (.ptr b x i o)=true:=by simp only[ob,n]
 rw[if_pos e1];simp only[aD,jv]at hx⊢;let⟨xs,h1,r,h3,hx⟩:=hx;cases hx;refine⟨xs,?_,_,h3,rfl⟩;simp only[iC,l]at h1;simp only[iC,n];exact h1
end
end Go.Am
