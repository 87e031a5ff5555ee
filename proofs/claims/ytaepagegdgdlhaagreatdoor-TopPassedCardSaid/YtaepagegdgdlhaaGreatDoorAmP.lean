/- Part of the proof that TopPassedCard holds. -/
import Derived.Test.YtaepagegdgdlhaaGreatDoorAmO
import Derived.Test.YtaepagegdgdlhaaGreatDoorAmCs
set_option linter.all false
namespace Go.Am
section
variable{P:Program}{Z:az}{β:kW}{h:AH}{w:World}
def jS.keep{s:Sem Value}{v:Option AV}{av:AV}{h':AH}(hk:mc h v=some (av,h'))(hm:∀x,v=some x->jS P Z β h w s x h):jS P Z β h w s av h':=by
 cases v with
 |none=>cases hk
 |some x =>
  cases hk;exact hm _ rfl
def D4{e:TypeId}(hz:yd.IG P e=true):∃i z,P.info? e=some i/\i.zero=some z/\z.cells.size=i.size:=by
 grind[yd.IG]
def Nl{sz bytes:Nat}{s av:AV}{news:List AV}{h':AH}(ha:append h sz bytes s news=some (av,h')):kK sz news=true:=by
 unfold append at ha;split at ha
 .grind
 .grind
 .cases ha
def SF(d:TypeDesc):(match d with | .int _=>False | _=>True)\/((d matches .slice _)=false/\(d matches .string)=false):=by grind
section
variable{t:TypeId}{n:Nat}
def Th{elem:TypeId}(hd:P.underlying t=some (.slice elem))(w:World)(ad:Option Addr)(m cp m' cp':Nat):(Op.equalIn (n+1) t (.slice ad m cp) (.slice none m' cp')).run P w = .ok ad.isNone w:=by
 cases ad<;>simp[Op.equalIn,run_underlying hd]
def Jt{elem:TypeId}(hd:P.underlying t=some (.pointer elem))(w:World)(ad:Option Addr):(Op.equalIn (n+1) t (.pointer ad) (.pointer none)).run P w = .ok ad.isNone w:=by
 cases ad<;>simp[Op.equalIn,run_underlying hd]
def aay{p r:Array TypeId}{v:Bool}(hd:P.underlying t=some (.func p r v))(w:World):(Op.equalIn (n+1) t .nilFunc .nilFunc).run P w = .ok true w:=by
 simp[Op.equalIn,run_underlying hd]
def aax{p r:Array TypeId}{v:Bool}(hd:P.underlying t=some (.func p r v))(w:World)(f:Fn)(x y:Array Value):(Op.equalIn (n+1) t (.func f x y) .nilFunc).run P w = .ok false w:=by
 simp[Op.equalIn,run_underlying hd]
def aaw{ms}(hd:P.underlying t=some (.interface ms))(w:World):(Op.equalIn (n+1) t .nilIface .nilIface).run P w = .ok true w:=by
 simp[Op.equalIn,run_underlying hd]
def aav{ms}(hd:P.underlying t=some (.interface ms))(w:World)(t':TypeId)(x:Value):(Op.equalIn (n+1) t (.iface t' x) .nilIface).run P w = .ok false w:=by
 simp[Op.equalIn,run_underlying hd]
end
def SO(R:Rel Z β h w){a:Act}{n:Nat}{e:Env}(E:kF Z β h w e a n){t:TypeId}{d:TypeDesc}(hd:P.underlying t=some d){k:NK}{c:Value}
  (hq:abB k d c=true) {neg:Bool} {y av:AV} {x:Operand} (rP:isNil k neg y=some av) (hv:VR β (Own Z β h) w y (a.eval x)) :
  jS P Z β h w (do eqGuard (if neg then .neq else .eql) t x (.const c) (a.eval x) (a.eval (.const c));binOp (if neg then .neq else .eql) t (a.eval x) (a.eval (.const c))) av h:=by
 have key:∀ {b:Bool},((eqGuard (if neg then .neq else .eql) t x (.const c) (a.eval x) c).run P w = .ok () w)->((binOp (if neg then .neq else .eql) t (a.eval x) c).run P w = .ok (.bool b) w)->VR β (Own Z β h) w av (.bool b)->
   jS P Z β h w (do eqGuard (if neg then .neq else .eql) t x (.const c) (a.eval x) (a.eval (.const c));binOp (if neg then .neq else .eql) t (a.eval x) (a.eval (.const c))) av h:=by
  intro b h1 h2 h3;refine jS.of R (v:=.bool b) ?_ h3;show (eqGuard _ t x (.const c) (a.eval x) c >>= λ_=>binOp _ t (a.eval x) c).run P w=_
  simp_all
 have slc:∀ {ad:Option Addr} {m cp:Nat} {elem:TypeId} {m' cp':Nat},d = .slice elem->c = .slice none m' cp'->a.eval x = .slice ad m cp->VR β (Own Z β h) w av (.bool (if neg then !ad.isNone else ad.isNone))->
   jS P Z β h w (do eqGuard (if neg then .neq else .eql) t x (.const c) (a.eval x) (a.eval (.const c));binOp (if neg then .neq else .eql) t (a.eval x) (a.eval (.const c))) av h:=by
  intro ad m cp elem m' cp' e1 e2 e3 hv;subst e1 e2;rw[e3]at key⊢;refine key (b:=if neg then !ad.isNone else ad.isNone) ?_ ?_ hv
  .cases neg<;>simp[eqGuard]
  .cases neg<;>simp[binOp,Op.equal,Op.maxDepth,Th hd]
 cases y with
 |oI =>
  cases k<;>simp only[isNil]at rP<;>first | (cases rP;done) | skip
  cases rP;cases d<;>first | (cases hq;done) | skip
  cases c<;>first | (cases hq;done) | skip
  rename_i p;cases p<;>first | (cases hq;done) | skip
  have he:a.eval x = .pointer none:=by generalize a.eval x=u at hv;cases hv with | pure _ _ hv=>cases hv;rfl
  rw[he]at key⊢;refine key (b:=!neg) ?_ ?_ (.of_bool _)
  .cases neg<;>simp[eqGuard]
  .cases neg<;>simp[binOp,Op.equal,Op.maxDepth,Jt hd]
 |ptr b vv i o =>
  cases k<;>simp only[isNil]at rP<;>first | (cases rP;done) | skip
  cases rP;cases d<;>first | (cases hq;done) | skip
  cases c<;>first | (cases hq;done) | skip
  rename_i p;cases p<;>first | (cases hq;done) | skip
  let⟨bd,cc,_,_,he⟩:=hv.oE;rw[he]at key⊢;refine key (b:=neg) ?_ ?_ (.of_bool _)
  .cases neg<;>simp[eqGuard]
  .cases neg<;>simp[binOp,Op.equal,Op.maxDepth,Jt hd]
 |kE cs =>
  cases k<;>simp only[isNil]at rP<;>first | (cases rP;done) | skip
  cases rP;cases d<;>first | (cases hq;done) | skip
  cases c<;>first | (cases hq;done) | skip
  rename_i p;cases p<;>first | (cases hq;done) | skip
  obtain⟨ad,he⟩:∃ad,a.eval x = .pointer (some ad):=by
   generalize a.eval x=u at hv;cases hv with
   |pure _ _ hv=>cases hv
   |kE=>exact⟨_,rfl⟩
  rw[he]at key⊢;refine key (b:=neg) ?_ ?_ (.of_bool _)
  .cases neg<;>simp[eqGuard]
  .cases neg<;>simp[binOp,Op.equal,Op.maxDepth,Jt hd]
 |nh =>
  cases k<;>simp only[isNil]at rP<;>first | (cases rP;done) | skip
  cases rP;cases d<;>first | (cases hq;done) | skip
  cases c<;>first | (cases hq;done) | skip
  have he:a.eval x = .nilFunc:=by generalize a.eval x=u at hv;cases hv with | pure _ _ hv=>cases hv;rfl
  rw[he]at key⊢;refine key (b:=!neg) ?_ ?_ (.of_bool _)
  .cases neg<;>simp[eqGuard]
  .cases neg<;>simp[binOp,Op.equal,Op.maxDepth,aay hd]
 |fn f fi ca =>
  cases k<;>simp only[isNil]at rP<;>first | (cases rP;done) | skip
  cases rP;cases d<;>first | (cases hq;done) | skip
  cases c<;>first | (cases hq;done) | skip
  obtain⟨f',a1,a2,he⟩:∃f' a1 a2,a.eval x = .func f' a1 a2:=by
   generalize a.eval x=u at hv;cases hv with
   |pure _ _ hv=>cases hv
   |fn=>grind
  rw[he]at key⊢;refine key (b:=neg) ?_ ?_ (.of_bool _)
  .cases neg<;>simp[eqGuard]
  .cases neg<;>simp[binOp,Op.equal,Op.maxDepth,aax hd]
 |pn =>
  cases k<;>simp only[isNil]at rP<;>first | (cases rP;done) | skip
  cases rP;cases d<;>first | (cases hq;done) | skip
  cases c<;>first | (cases hq;done) | skip
  have he:a.eval x = .nilIface:=by generalize a.eval x=u at hv;cases hv with | pure _ _ hv=>cases hv;rfl
  rw[he]at key⊢;refine key (b:=!neg) ?_ ?_ (.of_bool _)
  .cases neg<;>simp[eqGuard]
  .cases neg<;>simp[binOp,Op.equal,Op.maxDepth,aaw hd]
 |Hq tt vv =>
  cases k<;>simp only[isNil]at rP<;>first | (cases rP;done) | skip
  cases rP;cases d<;>first | (cases hq;done) | skip
  cases c<;>first | (cases hq;done) | skip
  obtain⟨t',u',he⟩:∃t' u',a.eval x = .iface t' u':=by
   generalize a.eval x=u at hv;cases hv with
   |pure _ _ hv=>cases hv
   |Hq=>exact⟨_,_,rfl⟩
  rw[he]at key⊢;refine key (b:=neg) ?_ ?_ (.of_bool _)
  .cases neg<;>simp[eqGuard]
  .cases neg<;>simp[binOp,Op.equal,Op.maxDepth,aav hd]
 |jB full es =>
  cases k<;>simp only[isNil]at rP<;>first | (cases rP;done) | skip
  cases d<;>first | (cases hq;done) | skip
  cases c<;>first | (cases hq;done) | skip
  rename_i pp m' cp';cases pp<;>first | (cases hq;done) | skip
  let⟨ad,cc,he,hc,hsrc⟩:=pS R (a:=.jB full es) rfl hv;split at rP
  .cases rP;exact slc rfl rfl he (.xI _)
  .rename_i hne;cases rP;let⟨blk,o,sz,_,had,_⟩:=hsrc hne;refine slc rfl rfl he ?_;rw[had];cases neg<;>exact .of_bool _
 |own b vv o m =>
  cases k<;>simp only[isNil]at rP<;>first | (cases rP;done) | skip
  cases d<;>first | (cases hq;done) | skip
  cases c<;>first | (cases hq;done) | skip
  rename_i pp m' cp';cases pp<;>first | (cases hq;done) | skip
  let⟨bd,ad,cc,hbd,he,h2⟩:=hv.mg;split at rP
  .cases rP;exact slc rfl rfl he (.xI _)
  .rename_i hne;cases rP;refine slc rfl rfl he ?_
   rcases h2 with⟨_,h2⟩ | ⟨cb,_,had,_,_⟩
   .exact absurd h2 hne
   .rw[had];cases neg<;>exact .of_bool _
 |_=>simp[isNil]at rP
set_option maxHeartbeats 1600000 in
def O1(R:Rel Z β h w){Γ:kP}{e:Env}{a:Act}{n:Nat}(E:kF Z β h w e a n){o:Oper}{x:ni}(ok:yd P o.op x=true){av:AV}{h':AH}(hx:exec Γ e h x=some (av,h'))
  (sV:∀f ys,x≠.call f ys/\x≠.rS f ys) (aex:∀y ys,x≠.l8 y ys) (aez:∀y ys,x≠.rR y ys) (aeA:∀y ys,x≠.v8 y ys) (aeB:∀y ys,x≠.qu y ys) (aey:∀y ys,x≠.calls y ys) (aag:∀y ys,x≠.rJ y ys) (WA:∀y ys,x≠.yG y ys/\x≠.Aq y ys) (aei:∀sz y z,x≠.store sz y z) (Z3:∀sz y z,x≠.mC sz y z) (Z8:∀y,x≠.ZI y) (hmv:∀y,x≠.mv y) (abO:∀m k y,x≠.uf m k y) (aeq:∀m k y,x≠.Cc m k y) :
  ∃s,execOp a.eval o=(do pure (.value (<-s)))/\jS P Z β h w s av h':=by
 obtain⟨dst,op,type,pos,after,guard⟩:=o;dsimp only at ok;unfold yd at ok;split at ok
 case h_1=>simp only[exec]at hx;cases hx
 case h_2 op t x c yt k neg x'=> -- isnil
  simp only[aH,decide_eq_true_eq]at ok;obtain⟨⟨rfl,h1⟩,h2⟩:=ok;obtain⟨d,hd,hq⟩:=ko h2;have v1:=jR E h1;simp only[exec]at hx;exact⟨do eqGuard (if neg then .neq else .eql) t x (.const c) (a.eval x) (a.eval (.const c));binOp (if neg then .neq else .eql) t (a.eval x) (a.eval (.const c)),rfl,jS.keep hx λav rP=>SO R E hd hq rP v1⟩
 case h_3=>exact absurd rfl (hmv _)
 case h_4=>exact absurd rfl (hmv _)
 case h_5 c x y c' x' y'=> -- pick
  simp only[aH]at ok;obtain⟨⟨h1,h2⟩,h3⟩:=ok;simp only[exec]at hx;have vc:=jR E h1;split at hx
  .rename_i t ht;cases hx;rw[ht]at vc;refine⟨do pure (if<-asBool (a.eval c)then a.eval x else a.eval y),by simp[execOp],jS.of R (v:=if t then a.eval x else a.eval y) ?_ ?_⟩
   .rw[vc.pF];simp[asBool]
   .cases t
    .exact jR E h3
    .exact jR E h2
  .cases hx
 case h_6 t zero=> -- alloc
  simp only[exec]at hx;cases hx;exact⟨_,rfl,TK R ok⟩
 case h_7 t x y=> -- box
  simp only[exec]at hx;split at hx
  .rename_i hok;cases hx;exact⟨_,rfl,aa7 R t hok (jR E ok)⟩
  .cases hx
 case h_8 t ps zero qs=> -- build
  simp only[exec,aI]at hx;obtain⟨cs,hcs,hx⟩:=hx;cases hx;exact⟨_,rfl,TF R E ok hcs⟩
 case h_9 t k ps sz zero m qs=> -- bsl
  simp only[exec,aI]at hx;obtain⟨es,lJ,hx⟩:=hx;cases hx;exact⟨_,rfl,Rx R E ok (xF h _ _ _ lJ)⟩
 case h_10 t k ps sz zero m qs=> -- bslh
  simp only[exec,aI]at hx;obtain⟨⟨es,h1⟩,lJ,hx⟩:=hx;cases hx;exact⟨_,rfl,Rx R E ok lJ⟩
 case h_11 t k ps sz zero m qs=> -- bslo
  simp only[exec,aI]at hx;obtain⟨⟨es,h1⟩,lJ,hx⟩:=hx;cases hx;exact⟨_,rfl,XW R E ok lJ⟩
 case h_12 t x sz agg y=> -- load
  simp only[aH]at ok;obtain⟨⟨h1,h2⟩,h3⟩:=ok;simp only[exec,aI]at hx;obtain⟨cs,hcs,hx⟩:=hx;exact⟨_,rfl,jS.keep hx λav rP=>zM R hcs rP (jR E h3) h1 h2⟩
 case h_13 t x sz agg y q0=> -- loadx
  simp only[aH]at ok;obtain⟨⟨h1,h2⟩,h3⟩:=ok;simp only[exec]at hx;split at hx
  case isFalse=>cases hx
  simp only[aI]at hx;obtain⟨cs,hcs,hx⟩:=hx;exact⟨_,rfl,jS.keep hx λav rP=>zM R hcs rP (jR E h3) h1 h2⟩
 case h_14=>exact absurd rfl (aei _ _ _)
 case h_15=>exact absurd rfl (Z3 _ _ _)
 case h_16=>exact absurd rfl (Z8 _)
 case h_17 op t x y yt op' x' y'=> -- bin
  simp only[aH,decide_eq_true_eq]at ok;obtain⟨⟨⟨rfl,_⟩,h2⟩,h3⟩:=ok;simp only[exec]at hx;refine⟨do eqGuard op t x y (a.eval x) (a.eval y);binOp op t (a.eval x) (a.eval y),rfl,jS.keep hx λav rP=>?_⟩
  obtain⟨m,g⟩:=aa8 (P:=P) R rP (jR E h2) (jR E h3) t;obtain⟨v,w',β',hr,k⟩:=m;exact⟨v,w',β',by simp only[Sem.run_bind,g,Result.andThen_ok,hr],k⟩
 case h_18 op t x y yt neg ks x' y'=> -- seq
  simp only[aH,decide_eq_true_eq]at ok;obtain⟨⟨⟨rfl,h1⟩,h2⟩,h3⟩:=ok;simp only[exec]at hx;have v1:=jR E h2;have v2:=jR E h3;split at hx
  .rename_i p q hp hq;simp only[aI]at hx;obtain⟨r,hr,hx⟩:=hx;split at hx
   .rename_i hlen;cases hx;rw[hp]at v1;rw[hq]at v2;obtain⟨m,g⟩:=Ze (P:=P) R h1 neg hlen.1 hlen.2 hr v1 v2;obtain⟨v,w',β',hr,k⟩:=m;refine⟨do eqGuard (if neg then .neq else .eql) t x y (a.eval x) (a.eval y);binOp (if neg then .neq else .eql) t (a.eval x) (a.eval y),rfl,v,w',β',?_,k⟩
    simp only[Sem.run_bind,g,Result.andThen_ok,hr]
   .cases hx
  .cases hx
 case h_19 op t x op' y=> -- un
  simp only[aH,decide_eq_true_eq]at ok;obtain⟨rfl,h2⟩:=ok;simp only[exec]at hx;exact⟨_,rfl,jS.keep hx λav rP=>acC R rP (jR E h2)⟩
 case h_20 s d x k y=> -- conv
  simp only[aH]at ok;obtain⟨⟨h1,h2⟩,h3⟩:=ok;obtain⟨dd,hd,hq⟩:=ko h2
  have hd':P.underlying d=some (.int k):=by
   cases dd<;>first | (cases hq;done) | skip
   simp at hq;subst hq;exact hd
  have v1:=jR E h3;simp only[exec]at hx;split at hx
  .rename_i kk i hi;cases hx;rw[hi]at v1;exact⟨_,rfl,XB R h1 hd' v1⟩
  .cases hx
 case h_21 s d x y=> -- bts
  simp only[aH]at ok;obtain⟨⟨h1,h2⟩,h3⟩:=ok;obtain⟨ds,hs,hq1⟩:=ko h1;obtain⟨dd,hd,SZ⟩:=ko h2;have hd':P.underlying d=some .string:=by cases dd<;>first | exact hd | (cases SZ;done)
  cases ds<;>first | (cases hq1;done) | skip
  rename_i ee;obtain⟨de,he,Ex⟩:=ko hq1
  have he':P.underlying ee=some (.int .u8):=by
   cases de<;>first | (cases Ex;done) | skip
   simp at Ex;subst Ex;exact he
  simp only[exec,aI]at hx;obtain⟨es,lJ,l,hl,hx⟩:=hx;cases hx;exact⟨_,rfl,aa4 R hs he' hd' lJ hl (jR E h3)⟩
 case h_22 t x t' y=> -- mki
  simp only[aH,decide_eq_true_eq]at ok;obtain⟨⟨rfl,h1⟩,h2⟩:=ok;simp only[exec]at hx;cases hx;exact⟨_,rfl,jS.of R (run_makeInterface w t _ h1) (.Hq t _ _ (jR E h2))⟩
 case h_23 f fi ca f' fi' ca'=> -- mkf
  simp only[aH,decide_eq_true_eq]at ok;obtain⟨⟨rfl,h1⟩,h2⟩:=ok;simp only[exec]at hx;cases hx;obtain⟨p1,p2⟩:=qJ E h1;obtain⟨q1,q2⟩:=qJ E h2;refine⟨_,rfl,jS.of R (v:=.func f (fi.map a.eval) (ca.map a.eval)) (by simp[Instr.makeFunc]) ?_⟩
  have:=VR.fn (β:=β) (O:=Own Z β h) (w:=w) f (getAll e fi') (getAll e ca') (fi.toList.map a.eval) (ca.toList.map a.eval) p1 q1 p2 q2
  rwa [show (fi.toList.map a.eval).toArray=fi.map a.eval from dI ah,show (ca.toList.map a.eval).toArray=ca.map a.eval from dI ah]at this
 case h_24 t l c sz bytes zero l' c'=> -- mks
  simp only[aH]at ok;obtain⟨⟨h1,h2⟩,h3⟩:=ok;simp only[exec]at hx;split at hx
  .rename_i nn mm hn hm;split at hx
   .rename_i hc;cases hx;exact⟨_,rfl,ZM R h1 hn hm hc.1 hc.2.1 hc.2.2 (jR E h2) (jR E h3)⟩
   .cases hx
  .cases hx
 case h_25 t x lo hi mx y lo' hi'=> -- sls
  simp only[aH,Option.isNone_iff_eq_none]at ok;obtain⟨⟨⟨⟨h1,rfl⟩,h2⟩,h3⟩,h4⟩:=ok;obtain⟨d,hd,hq⟩:=ko h1;have hd':P.underlying t=some .string:=by cases d<;>first | exact hd | (cases hq;done)
  have v1:=jR E h2;simp only[exec]at hx;split at hx
  .rename_i l hl;rw[hl]at v1;simp only[aI]at hx;obtain⟨b,hb,c,hc,hx⟩:=hx;split at hx
   .rename_i hle;cases hx;exact⟨_,rfl,Za R E hd' h3 h4 hc hb hle.1 hle.2 v1⟩
   .cases hx
  .cases hx
 case h_26 t x lo hi mx sz y lo' hi' SG=> -- sll
  simp only[aH,decide_eq_true_eq]at ok;obtain⟨⟨⟨⟨⟨h0,h1⟩,h2⟩,h3⟩,h4⟩,h5⟩:=ok;obtain⟨d,hd,hq⟩:=ko h1;cases d<;>first | (cases hq;done) | skip
  rename_i elem;have v1:=jR E h2;have hsome:SG.isSome=true->∃p q,mx=some p/\SG=some q:=by
   intro hs;cases SG with
   |none=>cases hs
   |some q=>cases mx with
    |none=>simp[nw]at h5
    |some p=>exact⟨p,q,rfl,rfl⟩
  have akF:hi'.isSome=true->hi.isSome=true:=by
   intro hs;cases hi' with
   |none=>cases hs
   |some q=>cases hi with
    |none=>simp[nw]at h4
    |some p=>rfl
  simp only[exec]at hx;split at hx
  .rename_i full es hl;rw[hl]at v1;obtain⟨ad,c,he,hc,_⟩:=pS R (a:=.jB full es) rfl v1;rw[he]at v1;simp only[aI]at hx;obtain⟨yy,NA,xx,hxx,hx⟩:=hx;split at hx
   .split at hx
    .rename_i hle;obtain⟨CM,l1,l2⟩:=hle;cases hx;have hm:lI c e (none:Option AO)=some c:=rfl;have hrun:=CY (P:=P) (w:=w) E hd hq h3 h4 h5 (λhs=>by cases mx<;>simp_all[nw]) (len:=es.length) (cap:=c) (ad:=ad) hxx NA hm l1 aa (aN _)
     refine⟨Instr.sliceAt t (a.eval x) (lo.map a.eval) (hi.map a.eval) (mx.map a.eval),rfl,jS.of R (v:=_) (by rw[he];exact hrun) (.pure _ _ (P9 v1.oJ CM h0 l1 aa l2 ?_))⟩
     intro hf;simp only[aH,decide_eq_true_eq]at hf;obtain⟨Cj,Jg⟩:=hf;subst Cj;generalize hce:es.length=ce at v1;cases v1.oJ with
     |jB _ _ _ _ _ _ _ _ YK=>have:=YK rfl;omega
    .cases hx
   .rename_i q YD;simp only[aI]at hx;obtain⟨mm,Z9,hx⟩:=hx;split at hx
    .rename_i hle;obtain⟨CM,l0,l1,l2,l3⟩:=hle;cases hx;have hrun:=CY (P:=P) (w:=w) E hd hq h3 h4 h5 (λ_=>akF l0) (len:=es.length) (cap:=c) (ad:=ad) (m:=mm) hxx NA Z9 l1 l2 aa
     refine⟨Instr.sliceAt t (a.eval x) (lo.map a.eval) (hi.map a.eval) (mx.map a.eval),rfl,jS.of R (v:=_) (by rw[he];exact hrun) (.pure _ _ (P9 v1.oJ CM h0 l1 l2 aa ?_))⟩
     intro hf;simp only[decide_eq_true_eq]at hf;exact hf.symm
    .cases hx
  .rename_i r vv oo nn hl;rw[hl]at v1;obtain⟨bd,ad,c,hbd,he,h6⟩:=v1.mg
   have cut:∀xx yy mm,kX h r vv=some sz->xx<=yy->yy<=mm->mm<=c->yy<=nn->VR β (Own Z β h) w (.own r vv (oo+xx) (yy-xx)) (.slice (if mm=xx then ad else ad.map (·.add (xx*sz))) (yy-xx) (mm-xx)):=by
    intro xx yy mm hr l1 l2 l3 l4;obtain⟨s1,s2⟩:=G0 R hr hbd;refine .own r vv (oo+xx) (yy-xx) bd _ (mm-xx) hbd ?_
    by_cases Mi:mm=xx
    .exact .inl ⟨aa,aa⟩
    .rcases h6 with⟨h6,h6'⟩ | ⟨cb,g1,g2,g3,g4⟩
     .exact .inl ⟨aa,aa⟩
     .refine .inr ⟨cb,g1,?_,aa,?_⟩
      .rw[if_neg Mi,g2];simp only[bJ,nU,s1,bR];rw[cz]
      .have e1:oo+xx+(mm-xx)<=oo+c:=by omega
       have:=bD bd.sz e1;omega
   have hnc:nn<=c:=by rcases h6 with⟨_,h6⟩ | ⟨_,_,_,h6,_⟩<;>omega
   simp only[aI]at hx;obtain⟨yy,NA,xx,hxx,hx⟩:=hx;split at hx
   .split at hx
    .rename_i hle;obtain⟨hr,l1,l2⟩:=hle;cases hx;have hm:lI c e (none:Option AO)=some c:=rfl;have hrun:=CY (P:=P) (w:=w) E hd hq h3 h4 h5 (λhs=>by cases mx<;>simp_all[nw]) (len:=nn) (cap:=c) (ad:=ad) hxx NA hm l1 aa (aN _)
     exact⟨Instr.sliceAt t (a.eval x) (lo.map a.eval) (hi.map a.eval) (mx.map a.eval),rfl,jS.of R (v:=_) (by rw[he];exact hrun) (cut xx yy c hr l1 aa (aN _) l2)⟩
    .cases hx
   .rename_i q YD;simp only[aI]at hx;obtain⟨mm,Z9,hx⟩:=hx;split at hx
    .rename_i hle;obtain⟨hr,l0,l1,l2,l3⟩:=hle;cases hx;have hrun:=CY (P:=P) (w:=w) E hd hq h3 h4 h5 (λ_=>akF l0) (len:=nn) (cap:=c) (ad:=ad) (m:=mm) hxx NA Z9 l1 l2 aa
     exact⟨Instr.sliceAt t (a.eval x) (lo.map a.eval) (hi.map a.eval) (mx.map a.eval),rfl,jS.of R (v:=_) (by rw[he];exact hrun) (cut xx yy mm hr l1 l2 aa aa)⟩
    .cases hx
  .cases hx
 case h_27 t x k off y=> -- fad
  simp only[aH]at ok;obtain⟨h1,h2⟩:=ok;obtain⟨d,hd,hq⟩:=ko h1;cases d<;>first | (cases hq;done) | skip
  rename_i fs;dsimp only at hq;split at hq
  .rename_i f hf;simp only[aH,decide_eq_true_eq]at hq;obtain⟨hoff,hsz⟩:=hq;have Ew:∃i,P.info? f.type=some i/\i.size≠0:=by
    split at hsz
    .rename_i i hi;exact⟨i,hi,an hsz⟩
    .cases hsz
   have v1:=jR E h2;simp only[exec]at hx;split at hx
   .rename_i b vv i oo hl;cases hx;rw[hl]at v1;obtain⟨bd,c,hb,hc,he⟩:=v1.oE;refine⟨_,rfl,jS.of R (v:=.pointer (some ⟨c,bd.base+i*bd.sz+oo+off,none⟩)) (by rw[he];exact QH hd hf hoff Ew c _ w) ?_⟩
    have:=VR.ptr (β:=β) (O:=Own Z β h) (w:=w) b vv i (oo+off) bd c hb hc
    rwa [<-cz]at this
   .rename_i cs hl;split at hx
    .rename_i hle;cases hx;rw[hl]at v1;generalize Me:a.eval x=u at v1;cases v1 with
     |pure _ _ hv=>cases hv
     |kE _ blk oo f' hO hw q1 q3 q2 =>
      refine⟨Instr.fieldAt t (a.eval x) k,rfl,jS.of R (v:=.pointer (some ⟨blk,oo+off,none⟩)) (by rw[Me];exact QH hd hf hoff Ew blk _ w) ?_⟩
      refine .kE _ blk (oo+off) (λj=>f' (off+j)) hO hw (λj y hy=>?_) (λj y hy=>?_) (λj y hy=>?_)
      .rw[bU]at hy;rw[cz];exact q1 _ y hy
      .rw[bU]at hy;exact q3 _ y hy
      .rw[bU]at hy;exact q2 _ y hy
    .cases hx
   .cases hx
  .cases hq
 case h_28 t x k off sz agg y=> -- fld
  simp only[aH]at ok;obtain⟨h1,h2⟩:=ok;obtain⟨d,hd,hq⟩:=ko h1;cases d<;>first | (cases hq;done) | skip
  rename_i fs;dsimp only at hq;split at hq
  .rename_i f hf;simp only[aH,decide_eq_true_eq]at hq;obtain⟨⟨hoff,hsz⟩,hag⟩:=hq;have v1:=jR E h2;simp only[exec]at hx;split at hx
   .rename_i cs hl;split at hx
    .rw[hl]at v1;obtain⟨vs,he,hl',q1,q2⟩:=v1.qV;refine⟨Instr.field t (a.eval x) k,rfl,jS.keep hx λav rP=>?_⟩
     obtain⟨v,hr,hv⟩:=NX (P:=P) rP hsz hag hl' q1 q2;refine jS.of R (v:=v) ?_ hv;rw[he];simp only[Instr.field,Sem.run_bind,run_underlying hd,Result.andThen_ok,hf,asAgg,Sem.run_pure,hoff,hr]
    .cases hx
   .cases hx
  .cases hq
 case h_29 t x i sz y j=> -- iad
  simp only[aH]at ok;obtain⟨⟨h1,h2⟩,h3⟩:=ok;obtain⟨d,hd,hq⟩:=ko h1;cases d<;>first | (cases hq;done) | skip
  rename_i elem;dsimp only at hq;have v1:=jR E h2;have v2:=jR E h3;simp only[exec]at hx
  have run:∀(ad:Addr)(len c:Nat)(kk:IntKind)(ii:Int),0<=ii->ii<len->(Instr.indexAt t (.slice (some ad) len c) (.int kk ii)).run P w = .ok (.pointer (some (ad.add (ii.toNat*sz)))) w:=by
   intro ad len c kk ii l1 l2;simp only[Instr.indexAt,asIntOf,Sem.run_bind,Sem.run_pure,Result.andThen_ok,run_underlying hd];rw[if_pos ⟨l1,l2⟩];simp[mo hq]
  split at hx
  .rename_i full es hl;simp only[aI]at hx;obtain⟨nn,hn,yy,NA,hx⟩:=hx;split at hx
   .rename_i hlen;cases hx;rw[hl]at v1;obtain⟨kk,ii,NF,l1,l2⟩:=sK hn v2;have hlt:=(aF.1 NA).1;generalize Me:a.eval x=u at v1;cases v1.oJ with
    |jB _ _ ad c blk oo sz' f hf hc ha hs q1 q3 q2 =>
     have hne:es≠[]:=by rintro rfl;simp at NA
     obtain⟨rfl,hO,hb⟩:=ha hne;have aeg:sz'=sz:=by have:=(hs nn yy NA).1;omega
     subst aeg;refine⟨Instr.indexAt t (a.eval x) (a.eval i),rfl,jS.of R (v:=.pointer (some ⟨blk,oo+nn*sz',none⟩)) ?_ ?_⟩
     .rw[Me,NF,run ⟨blk,oo,none⟩ es.length c kk ii l1 aa,nU,l2]
     .exact .kE _ blk (oo+nn*sz') (f nn) hO hb (λj y hy=>q1 nn yy NA j y hy) (λj y hy=>q3 nn yy NA j y hy) (λj y hy=>q2 nn yy NA j y hy)
   .cases hx
  .rename_i b vv oo m hl;simp only[aI]at hx;obtain⟨nn,hn,hx⟩:=hx;split at hx
   .rename_i hc;obtain⟨hlt,hr⟩:=hc;cases hx;rw[hl]at v1;obtain⟨kk,ii,NF,l1,l2⟩:=sK hn v2;obtain⟨bd,ad,c,hbd,he,h6⟩:=v1.mg;obtain⟨s1,s2⟩:=G0 R hr hbd
    rcases h6 with⟨_,h6⟩ | ⟨cb,g1,g2,g3,g4⟩
    .omega
    .subst g2;refine⟨Instr.indexAt t (a.eval x) (a.eval i),rfl,jS.of R (v:=.pointer (some ⟨cb,bd.base+(oo+nn)*bd.sz+0,none⟩)) ?_ (.ptr b vv (oo+nn) 0 bd cb hbd g1)⟩;rw[he,NF,run _ m c kk ii l1 aa,nU,l2,s1,bR]
     congr 4;omega
   .cases hx
  .cases hx
 case h_30 t x i m sz y j=> -- iada
  simp only[aH]at ok;obtain⟨⟨h1,h2⟩,h3⟩:=ok;obtain⟨d,hd,hq⟩:=ko h1;cases d<;>first | (cases hq;done) | skip
  rename_i len elem;simp only[aH,decide_eq_true_eq]at hq;obtain⟨rfl,hq⟩:=hq;have v1:=jR E h2;have v2:=jR E h3
  have run:∀(ad:Addr)(kk:IntKind)(ii:Int),0<=ii->ii<len->(Instr.indexAt t (.pointer (some ad)) (.int kk ii)).run P w = .ok (.pointer (some (ad.add (ii.toNat*sz)))) w:=by
   intro ad kk ii l1 l2;simp only[Instr.indexAt,asIntOf,Sem.run_bind,Sem.run_pure,Result.andThen_ok,run_underlying hd,Instr.sureAddr];rw[if_pos ⟨l1,l2⟩];simp[mo hq]
  simp only[exec,aI]at hx;obtain⟨nn,hn,hx⟩:=hx;obtain⟨kk,ii,NF,l1,l2⟩:=sK hn v2;split at hx
  .rename_i hlt;split at hx
   .rename_i b vv jj oo hl;cases hx;rw[hl]at v1;obtain⟨bd,c,hb,hc,he⟩:=v1.oE;refine⟨_,rfl,jS.of R (v:=.pointer (some ⟨c,bd.base+jj*bd.sz+(oo+nn*sz),none⟩)) ?_ (.ptr b vv jj (oo+nn*sz) bd c hb hc)⟩;rw[he,NF,run _ kk ii l1 aa,nU,l2,cz]
   .rename_i cs hl;split at hx
    .rename_i hle;cases hx;rw[hl]at v1;generalize Me:a.eval x=u at v1;cases v1 with
     |pure _ _ hv=>cases hv
     |kE _ blk oo f' hO hw q1 q3 q2 =>
      refine⟨Instr.indexAt t (a.eval x) (a.eval i),rfl,jS.of R (v:=.pointer (some ⟨blk,oo+nn*sz,none⟩)) (by rw[Me,NF,run _ kk ii l1 aa,nU,l2]) ?_⟩
      refine .kE _ blk (oo+nn*sz) (λj=>f' (nn*sz+j)) hO hw (λj y hy=>?_) (λj y hy=>?_) (λj y hy=>?_)
      .rw[bU]at hy;rw[cz];exact q1 _ y hy
      .rw[bU]at hy;exact q3 _ y hy
      .rw[bU]at hy;exact q2 _ y hy
    .cases hx
   .cases hx
  .cases hx
 case h_31 t x i y j=> -- idxs
  simp only[aH]at ok;obtain⟨⟨h1,h2⟩,h3⟩:=ok;obtain⟨d,hd,hq⟩:=ko h1;have hd':P.underlying t=some .string:=by cases d<;>first | exact hd | (cases hq;done)
  have v1:=jR E h2;have v2:=jR E h3;simp only[exec]at hx;split at hx
  .rename_i l hl;simp only[aI]at hx;obtain⟨nn,hn,c,hc,hx⟩:=hx;cases hx;rw[hl]at v1;obtain⟨kk,ii,NF,l1,l2⟩:=sK hn v2;obtain⟨b,he,hb⟩:=v1.pH;refine⟨_,rfl,jS.of R (v:=.int .u8 c.toNat) ?_ (.of_int _ _)⟩;have hbc:b[ii.toNat]? = some c:=by
    rw[l2];have hlt:nn<b.data.toList.length:=by rw[hb];exact(aF.1 hc).1
    have hlt':nn<b.size:=by simpa using hlt
    rw[getElem?_pos b nn hlt'];rw[<-hb]at hc;have e1:b.data.toList[nn]? = some b.data.toList[nn]:=aG hlt;rw[e1]at hc;exact hc
   rw[he,NF];simp only[Instr.index,asIntOf,Sem.run_bind,Sem.run_pure,Result.andThen_ok,run_underlying hd',l1,if_true,hbc]
  .cases hx
 case h_32 x i y j=> -- ext
  simp only[aH,decide_eq_true_eq]at ok;obtain⟨rfl,h2⟩:=ok;have v1:=jR E h2;simp only[exec]at hx;split at hx
  .rename_i vs hl;simp only[aI]at hx;obtain⟨v,hv,hx⟩:=hx;cases hx;rw[hl]at v1;obtain⟨us,he,hl',q⟩:=v1.CT;have hlt:i<us.length:=by rw[<-hl'];exact(aF.1 hv).1
   refine⟨_,rfl,jS.of R (v:=us[i]) ?_ (q i av us[i] hv (by simp[hlt]))⟩
   rw[he];simp[Instr.extract,hlt]
  .cases hx
 case h_33=>exact absurd rfl (sV _ _).1
 case h_34=>exact absurd rfl (sV _ _).2
 case h_35=>exact absurd rfl (aex _ _)
 case h_36 b args argTypes sz bytes y1 y2=> -- app
  simp only[aH,decide_eq_true_eq]at ok;obtain⟨rfl,ok⟩:=ok;split at ok
  .rename_i x1 x2 t u hargs OM;simp only[aH,decide_eq_true_eq]at ok;obtain⟨⟨⟨⟨h1,h2⟩,h0⟩,h3⟩,h4⟩:=ok;obtain rfl:args = #[x1,x2]:=by apply dI;simpa using hargs
   obtain rfl:argTypes = #[t,u]:=by apply dI;simpa using OM
   obtain⟨d,hd,hq⟩:=ko h3;cases d<;>first | (cases hq;done) | skip
   rename_i elem;simp only[aH]at hq;obtain⟨⟨hsz,hby⟩,hz⟩:=hq;obtain⟨i,z,hi,OD,hzs⟩:=D4 hz;obtain⟨d2,hd2,SZ⟩:=ko h4;have hnot:=(SF d2).resolve_right (λhh=>Bool.noConfusion (SZ.symm.trans hh.1))
   have hs':i.size=sz:=by simpa[lC,hi]using hsz
   have hb':i.bytes=bytes:=by simpa[Db,hi]using hby
   simp only[exec,aI]at hx;obtain⟨news,hnews,hx⟩:=hx;have v2:=jR E h2;obtain⟨ad,c,he,hc,hsrc⟩:=pS R hnews v2;have CM:kK sz news=true:=Nl hx
   obtain⟨olds,o1,o2,o3,o4⟩:=AL (P:=P) (O:=Own Z β h) (w:=w) (ad:=ad) (c:=c) (sz:=sz) (es:=news) rfl (λhne=>by
    obtain⟨blk,oo,sz2,_,e1,e2⟩:=hsrc hne;exact⟨blk,oo,e1,e2.kK CM⟩)
   refine⟨Builtin.append_ #[t,u] type #[a.eval x1,a.eval x2],by simp[execOp,resolve,invoke,builtin],?_⟩
   refine FM R hd hi OD hzs hs' hb' h0 rfl hx (jR E h1) (news:=olds) (.inl ⟨u,d2,rfl,hd2,hnot,?_,?_⟩) (.inl ⟨u,d2,rfl,hd2,hnot⟩) o1 o3 o2
   .rw[he];rfl
   .intro w' hw';rw[he];exact o4 w' hw'
  .cases ok
 case h_37 b args argTypes str y=> -- len
  simp only[aH,decide_eq_true_eq]at ok;obtain⟨rfl,ok⟩:=ok;split at ok
  .rename_i x t hargs OM;simp only[aH]at ok;obtain⟨h1,h3⟩:=ok;obtain rfl:args = #[x]:=by apply dI;simpa using hargs
   obtain rfl:argTypes = #[t]:=by apply dI;simpa using OM
   obtain⟨d,hd,hq⟩:=ko h3;have v1:=jR E h1;simp only[exec,aI]at hx;obtain⟨nn,Qn,hx⟩:=hx;cases hx;refine⟨Builtin.len_ #[t] type #[a.eval x],by simp[execOp,resolve,invoke,builtin],jS.of R (v:=goInt nn) ?_ (.of_int _ _)⟩
   have hval:(∃b:ByteArray,a.eval x = .string b/\b.size=nn/\str=true)\/(str=false/\∃ad c,a.eval x = .slice ad nn c):=by
    generalize hg:y.get e=av at v1 Qn;cases av with
    |str s =>
     simp only[K9]at Qn;split at Qn
     .rename_i Wb;cases Qn;obtain⟨b,he,hb⟩:=v1.pH;exact .inl ⟨b,he,by rw[<-hb];rfl,Wb⟩
     .cases Qn
    |jB f es =>
     simp only[K9]at Qn;split at Qn
     .cases Qn
     .rename_i Wb;cases Qn;obtain⟨ad,c,he,_⟩:=pS R (a:=.jB f es) rfl v1;exact .inr ⟨an Wb,ad,c,he⟩
    |own b vv oo m =>
     simp only[K9]at Qn;split at Qn
     .cases Qn
     .rename_i Wb;cases Qn;obtain⟨bd,ad,c,_,he,_⟩:=v1.mg;exact .inr ⟨an Wb,ad,c,he⟩
    |_=>simp[K9]at Qn
   rcases hval with⟨b,he,hb,rfl⟩ | ⟨rfl,ad,c,he⟩
   .have hd':P.underlying t=some .string:=by cases d<;>first | exact hd | (cases hq;done)
    simp[Builtin.len_,run_underlying hd',he,hb]
   .cases d<;>first | (cases hq;done) | skip
    simp[Builtin.len_,run_underlying hd,he]
  .cases ok
 case h_38 b args argTypes isMax ys=> -- mm
  simp only[aH,decide_eq_true_eq]at ok;obtain⟨rfl,h1⟩:=ok;obtain⟨p1,p2⟩:=qJ E h1;simp only[exec]at hx;split at hx
  .rename_i y l hl;rw[hl]at p1 p2;cases hus:args.toList.map a.eval with
   |nil=>rw[hus]at p1;simp at p1
   |cons u us =>
    rw[hus]at p1 p2;have hargs:args.map a.eval=(u::us).toArray:=by apply dI;simp[hus]
    refine⟨(us.foldlM (if isMax then Builtin.max2 else Builtin.min2) u),?_,jS.keep hx λav rP=>?_⟩
    .cases isMax<;>simp[execOp,resolve,invoke,builtin,hargs,Builtin.max_,Builtin.min_]
    .obtain⟨q,r1,r2⟩:=Vx (P:=P) (isMax:=isMax) l us rP (p2 0 y u rfl rfl) (an p1) (λj y q h1 h2=>p2 (j+1) y q (an h1) (an h2))
     exact jS.of R r1 r2
  .cases hx
 case h_39 b args argTypes sz zero y=> -- clr
  simp only[aH,decide_eq_true_eq]at ok;obtain⟨rfl,ok⟩:=ok;split at ok
  .rename_i x t hargs OM;simp only[aH]at ok;obtain⟨h1,h3⟩:=ok;obtain rfl:args = #[x]:=by apply dI;simpa using hargs
   obtain rfl:argTypes = #[t]:=by apply dI;simpa using OM
   obtain⟨d,hd,hq⟩:=ko h3;cases d<;>first | (cases hq;done) | skip
   rename_i elem;simp only[aH]at hq;obtain⟨⟨hsz,hz0⟩,hz⟩:=hq;obtain⟨i,z,hi,OD,hzs⟩:=D4 hz0;obtain⟨i2,z2,hi2,Qm,YL⟩:=uw hz;rw[hi]at hi2;cases hi2;rw[OD]at Qm;cases Qm;have v1:=jR E h1;simp only[exec]at hx;refine⟨Builtin.clear_ #[t] type #[a.eval x],by simp[execOp,resolve,invoke,builtin],?_⟩
   split at hx
   .rename_i b vv oo nn hl;split at hx
    .rename_i v' sz' es lJ;split at hx
     .rename_i hc;obtain⟨c1,c0,c3⟩:=hc;cases hx;rw[hl]at v1;exact aaN (ty:=type) R hd hsz hi OD hzs YL v1 lJ c1 c0 c3
     .cases hx
    .cases hx
   .rename_i full es hl;split at hx
    .rename_i lJ;subst lJ;cases hx;rw[hl]at v1;exact XF R hd v1
    .cases hx
   .cases hx
  .cases ok
 case h_40 t x y=> -- rbox
  simp only[exec]at hx;split at hx
  .rename_i hok;cases hx;exact⟨_,rfl,UW R t hok (jR E ok)⟩
  .cases hx
 case h_41 t x sz agg y=> -- loadr
  simp only[aH]at ok;obtain⟨⟨h1,h2⟩,h3⟩:=ok;simp only[exec]at hx;split at hx
  .rename_i cs hcs;refine⟨_,rfl,jS.keep hx λav rP=>zM R (a:=.kE cs) rfl rP (by rw[<-hcs];exact jR E h3) h1 h2⟩
  .cases hx
 case h_42=>exact absurd rfl (aeA _ _)
 case h_43=>exact absurd rfl (aez _ _)
 case h_44 t r=> -- mkm
  obtain rfl:r=none:=by simpa using ok
  simp only[exec]at hx;cases hx;exact⟨_,rfl,ZN R t⟩
 case h_45 t m k c zero m' k'=> -- mget
  simp only[aH,cv]at ok;obtain⟨⟨⟨rfl,h1⟩,h2⟩,h3⟩:=ok;obtain⟨d,hd,hq⟩:=ko h1;cases d<;>first | (cases hq;done) | skip
  rename_i kt et;simp only[aH]at hq;obtain⟨hq1,SZ⟩:=hq;obtain⟨d2,hd2,Ex⟩:=ko hq1;cases d2<;>first | (cases Ex;done) | skip
  simp only[decide_eq_true_eq]at Ex;subst Ex;simp only[exec,aI]at hx;obtain⟨⟨b,es⟩,hm,n0,hk,hx⟩:=hx;cases hx;obtain⟨e1,e2⟩:=xW hm;have e3:=Es hk;have v1:=jR E h2;have v2:=jR E h3;rw[e1]at v1;rw[e3]at v2;exact⟨_,rfl,by have:=LO R hd hd2 SZ e2 v1 v2 false;simpa using this⟩
 case h_46=>exact absurd rfl (abO _ _ _)
 case h_47 b args argTypes y=> -- mlen
  simp only[aH,decide_eq_true_eq]at ok;obtain⟨rfl,ok⟩:=ok;split at ok
  .rename_i x t hargs OM;simp only[aH]at ok;obtain⟨h1,h3⟩:=ok;obtain rfl:args = #[x]:=by apply dI;simpa using hargs
   obtain rfl:argTypes = #[t]:=by apply dI;simpa using OM
   obtain⟨d,hd,hq⟩:=ko h3;cases d<;>first | (cases hq;done) | skip
   have v1:=jR E h1;simp only[exec,aI]at hx;obtain⟨⟨b,es⟩,hm,hx⟩:=hx;cases hx;obtain⟨e1,e2⟩:=xW hm;rw[e1]at v1;exact⟨Builtin.len_ #[t] type #[a.eval x],by simp[execOp,resolve,invoke,builtin],Vy R hd e2 v1⟩
  .cases ok
 case h_48=>exact absurd rfl (aeB _ _)
 case h_49 s d x y=> -- stb
  simp only[aH]at ok;obtain⟨⟨h1,h2⟩,h3⟩:=ok;obtain⟨ds,hs,hq1⟩:=ko h1;have hs':P.underlying s=some .string:=by cases ds<;>first | exact hs | (cases hq1;done)
  obtain⟨dd,hd,SZ⟩:=ko h2;cases dd<;>first | (cases SZ;done) | skip
  rename_i ee;obtain⟨de,he,Ex⟩:=ko SZ
  have he':P.underlying ee=some (.int .u8):=by
   cases de<;>first | (cases Ex;done) | skip
   simp at Ex;subst Ex;exact he
  have v1:=jR E h3;simp only[exec]at hx;split at hx
  .rename_i l hl;cases hx;rw[hl]at v1;exact⟨_,rfl,Y7 R hs' hd he' v1⟩
  .cases hx
 case h_50=>exact absurd rfl (aey _ _)
 case h_51=>exact absurd rfl (aag _ _)
 case h_52 t x sz agg y=> -- loadv
  simp only[aH]at ok;obtain⟨⟨h1,h2⟩,h3⟩:=ok;simp only[exec]at hx;split at hx
  case isFalse=>cases hx
  simp only[aI]at hx;obtain⟨cs,hcs,hx⟩:=hx;exact⟨_,rfl,jS.keep hx λav rP=>zM R hcs rP (jR E h3) h1 h2⟩
 case h_53 t r=> -- mkms
  obtain rfl:r=none:=by simpa using ok
  simp only[exec]at hx;cases hx;exact⟨_,rfl,Vz R t⟩
 case h_54 t m k c zero m' k'=> -- mgetk
  simp only[aH]at ok;obtain⟨⟨⟨rfl,h1⟩,h2⟩,h3⟩:=ok;obtain⟨d,hd,hq⟩:=ko h1;cases d<;>first | (cases hq;done) | skip
  rename_i kt et;simp only[aH]at hq;obtain⟨hq1,SZ⟩:=hq;obtain⟨d2,hd2,Ex⟩:=ko hq1;cases d2<;>first | (cases Ex;done) | skip
  simp only[decide_eq_true_eq]at Ex;subst Ex;simp only[exec,aI]at hx;obtain⟨⟨b,es⟩,hm,n0,hk,hx⟩:=hx;cases hx;obtain⟨e1,e2⟩:=xW hm;have e3:=Es hk;have v1:=jR E h2;have v2:=jR E h3;rw[e1]at v1;rw[e3]at v2;exact⟨_,rfl,by have:=LO R hd hd2 SZ e2 v1 v2 true;simpa using this⟩
 case h_55 t m k c ck zero m' k'=> -- mgets
  simp only[aH,decide_eq_true_eq]at ok;obtain⟨⟨⟨rfl,h1⟩,h2⟩,h3⟩:=ok;obtain⟨d,hd,hq⟩:=ko h1;cases d<;>first | (cases hq;done) | skip
  rename_i kt et;simp only[aH]at hq;obtain⟨hq1,SZ⟩:=hq;obtain⟨d2,hd2,Ex⟩:=ko hq1;cases d2<;>first | (cases Ex;done) | skip
  simp only[exec,aI]at hx;obtain⟨⟨b,es⟩,hm,n0,hk,hx⟩:=hx;cases hx;obtain⟨e1,e2⟩:=Hf hm;have e3:=LX hk;have v1:=jR E h2;have v2:=jR E h3;rw[e1]at v1;rw[e3]at v2;exact⟨_,rfl,SI R hd hd2 SZ e2 v1 v2 _⟩
 case h_56=>exact absurd rfl (aeq _ _ _)
 case h_57=>exact absurd rfl (abO _ _ _)
 case h_58=>exact absurd rfl (WA _ _).1
 case h_59=>exact absurd rfl (WA _ _).2
 case h_60=>cases ok
end
end Go.Am
