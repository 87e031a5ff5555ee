/- Part of the proof that TopTwoPartsCard holds. -/
import Derived.Test.YtghgbehknhmnaaaGreatDoorAmO
import Derived.Test.YtghgbehknhmnaaaGreatDoorAmCs
set_option linter.all false
namespace Go.Am
variable{h':AH}{s i:AV}
section
variable{P:Program}{Z:az}{β:jO}{h:AH}{w:World}
def iM.keep{s:Sem Value}{v:Option AV}{b:AV}(hk:kG h v=some (b,h'))(i:∀x,v=some x->iM P Z β h w s x h):iM P Z β h w s b h':=by
 cases v with
 |none=>cases hk
 |some x =>
  cases hk;exact i _ rfl
def vl{e:TypeId}(b:uD.Aw P e=true):∃i z,P.info? e=some i/\i.zero=some z/\z.cells.size=i.size:=by
 grind[uD.Aw]
def GO{sz bytes:Nat}{news:List AV}(b:append h sz bytes s news=some (i,h')):jw sz news=true:=by
 unfold append at b;split at b
 .grind
 .grind
 .cases b
def Lu{sz bytes:Nat}{news:List AV}(b:append h sz bytes s news=some (i,h')):news.length<=140737488355328:=by
 unfold append at b;split at b
 .grind
 .grind
 .cases b
def Kz(d:TypeDesc):(match d with | .int _=>False | _=>True)\/((d matches .slice _)=false/\(d matches .string)=false):=by grind
section
variable{t:TypeId}{n:Nat}
def KY{elem:TypeId}(i:P.underlying t=some (.slice elem))(w:World)(ad:Option Addr)(m l m' b:Nat):(Op.equalIn (n+1) t (.slice ad m l) (.slice none m' b)).run P w = .ok ad.isNone w:=by
 cases ad<;>simp[Op.equalIn,run_underlying i]
def Ea{elem:TypeId}(b:P.underlying t=some (.pointer elem))(w:World)(ad:Option Addr):(Op.equalIn (n+1) t (.pointer ad) (.pointer none)).run P w = .ok ad.isNone w:=by
 cases ad<;>simp[Op.equalIn,run_underlying b]
def Rt{p r:Array TypeId}{v:Bool}(b:P.underlying t=some (.func p r v))(w:World):(Op.equalIn (n+1) t .nilFunc .nilFunc).run P w = .ok true w:=by
 simp[Op.equalIn,run_underlying b]
def Rr{p r:Array TypeId}{v:Bool}(b:P.underlying t=some (.func p r v))(w:World)(f:Fn)(x y:Array Value):(Op.equalIn (n+1) t (.func f x y) .nilFunc).run P w = .ok false w:=by
 simp[Op.equalIn,run_underlying b]
def Rq{b}(i:P.underlying t=some (.interface b))(w:World):(Op.equalIn (n+1) t .nilIface .nilIface).run P w = .ok true w:=by
 simp[Op.equalIn,run_underlying i]
def Rp{i}(l:P.underlying t=some (.interface i))(w:World)(b:TypeId)(x:Value):(Op.equalIn (n+1) t (.iface b x) .nilIface).run P w = .ok false w:=by
 simp[Op.equalIn,run_underlying l]
end
def KK(R:Rel Z β h w){a:Act}{n:Nat}{e:Env}(E:jt Z β h w e a n){t:TypeId}{d:TypeDesc}(G:P.underlying t=some d){k:NK}{c:Value}
  (r:S7 k d c=true) {neg:Bool} {y L:AV} {x:Operand} (l:isNil k neg y=some L) (q:VR β (Own Z β h) w y (a.eval x)) :
  iM P Z β h w (do eqGuard (if neg then .neq else .eql) t x (.const c) (a.eval x) (a.eval (.const c));binOp (if neg then .neq else .eql) t (a.eval x) (a.eval (.const c))) L h:=by
 have key:∀ {b:Bool},((eqGuard (if neg then .neq else .eql) t x (.const c) (a.eval x) c).run P w = .ok () w)->((binOp (if neg then .neq else .eql) t (a.eval x) c).run P w = .ok (.bool b) w)->VR β (Own Z β h) w L (.bool b)->
   iM P Z β h w (do eqGuard (if neg then .neq else .eql) t x (.const c) (a.eval x) (a.eval (.const c));binOp (if neg then .neq else .eql) t (a.eval x) (a.eval (.const c))) L h:=by
  intro b h1 h2 h3;refine iM.of R (v:=.bool b) ?_ h3;show (eqGuard _ t x (.const c) (a.eval x) c >>= λ_=>binOp _ t (a.eval x) c).run P w=_
  simp_all
 have A:∀ {ad:Option Addr} {m T:Nat} {elem:TypeId} {m' F:Nat},d = .slice elem->c = .slice none m' F->a.eval x = .slice ad m T->VR β (Own Z β h) w L (.bool (if neg then !ad.isNone else ad.isNone))->
   iM P Z β h w (do eqGuard (if neg then .neq else .eql) t x (.const c) (a.eval x) (a.eval (.const c));binOp (if neg then .neq else .eql) t (a.eval x) (a.eval (.const c))) L h:=by
  intro ad m T elem m' F e1 e2 Y q;subst e1 e2;rw[Y]at key⊢;refine key (b:=if neg then !ad.isNone else ad.isNone) ?_ ?_ q
  .cases neg<;>simp[eqGuard]
  .cases neg<;>simp[binOp,Op.equal,Op.maxDepth,KY G]
 cases y with
 |mT =>
  cases k<;>simp only[isNil]at l<;>first | (cases l;done) | skip
  cases l;cases d<;>first | (cases r;done) | skip
  cases c<;>first | (cases r;done) | skip
  rename_i p;cases p<;>first | (cases r;done) | skip
  have z:a.eval x = .pointer none:=by generalize a.eval x=u at q;cases q with | pure _ _ q=>cases q;rfl
  rw[z]at key⊢;refine key (b:=!neg) ?_ ?_ (.of_bool _)
  .cases neg<;>simp[eqGuard]
  .cases neg<;>simp[binOp,Op.equal,Op.maxDepth,Ea G]
 |ptr b N i o =>
  cases k<;>simp only[isNil]at l<;>first | (cases l;done) | skip
  cases l;cases d<;>first | (cases r;done) | skip
  cases c<;>first | (cases r;done) | skip
  rename_i p;cases p<;>first | (cases r;done) | skip
  let⟨bd,cc,_,_,z⟩:=q.kY;rw[z]at key⊢;refine key (b:=neg) ?_ ?_ (.of_bool _)
  .cases neg<;>simp[eqGuard]
  .cases neg<;>simp[binOp,Op.equal,Op.maxDepth,Ea G]
 |iV cs =>
  cases k<;>simp only[isNil]at l<;>first | (cases l;done) | skip
  cases l;cases d<;>first | (cases r;done) | skip
  cases c<;>first | (cases r;done) | skip
  rename_i p;cases p<;>first | (cases r;done) | skip
  obtain⟨ad,z⟩:∃ad,a.eval x = .pointer (some ad):=by
   generalize a.eval x=u at q;cases q with
   |pure _ _ q=>cases q
   |iV=>exact⟨_,rfl⟩
  rw[z]at key⊢;refine key (b:=neg) ?_ ?_ (.of_bool _)
  .cases neg<;>simp[eqGuard]
  .cases neg<;>simp[binOp,Op.equal,Op.maxDepth,Ea G]
 |mj =>
  cases k<;>simp only[isNil]at l<;>first | (cases l;done) | skip
  cases l;cases d<;>first | (cases r;done) | skip
  cases c<;>first | (cases r;done) | skip
  have z:a.eval x = .nilFunc:=by generalize a.eval x=u at q;cases q with | pure _ _ q=>cases q;rfl
  rw[z]at key⊢;refine key (b:=!neg) ?_ ?_ (.of_bool _)
  .cases neg<;>simp[eqGuard]
  .cases neg<;>simp[binOp,Op.equal,Op.maxDepth,Rt G]
 |fn f fi ca =>
  cases k<;>simp only[isNil]at l<;>first | (cases l;done) | skip
  cases l;cases d<;>first | (cases r;done) | skip
  cases c<;>first | (cases r;done) | skip
  obtain⟨S,W,U,z⟩:∃S W U,a.eval x = .func S W U:=by
   generalize a.eval x=u at q;cases q with
   |pure _ _ q=>cases q
   |fn=>grind
  rw[z]at key⊢;refine key (b:=neg) ?_ ?_ (.of_bool _)
  .cases neg<;>simp[eqGuard]
  .cases neg<;>simp[binOp,Op.equal,Op.maxDepth,Rr G]
 |lU =>
  cases k<;>simp only[isNil]at l<;>first | (cases l;done) | skip
  cases l;cases d<;>first | (cases r;done) | skip
  cases c<;>first | (cases r;done) | skip
  have z:a.eval x = .nilIface:=by generalize a.eval x=u at q;cases q with | pure _ _ q=>cases q;rfl
  rw[z]at key⊢;refine key (b:=!neg) ?_ ?_ (.of_bool _)
  .cases neg<;>simp[eqGuard]
  .cases neg<;>simp[binOp,Op.equal,Op.maxDepth,Rq G]
 |sI tt N =>
  cases k<;>simp only[isNil]at l<;>first | (cases l;done) | skip
  cases l;cases d<;>first | (cases r;done) | skip
  cases c<;>first | (cases r;done) | skip
  obtain⟨Q,O,z⟩:∃Q O,a.eval x = .iface Q O:=by
   generalize a.eval x=u at q;cases q with
   |pure _ _ q=>cases q
   |sI=>exact⟨_,_,rfl⟩
  rw[z]at key⊢;refine key (b:=neg) ?_ ?_ (.of_bool _)
  .cases neg<;>simp[eqGuard]
  .cases neg<;>simp[binOp,Op.equal,Op.maxDepth,Rp G]
 |b9 full es =>
  cases k<;>simp only[isNil]at l<;>first | (cases l;done) | skip
  cases d<;>first | (cases r;done) | skip
  cases c<;>first | (cases r;done) | skip
  rename_i pp m' F;cases pp<;>first | (cases r;done) | skip
  let⟨ad,cc,z,hc,M⟩:=lz R (a:=.b9 full es) rfl q;split at l
  .cases l;exact A rfl rfl z (.tT _)
  .rename_i H;cases l;let⟨blk,o,sz,_,K,_⟩:=M H;refine A rfl rfl z ?_;rw[K];cases neg<;>exact .of_bool _
 |own b N o m =>
  cases k<;>simp only[isNil]at l<;>first | (cases l;done) | skip
  cases d<;>first | (cases r;done) | skip
  cases c<;>first | (cases r;done) | skip
  rename_i pp m' F;cases pp<;>first | (cases r;done) | skip
  let⟨bd,ad,cc,X,z,h2⟩:=q.kZ;split at l
  .cases l;exact A rfl rfl z (.tT _)
  .rename_i H;cases l;refine A rfl rfl z ?_
   rcases h2 with⟨_,h2⟩ | ⟨cb,_,K,_,_⟩
   .exact absurd h2 H
   .rw[K];cases neg<;>exact .of_bool _
 |_=>simp[isNil]at l
set_option maxHeartbeats 1600000 in
def HU(R:Rel Z β h w){Γ:jE}{e:Env}{a:Act}{n:Nat}(E:jt Z β h w e a n){o:Oper}{x:kX}(ok:uD P o.op x=true){av:AV}{h':AH}(A:exec Γ e h x=some (av,h'))
  (Tn:∀f ys,x≠.call f ys/\x≠.o8 f ys) (WK:∀y ys,x≠.lQ y ys) (WM:∀y ys,x≠.rz y ys) (WN:∀y ys,x≠.tC y ys) (WO:∀y ys,x≠.qe y ys) (WL:∀y ys,x≠.calls y ys) (Q8:∀y ys,x≠.qd y ys) (NV:∀y ys,x≠.u6 y ys/\x≠.wP y ys) (WB:∀sz y z,x≠.store sz y z) (Q4:∀sz y z q,x≠.ot sz y z q) (Q6:∀y,x≠.Nl y) (KS:∀y,x≠.mv y) (Th:∀q m k y,x≠.uE q m k y) :
  ∃s,execOp a.eval o=(do pure (.value (<-s)))/\iM P Z β h w s av h':=by
 obtain⟨dst,op,type,pos,after,guard⟩:=o;dsimp only at ok;unfold uD at ok;split at ok
 case h_1=>simp only[exec]at A;cases A
 case h_2 op t x c yt k neg x' =>
  simp only[aF,decide_eq_true_eq]at ok;obtain⟨⟨rfl,h1⟩,h2⟩:=ok;obtain⟨d,H,F⟩:=ji h2;have v1:=hU E h1;simp only[exec]at A;exact⟨do eqGuard (if neg then .neq else .eql) t x (.const c) (a.eval x) (a.eval (.const c));binOp (if neg then .neq else .eql) t (a.eval x) (a.eval (.const c)),rfl,iM.keep A λav M=>KK R E H F M v1⟩
 case h_3=>exact absurd rfl (KS _)
 case h_4=>exact absurd rfl (KS _)
 case h_5 c x y c' x' y' =>
  simp only[aF]at ok;obtain⟨⟨h1,h2⟩,h3⟩:=ok;simp only[exec]at A;have vc:=hU E h1;split at A
  .rename_i t ht;cases A;rw[ht]at vc;refine⟨do pure (if<-asBool (a.eval c)then a.eval x else a.eval y),by simp[execOp],iM.of R (v:=if t then a.eval x else a.eval y) ?_ ?_⟩
   .rw[vc.mY];simp[asBool]
   .cases t
    .exact hU E h3
    .exact hU E h2
  .cases A
 case h_6 t zero =>
  simp only[exec]at A;cases A;exact⟨_,rfl,Lv R ok⟩
 case h_7 t x y =>
  simp only[exec]at A;split at A
  .rename_i hok;cases A;exact⟨_,rfl,Sk R t hok (hU E ok)⟩
  .cases A
 case h_8 t ps zero qs =>
  simp only[exec,aG]at A;obtain⟨cs,hcs,A⟩:=A;cases A;exact⟨_,rfl,Lt R E ok hcs⟩
 case h_9 t k ps sz zero m qs =>
  simp only[exec,aG]at A;obtain⟨es,T,A⟩:=A;cases A;exact⟨_,rfl,JK R E ok (tQ h _ _ _ T)⟩
 case h_10 t k ps sz zero m qs =>
  simp only[exec,aG]at A;obtain⟨⟨es,h1⟩,T,A⟩:=A;cases A;exact⟨_,rfl,JK R E ok T⟩
 case h_11 t k ps sz zero m qs =>
  simp only[exec,aG]at A;obtain⟨⟨es,h1⟩,T,A⟩:=A;cases A;exact⟨_,rfl,O3 R E ok T⟩
 case h_12 t x sz agg y =>
  simp only[aF]at ok;obtain⟨⟨h1,h2⟩,h3⟩:=ok;simp only[exec,aG]at A;obtain⟨cs,hcs,A⟩:=A;exact⟨_,rfl,iM.keep A λav M=>wA R hcs M (hU E h3) h1 h2⟩
 case h_13 t x sz agg y q0 =>
  simp only[aF]at ok;obtain⟨⟨h1,h2⟩,h3⟩:=ok;simp only[exec]at A;split at A
  case isFalse=>cases A
  simp only[aG]at A;obtain⟨cs,hcs,A⟩:=A;exact⟨_,rfl,iM.keep A λav M=>wA R hcs M (hU E h3) h1 h2⟩
 case h_14=>exact absurd rfl (WB _ _ _)
 case h_15=>exact absurd rfl (Q4 _ _ _ _)
 case h_16=>exact absurd rfl (Q6 _)
 case h_17 op t x y yt op' x' y' =>
  simp only[aF,decide_eq_true_eq]at ok;obtain⟨⟨⟨rfl,_⟩,h2⟩,h3⟩:=ok;simp only[exec]at A;refine⟨do eqGuard op t x y (a.eval x) (a.eval y);binOp op t (a.eval x) (a.eval y),rfl,iM.keep A λav M=>?_⟩
  obtain⟨m,g⟩:=Sn (P:=P) R M (hU E h2) (hU E h3) t;obtain⟨v,w',β',hr,k⟩:=m;exact⟨v,w',β',by simp only[Sem.run_bind,g,Result.andThen_ok,hr],k⟩
 case h_18 op t x y yt neg ks x' y' =>
  simp only[aF,decide_eq_true_eq]at ok;obtain⟨⟨⟨rfl,h1⟩,h2⟩,h3⟩:=ok;simp only[exec]at A;have v1:=hU E h2;have W:=hU E h3;split at A
  .rename_i p q hp F;simp only[aG]at A;obtain⟨r,hr,A⟩:=A;split at A
   .rename_i hlen;cases A;rw[hp]at v1;rw[F]at W;obtain⟨m,g⟩:=Qe (P:=P) R h1 neg hlen.1 hlen.2 hr v1 W;obtain⟨v,w',β',hr,k⟩:=m;refine⟨do eqGuard (if neg then .neq else .eql) t x y (a.eval x) (a.eval y);binOp (if neg then .neq else .eql) t (a.eval x) (a.eval y),rfl,v,w',β',?_,k⟩
    simp only[Sem.run_bind,g,Result.andThen_ok,hr]
   .cases A
  .cases A
 case h_19 op t x op' y =>
  simp only[aF,decide_eq_true_eq]at ok;obtain⟨rfl,h2⟩:=ok;simp only[exec]at A;exact⟨_,rfl,iM.keep A λav M=>T8 R M (hU E h2)⟩
 case h_20 s d x k y =>
  simp only[aF]at ok;obtain⟨⟨h1,h2⟩,h3⟩:=ok;obtain⟨dd,H,F⟩:=ji h2
  have hd':P.underlying d=some (.int k):=by
   cases dd<;>first | (cases F;done) | skip
   simp at F;subst F;exact H
  have v1:=hU E h3;simp only[exec]at A;split at A
  .rename_i kk i hi;cases A;rw[hi]at v1;exact⟨_,rfl,OI R h1 hd' v1⟩
  .cases A
 case h_21 s d x y =>
  simp only[aF]at ok;obtain⟨⟨h1,h2⟩,h3⟩:=ok;obtain⟨ds,hs,hq1⟩:=ji h1;obtain⟨dd,H,Y⟩:=ji h2;have hd':P.underlying d=some .string:=by cases dd<;>first | exact H | (cases Y;done)
  cases ds<;>first | (cases hq1;done) | skip
  rename_i ee;obtain⟨de,L,S⟩:=ji hq1
  have he':P.underlying ee=some (.int .u8):=by
   cases de<;>first | (cases S;done) | skip
   simp at S;subst S;exact L
  simp only[exec,aG]at A;obtain⟨es,T,l,hl,A⟩:=A;cases A;exact⟨_,rfl,Sh R hs he' hd' T hl (hU E h3)⟩
 case h_22 t x t' y =>
  simp only[aF,decide_eq_true_eq]at ok;obtain⟨⟨rfl,h1⟩,h2⟩:=ok;simp only[exec]at A;cases A;exact⟨_,rfl,iM.of R (run_makeInterface w t _ h1) (.sI t _ _ (hU E h2))⟩
 case h_23 f fi ca f' fi' ca' =>
  simp only[aF,decide_eq_true_eq]at ok;obtain⟨⟨rfl,h1⟩,h2⟩:=ok;simp only[exec]at A;cases A;obtain⟨p1,p2⟩:=mC E h1;obtain⟨q1,q2⟩:=mC E h2;refine⟨_,rfl,iM.of R (v:=.func f (fi.map a.eval) (ca.map a.eval)) (by simp[Instr.makeFunc]) ?_⟩
  have:=VR.fn (β:=β) (O:=Own Z β h) (w:=w) f (getAll e fi') (getAll e ca') (fi.toList.map a.eval) (ca.toList.map a.eval) p1 q1 p2 q2
  rwa [show (fi.toList.map a.eval).toArray=fi.map a.eval from cR ai,show (ca.toList.map a.eval).toArray=ca.map a.eval from cR ai]at this
 case h_24 t l c sz bytes zero l' c' =>
  simp only[aF]at ok;obtain⟨⟨h1,h2⟩,h3⟩:=ok;simp only[exec]at A;split at A
  .rename_i K mm hn hm;split at A
   .rename_i hc;cases A;exact⟨_,rfl,QE R h1 hn hm hc.1 hc.2.1 hc.2.2 (hU E h2) (hU E h3)⟩
   .cases A
  .cases A
 case h_25 t x lo hi mx y lo' hi' =>
  simp only[aF,Option.isNone_iff_eq_none]at ok;obtain⟨⟨⟨⟨h1,rfl⟩,h2⟩,h3⟩,h4⟩:=ok;obtain⟨d,H,F⟩:=ji h1;have hd':P.underlying t=some .string:=by cases d<;>first | exact H | (cases F;done)
  have v1:=hU E h2;simp only[exec]at A;split at A
  .rename_i l hl;rw[hl]at v1;simp only[aG]at A;obtain⟨b,hb,c,hc,A⟩:=A;split at A
   .rename_i U;cases A;exact⟨_,rfl,Qc R E hd' h3 h4 hc hb U.1 U.2 v1⟩
   .cases A
  .cases A
 case h_26 t x lo hi mx sz y lo' hi' mx' =>
  simp only[aF,decide_eq_true_eq]at ok;obtain⟨⟨⟨⟨⟨h0,h1⟩,h2⟩,h3⟩,h4⟩,h5⟩:=ok;obtain⟨d,H,F⟩:=ji h1;cases d<;>first | (cases F;done) | skip
  rename_i elem;have v1:=hU E h2;have hsome:mx'.isSome=true->∃p q,mx=some p/\mx'=some q:=by
   intro hs;cases mx' with
   |none=>cases hs
   |some q=>cases mx with
    |none=>simp[lp]at h5
    |some p=>exact⟨p,q,rfl,rfl⟩
  have adT:hi'.isSome=true->hi.isSome=true:=by
   intro hs;cases hi' with
   |none=>cases hs
   |some q=>cases hi with
    |none=>simp[lp]at h4
    |some p=>rfl
  simp only[exec]at A;split at A
  .rename_i full es hl;rw[hl]at v1;obtain⟨ad,c,L,hc,_⟩:=lz R (a:=.b9 full es) rfl v1;rw[L]at v1;simp only[aG]at A;obtain⟨yy,X,xx,hxx,A⟩:=A;split at A
   .split at A
    .rename_i U;obtain⟨HI,l1,l2⟩:=U;cases A;have hm:jY c e (none:Option AO)=some c:=rfl;have hrun:=zx (P:=P) (w:=w) E H F h3 h4 h5 (λhs=>by cases mx<;>simp_all[lp]) (len:=es.length) (cap:=c) (ad:=ad) hxx X hm l1 af (aV _)
     refine⟨Instr.sliceAt t (a.eval x) (lo.map a.eval) (hi.map a.eval) (mx.map a.eval),rfl,iM.of R (v:=_) (by rw[L];exact hrun) (.pure _ _ (Ja v1.mK HI h0 l1 af l2 ?_))⟩
     intro hf;simp only[aF,decide_eq_true_eq]at hf;obtain⟨hf1,hf2⟩:=hf;subst hf1;generalize hce:es.length=ce at v1;cases v1.mK with
     |b9 _ _ _ _ _ _ _ _ hff=>have:=hff rfl;omega
    .cases A
   .rename_i q MJ;simp only[aG]at A;obtain⟨mm,hmm,A⟩:=A;split at A
    .rename_i U;obtain⟨HI,l0,l1,l2,l3⟩:=U;cases A;have hrun:=zx (P:=P) (w:=w) E H F h3 h4 h5 (λ_=>adT l0) (len:=es.length) (cap:=c) (ad:=ad) (m:=mm) hxx X hmm l1 l2 af
     refine⟨Instr.sliceAt t (a.eval x) (lo.map a.eval) (hi.map a.eval) (mx.map a.eval),rfl,iM.of R (v:=_) (by rw[L];exact hrun) (.pure _ _ (Ja v1.mK HI h0 l1 l2 af ?_))⟩
     intro hf;simp only[decide_eq_true_eq]at hf;exact hf.symm
    .cases A
  .rename_i r vv oo K hl;rw[hl]at v1;obtain⟨bd,ad,c,hbd,L,h6⟩:=v1.kZ
   have cut:∀xx yy mm,jb h r vv=some sz->xx<=yy->yy<=mm->mm<=c->yy<=K->VR β (Own Z β h) w (.own r vv (oo+xx) (yy-xx)) (.slice (if mm=xx then ad else ad.map (·.add (xx*sz))) (yy-xx) (mm-xx)):=by
    intro xx yy mm hr l1 l2 l3 l4;obtain⟨s1,s2⟩:=Ct R hr hbd;refine .own r vv (oo+xx) (yy-xx) bd _ (mm-xx) hbd ?_
    by_cases hmx:mm=xx
    .exact .inl ⟨af,af⟩
    .rcases h6 with⟨h6,h6'⟩ | ⟨cb,g1,g2,g3,g4⟩
     .exact .inl ⟨af,af⟩
     .refine .inr ⟨cb,g1,?_,af,?_⟩
      .rw[if_neg hmx,g2];simp only[cS,lR,s1,bT];rw[cw]
      .have e1:oo+xx+(mm-xx)<=oo+c:=by omega
       have:=br bd.sz e1;omega
   have hnc:K<=c:=by rcases h6 with⟨_,h6⟩ | ⟨_,_,_,h6,_⟩<;>omega
   simp only[aG]at A;obtain⟨yy,X,xx,hxx,A⟩:=A;split at A
   .split at A
    .rename_i U;obtain⟨hr,l1,l2⟩:=U;cases A;have hm:jY c e (none:Option AO)=some c:=rfl;have hrun:=zx (P:=P) (w:=w) E H F h3 h4 h5 (λhs=>by cases mx<;>simp_all[lp]) (len:=K) (cap:=c) (ad:=ad) hxx X hm l1 af (aV _)
     exact⟨Instr.sliceAt t (a.eval x) (lo.map a.eval) (hi.map a.eval) (mx.map a.eval),rfl,iM.of R (v:=_) (by rw[L];exact hrun) (cut xx yy c hr l1 af (aV _) l2)⟩
    .cases A
   .rename_i q MJ;simp only[aG]at A;obtain⟨mm,hmm,A⟩:=A;split at A
    .rename_i U;obtain⟨hr,l0,l1,l2,l3⟩:=U;cases A;have hrun:=zx (P:=P) (w:=w) E H F h3 h4 h5 (λ_=>adT l0) (len:=K) (cap:=c) (ad:=ad) (m:=mm) hxx X hmm l1 l2 af
     exact⟨Instr.sliceAt t (a.eval x) (lo.map a.eval) (hi.map a.eval) (mx.map a.eval),rfl,iM.of R (v:=_) (by rw[L];exact hrun) (cut xx yy mm hr l1 l2 af af)⟩
    .cases A
  .cases A
 case h_27 t x k off y =>
  simp only[aF]at ok;obtain⟨h1,h2⟩:=ok;obtain⟨d,H,F⟩:=ji h1;cases d<;>first | (cases F;done) | skip
  rename_i fs;dsimp only at F;split at F
  .rename_i f hf;simp only[aF,decide_eq_true_eq]at F;obtain⟨hoff,hsz⟩:=F;have D4:∃i,P.info? f.type=some i/\i.size≠0:=by
    split at hsz
    .rename_i i hi;exact⟨i,hi,an hsz⟩
    .cases hsz
   have v1:=hU E h2;simp only[exec]at A;split at A
   .rename_i b vv i oo hl;cases A;rw[hl]at v1;obtain⟨bd,c,hb,hc,L⟩:=v1.kY;refine⟨_,rfl,iM.of R (v:=.pointer (some ⟨c,bd.base+i*bd.sz+oo+off,none⟩)) (by rw[L];exact Jt H hf hoff D4 c _ w) ?_⟩
    have:=VR.ptr (β:=β) (O:=Own Z β h) (w:=w) b vv i (oo+off) bd c hb hc
    rwa [<-cw]at this
   .rename_i cs hl;split at A
    .rename_i U;cases A;rw[hl]at v1;generalize D1:a.eval x=u at v1;cases v1 with
     |pure _ _ hv=>cases hv
     |iV _ blk oo f' hO hw q1 q3 q2 =>
      refine⟨Instr.fieldAt t (a.eval x) k,rfl,iM.of R (v:=.pointer (some ⟨blk,oo+off,none⟩)) (by rw[D1];exact Jt H hf hoff D4 blk _ w) ?_⟩
      refine .iV _ blk (oo+off) (λj=>f' (off+j)) hO hw (λj y hy=>?_) (λj y hy=>?_) (λj y hy=>?_)
      .rw[bX]at hy;rw[cw];exact q1 _ y hy
      .rw[bX]at hy;exact q3 _ y hy
      .rw[bX]at hy;exact q2 _ y hy
    .cases A
   .cases A
  .cases F
 case h_28 t x k off sz agg y =>
  simp only[aF]at ok;obtain⟨h1,h2⟩:=ok;obtain⟨d,H,F⟩:=ji h1;cases d<;>first | (cases F;done) | skip
  rename_i fs;dsimp only at F;split at F
  .rename_i f hf;simp only[aF,decide_eq_true_eq]at F;obtain⟨⟨hoff,hsz⟩,hag⟩:=F;have v1:=hU E h2;simp only[exec]at A;split at A
   .rename_i cs hl;split at A
    .rw[hl]at v1;obtain⟨vs,L,hl',q1,q2⟩:=v1.nW;refine⟨Instr.field t (a.eval x) k,rfl,iM.keep A λav M=>?_⟩
     obtain⟨v,hr,hv⟩:=G9 (P:=P) M hsz hag hl' q1 q2;refine iM.of R (v:=v) ?_ hv;rw[L];simp only[Instr.field,Sem.run_bind,run_underlying H,Result.andThen_ok,hf,asAgg,Sem.run_pure,hoff,hr]
    .cases A
   .cases A
  .cases F
 case h_29 t x i sz y j =>
  simp only[aF]at ok;obtain⟨⟨h1,h2⟩,h3⟩:=ok;obtain⟨d,H,F⟩:=ji h1;cases d<;>first | (cases F;done) | skip
  rename_i elem;dsimp only at F;have v1:=hU E h2;have W:=hU E h3;simp only[exec]at A
  have run:∀(ad:Addr)(len c:Nat)(kk:IntKind)(ii:Int),0<=ii->ii<len->(Instr.indexAt t (.slice (some ad) len c) (.int kk ii)).run P w = .ok (.pointer (some (ad.add (ii.toNat*sz)))) w:=by
   intro ad len c kk ii l1 l2;simp only[Instr.indexAt,asIntOf,Sem.run_bind,Sem.run_pure,Result.andThen_ok,run_underlying H];rw[if_pos ⟨l1,l2⟩];simp[jX F]
  split at A
  .rename_i full es hl;simp only[aG]at A;obtain⟨K,hn,yy,X,A⟩:=A;split at A
   .rename_i hlen;cases A;rw[hl]at v1;obtain⟨kk,ii,Tk,l1,l2⟩:=oK hn W;have hlt:=(aD.1 X).1;generalize D1:a.eval x=u at v1;cases v1.mK with
    |b9 _ _ ad c blk oo sz' f hf hc ha hs q1 q3 q2 =>
     have hne:es≠[]:=by rintro rfl;simp at X
     obtain⟨rfl,hO,hb⟩:=ha hne;have ajT:sz'=sz:=by have:=(hs K yy X).1;omega
     subst ajT;refine⟨Instr.indexAt t (a.eval x) (a.eval i),rfl,iM.of R (v:=.pointer (some ⟨blk,oo+K*sz',none⟩)) ?_ ?_⟩
     .rw[D1,Tk,run ⟨blk,oo,none⟩ es.length c kk ii l1 af,lR,l2]
     .exact .iV _ blk (oo+K*sz') (f K) hO hb (λj y hy=>q1 K yy X j y hy) (λj y hy=>q3 K yy X j y hy) (λj y hy=>q2 K yy X j y hy)
   .cases A
  .rename_i b vv oo m hl;simp only[aG]at A;obtain⟨K,hn,A⟩:=A;split at A
   .rename_i hc;obtain⟨hlt,hr⟩:=hc;cases A;rw[hl]at v1;obtain⟨kk,ii,Tk,l1,l2⟩:=oK hn W;obtain⟨bd,ad,c,hbd,L,h6⟩:=v1.kZ;obtain⟨s1,s2⟩:=Ct R hr hbd
    rcases h6 with⟨_,h6⟩ | ⟨cb,g1,g2,g3,g4⟩
    .omega
    .subst g2;refine⟨Instr.indexAt t (a.eval x) (a.eval i),rfl,iM.of R (v:=.pointer (some ⟨cb,bd.base+(oo+K)*bd.sz+0,none⟩)) ?_ (.ptr b vv (oo+K) 0 bd cb hbd g1)⟩;rw[L,Tk,run _ m c kk ii l1 af,lR,l2,s1,bT]
     congr 4;omega
   .cases A
  .cases A
 case h_30 t x i m sz y j =>
  simp only[aF]at ok;obtain⟨⟨h1,h2⟩,h3⟩:=ok;obtain⟨d,H,F⟩:=ji h1;cases d<;>first | (cases F;done) | skip
  rename_i len elem;simp only[aF,decide_eq_true_eq]at F;obtain⟨rfl,F⟩:=F;have v1:=hU E h2;have W:=hU E h3
  have run:∀(ad:Addr)(kk:IntKind)(ii:Int),0<=ii->ii<len->(Instr.indexAt t (.pointer (some ad)) (.int kk ii)).run P w = .ok (.pointer (some (ad.add (ii.toNat*sz)))) w:=by
   intro ad kk ii l1 l2;simp only[Instr.indexAt,asIntOf,Sem.run_bind,Sem.run_pure,Result.andThen_ok,run_underlying H,Instr.sureAddr];rw[if_pos ⟨l1,l2⟩];simp[jX F]
  simp only[exec,aG]at A;obtain⟨K,hn,A⟩:=A;obtain⟨kk,ii,Tk,l1,l2⟩:=oK hn W;split at A
  .rename_i hlt;split at A
   .rename_i b vv jj oo hl;cases A;rw[hl]at v1;obtain⟨bd,c,hb,hc,L⟩:=v1.kY;refine⟨_,rfl,iM.of R (v:=.pointer (some ⟨c,bd.base+jj*bd.sz+(oo+K*sz),none⟩)) ?_ (.ptr b vv jj (oo+K*sz) bd c hb hc)⟩;rw[L,Tk,run _ kk ii l1 af,lR,l2,cw]
   .rename_i cs hl;split at A
    .rename_i U;cases A;rw[hl]at v1;generalize D1:a.eval x=u at v1;cases v1 with
     |pure _ _ hv=>cases hv
     |iV _ blk oo f' hO hw q1 q3 q2 =>
      refine⟨Instr.indexAt t (a.eval x) (a.eval i),rfl,iM.of R (v:=.pointer (some ⟨blk,oo+K*sz,none⟩)) (by rw[D1,Tk,run _ kk ii l1 af,lR,l2]) ?_⟩
      refine .iV _ blk (oo+K*sz) (λj=>f' (K*sz+j)) hO hw (λj y hy=>?_) (λj y hy=>?_) (λj y hy=>?_)
      .rw[bX]at hy;rw[cw];exact q1 _ y hy
      .rw[bX]at hy;exact q3 _ y hy
      .rw[bX]at hy;exact q2 _ y hy
    .cases A
   .cases A
  .cases A
 case h_31 t x i y j =>
  simp only[aF]at ok;obtain⟨⟨h1,h2⟩,h3⟩:=ok;obtain⟨d,H,F⟩:=ji h1;have hd':P.underlying t=some .string:=by cases d<;>first | exact H | (cases F;done)
  have v1:=hU E h2;have W:=hU E h3;simp only[exec]at A;split at A
  .rename_i l hl;simp only[aG]at A;obtain⟨K,hn,c,hc,A⟩:=A;cases A;rw[hl]at v1;obtain⟨kk,ii,Tk,l1,l2⟩:=oK hn W;obtain⟨b,L,hb⟩:=v1.oD;refine⟨_,rfl,iM.of R (v:=.int .u8 c.toNat) ?_ (.of_int _ _)⟩;have hbc:b[ii.toNat]? = some c:=by
    rw[l2];have hlt:K<b.data.toList.length:=by rw[hb];exact(aD.1 hc).1
    have hlt':K<b.size:=by simpa using hlt
    rw[getElem?_pos b K hlt'];rw[<-hb]at hc;have e1:b.data.toList[K]? = some b.data.toList[K]:=aH hlt;rw[e1]at hc;exact hc
   rw[L,Tk];simp only[Instr.index,asIntOf,Sem.run_bind,Sem.run_pure,Result.andThen_ok,run_underlying hd',l1,if_true,hbc]
  .cases A
 case h_32 x i y j =>
  simp only[aF,decide_eq_true_eq]at ok;obtain⟨rfl,h2⟩:=ok;have v1:=hU E h2;simp only[exec]at A;split at A
  .rename_i vs hl;simp only[aG]at A;obtain⟨v,hv,A⟩:=A;cases A;rw[hl]at v1;obtain⟨us,L,hl',q⟩:=v1.Dr;have hlt:i<us.length:=by rw[<-hl'];exact(aD.1 hv).1
   refine⟨_,rfl,iM.of R (v:=us[i]) ?_ (q i av us[i] hv (by simp[hlt]))⟩
   rw[L];simp[Instr.extract,hlt]
  .cases A
 case h_33=>exact absurd rfl (Tn _ _).1
 case h_34=>exact absurd rfl (Tn _ _).2
 case h_35=>exact absurd rfl (WK _ _)
 case h_36 b args argTypes sz bytes y1 y2 =>
  simp only[aF,decide_eq_true_eq]at ok;obtain⟨rfl,ok⟩:=ok;split at ok
  .rename_i x1 x2 t u G N;simp only[aF,decide_eq_true_eq]at ok;obtain⟨⟨⟨⟨h1,h2⟩,h0⟩,h3⟩,h4⟩:=ok;obtain rfl:args = #[x1,x2]:=by apply cR;simpa using G
   obtain rfl:argTypes = #[t,u]:=by apply cR;simpa using N
   obtain⟨d,H,F⟩:=ji h3;cases d<;>first | (cases F;done) | skip
   rename_i elem;simp only[aF]at F;obtain⟨⟨hsz,hby⟩,hz⟩:=F;obtain⟨i,z,hi,Q3,hzs⟩:=vl hz;obtain⟨d2,hd2,Y⟩:=ji h4;have hnot:=(Kz d2).resolve_right (λhh=>Bool.noConfusion (Y.symm.trans hh.1))
   have hs':i.size=sz:=by simpa[jP,hi]using hsz
   have hb':i.bytes=bytes:=by simpa[uw,hi]using hby
   simp only[exec,aG]at A;obtain⟨news,hnews,A⟩:=A;have W:=hU E h2;obtain⟨ad,c,L,hc,hsrc⟩:=lz R hnews W;have HI:jw sz news=true:=GO A
   obtain⟨olds,o1,o2,o3,o4⟩:=ud (P:=P) (O:=Own Z β h) (w:=w) (ad:=ad) (c:=c) (sz:=sz) (es:=news) rfl (λhne=>by
    obtain⟨blk,oo,sz2,_,e1,e2⟩:=hsrc hne;exact⟨blk,oo,e1,e2.jw HI⟩)
   refine⟨Builtin.append_ #[t,u] type #[a.eval x1,a.eval x2],by simp[execOp,resolve,invoke,builtin],?_⟩
   refine vQ R H hi Q3 hzs hs' hb' h0 rfl A (hU E h1) (news:=olds) (.inl ⟨u,d2,rfl,hd2,hnot,?_,?_⟩) (.inl ⟨u,d2,rfl,hd2,hnot⟩) o1 o3 o2
   .rw[L];rfl
   .intro w' hw';rw[L];exact o4 w' hw'
  .cases ok
 case h_37 b args argTypes str y =>
  simp only[aF,decide_eq_true_eq]at ok;obtain⟨rfl,ok⟩:=ok;split at ok
  .rename_i x t G N;simp only[aF]at ok;obtain⟨h1,h3⟩:=ok;obtain rfl:args = #[x]:=by apply cR;simpa using G
   obtain rfl:argTypes = #[t]:=by apply cR;simpa using N
   obtain⟨d,H,F⟩:=ji h3;have v1:=hU E h1;simp only[exec,aG]at A;obtain⟨K,Q,A⟩:=A;cases A;refine⟨Builtin.len_ #[t] type #[a.eval x],by simp[execOp,resolve,invoke,builtin],iM.of R (v:=goInt K) ?_ (.of_int _ _)⟩
   have hval:(∃b:ByteArray,a.eval x = .string b/\b.size=K/\str=true)\/(str=false/\∃ad c,a.eval x = .slice ad K c):=by
    generalize hg:y.get e=av at v1 Q;cases av with
    |str s =>
     simp only[zX]at Q;split at Q
     .rename_i NM;cases Q;obtain⟨b,L,hb⟩:=v1.oD;exact .inl ⟨b,L,by rw[<-hb];rfl,NM⟩
     .cases Q
    |b9 f es =>
     simp only[zX]at Q;split at Q
     .cases Q
     .rename_i NM;cases Q;obtain⟨ad,c,L,_⟩:=lz R (a:=.b9 f es) rfl v1;exact .inr ⟨an NM,ad,c,L⟩
    |own b vv oo m =>
     simp only[zX]at Q;split at Q
     .cases Q
     .rename_i NM;cases Q;obtain⟨bd,ad,c,_,L,_⟩:=v1.kZ;exact .inr ⟨an NM,ad,c,L⟩
    |_=>simp[zX]at Q
   rcases hval with⟨b,L,hb,rfl⟩ | ⟨rfl,ad,c,L⟩
   .have hd':P.underlying t=some .string:=by cases d<;>first | exact H | (cases F;done)
    simp[Builtin.len_,run_underlying hd',L,hb]
   .cases d<;>first | (cases F;done) | skip
    simp[Builtin.len_,run_underlying H,L]
  .cases ok
 case h_38 b args argTypes isMax ys =>
  simp only[aF,decide_eq_true_eq]at ok;obtain⟨rfl,h1⟩:=ok;obtain⟨p1,p2⟩:=mC E h1;simp only[exec]at A;split at A
  .rename_i y l hl;rw[hl]at p1 p2;cases hus:args.toList.map a.eval with
   |nil=>rw[hus]at p1;simp at p1
   |cons u us =>
    rw[hus]at p1 p2;have G:args.map a.eval=(u::us).toArray:=by apply cR;simp[hus]
    refine⟨(us.foldlM (if isMax then Builtin.max2 else Builtin.min2) u),?_,iM.keep A λav M=>?_⟩
    .cases isMax<;>simp[execOp,resolve,invoke,builtin,G,Builtin.max_,Builtin.min_]
    .obtain⟨q,r1,r2⟩:=Nq (P:=P) (isMax:=isMax) l us M (p2 0 y u rfl rfl) (an p1) (λj y q h1 h2=>p2 (j+1) y q (an h1) (an h2))
     exact iM.of R r1 r2
  .cases A
 case h_39 b args argTypes sz zero y =>
  simp only[aF,decide_eq_true_eq]at ok;obtain⟨rfl,ok⟩:=ok;split at ok
  .rename_i x t G N;simp only[aF]at ok;obtain⟨h1,h3⟩:=ok;obtain rfl:args = #[x]:=by apply cR;simpa using G
   obtain rfl:argTypes = #[t]:=by apply cR;simpa using N
   obtain⟨d,H,F⟩:=ji h3;cases d<;>first | (cases F;done) | skip
   rename_i elem;simp only[aF]at F;obtain⟨⟨hsz,hz0⟩,hz⟩:=F;obtain⟨i,z,hi,Q3,hzs⟩:=vl hz0;obtain⟨i2,z2,hi2,KR,WE⟩:=pG hz;rw[hi]at hi2;cases hi2;rw[Q3]at KR;cases KR;have v1:=hU E h1;simp only[exec]at A;refine⟨Builtin.clear_ #[t] type #[a.eval x],by simp[execOp,resolve,invoke,builtin],?_⟩
   split at A
   .rename_i b vv oo K hl;split at A
    .rename_i v' sz' es T;split at A
     .rename_i hc;obtain⟨c1,c0,c3⟩:=hc;cases A;rw[hl]at v1;exact RN (ty:=type) R H hsz hi Q3 hzs WE v1 T c1 c0 c3
     .cases A
    .cases A
   .rename_i full es hl;split at A
    .rename_i T;subst T;cases A;rw[hl]at v1;exact OL R H v1
    .cases A
   .cases A
  .cases ok
 case h_40 t x y =>
  simp only[exec]at A;split at A
  .rename_i hok;cases A;exact⟨_,rfl,ML R t hok (hU E ok)⟩
  .cases A
 case h_41 t x sz agg y =>
  simp only[aF]at ok;obtain⟨⟨h1,h2⟩,h3⟩:=ok;simp only[exec]at A;split at A
  .rename_i cs hcs;refine⟨_,rfl,iM.keep A λav M=>wA R (a:=.iV cs) rfl M (by rw[<-hcs];exact hU E h3) h1 h2⟩
  .cases A
 case h_42=>exact absurd rfl (WN _ _)
 case h_43=>exact absurd rfl (WM _ _)
 case h_44 t r q =>
  obtain rfl:r=none:=by simpa using ok
  simp only[exec]at A;cases A;exact⟨_,rfl,QF R t _⟩
 case h_45 t m k c q zero m' k' =>
  simp only[aF,cK]at ok;obtain⟨⟨⟨rfl,h1⟩,h2⟩,h3⟩:=ok;obtain⟨d,H,F⟩:=ji h1;cases d<;>first | (cases F;done) | skip
  rename_i kt et;simp only[aF]at F;obtain⟨hq1,Y⟩:=F;obtain⟨d2,hd2,S⟩:=ji hq1;cases d2<;>first | (cases S;done) | skip
  simp only[decide_eq_true_eq]at S;subst S;simp only[exec,aG]at A;obtain⟨⟨b,es⟩,hm,n0,hk,A⟩:=A;cases A;obtain⟨e1,e2⟩:=uh hm;have e3:=AQ hk;have v1:=hU E h2;have W:=hU E h3;rw[e1]at v1;rw[e3]at W;exact⟨_,rfl,by have:=FE R H hd2 Y e2 v1 W false;simpa using this⟩
 case h_46=>exact absurd rfl (Th _ _ _ _)
 case h_47 b args argTypes q y =>
  simp only[aF,decide_eq_true_eq]at ok;obtain⟨rfl,ok⟩:=ok;split at ok
  .rename_i x t G N;simp only[aF]at ok;obtain⟨h1,h3⟩:=ok;obtain rfl:args = #[x]:=by apply cR;simpa using G
   obtain rfl:argTypes = #[t]:=by apply cR;simpa using N
   obtain⟨d,H,F⟩:=ji h3;cases d<;>first | (cases F;done) | skip
   have v1:=hU E h1;simp only[exec,aG]at A;obtain⟨⟨b,es⟩,hm,A⟩:=A;cases A;obtain⟨e1,e2⟩:=uh hm;rw[e1]at v1;exact⟨Builtin.len_ #[t] type #[a.eval x],by simp[execOp,resolve,invoke,builtin],Nr R H e2 v1⟩
  .cases ok
 case h_48=>exact absurd rfl (WO _ _)
 case h_49 s d x y =>
  simp only[aF]at ok;obtain⟨⟨h1,h2⟩,h3⟩:=ok;obtain⟨ds,hs,hq1⟩:=ji h1;have hs':P.underlying s=some .string:=by cases ds<;>first | exact hs | (cases hq1;done)
  obtain⟨dd,H,Y⟩:=ji h2;cases dd<;>first | (cases Y;done) | skip
  rename_i ee;obtain⟨de,L,S⟩:=ji Y
  have he':P.underlying ee=some (.int .u8):=by
   cases de<;>first | (cases S;done) | skip
   simp at S;subst S;exact L
  have v1:=hU E h3;simp only[exec]at A;split at A
  .rename_i l hl;cases A;rw[hl]at v1;exact⟨_,rfl,Qa R hs' H he' v1⟩
  .cases A
 case h_50=>exact absurd rfl (WL _ _)
 case h_51=>exact absurd rfl (Q8 _ _)
 case h_52 t x sz agg y =>
  simp only[aF]at ok;obtain⟨⟨h1,h2⟩,h3⟩:=ok;simp only[exec]at A;split at A
  case isFalse=>cases A
  simp only[aG]at A;obtain⟨cs,hcs,A⟩:=A;exact⟨_,rfl,iM.keep A λav M=>wA R hcs M (hU E h3) h1 h2⟩
 case h_53 t m k c q zero m' k' =>
  simp only[aF]at ok;obtain⟨⟨⟨rfl,h1⟩,h2⟩,h3⟩:=ok;obtain⟨d,H,F⟩:=ji h1;cases d<;>first | (cases F;done) | skip
  rename_i kt et;simp only[aF]at F;obtain⟨hq1,Y⟩:=F;obtain⟨d2,hd2,S⟩:=ji hq1;cases d2<;>first | (cases S;done) | skip
  simp only[decide_eq_true_eq]at S;subst S;simp only[exec,aG]at A;obtain⟨⟨b,es⟩,hm,n0,hk,A⟩:=A;cases A;obtain⟨e1,e2⟩:=uh hm;have e3:=AQ hk;have v1:=hU E h2;have W:=hU E h3;rw[e1]at v1;rw[e3]at W;exact⟨_,rfl,by have:=FE R H hd2 Y e2 v1 W true;simpa using this⟩
 case h_54=>exact absurd rfl (Th _ _ _ _)
 case h_55=>exact absurd rfl (NV _ _).1
 case h_56=>exact absurd rfl (NV _ _).2
 case h_57 op t x y yt neg x' y' =>
  simp only[aF,decide_eq_true_eq]at ok;obtain⟨⟨⟨rfl,h1⟩,h2⟩,h3⟩:=ok;obtain⟨d,H,F⟩:=ji h1;have hd':P.underlying t=some .bool:=by cases d<;>first | exact H | (cases F;done)
  simp only[exec]at A;have v1:=hU E h2;have W:=hU E h3;split at A
  .rename_i p q hp F;cases A;rw[hp]at v1;rw[F]at W;obtain⟨m,g⟩:=Su (P:=P) R hd' neg v1 W;obtain⟨v,w',β',hr,k⟩:=m;refine⟨do eqGuard (if neg then .neq else .eql) t x y (a.eval x) (a.eval y);binOp (if neg then .neq else .eql) t (a.eval x) (a.eval y),rfl,v,w',β',?_,k⟩
   simp only[Sem.run_bind,g,Result.andThen_ok,hr]
  .cases A
 case h_58 b args argTypes sz bytes zero y1 y2 =>
  simp only[aF,decide_eq_true_eq]at ok;obtain⟨rfl,ok⟩:=ok;split at ok
  .rename_i x1 x2 t u G N;simp only[aF,decide_eq_true_eq]at ok;obtain⟨⟨⟨⟨h1,h2⟩,h0⟩,h3⟩,h4⟩:=ok;obtain rfl:args = #[x1,x2]:=by apply cR;simpa using G
   obtain rfl:argTypes = #[t,u]:=by apply cR;simpa using N
   obtain⟨d,H,F⟩:=ji h3;cases d<;>first | (cases F;done) | skip
   rename_i elem;simp only[aF]at F;obtain⟨⟨⟨hsz,hby⟩,hz⟩,hzv⟩:=F;obtain⟨i,z,hi,Q3,hzs⟩:=vl hz;obtain⟨i2,z2,hi2,KR,WE⟩:=pG hzv;rw[hi]at hi2;cases hi2;rw[Q3]at KR;cases KR;obtain⟨d2,hd2,Y⟩:=ji h4;have hint:∃k,d2 = .int k:=by cases d2<;>first | exact⟨_,rfl⟩ | (cases Y;done)
   obtain⟨k2,rfl⟩:=hint;have hs':i.size=sz:=by simpa[jP,hi]using hsz
   have hb':i.bytes=bytes:=by simpa[uw,hi]using hby
   simp only[exec,aG]at A;obtain⟨K,Q,A⟩:=A;have W:=hU E h2;obtain⟨kk,ii,L,l1,l2⟩:=oK Q W;have U:=Lu A;obtain⟨z1,z2,z3⟩:=pH (O:=Own Z β h) (w:=w) WE K;refine⟨Builtin.append_ #[t,u] type #[a.eval x1,a.eval x2],by simp[execOp,resolve,invoke,builtin],?_⟩
   refine vQ R H hi Q3 hzs hs' hb' h0 rfl A (hU E h1) (news:=(Builtin.zeroCells z.cells K).toList) (.inr ⟨u,k2,kk,ii,rfl,hd2,L,l1,an l2,?_⟩) (.inr ai) ?_ ?_ (λq F=>aM.1 z3 q F)
   .simp at U;omega
   .simp[size_zeroCells,hzs,hs']
   .rw[hzs,hs']at z1;exact z1.congr λk _=>ai
  .cases ok
 case h_59 b args argTypes sz y1 y2 =>
  simp only[aF,decide_eq_true_eq]at ok;obtain⟨rfl,ok⟩:=ok;split at ok
  .rename_i x1 x2 t l G N;simp only[aF]at ok;obtain⟨⟨h1,h2⟩,h3⟩:=ok;obtain rfl:args = #[x1,x2]:=by apply cR;simpa using G
   have PM:argTypes[0]? = some t:=by rw[<-dD,N];rfl
   obtain⟨d,H,F⟩:=ji h3;cases d<;>first | (cases F;done) | skip
   rename_i elem;have v1:=hU E h1;have W:=hU E h2;simp only[exec,aG]at A;obtain⟨src,hsrc,A⟩:=A;refine⟨Builtin.copy_ argTypes type #[a.eval x1,a.eval x2],by simp[execOp,resolve,invoke,builtin],?_⟩
   split at A
   .rename_i b vv oo K hl;split at A
    .rename_i v' sz' es T;split at A
     .rename_i hc;obtain⟨c1,c0,c2,c3⟩:=hc;cases A;rw[hl]at v1;have hcp:=OH (ty:=type) R PM H F hsrc W v1 T c1 c0 c2 c3
      rwa [show ((min src.length K:Nat):Int)=min (src.length:Int) K from by omega]at hcp
     .cases A
    .cases A
   .rename_i full es hl;split at A
    .rename_i T;subst T;cases A;rw[hl]at v1;exact K9 R PM H F hsrc W v1
    .cases A
   .cases A
  .cases ok
 case h_60=>cases ok
end
end Go.Am
