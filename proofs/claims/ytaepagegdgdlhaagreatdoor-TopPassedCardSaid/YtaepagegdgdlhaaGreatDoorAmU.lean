/- Part of the proof that TopPassedCard holds. -/
import Derived.Test.YtaepagegdgdlhaaGreatDoorAmR
import Derived.Tactics
set_option linter.all false
namespace Go.Am
noncomputable def j8(Γ:kP)(x:AI)(s:St):Option (AV×AH) :=
 match x.guard with
 |none=>exec Γ s.e s.h x.op
 |some (g,want) =>
  match s.e g with
  | .bool b=>if b=want then exec Γ s.e s.h x.op else some (.undef,s.h)
  | .undef=>some (.undef,s.h)
  |_=>none
def pR(Γ:kP)(x:AI)(l:List AI)(s:St):flat Γ (x::l) s=(j8 Γ x s).bind λr=>flat Γ l (St.put ⟨s.e,r.2⟩ x.dst r.1):=by
 let⟨dst,guard,op⟩:=x;cases guard with
 |none=>rfl
 |some g =>
  let⟨g,want⟩:=g;simp only[flat,j8];generalize s.e g=q;cases q<;>first | rfl | (dsimp only;split<;>rfl)
def xo(Γ:kP):∀(l l':List AI)(s:St),flat Γ (l++l') s=(flat Γ l s).bind (flat Γ l')
 | [],l',s=>rfl
 |x::l,l',s=>by
  rw[bK,pR,pR,Option.bind_assoc]
  congr 1
  funext r
  exact xo Γ l l' _
def flatten:IT->Option (Nat×Bool)->List AI
 | .nil,_=>[]
 | .op d o rest,g=>⟨d,g,o⟩::flatten rest g
 | .sc d a c _ _ l r rest,g=>flatten l (some (c,a))++⟨some d,g,.pick (.t c) (if a then r else .c (.bool true)) (if a then .c (.bool false)else r)⟩::flatten rest g
def vl(d:Option Nat):ax:=match d with | some t=>[t] | none=>[]
def wr:IT->ax
 | .nil=>[]
 | .op d _ rest=>vl d++wr rest
 | .sc d _ _ _ _ l _ rest=>wr l++(d::wr rest)
def mY(K:aC)(t:Nat):Bool:=K.any λr=>decide (r.1<=t)&&decide (t<=r.2)
def AO.live(K:aC):AO->Bool
 | .t i=>!mY K i
 | .c _=>true
def yz:IT->aC
 | .nil=>[]
 | .op _ _ rest=>yz rest
 | .sc _ _ _ lo hi _ _ rest=>(lo,hi)::yz rest
def yN:ax->IT->Bool
 |_,.nil=>true
 |D,.op d _ rest=>yN (vl d++D) rest
 |D,.sc d _ c _ _ l _ rest=>D.contains c&&yN D l&&yN (d::(wr l++D)) rest
def D8:aC->IT->Bool
 |_,.nil=>true
 |K,.op d o rest=>o.ops.all (AO.live K)&&(vl d).all (λt=>!mY K t)&&D8 K rest
 |K,.sc d a c lo hi l r rest=>!mY K c && !(wr l).contains c&&(wr l).all (λt=>decide (lo<=t)&&decide (t<=hi))&&D8 K l&&r.live (yz l++K)&&yN [] l &&
   !mY ((lo,hi)::K) d&&D8 ((lo,hi)::K) rest
def vh(s:St)(g:Nat×Bool):Prop:=s.e g.1 = .undef\/∃b,s.e g.1 = .bool b/\b≠g.2
def Dy{Γ:kP}{x:AI}{s:St}{g:Nat×Bool}(hg:x.guard=some g)(h:vh s g):j8 Γ x s=some (.undef,s.h):=by
 unfold j8;rw[hg];let⟨c,a⟩:=g
 rcases h with h | ⟨b,h,hb⟩
 .simp only[h]
 .simp only[h,if_neg hb]
def B7{s:St}{g:Nat×Bool}(h:vh s g)(d:Option Nat):vh (s.put d .undef) g:=by
 cases d with
 |none=>exact h
 |some t =>
  by_cases ht:g.1=t
  .exact .inl (by simp[St.put,Env.put,ht])
  .unfold vh St.put Env.put;simp only[if_neg ht];exact h
def xZ(Γ:kP):∀(l:IT)(g:Nat×Bool)(s:St)(D:ax),vh s g->(∀t∈D,s.e t = .undef)->yN D l=true->
  ∃s',flat Γ (flatten l (some g)) s=some s'/\s'.h=s.h/\(∀t,t∉wr l->s'.e t=s.e t)/\(∀t,t∈wr l->s'.e t = .undef)
 | .nil,g,s,D,h,hD,ok=>⟨s,rfl,rfl,λ_ _=>rfl,λ_ ht=>by cases ht⟩
 | .op d o rest,g,s,D,h,hD,ok=>by
  simp only[flatten];rw[pR,Dy rfl h];simp only[yN]at ok
  have hput:∀t,(s.put d .undef).e t=if t∈vl d then .undef else s.e t:=by
   intro t;cases d with
   |none=>simp[St.put,vl]
   |some q=>simp[St.put,Env.put,vl]
  let⟨s',h1,h2,h3,h4⟩:=xZ Γ rest g (s.put d .undef) (vl d++D) (B7 h d) (λt ht=>by
   rw[hput];split
   .rfl
   .rename_i hn
    rcases aX.1 ht with ht | ht
    .exact absurd ht hn
    .exact hD t ht) ok
  refine⟨s',h1,by rw[h2];cases d<;>rfl,λt ht=>?_,λt ht=>?_⟩
  .simp only[wr,aX,not_or]at ht;rw[h3 t ht.2,hput,if_neg ht.1]
  .by_cases hr:t∈wr rest
   .exact h4 t hr
   .rw[h3 t hr,hput];simp only[wr,aX]at ht;rw[if_pos (ht.resolve_right hr)]
 | .sc d a c lo hi l r rest,g,s,D,h,hD,ok=>by
  simp only[yN,aH]at ok;let⟨⟨Og,Of⟩,KO⟩:=ok;simp only[flatten];rw[xo];have hc:s.e c = .undef:=hD c (an Og)
  let⟨s1,h1,h2,h3,h4⟩:=xZ Γ l (c,a) s D (.inl hc) hD Of;rw[h1];simp only[bX];have hs1:vh s1 g:=by
   by_cases hg:g.1∈wr l
   .exact .inl (h4 _ hg)
   .unfold vh;rw[h3 _ hg];exact h
  rw[pR,Dy rfl hs1];simp only[bX];have hput:∀t,(s1.put (some d) .undef).e t=if t=d then .undef else s1.e t:=λt=>rfl
  let⟨s',k1,k2,k3,k4⟩:=xZ Γ rest g (s1.put (some d) .undef) (d::(wr l++D)) (B7 hs1 (some d)) (λt ht=>by
   rw[hput];split
   .rfl
   .rename_i hn
    rcases aP.1 ht with ht | ht
    .exact absurd ht hn
    .by_cases hl:t∈wr l
     .exact h4 t hl
     .rw[h3 t hl];exact hD t ((aX.1 ht).resolve_left hl)) KO
  refine⟨s',k1,by rw[k2];exact h2,λt ht=>?_,λt ht=>?_⟩
  .simp only[wr,aX,aP,not_or]at ht;rw[k3 t ht.2.2,hput,if_neg ht.2.1,h3 t ht.1]
  .by_cases hr : t ∈ wr rest
   .exact k4 t hr
   .rw[k3 t hr,hput];split
    .rfl
    .rename_i hn;simp only[wr,aX,aP]at ht
     rcases ht with ht | ht | ht
     .exact h4 t ht
     .exact absurd ht hn
     .exact absurd ht hr
def Mz{K:aC}{s s1:St}(ha:∀t,mY K t=false->s1.e t=s.e t){x:AO}(hx:x.live K=true):x.get s1.e=x.get s.e:=by
 cases x with
 |t i=>exact ha i (by simpa[AO.live]using hx)
 |c v=>rfl
theorem Cu{r:Nat×Nat}{K:aC}{t:Nat}:mY (r::K) t=((decide (r.1<=t)&&decide (t<=r.2))||mY K t):=rfl
def zN(Γ:kP):∀(l:IT)(K:aC)(g:Option (Nat×Bool))(s s' s1:St),D8 K l=true->(∀c a,g=some (c,a)->s1.e c = .bool a/\c∉wr l)->
  uZ Γ l s=some s'->s1.h=s.h->(∀t,mY K t=false->s1.e t=s.e t)->(∀t,mY K t=true->s.e t = .dead)->
  ∃s1',flat Γ (flatten l g) s1=some s1'/\s1'.h=s'.h/\(∀t,mY (yz l++K) t=false->s1'.e t=s'.e t)/\(∀t,mY (yz l++K) t=true->s'.e t = .dead)/\(∀t,t∉wr l->s1'.e t=s1.e t)
 | .nil,K,g,s,s',s1,ok,hg,hi,hh,ha,hd=>by
  simp only[uZ]at hi;cases hi;exact⟨s1,rfl,hh,ha,hd,λ_ _=>rfl⟩
 | .op d o rest,K,g,s,s',s1,ok,hg,hi,hh,ha,hd=>by
  simp only[D8,aH,aO]at ok;let⟨⟨Og,Of⟩,KO⟩:=ok;simp only[uZ,aI]at hi;let⟨⟨v,h'⟩,hx,hi⟩:=hi
  have hx1:exec Γ s1.e s1.h o=some (v,h'):=by
   rw[hh,EU o λx hx=>Mz ha (Og x hx)];exact hx
  have hs:j8 Γ ⟨d,g,o⟩ s1=some (v,h'):=by
   unfold j8;cases g with
   |none=>exact hx1
   |some g =>
    let⟨c,a⟩:=g;simp only[(hg c a rfl).1,if_true];exact hx1
  simp only[flatten];rw[pR,hs];simp only[bX]
  have hput:∀(s:St) t,(St.put ⟨s.e,h'⟩ d v).e t=if t∈vl d then v else s.e t:=by
   intro s t;cases d with
   |none=>simp[St.put,vl]
   |some q=>simp[St.put,Env.put,vl]
  have hph:∀(s:St),(St.put ⟨s.e,h'⟩ d v).h=h':=λs=>by cases d<;>rfl
  let⟨s1',k1,k2,k3,k4,k5⟩:=zN Γ rest K g (St.put ⟨s.e,h'⟩ d v) s' (St.put ⟨s1.e,h'⟩ d v) KO (λc a hga=>by
    let⟨q1,q2⟩:=hg c a hga;simp only[wr,aX,not_or]at q2;exact⟨by rw[hput,if_neg q2.1];exact q1,q2.2⟩) hi (by rw[hph,hph]) (λt ht=>by rw[hput,hput,ha t ht]) (λt ht=>by
    rw[hput,if_neg]
    .exact hd t ht
    .intro hm;have:=Of t hm;rw[ht]at this;cases this)
  refine⟨s1',k1,k2,k3,k4,λt ht=>?_⟩
  simp only[wr,aX,not_or]at ht;rw[k5 t ht.2,hput,if_neg ht.1]
 | .sc d a c lo hi l r rest,K,g,s,s',s1,ok,hg,hi',hh,ha,hd=>by
  simp only[D8,aH,cv]at ok;let⟨⟨⟨⟨⟨⟨⟨Og,Of⟩,KO⟩,IP⟩,ok5⟩,ok6⟩,ok7⟩,ok8⟩:=ok;have Ji:c∉wr l:=by simpa using Of
  have hin:∀t,t∈wr l->lo<=t/\t<=hi:=by
   intro t ht;have:=aO.1 KO t ht
   simpa using this
  simp only[uZ]at hi';split at hi'
  .rename_i b hb;have zW:s1.e c = .bool b:=by rw[ha c Og];exact hb
   simp only[aI]at hi';let⟨⟨v,h'⟩,hv,hi'⟩:=hi'
   have key:∃s2,flat Γ (flatten l (some (c,a))) s1=some s2/\s2.h=h'/\(∀t,t∉wr l->s2.e t=s1.e t)/\
     exec Γ s2.e s2.h (.pick (.t c) (if a then r else .c (.bool true)) (if a then .c (.bool false)else r))=some (v,h'):=by
    split at hv
    .rename_i hba;subst hba;simp only[aI]at hv;let⟨s3,Wf,hv⟩:=hv;let⟨s2,k1,k2,k3,k4,k5⟩:=zN Γ l K (some (c,b)) s s3 s1 IP (λc' a' he=>by cases he;exact⟨zW,Ji⟩) Wf hh ha hd
     split at hv
     .rename_i x hx;cases hv;refine⟨s2,k1,k2,k5,?_⟩;have yC:s2.e c = .bool b:=by rw[k5 c Ji];exact zW
      have hr:r.get s2.e = .bool x:=by rw[Mz k3 ok5];exact hx
      have hg2:(AO.t c).get s2.e = .bool b:=yC;cases b
      .simp only[exec,hg2,aU,if_false,hr,k2]
      .simp only[exec,hg2,if_true,hr,k2]
     .cases hv
    .rename_i hba;cases hv;let⟨s2,k1,k2,k3,k4⟩:=xZ Γ l (c,a) s1 [] (.inr ⟨b,zW,hba⟩) (λ_ h=>by cases h) ok6
     refine⟨s2,k1,by rw[k2,hh],k3,?_⟩
     have yC:s2.e c = .bool b:=by rw[k3 c Ji];exact zW
     cases a<;>cases b<;>first | exact absurd rfl hba | (have hg2:=yC;simp only[exec,AO.get,hg2,k2,hh,gA,gh,if_true,if_false,aU])
   let⟨s2,k1,k2,k3,k4⟩:=key
   have hs:j8 Γ ⟨some d,g,.pick (.t c) (if a then r else .c (.bool true)) (if a then .c (.bool false)else r)⟩ s2=some (v,h'):=by
    unfold j8;cases g with
    |none=>exact k4
    |some g =>
     let⟨c',a'⟩:=g;let⟨q1,q2⟩:=hg c' a' rfl;simp only[wr,aX,not_or]at q2;have:s2.e c' = .bool a':=by rw[k3 c' q2.1];exact q1
     simp only[this,if_true];exact k4
   have ug:∀t,mY ((lo,hi)::K) t=false->(St.put ⟨s2.e,h'⟩ (some d) v).e t=((s.e.kill lo hi).put d v) t:=by
    intro t ht;rw[Cu,eE]at ht;show (if t=d then v else s2.e t)=if t=d then v else(if lo<=t/\t<=hi then .dead else s.e t)
    split
    .rfl
    .have Z7:¬(lo<=t/\t<=hi):=by
      intro hc;have:=ht.1;simp[hc.1,hc.2]at this
     rw[if_neg Z7,k3 t λhm=>Z7 (hin t hm),ha t ht.2]
   have akN:∀t,mY ((lo,hi)::K) t=true->((s.e.kill lo hi).put d v) t = .dead:=by
    intro t ht;show (if t=d then v else(if lo<=t/\t<=hi then .dead else s.e t)) = .dead
    have uP:t≠d:=by
     rintro rfl
     rw[ok7]at ht;cases ht
    rw[if_neg uP];split
    .rfl
    .rename_i Z7;rw[Cu,bS]at ht;refine hd t (ht.resolve_left ?_)
     simpa using Z7
   let⟨s1',m1,m2,m3,m4,m5⟩:=zN Γ rest ((lo,hi)::K) g ⟨(s.e.kill lo hi).put d v,h'⟩ s' (St.put ⟨s2.e,h'⟩ (some d) v) ok8 (λc' a' he=>by
    let⟨q1,q2⟩:=hg c' a' he;simp only[wr,aX,aP,not_or]at q2;refine⟨?_,q2.2.2⟩;show (if c'=d then v else s2.e c')=_
    rw[if_neg q2.2.1,k3 c' q2.1];exact q1) hi' rfl ug akN
   have hK:∀t,mY (yz rest++(lo,hi)::K) t=mY (yz (.sc d a c lo hi l r rest)++K) t:=by
    intro t;simp only[yz,mY,List.any_append,jq,bK];cases(yz rest).any _<;>simp
   refine⟨s1',?_,m2,λt ht=>m3 t (by rw[hK];exact ht),λt ht=>m4 t (by rw[hK];exact ht),λt ht=>?_⟩
   .simp only[flatten];rw[xo,k1];simp only[bX];rw[pR,hs];exact m1
   .simp only[wr,aX,aP,not_or]at ht;rw[m5 t ht.2.2];show (if t=d then v else s2.e t)=_
    rw[if_neg ht.2.1,k3 t ht.1]
  .cases hi'
end Go.Am
