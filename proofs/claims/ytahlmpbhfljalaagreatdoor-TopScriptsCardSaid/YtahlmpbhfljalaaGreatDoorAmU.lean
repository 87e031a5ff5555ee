/- Part of the proof that TopScriptsCard holds. -/
import Derived.Test.YtahlmpbhfljalaaGreatDoorAmR
import Derived.Tactics
set_option linter.all false
namespace Go.Am
noncomputable def step1(Γ:ja)(x:AI)(s:St):Option (AV×AH) :=
 match x.guard with
 |none=>exec Γ s.e s.h x.op
 |some (g,i) =>
  match s.e g with
  | .bool b=>if b=i then exec Γ s.e s.h x.op else some (.undef,s.h)
  | .undef=>some (.undef,s.h)
  |_=>none
def lT(Γ:ja)(x:AI)(l:List AI)(s:St):flat Γ (x::l) s=(step1 Γ x s).bind λr=>flat Γ l (St.put ⟨s.e,r.2⟩ x.dst r.1):=by
 let⟨dst,guard,op⟩:=x;cases guard with
 |none=>rfl
 |some g =>
  let⟨g,b⟩:=g;simp only[flat,step1];generalize s.e g=q;cases q<;>first | rfl | (dsimp only;split<;>rfl)
def sS(Γ:ja):∀(l b:List AI)(s:St),flat Γ (l++b) s=(flat Γ l s).bind (flat Γ b)
 | [],b,s=>rfl
 |x::l,b,s=>by
  rw[aM,lT,lT,Option.bind_assoc]
  congr 1
  funext r
  exact sS Γ l b _
def flatten:IT->Option (Nat×Bool)->List AI
 | .nil,_=>[]
 | .op d o rest,g=>⟨d,g,o⟩::flatten rest g
 | .sc d a c _ _ l r rest,g=>flatten l (some (c,a))++⟨some d,g,.pick (.t c) (if a then r else .c (.bool true)) (if a then .c (.bool false)else r)⟩::flatten rest g
def mz(d:Option Nat):au:=match d with | some t=>[t] | none=>[]
def wr:IT->au
 | .nil=>[]
 | .op d _ rest=>mz d++wr rest
 | .sc d _ _ _ _ l _ rest=>wr l++(d::wr rest)
def jN(K:aB)(t:Nat):Bool:=K.any λr=>decide (r.1<=t)&&decide (t<=r.2)
def AO.live(K:aB):AO->Bool
 | .t i=>!jN K i
 | .c _=>true
def sE:IT->aB
 | .nil=>[]
 | .op _ _ rest=>sE rest
 | .sc _ _ _ b h _ _ rest=>(b,h)::sE rest
def uH:au->IT->Bool
 |_,.nil=>true
 |D,.op d _ rest=>uH (mz d++D) rest
 |D,.sc d _ c _ _ l _ rest=>D.contains c&&uH D l&&uH (d::(wr l++D)) rest
def r8:aB->IT->Bool
 |_,.nil=>true
 |K,.op d o rest=>o.ops.all (AO.live K)&&(mz d).all (λt=>!jN K t)&&r8 K rest
 |K,.sc d a c b h l r rest=>!jN K c && !(wr l).contains c&&(wr l).all (λt=>decide (b<=t)&&decide (t<=h))&&r8 K l&&r.live (sE l++K)&&uH [] l &&
   !jN ((b,h)::K) d&&r8 ((b,h)::K) rest
def qN(s:St)(g:Nat×Bool):Prop:=s.e g.1 = .undef\/∃b,s.e g.1 = .bool b/\b≠g.2
def yK{Γ:ja}{x:AI}{s:St}{g:Nat×Bool}(hg:x.guard=some g)(h:qN s g):step1 Γ x s=some (.undef,s.h):=by
 unfold step1;rw[hg];let⟨c,a⟩:=g
 rcases h with h | ⟨b,h,i⟩
 .simp only[h]
 .simp only[h,if_neg i]
def xo{s:St}{g:Nat×Bool}(h:qN s g)(d:Option Nat):qN (s.put d .undef) g:=by
 cases d with
 |none=>exact h
 |some t =>
  by_cases b:g.1=t
  .exact .inl (by simp[St.put,Env.put,b])
  .unfold qN St.put Env.put;simp only[if_neg b];exact h
def tN(Γ:ja):∀(l:IT)(g:Nat×Bool)(s:St)(D:au),qN s g->(∀t∈D,s.e t = .undef)->uH D l=true->
  ∃s',flat Γ (flatten l (some g)) s=some s'/\s'.h=s.h/\(∀t,t∉wr l->s'.e t=s.e t)/\(∀t,t∈wr l->s'.e t = .undef)
 | .nil,g,s,D,h,v,ok=>⟨s,rfl,rfl,λ_ _=>rfl,λ_ b=>by cases b⟩
 | .op d o rest,g,s,D,h,v,ok=>by
  simp only[flatten];rw[lT,yK rfl h];simp only[uH]at ok
  have i:∀t,(s.put d .undef).e t=if t∈mz d then .undef else s.e t:=by
   intro t;cases d with
   |none=>simp[St.put,mz]
   |some q=>simp[St.put,Env.put,mz]
  let⟨s',h1,h2,h3,h4⟩:=tN Γ rest g (s.put d .undef) (mz d++D) (xo h d) (λt b=>by
   rw[i];split
   .rfl
   .rename_i y
    rcases aZ.1 b with b | b
    .exact absurd b y
    .exact v t b) ok
  refine⟨s',h1,by rw[h2];cases d<;>rfl,λt b=>?_,λt b=>?_⟩
  .simp only[wr,aZ,not_or]at b;rw[h3 t b.2,i,if_neg b.1]
  .by_cases n:t∈wr rest
   .exact h4 t n
   .rw[h3 t n,i];simp only[wr,aZ]at b;rw[if_pos (b.resolve_right n)]
 | .sc d a c L M l r rest,g,s,D,h,v,ok=>by
  simp only[uH,aC]at ok;let⟨⟨A,z⟩,DP⟩:=ok;simp only[flatten];rw[sS];have K:s.e c = .undef:=v c (ak A)
  let⟨s1,h1,h2,h3,h4⟩:=tN Γ l (c,a) s D (.inl K) v z;rw[h1];simp only[bH];have x:qN s1 g:=by
   by_cases hg:g.1∈wr l
   .exact .inl (h4 _ hg)
   .unfold qN;rw[h3 _ hg];exact h
  rw[lT,yK rfl x];simp only[bH];have i:∀t,(s1.put (some d) .undef).e t=if t=d then .undef else s1.e t:=λt=>rfl
  let⟨s',H,G,E,F⟩:=tN Γ rest g (s1.put (some d) .undef) (d::(wr l++D)) (xo x (some d)) (λt b=>by
   rw[i];split
   .rfl
   .rename_i y
    rcases aY.1 b with b | b
    .exact absurd b y
    .by_cases hl:t∈wr l
     .exact h4 t hl
     .rw[h3 t hl];exact v t ((aZ.1 b).resolve_left hl)) DP
  refine⟨s',H,by rw[G];exact h2,λt b=>?_,λt b=>?_⟩
  .simp only[wr,aZ,aY,not_or]at b;rw[E t b.2.2,i,if_neg b.2.1,h3 t b.1]
  .by_cases n : t ∈ wr rest
   .exact F t n
   .rw[E t n,i];split
    .rfl
    .rename_i y;simp only[wr,aZ,aY]at b
     rcases b with b | b | b
     .exact h4 t b
     .exact absurd b y
     .exact absurd b n
def Fx{K:aB}{s s1:St}(b:∀t,jN K t=false->s1.e t=s.e t){x:AO}(hx:x.live K=true):x.get s1.e=x.get s.e:=by
 cases x with
 |t i=>exact b i (by simpa[AO.live]using hx)
 |c v=>rfl
theorem xK{r:Nat×Nat}{K:aB}{t:Nat}:jN (r::K) t=((decide (r.1<=t)&&decide (t<=r.2))||jN K t):=rfl
def sF(Γ:ja):∀(l:IT)(K:aB)(g:Option (Nat×Bool))(s s' s1:St),r8 K l=true->(∀c a,g=some (c,a)->s1.e c = .bool a/\c∉wr l)->
  qX Γ l s=some s'->s1.h=s.h->(∀t,jN K t=false->s1.e t=s.e t)->(∀t,jN K t=true->s.e t = .dead)->
  ∃z,flat Γ (flatten l g) s1=some z/\z.h=s'.h/\(∀t,jN (sE l++K) t=false->z.e t=s'.e t)/\(∀t,jN (sE l++K) t=true->s'.e t = .dead)/\(∀t,t∉wr l->z.e t=s1.e t)
 | .nil,K,g,s,s',s1,ok,hg,y,Z,U,hd=>by
  simp only[qX]at y;cases y;exact⟨s1,rfl,Z,U,hd,λ_ _=>rfl⟩
 | .op d o rest,K,g,s,s',s1,ok,hg,y,Z,U,hd=>by
  simp only[r8,aC,aJ]at ok;let⟨⟨X,W⟩,DP⟩:=ok;simp only[qX,aD]at y;let⟨⟨v,h'⟩,hx,y⟩:=y
  have hx1:exec Γ s1.e s1.h o=some (v,h'):=by
   rw[Z,zU o λx hx=>Fx U (X x hx)];exact hx
  have hs:step1 Γ ⟨d,g,o⟩ s1=some (v,h'):=by
   unfold step1;cases g with
   |none=>exact hx1
   |some g =>
    let⟨c,a⟩:=g;simp only[(hg c a rfl).1,if_true];exact hx1
  simp only[flatten];rw[lT,hs];simp only[bH]
  have A:∀(s:St) t,(St.put ⟨s.e,h'⟩ d v).e t=if t∈mz d then v else s.e t:=by
   intro s t;cases d with
   |none=>simp[St.put,mz]
   |some q=>simp[St.put,Env.put,mz]
  have hph:∀(s:St),(St.put ⟨s.e,h'⟩ d v).h=h':=λs=>by cases d<;>rfl
  let⟨z,Y,M,L,k4,k5⟩:=sF Γ rest K g (St.put ⟨s.e,h'⟩ d v) s' (St.put ⟨s1.e,h'⟩ d v) DP (λc a hga=>by
    let⟨q1,H⟩:=hg c a hga;simp only[wr,aZ,not_or]at H;exact⟨by rw[A,if_neg H.1];exact q1,H.2⟩) y (by rw[hph,hph]) (λt i=>by rw[A,A,U t i]) (λt i=>by
    rw[A,if_neg]
    .exact hd t i
    .intro hm;have:=W t hm;rw[i]at this;cases this)
  refine⟨z,Y,M,L,k4,λt i=>?_⟩
  simp only[wr,aZ,not_or]at i;rw[k5 t i.2,A,if_neg i.1]
 | .sc d a c G y l r rest,K,g,s,s',s1,ok,hg,E,Z,U,hd=>by
  simp only[r8,aC,cD]at ok;let⟨⟨⟨⟨⟨⟨⟨X,W⟩,DP⟩,He⟩,Lj⟩,ok6⟩,ok7⟩,ok8⟩:=ok;have Fq:c∉wr l:=by simpa using W
  have hin:∀t,t∈wr l->G<=t/\t<=y:=by
   intro t i;have:=aJ.1 DP t i
   simpa using this
  simp only[qX]at E;split at E
  .rename_i b hb;have P:s1.e c = .bool b:=by rw[U c X];exact hb
   simp only[aD]at E;let⟨⟨v,h'⟩,T,E⟩:=E
   have key:∃n,flat Γ (flatten l (some (c,a))) s1=some n/\n.h=h'/\(∀t,t∉wr l->n.e t=s1.e t)/\
     exec Γ n.e n.h (.pick (.t c) (if a then r else .c (.bool true)) (if a then .c (.bool false)else r))=some (v,h'):=by
    split at T
    .rename_i O;subst O;simp only[aD]at T;let⟨s3,hs3,T⟩:=T;let⟨n,Y,M,L,k4,k5⟩:=sF Γ l K (some (c,b)) s s3 s1 He (λS a' he=>by cases he;exact⟨P,Fq⟩) hs3 Z U hd
     split at T
     .rename_i x hx;cases T;refine⟨n,Y,M,k5,?_⟩;have Nz:n.e c = .bool b:=by rw[k5 c Fq];exact P
      have hr:r.get n.e = .bool x:=by rw[Fx L Lj];exact hx
      have N:(AO.t c).get n.e = .bool b:=Nz;cases b
      .simp only[exec,N,bq,if_false,hr,M]
      .simp only[exec,N,if_true,hr,M]
     .cases T
    .rename_i O;cases T;let⟨n,Y,M,L,k4⟩:=tN Γ l (c,a) s1 [] (.inr ⟨b,P,O⟩) (λ_ h=>by cases h) ok6
     refine⟨n,Y,by rw[M,Z],L,?_⟩
     have Nz:n.e c = .bool b:=by rw[L c Fq];exact P
     cases a<;>cases b<;>first | exact absurd rfl O | (have N:=Nz;simp only[exec,AO.get,N,M,Z,eA,ef,if_true,if_false,bq])
   let⟨n,Y,M,L,k4⟩:=key
   have hs:step1 Γ ⟨some d,g,.pick (.t c) (if a then r else .c (.bool true)) (if a then .c (.bool false)else r)⟩ n=some (v,h'):=by
    unfold step1;cases g with
    |none=>exact k4
    |some g =>
     let⟨S,a'⟩:=g;let⟨q1,H⟩:=hg S a' rfl;simp only[wr,aZ,not_or]at H;have:n.e S = .bool a':=by rw[L S H.1];exact q1
     simp only[this,if_true];exact k4
   have Q:∀t,jN ((G,y)::K) t=false->(St.put ⟨n.e,h'⟩ (some d) v).e t=((s.e.kill G y).put d v) t:=by
    intro t i;rw[xK,eG]at i;show (if t=d then v else n.e t)=if t=d then v else(if G<=t/\t<=y then .dead else s.e t)
    split
    .rfl
    .have F:¬(G<=t/\t<=y):=by
      intro hc;have:=i.1;simp[hc.1,hc.2]at this
     rw[if_neg F,L t λhm=>F (hin t hm),U t i.2]
   have adW:∀t,jN ((G,y)::K) t=true->((s.e.kill G y).put d v) t = .dead:=by
    intro t i;show (if t=d then v else(if G<=t/\t<=y then .dead else s.e t)) = .dead
    have htd:t≠d:=by
     rintro rfl
     rw[ok7]at i;cases i
    rw[if_neg htd];split
    .rfl
    .rename_i F;rw[xK,bP]at i;refine hd t (i.resolve_left ?_)
     simpa using F
   let⟨z,m1,m2,m3,m4,m5⟩:=sF Γ rest ((G,y)::K) g ⟨(s.e.kill G y).put d v,h'⟩ s' (St.put ⟨n.e,h'⟩ (some d) v) ok8 (λS a' he=>by
    let⟨q1,H⟩:=hg S a' he;simp only[wr,aZ,aY,not_or]at H;refine⟨?_,H.2.2⟩;show (if S=d then v else n.e S)=_
    rw[if_neg H.2.1,L S H.1];exact q1) E rfl Q adW
   have hK:∀t,jN (sE rest++(G,y)::K) t=jN (sE (.sc d a c G y l r rest)++K) t:=by
    intro t;simp only[sE,jN,List.any_append,List.any_cons,aM];cases(sE rest).any _<;>simp
   refine⟨z,?_,m2,λt i=>m3 t (by rw[hK];exact i),λt i=>m4 t (by rw[hK];exact i),λt i=>?_⟩
   .simp only[flatten];rw[sS,Y];simp only[bH];rw[lT,hs];exact m1
   .simp only[wr,aZ,aY,not_or]at i;rw[m5 t i.2.2];show (if t=d then v else n.e t)=_
    rw[if_neg i.2.1,L t i.1]
  .cases E
end Go.Am
