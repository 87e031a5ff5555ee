/- Part of the proof that TopTwoPartsCard holds. -/
import Derived.Test.YtghgbehknhmnaaaGreatDoorAmR
import Derived.Tactics
set_option linter.all false
namespace Go.Am
noncomputable def ja(Γ:jE)(x:AI)(s:St):Option (AV×AH) :=
 match x.guard with
 |none=>exec Γ s.e s.h x.op
 |some (g,i) =>
  match s.e g with
  | .bool b=>if b=i then exec Γ s.e s.h x.op else some (.undef,s.h)
  | .undef=>some (.undef,s.h)
  |_=>none
def mM(Γ:jE)(x:AI)(l:List AI)(s:St):flat Γ (x::l) s=(ja Γ x s).bind λr=>flat Γ l (St.put ⟨s.e,r.2⟩ x.dst r.1):=by
 let⟨dst,guard,op⟩:=x;cases guard with
 |none=>rfl
 |some g =>
  let⟨g,b⟩:=g;simp only[flat,ja];generalize s.e g=q;cases q<;>first | rfl | (dsimp only;split<;>rfl)
def tf(Γ:jE):∀(l b:List AI)(s:St),flat Γ (l++b) s=(flat Γ l s).bind (flat Γ b)
 | [],b,s=>rfl
 |x::l,b,s=>by
  rw[aK,mM,mM,Option.bind_assoc]
  congr 1
  funext r
  exact tf Γ l b _
def flatten:IT->Option (Nat×Bool)->List AI
 | .nil,_=>[]
 | .op d o rest,g=>⟨d,g,o⟩::flatten rest g
 | .sc d a c _ _ l r rest,g=>flatten l (some (c,a))++⟨some d,g,.pick (.t c) (if a then r else .c (.bool true)) (if a then .c (.bool false)else r)⟩::flatten rest g
def nJ(d:Option Nat):ax:=match d with | some t=>[t] | none=>[]
def wr:IT->ax
 | .nil=>[]
 | .op d _ rest=>nJ d++wr rest
 | .sc d _ _ _ _ l _ rest=>wr l++(d::wr rest)
def ku(K:aC)(t:Nat):Bool:=K.any λr=>decide (r.1<=t)&&decide (t<=r.2)
def AO.live(K:aC):AO->Bool
 | .t i=>!ku K i
 | .c _=>true
def sW:IT->aC
 | .nil=>[]
 | .op _ _ rest=>sW rest
 | .sc _ _ _ b h _ _ rest=>(b,h)::sW rest
def vm:ax->IT->Bool
 |_,.nil=>true
 |D,.op d _ rest=>vm (nJ d++D) rest
 |D,.sc d _ c _ _ l _ rest=>D.contains c&&vm D l&&vm (d::(wr l++D)) rest
def sS:aC->IT->Bool
 |_,.nil=>true
 |K,.op d o rest=>o.ops.all (AO.live K)&&(nJ d).all (λt=>!ku K t)&&sS K rest
 |K,.sc d a c b h l r rest=>!ku K c && !(wr l).contains c&&(wr l).all (λt=>decide (b<=t)&&decide (t<=h))&&sS K l&&r.live (sW l++K)&&vm [] l &&
   !ku ((b,h)::K) d&&sS ((b,h)::K) rest
def rG(s:St)(g:Nat×Bool):Prop:=s.e g.1 = .undef\/∃b,s.e g.1 = .bool b/\b≠g.2
def zU{Γ:jE}{x:AI}{s:St}{g:Nat×Bool}(hg:x.guard=some g)(h:rG s g):ja Γ x s=some (.undef,s.h):=by
 unfold ja;rw[hg];let⟨c,a⟩:=g
 rcases h with h | ⟨b,h,i⟩
 .simp only[h]
 .simp only[h,if_neg i]
def yI{s:St}{g:Nat×Bool}(h:rG s g)(d:Option Nat):rG (s.put d .undef) g:=by
 cases d with
 |none=>exact h
 |some t =>
  by_cases b:g.1=t
  .exact .inl (by simp[St.put,Env.put,b])
  .unfold rG St.put Env.put;simp only[if_neg b];exact h
def uk(Γ:jE):∀(l:IT)(g:Nat×Bool)(s:St)(D:ax),rG s g->(∀t∈D,s.e t = .undef)->vm D l=true->
  ∃s',flat Γ (flatten l (some g)) s=some s'/\s'.h=s.h/\(∀t,t∉wr l->s'.e t=s.e t)/\(∀t,t∈wr l->s'.e t = .undef)
 | .nil,g,s,D,h,v,ok=>⟨s,rfl,rfl,λ_ _=>rfl,λ_ b=>by cases b⟩
 | .op d o rest,g,s,D,h,v,ok=>by
  simp only[flatten];rw[mM,zU rfl h];simp only[vm]at ok
  have i:∀t,(s.put d .undef).e t=if t∈nJ d then .undef else s.e t:=by
   intro t;cases d with
   |none=>simp[St.put,nJ]
   |some q=>simp[St.put,Env.put,nJ]
  let⟨s',h1,h2,h3,h4⟩:=uk Γ rest g (s.put d .undef) (nJ d++D) (yI h d) (λt b=>by
   rw[i];split
   .rfl
   .rename_i y
    rcases aY.1 b with b | b
    .exact absurd b y
    .exact v t b) ok
  refine⟨s',h1,by rw[h2];cases d<;>rfl,λt b=>?_,λt b=>?_⟩
  .simp only[wr,aY,not_or]at b;rw[h3 t b.2,i,if_neg b.1]
  .by_cases n:t∈wr rest
   .exact h4 t n
   .rw[h3 t n,i];simp only[wr,aY]at b;rw[if_pos (b.resolve_right n)]
 | .sc d a c M N l r rest,g,s,D,h,v,ok=>by
  simp only[vm,aF]at ok;let⟨⟨E,A⟩,EB⟩:=ok;simp only[flatten];rw[tf];have L:s.e c = .undef:=v c (an E)
  let⟨z,h1,h2,h3,h4⟩:=uk Γ l (c,a) s D (.inl L) v A;rw[h1];simp only[cg];have x:rG z g:=by
   by_cases hg:g.1∈wr l
   .exact .inl (h4 _ hg)
   .unfold rG;rw[h3 _ hg];exact h
  rw[mM,zU rfl x];simp only[cg];have i:∀t,(z.put (some d) .undef).e t=if t=d then .undef else z.e t:=λt=>rfl
  let⟨s',K,H,F,G⟩:=uk Γ rest g (z.put (some d) .undef) (d::(wr l++D)) (yI x (some d)) (λt b=>by
   rw[i];split
   .rfl
   .rename_i y
    rcases bw.1 b with b | b
    .exact absurd b y
    .by_cases hl:t∈wr l
     .exact h4 t hl
     .rw[h3 t hl];exact v t ((aY.1 b).resolve_left hl)) EB
  refine⟨s',K,by rw[H];exact h2,λt b=>?_,λt b=>?_⟩
  .simp only[wr,aY,bw,not_or]at b;rw[F t b.2.2,i,if_neg b.2.1,h3 t b.1]
  .by_cases n : t ∈ wr rest
   .exact G t n
   .rw[F t n,i];split
    .rfl
    .rename_i y;simp only[wr,aY,bw]at b
     rcases b with b | b | b
     .exact h4 t b
     .exact absurd b y
     .exact absurd b n
def FW{K:aC}{s b:St}(l:∀t,ku K t=false->b.e t=s.e t){x:AO}(h:x.live K=true):x.get b.e=x.get s.e:=by
 cases x with
 |t i=>exact l i (by simpa[AO.live]using h)
 |c v=>rfl
theorem yY{r:Nat×Nat}{K:aC}{t:Nat}:ku (r::K) t=((decide (r.1<=t)&&decide (t<=r.2))||ku K t):=rfl
def sX(Γ:jE):∀(l:IT)(K:aC)(g:Option (Nat×Bool))(s s' z:St),sS K l=true->(∀c a,g=some (c,a)->z.e c = .bool a/\c∉wr l)->
  rT Γ l s=some s'->z.h=s.h->(∀t,ku K t=false->z.e t=s.e t)->(∀t,ku K t=true->s.e t = .dead)->
  ∃A,flat Γ (flatten l g) z=some A/\A.h=s'.h/\(∀t,ku (sW l++K) t=false->A.e t=s'.e t)/\(∀t,ku (sW l++K) t=true->s'.e t = .dead)/\(∀t,t∉wr l->A.e t=z.e t)
 | .nil,K,g,s,s',z,ok,hg,y,hh,W,hd=>by
  simp only[rT]at y;cases y;exact⟨z,rfl,hh,W,hd,λ_ _=>rfl⟩
 | .op d o rest,K,g,s,s',z,ok,hg,y,hh,W,hd=>by
  simp only[sS,aF,aM]at ok;let⟨⟨Y,X⟩,EB⟩:=ok;simp only[rT,aG]at y;let⟨⟨v,h'⟩,hx,y⟩:=y
  have hx1:exec Γ z.e z.h o=some (v,h'):=by
   rw[hh,Bl o λx hx=>FW W (Y x hx)];exact hx
  have hs:ja Γ ⟨d,g,o⟩ z=some (v,h'):=by
   unfold ja;cases g with
   |none=>exact hx1
   |some g =>
    let⟨c,a⟩:=g;simp only[(hg c a rfl).1,if_true];exact hx1
  simp only[flatten];rw[mM,hs];simp only[cg]
  have E:∀(s:St) t,(St.put ⟨s.e,h'⟩ d v).e t=if t∈nJ d then v else s.e t:=by
   intro s t;cases d with
   |none=>simp[St.put,nJ]
   |some q=>simp[St.put,Env.put,nJ]
  have hph:∀(s:St),(St.put ⟨s.e,h'⟩ d v).h=h':=λs=>by cases d<;>rfl
  let⟨A,Z,N,M,k4,k5⟩:=sX Γ rest K g (St.put ⟨s.e,h'⟩ d v) s' (St.put ⟨z.e,h'⟩ d v) EB (λc a hga=>by
    let⟨q1,L⟩:=hg c a hga;simp only[wr,aY,not_or]at L;exact⟨by rw[E,if_neg L.1];exact q1,L.2⟩) y (by rw[hph,hph]) (λt i=>by rw[E,E,W t i]) (λt i=>by
    rw[E,if_neg]
    .exact hd t i
    .intro hm;have:=X t hm;rw[i]at this;cases this)
  refine⟨A,Z,N,M,k4,λt i=>?_⟩
  simp only[wr,aY,not_or]at i;rw[k5 t i.2,E,if_neg i.1]
 | .sc d a c H y l r rest,K,g,s,s',z,ok,hg,F,hh,W,hd=>by
  simp only[sS,aF,cK]at ok;let⟨⟨⟨⟨⟨⟨⟨Y,X⟩,EB⟩,Hw⟩,PC⟩,ok6⟩,ok7⟩,ok8⟩:=ok;have GU:c∉wr l:=by simpa using X
  have hin:∀t,t∈wr l->H<=t/\t<=y:=by
   intro t i;have:=aM.1 EB t i
   simpa using this
  simp only[rT]at F;split at F
  .rename_i b hb;have Q:z.e c = .bool b:=by rw[W c Y];exact hb
   simp only[aG]at F;let⟨⟨v,h'⟩,U,F⟩:=F
   have key:∃n,flat Γ (flatten l (some (c,a))) z=some n/\n.h=h'/\(∀t,t∉wr l->n.e t=z.e t)/\
     exec Γ n.e n.h (.pick (.t c) (if a then r else .c (.bool true)) (if a then .c (.bool false)else r))=some (v,h'):=by
    split at U
    .rename_i P;subst P;simp only[aG]at U;let⟨s3,hs3,U⟩:=U;let⟨n,Z,N,M,k4,k5⟩:=sX Γ l K (some (c,b)) s s3 z Hw (λT a' he=>by cases he;exact⟨Q,GU⟩) hs3 hh W hd
     split at U
     .rename_i x hx;cases U;refine⟨n,Z,N,k5,?_⟩;have NW:n.e c = .bool b:=by rw[k5 c GU];exact Q
      have hr:r.get n.e = .bool x:=by rw[FW M PC];exact hx
      have O:(AO.t c).get n.e = .bool b:=NW;cases b
      .simp only[exec,O,aZ,if_false,hr,N]
      .simp only[exec,O,if_true,hr,N]
     .cases U
    .rename_i P;cases U;let⟨n,Z,N,M,k4⟩:=uk Γ l (c,a) z [] (.inr ⟨b,Q,P⟩) (λ_ h=>by cases h) ok6
     refine⟨n,Z,by rw[N,hh],M,?_⟩
     have NW:n.e c = .bool b:=by rw[M c GU];exact Q
     cases a<;>cases b<;>first | exact absurd rfl P | (have O:=NW;simp only[exec,AO.get,O,N,hh,eM,eA,if_true,if_false,aZ])
   let⟨n,Z,N,M,k4⟩:=key
   have hs:ja Γ ⟨some d,g,.pick (.t c) (if a then r else .c (.bool true)) (if a then .c (.bool false)else r)⟩ n=some (v,h'):=by
    unfold ja;cases g with
    |none=>exact k4
    |some g =>
     let⟨T,a'⟩:=g;let⟨q1,L⟩:=hg T a' rfl;simp only[wr,aY,not_or]at L;have:n.e T = .bool a':=by rw[M T L.1];exact q1
     simp only[this,if_true];exact k4
   have S:∀t,ku ((H,y)::K) t=false->(St.put ⟨n.e,h'⟩ (some d) v).e t=((s.e.kill H y).put d v) t:=by
    intro t i;rw[yY,eX]at i;show (if t=d then v else n.e t)=if t=d then v else(if H<=t/\t<=y then .dead else s.e t)
    split
    .rfl
    .have G:¬(H<=t/\t<=y):=by
      intro hc;have:=i.1;simp[hc.1,hc.2]at this
     rw[if_neg G,M t λhm=>G (hin t hm),W t i.2]
   have adW:∀t,ku ((H,y)::K) t=true->((s.e.kill H y).put d v) t = .dead:=by
    intro t i;show (if t=d then v else(if H<=t/\t<=y then .dead else s.e t)) = .dead
    have htd:t≠d:=by
     rintro rfl
     rw[ok7]at i;cases i
    rw[if_neg htd];split
    .rfl
    .rename_i G;rw[yY,bR]at i;refine hd t (i.resolve_left ?_)
     simpa using G
   let⟨A,m1,m2,m3,m4,m5⟩:=sX Γ rest ((H,y)::K) g ⟨(s.e.kill H y).put d v,h'⟩ s' (St.put ⟨n.e,h'⟩ (some d) v) ok8 (λT a' he=>by
    let⟨q1,L⟩:=hg T a' he;simp only[wr,aY,bw,not_or]at L;refine⟨?_,L.2.2⟩;show (if T=d then v else n.e T)=_
    rw[if_neg L.2.1,M T L.1];exact q1) F rfl S adW
   have hK:∀t,ku (sW rest++(H,y)::K) t=ku (sW (.sc d a c H y l r rest)++K) t:=by
    intro t;simp only[sW,ku,List.any_append,List.any_cons,aK];cases(sW rest).any _<;>simp
   refine⟨A,?_,m2,λt i=>m3 t (by rw[hK];exact i),λt i=>m4 t (by rw[hK];exact i),λt i=>?_⟩
   .simp only[flatten];rw[tf,Z];simp only[cg];rw[mM,hs];exact m1
   .simp only[wr,aY,bw,not_or]at i;rw[m5 t i.2.2];show (if t=d then v else n.e t)=_
    rw[if_neg i.2.1,M t i.1]
  .cases F
end Go.Am
