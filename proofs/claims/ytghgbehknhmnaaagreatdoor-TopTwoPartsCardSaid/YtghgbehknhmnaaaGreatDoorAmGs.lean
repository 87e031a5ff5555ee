/- Part of the proof that TopTwoPartsCard holds. -/
import Derived.Test.YtghgbehknhmnaaaGreatDoorTrQ
import Derived.Test.YtghgbehknhmnaaaGreatDoorAmPu
set_option linter.all false
namespace Go.Am
open Go.Tr
attribute [local simp] Go.Am.oB Go.Am.uT Go.Am.uU Go.Am.uV Go.Am.uW Go.Am.uN Go.Am.uO Go.Am.uP Go.Am.uQ Go.Am.uX Go.Am.uY Go.Am.qB Go.Am.qA Go.Am.qD Go.Am.qC Go.Am.lS Go.Am.j6
variable{Γ:jE}{X:AH}{z n L:Nat}
def vX{cs:List AV}(h:cs.length=n):Am.shape n true cs=some (.agg cs):=by
 subst h;exact Co cs
def uI(n:Nat):AV->Bool
 | .own b _ _ _=>decide (b<n)
 | .ptr b _ _ _=>decide (b<n)
 | .mb b=>decide (b<n)
 | .undef=>true
 | .fn _ a c=>(a++c).all λx=>x.j8||match x with | .ptr b _ _ _=>decide (b<n) | .mb b=>decide (b<n) | _=>false
 |v=>v.jW
def ve(n:Nat):AB->Bool
 | .var cs=>cs.all (uI n)
 | .mp _ es=>es.all λp=>p.2.KM||uI n p.2
 |_=>true
def oE(X:AH):Prop:=X.all (ve X.length)=true
def FB{R:ax}(F:n<=L)(E:∀r∈R,n<=r)(h0:AH){c:AV}(y:uI n c=true):kF L R h0 c=c:=by
 have l:∀b,b<n->R.contains b=false:=λb q=>by
  cases A:R.contains b with
  |false=>rfl
  |true =>
   have:=E b (an A)
   omega
 cases c with
 |own b v o k =>
  have q:b<n:=by simpa[uI]using y
  simp only[kF,l b q,if_pos (show b<L by omega)]
  rfl
 |ptr b v i o =>
  have q:b<n:=by simpa[uI]using y
  simp only[kF,l b q];rw[if_pos ⟨af,ai⟩]
 |mb b =>
  have q:b<n:=by simpa[uI]using y
  simp only[kF,l b q];rw[if_pos ⟨af,ai⟩]
 |undef=>rfl
 |fn f a c =>
  simp only[kF];rw[if_pos];simp only[uI,aM]at y⊢;intro x z;have:=y x z;rw[bR]at this⊢
  rcases this with h | h
  .exact .inl h
  .right;cases x<;>simp_all
   .omega
   .omega
 |_=>simp_all[uI,kF,AV.jW]
def Nf{R:ax}(o:n<=L)(l:∀r∈R,n<=r)(h0:AH){c:AV}(b:(c.KM||uI n c)=true):kL L R h0 c=c:=by
 cases h:c.KM with
 |true=>exact I5 h
 |false =>
  rw[h,fU]at b;have i:=FB o l h0 b;unfold kL;split
  .rfl
  .cases c<;>first | exact i | (simp[uI,AV.jW]at b;done)
def AE{n L:Nat}{R:ax}(A:n<=L)(y:∀r∈R,n<=r)(h0:AH):∀(h:AH)(i:Nat),h.all (ve n)=true->i+h.length<=n->jD L R h0 i h=h
 | [],_,_,_=>rfl
 |b::h,i,o,G=>by
  simp only[bV,aF]at o;simp only[aS]at G;simp only[jD,AE A y h0 h (i+1) o.2 af]
  have E:R.contains i=false:=by
   cases F:R.contains i with
   |false=>rfl
   |true =>
    have:=y i (an F)
    omega
  congr 1
  cases b with
  |gone=>rfl
  |var cs =>
   simp only[mz,AB.var.injEq];have l:cs.all (uI n)=true:=o.1;rw[aM]at l
   conv=>rhs;rw[<-fA cs]
   exact dU λx z=>FB A y h0 (l x z)
  |row v sz es=>simp only[mz,E];rfl
  |me v sz es=>simp only[mz,E];rfl
  |mp q es =>
   simp only[mz,AB.mp.injEq,true_and];have l:(es.all λp=>p.2.KM||uI n p.2)=true:=o.1
   rw[aM]at l
   conv=>rhs;rw[<-fA es]
   refine dU λx z=>?_
   rw[Nf A y h0 (l x z)];rfl
def oE.same(b:oE X)(h0:AH):jD X.length [] h0 0 X=X:=AE (aV _) ai h0 X 0 b af
def oE.tail(l:oE X){R:ax}(o:X.length<=L)(n:∀r∈R,X.length<=r)(h0 Y:AH):jD L R h0 0 (X++Y)=X++jD L R h0 X.length Y:=by
 have app:∀(a b:AH)(i:Nat),jD L R h0 i (a++b)=jD L R h0 i a++jD L R h0 (i+a.length) b:=by
  intro a b
  induction a with
  |nil=>intro i;simp[jD]
  |cons x a h =>
   intro i;simp only[aK,jD,h,aS];rw[show i+1+a.length=i+(a.length+1)from by omega]
 rw[app,AE o n h0 X 0 l af,bW]
def kf(h:X.all gd=true):oE X:=by
 unfold oE;rw[aM]at h⊢;intro b n;have:=h b n;cases b with
 |var cs =>
  simp only[gd,ve,aM]at this⊢;intro c l;have:=this c l;cases c<;>simp_all[uI,AV.jW]
 |mp q es =>
  simp only[gd,ve,aM]at this⊢;exact λp i=>by rw[this p i];rfl
 |_=>exact this
def Rd{α:Type}(X:AH)(z:Nat)(b:AV)(cs:α->List AV)(l:List α):Prop :=
 zX false b=some l.length/\∀k (h:k<l.length),∃p,PY z b (.int .i64 (k:Int)) X=some (p,X)/\jc X p=some (cs l[k])
def xk{α:Type}(X:AH){cs:α->List AV}(b:∀x,(cs x).length=z)(l:List α)(f:Bool):Rd X z (.b9 f (l.map λx=>.agg (cs x))) cs l:=by
 refine⟨aq,λk h=>⟨.iV (cs l[k]),?_,rfl⟩⟩
 simp(disch:=omega)[h,b]
def bIx(z:Nat):AC:=.seq (.ops (.op (some 9) (.bin .lss (.t 8) (.t 7)) (.nil)))
 (.seq (.cond (.t 9) (.skip) (.exit 0))
 (.seq (.block 1 (.seq (.ops (.op (some 10) (.mv (.t 8)) (.op (some 5) (.mv (.t 10)) (.nil))))
 (.seq (.ops (.op (some 11) (.mv (.t 1)) (.op (some 12) (.mv (.t 0)) (.op (some 13) (.mv (.t 5)) (.op (some 14) (.FQ z (.t 12) (.t 13)) (.op (some 15) (.load z true (.t 14)) (.op (some 16) (.lQ (.t 11) [(.t 15)]) (.nil))))))))
 (.cond (.t 16) (.seq (.ops (.op (some 17) (.mv (.t 5)) (.op (some 4) (.mv (.t 17)) (.nil))))
 (.ret)) (.skip)))))
 (.ops (.op (some 18) (.bin .add (.t 8) (.c (.int .i64 1))) (.op (some 8) (.mv (.t 18)) (.nil))))))
def dIx(z:Nat):AC:=bIx z
@[simp]theorem eIx{V:aB}{ρ:Type}(z:Nat)(k:AX->St->Option ρ)(s:St):eval Γ (dIx z) V ρ k s=eval Γ (bIx z) V ρ k s:=rfl
def cIx(z:Nat):AF:=AF.mk 19 [.t 4] (.seq (.ops (.op (some 4) (.mv (.c (.int .i64 0))) (.nil)))
 (.seq (.seq (.ops (.op (some 6) (.mv (.t 0)) (.op (some 7) (.len false (.t 6)) (.op (some 8) (.mv (.c (.int .i64 0))) (.nil)))))
 (.block 0 (.loop [8] [(4,5),(8,18)] [] [(.exit 0,[]),(.ret,[4])] (dIx z))))
 (.seq (.ops (.op (some 4) (.mv (.c (.int .i64 (-1)))) (.nil)))
 (.ret))))
def EC{α:Type}(l:List α)(q:α->Bool):Int:=(l.find? q).elim (-1) λ_=>((l.findIdx q:Nat):Int)
def DT{α:Type}(l:List α)(q:α->Bool): -1<=EC l q/\EC l q<l.length/\(0<=EC l q↔l.any q=true):=by
 unfold EC;cases b:l.find? q with
 |none =>
  refine⟨ai,by simp only[bS];omega,?_⟩
  rw[ct];simp only[bS]
  constructor
  .omega
  .rintro⟨x,i,n⟩
   exact absurd n (cD.1 b x i)
 |some y =>
  have h:l.findIdx q<l.length:=cT ⟨y,bI b,cL b⟩;refine⟨ai,an h,?_⟩
  rw[ct];simp only[bC];exact⟨λ_=>⟨y,bI b,cL b⟩,λ_=>af⟩
def GB{α:Type}{cs:α->List AV}(U:∀x,(cs x).length=z){l:List α}(hl:l.length<=1000000000000){K:AV}(G:oE X)(P:Rd X z K cs l)(g:FuncId)(first cap:List AV)(q:α->Bool)
  (hg:∀x∈l,∃Z,Z.all gd=true/\eT Γ g (first ++ .agg (cs x)::cap) X=some (.bool (q x),X++Z)):∃Z,Z.all gd=true/\kU Γ (cIx z) [K,.fn (.func g) first cap] X=some (.int .i64 (EC l q),X++Z):=by
 have h:∀e0:Env,e0 0=K->e0 7 = .int .i64 l.length->e0 1 = .fn (.func g) first cap->
   ∃y,(∃Z,Z.all gd=true/\y=(l.find? q).elim (AX.exit 0,[],X) λ_=>(.ret,[.int .i64 (l.findIdx q:Nat)],X++Z))/\iter (round Γ [8] [(.exit 0,[]),(.ret,[4])] (dIx z) e0 X.length []) ([.int .i64 0],X)=some y:=λe0 h0 O h1 =>
  iQ (f := round Γ [8] [(.exit 0, []), (.ret, [4])] (dIx z) e0 X.length []) l.length (λi (_ : Unit) => ([.int .i64 (i : Int)], X)) (λy => ∃ Z, Z.all gd = true /\ y = (l.find? q).elim (AX.exit 0, [], X) λ_ => (.ret, [.int .i64 (l.findIdx q : Nat)], X ++ Z)) (λi _ => ∀ j (h : j < l.length), j < i -> q l[j] = false)
   (λk _ hk H=>by
    let⟨Z,N,h⟩:=hg _ (aP hk);let⟨p,Q,T⟩:=P.2 k hk;have v:=vX (U l[k]);have M:=fm (l₁:=X) (l₂:=Z) rfl;cases F:q l[k]with
    |true =>
     have E:l.findIdx q=k:=(List.findIdx_eq hk).2 ⟨F,λj r=>H j af r⟩
     have n:l.find? q=some l[k]:=by rw[<-lu,E,aH hk]
     refine .inr ⟨_,⟨Z,N,rfl⟩,?_⟩;rw[n,E];rw[F]at h;generalize l[k]=y at *
     simp(disch:=omega)[round_eq,bIx,h0,O,h1,hk,Q,T,v,h]
    |false =>
     refine .inl ⟨(),λj r W=>?_,?_⟩
     .by_cases A:j=k
      .subst A;exact F
      .exact H j r af
     .rw[F]at h;generalize l[k]=y at *
      simp(disch:=omega)[round_eq,bIx,h0,O,h1,hk,Q,T,v,h,M,G.tail,G.same])
   (λ_ H=>by
    have n:l.find? q=none:=cD.2 λx L=>by
     obtain⟨j,r,rfl⟩:=bp.1 L;rw[H j r r];simp
    exact⟨_,⟨[],rfl,rfl⟩,by rw[n];simp(disch:=omega)[round_eq,bIx,h0,O,h1,G.same]⟩) (aT _) () (λ_ _ h=>af)
 have hs:=P.1;generalize b:kU Γ (cIx z) _ _=res;rw[b6]at b;simp(disch:=omega)[-zX,cIx,hs,G.same]at b;generalize L:iter _ _=o at b;obtain⟨_,⟨Z,N,rfl⟩,rfl⟩:∃y,_/\o=some y:=by rw[<-L];exact h _ aq aq aq
 unfold EC;cases S:l.find? q with
 |none =>
  rw[S]at b;simp(disch:=omega)at b;exact⟨[],rfl,by rw[<-b,cC];rfl⟩
 |some y =>
  rw[S]at b;simp(disch:=omega)at b;exact⟨Z,N,b.symm⟩
def cCf(k:FuncId):AF:=AF.mk 9 [.t 4] (.seq (.ops (.op (some 4) (.mv (.c (.bool false))) (.nil)))
 (.seq (.ops (.op (some 5) (.mv (.t 0)) (.op (some 6) (.mv (.t 1)) (.op (some 7) (.call k [(.t 5),(.t 6)]) (.op (some 8) (.bin .geq (.t 7) (.c (.int .i64 0))) (.op (some 4) (.mv (.t 8)) (.nil)))))))
 (.ret)))
def cfG{α:Type}{l:List α}{q:α->Bool}{k:FuncId}{n r:AV}{X':AH}(h:eT Γ k [n,r] X=some (.int .i64 (EC l q),X')):kU Γ (cCf k) [n,r] X=some (.bool (l.any q),X'):=by
 rw[b6];let⟨_,_,o⟩:=DT l q;generalize EC l q=i at *
 by_cases c:0<=i
 .have b:=o.1 c;simp(disch:=omega)[cCf,h,c,b]
 .have b:l.any q=false:=by simpa using λh=>c (o.2 h)
  simp(disch:=omega)[cCf,h,c,b]
def bBs(z:Nat):AC:=.seq (.seq (.ops (.op (some 15) (.mv (.t 9)) (.op (some 16) (.mv (.t 10)) (.op (some 17) (.bin .lss (.t 15) (.t 16)) (.nil)))))
 (.cond (.t 17) (.skip) (.exit 0)))
 (.block 1 (.seq (.ops (.op (some 18) (.mv (.t 9)) (.op (some 19) (.mv (.t 10)) (.op (some 20) (.bin .add (.t 18) (.t 19)) (.op (some 21) (.conv .u64 (.t 20)) (.op (some 22) (.bin .shr (.t 21) (.c (.int .u64 1))) (.op (some 23) (.conv .i64 (.t 22)) (.op (some 11) (.mv (.t 23)) (.nil)))))))))
 (.seq (.ops (.op (some 24) (.mv (.t 2)) (.op (some 25) (.mv (.t 0)) (.op (some 26) (.mv (.t 11)) (.op (some 27) (.FQ z (.t 25) (.t 26)) (.op (some 28) (.load z true (.t 27)) (.op (some 29) (.mv (.t 1)) (.op (some 30) (.lQ (.t 24) [(.t 28),(.t 29)]) (.op (some 31) (.bin .lss (.t 30) (.c (.int .i64 0))) (.nil))))))))))
 (.cond (.t 31) (.ops (.op (some 32) (.mv (.t 11)) (.op (some 33) (.bin .add (.t 32) (.c (.int .i64 1))) (.op (some 9) (.mv (.t 33)) (.nil))))) (.ops (.op (some 34) (.mv (.t 11)) (.op (some 10) (.mv (.t 34)) (.nil))))))))
def dBs(z:Nat):AC:=bBs z
@[simp]theorem eBs{V:aB}{ρ:Type}(z:Nat)(k:AX->St->Option ρ)(s:St):eval Γ (dBs z) V ρ k s=eval Γ (bBs z) V ρ k s:=rfl
def cBs(z:Nat):AF:=AF.mk 49 [.t 6,.t 7] (.seq (.ops (.op (some 6) (.mv (.c (.int .i64 0))) (.op (some 7) (.mv (.c (.bool false))) (.nil))))
 (.seq (.ops (.op (some 12) (.mv (.t 0)) (.op (some 13) (.len false (.t 12)) (.op (some 8) (.mv (.t 13)) (.nil)))))
 (.seq (.ops (.op (some 14) (.mv (.t 8)) (.op (some 9) (.mv (.c (.int .i64 0))) (.op (some 10) (.mv (.t 14)) (.nil)))))
 (.seq (.block 0 (.loop [9,10] [(9,11),(15,34)] [] [(.exit 0,[9])] (dBs z)))
 (.seq (.ops (.op (some 35) (.mv (.t 9)) (.op (some 36) (.mv (.t 9)) (.op (some 37) (.mv (.t 8)) (.op (some 38) (.bin .lss (.t 36) (.t 37)) (.op (some 39) (.mv (.t 38)) (.sc 48 true 39 40 47 (.op (some 40) (.mv (.t 2)) (.op (some 41) (.mv (.t 0)) (.op (some 42) (.mv (.t 9)) (.op (some 43) (.FQ z (.t 41) (.t 42)) (.op (some 44) (.load z true (.t 43)) (.op (some 45) (.mv (.t 1)) (.op (some 46) (.lQ (.t 40) [(.t 44),(.t 45)]) (.op (some 47) (.bin .eql (.t 46) (.c (.int .i64 0))) (.nil))))))))) (.t 47) (.op (some 6) (.mv (.t 35)) (.op (some 7) (.mv (.t 48)) (.nil))))))))))
 (.ret))))))
def bsG{α:Type}{cs:α->List AV}(O:∀x,(cs x).length=z){l:List α}(hl:l.length<=1000000){G:AV}(F:oE X)(K:Rd X z G cs l)(H:AV)(g:FuncId)(first cap:List AV)(c:α->Int)
  (P:∀i j (h:j<l.length) (_:i<j),c l[j]<0->c l[i]<0) (hg:∀x∈l,eT Γ g (first ++ .agg (cs x)::H::cap) X=some (.int .i64 (c x),X)) :
  kU Γ (cBs z) [G,H,.fn (.func g) first cap] X=some (.jg [.int .i64 (kg (λx=>decide (c x<0)) l:Nat),.bool ((l[kg (λx=>decide (c x<0)) l]?).elim false λx=>decide (c x=0))],X):=by
 have Q:=λ{i} h=>tu (p:=λx=>decide (c x<0)) (l:=l) (λi j h M y=>by simpa using P i j h M (an y)) (i:=i) h
 have E:=lK (λx=>decide (c x<0)) l
 generalize kg (λx=>decide (c x<0)) l=u at *
 have h:∀e0:Env,e0 0=G->e0 1=H->e0 2 = .fn (.func g) first cap->
   iter (round Γ [9,10] [(.exit 0,[9])] (dBs z) e0 X.length []) ([.int .i64 0,.int .i64 l.length],X)=some (.exit 0,[.int .i64 (u:Nat)],X):=λe0 h0 h1 h2 =>
  wH (f:=round Γ [9,10] [(.exit 0,[9])] (dBs z) e0 X.length []) (λi j=>([.int .i64 (i:Int),.int .i64 (j:Int)],X)) l.length u E (λc=>(.exit 0,[.int .i64 (c:Int)],X))
   (λa j S T=>by
    have N:=Jk (i:=a) (j:=j);obtain⟨m,L⟩:∃m,m=(a+j) / 2:=⟨_,rfl⟩;rw[<-L]at N⊢;have q:m<l.length:=af
    have r:=Q q;have h:=hg _ (aP q);let⟨p,y,o⟩:=K.2 m q;have b:=vX (O l[m]);generalize l[m]=x at *
    rw[decide_eq_true_eq]at r
    by_cases n:m<u
    .have v:=r.1 n;simp(disch:=omega)[round_eq,bBs,h0,h1,h2,wrap_u64,N,y,o,b,h,n,v,F.same]
    .have v:¬c x<0:=λh'=>n (r.2 h')
     simp(disch:=omega)[round_eq,bBs,h0,h1,h2,wrap_u64,N,y,o,b,h,n,v,F.same])
   (λa U=>by simp(disch:=omega)[round_eq,bBs,F.same]) _ 0 l.length rfl (aT _) E (aV _)
 have hs:=K.1;rw[b6];simp(disch:=omega)[-zX,cBs,hs,F.same];rw[h _ aq aq aq]
 by_cases A:u<l.length
 .have h:=hg _ (aP A);let⟨p,y,o⟩:=K.2 u A;have b:=vX (O l[u]);rw[aH A];generalize l[u]=x at *
  simp(disch:=omega)[A,y,o,b,h]
 .rw[dn af]
  simp(disch:=omega)[A]
def bEq(z:Nat)(agg:Bool)(o:kX):AC:=.seq (.ops (.op (some 14) (.bin .lss (.t 13) (.t 12)) (.nil)))
 (.seq (.cond (.t 14) (.skip) (.exit 0))
 (.seq (.block 1 (.seq (.ops (.op (some 15) (.mv (.t 13)) (.op (some 5) (.mv (.t 15)) (.nil))))
 (.seq (.ops (.op (some 16) (.mv (.t 0)) (.op (some 17) (.mv (.t 5)) (.op (some 18) (.FQ z (.t 16) (.t 17)) (.op (some 19) (.load z agg (.t 18)) (.op (some 20) (.mv (.t 1)) (.op (some 21) (.mv (.t 5)) (.op (some 22) (.FQ z (.t 20) (.t 21)) (.op (some 23) (.load z agg (.t 22)) (.op (some 24) o (.nil)))))))))))
 (.cond (.t 24) (.seq (.ops (.op (some 4) (.mv (.c (.bool false))) (.nil)))
 (.ret)) (.skip)))))
 (.ops (.op (some 25) (.bin .add (.t 13) (.c (.int .i64 1))) (.op (some 13) (.mv (.t 25)) (.nil))))))
def dEq(z:Nat)(agg:Bool)(o:kX):AC:=bEq z agg o
@[simp]theorem eEq{V:aB}{ρ:Type}(z:Nat)(agg:Bool)(o:kX)(k:AX->St->Option ρ)(s:St):eval Γ (dEq z agg o) V ρ k s=eval Γ (bEq z agg o) V ρ k s:=rfl
def cEq(z:Nat)(agg:Bool)(o:kX):AF:=AF.mk 26 [.t 4] (.seq (.ops (.op (some 4) (.mv (.c (.bool false))) (.nil)))
 (.seq (.seq (.ops (.op (some 6) (.mv (.t 0)) (.op (some 7) (.len false (.t 6)) (.op (some 8) (.mv (.t 1)) (.op (some 9) (.len false (.t 8)) (.op (some 10) (.bin .neq (.t 7) (.t 9)) (.nil)))))))
 (.cond (.t 10) (.seq (.ops (.op (some 4) (.mv (.c (.bool false))) (.nil)))
 (.ret)) (.skip)))
 (.seq (.seq (.ops (.op (some 11) (.mv (.t 0)) (.op (some 12) (.len false (.t 11)) (.op (some 13) (.mv (.c (.int .i64 0))) (.nil)))))
 (.block 0 (.loop [13] [(4,5),(13,25)] [] [(.exit 0,[]),(.ret,[4])] (dEq z agg o))))
 (.seq (.ops (.op (some 4) (.mv (.c (.bool true))) (.nil)))
 (.ret)))))
def eqG{α:Type}{agg:Bool}{o:kX}{F:α->AV}(q:∀x,(F x).cells.length=z)(hs:∀x,Am.shape z agg (F x).cells=some (F x))(p:α->α->Bool)(A:∀x y (e:Env) h,e 19=F x->e 23=F y->exec Γ e h o=some (.bool (!p x y),h))
  {a b:List α} (N:a.length<=1000000) (M:b.length<=1000000) (f g:Bool):pg Γ (cEq z agg o) [.b9 f (a.map F),.b9 g (b.map F)]=some (.bool (decide (a.length=b.length)&&(a.zip b).all λx=>p x.1 x.2)):=by
 rw[b8,b6]
 by_cases hl:a.length=b.length
 .have h:∀e0:Env,e0 0 = .b9 f (a.map F)->e0 1 = .b9 g (b.map F)->e0 12 = .int .i64 a.length->
    iter (round Γ [13] [(.exit 0,[]),(.ret,[4])] (dEq z agg o) e0 0 []) ([.int .i64 0],[])=some (if (a.zip b).all (λx=>p x.1 x.2)=true then(.exit 0,[],[])else(.ret,[.bool false],[])):=λe0 h0 h1 l =>
   wI (f:=round Γ [13] [(.exit 0,[]),(.ret,[4])] (dEq z agg o) e0 0 []) (λi=>([.int .i64 i],[])) a b hl p _ _
    (λi E n=>by
     obtain⟨x,v⟩:∃x,x=a[i]:=⟨_,rfl⟩;obtain⟨y,r⟩:∃y,y=b[i]:=⟨_,rfl⟩;rw[<-v,<-r];have e1:=q x;have L:=q y;have K:=hs x;have H:=hs y;simp(disch:=omega)[round_eq,bEq,h0,h1,l,E,n,<-v,<-r,e1,L,K,H];rw[A x y _ _ aq aq]
     cases p x y with
     |true=>simp(disch:=omega)
     |false=>simp(disch:=omega))
    (by simp(disch:=omega)[round_eq,bEq,h0,h1,l])
  simp(disch:=omega)[cEq,hl];rw[h _ aq aq (by simp(disch:=omega)[hl])]
  cases G:(a.zip b).all λx=>p x.1 x.2 with
  |true=>simp(disch:=omega)
  |false=>simp(disch:=omega)
 .simp(disch:=omega)[cEq,hl]
attribute [local simp] Go.Am.oB Go.Am.uT Go.Am.uU Go.Am.uV Go.Am.uW Go.Am.uN Go.Am.uO Go.Am.uP Go.Am.uQ Go.Am.uX Go.Am.uY Go.Am.qB Go.Am.qA Go.Am.qD Go.Am.qC Go.Am.lS Go.Am.j6
def bSf(z bytes:Nat)(zero:List AV):AC:=.seq (.ops (.op (some 11) (.bin .lss (.t 10) (.t 9)) (.nil)))
 (.seq (.cond (.t 11) (.skip) (.exit 0))
 (.seq (.block 1 (.seq (.ops (.op (some 12) (.FQ z (.t 8) (.t 10)) (.op (some 13) (.load z true (.t 12)) (.op (some 7) (.alloc zero) (.op none (.store z (.t 7) (.t 13)) (.nil))))))
 (.seq (.ops (.op (some 14) (.mv (.t 1)) (.op (some 15) (.load z true (.t 7)) (.op (some 16) (.lQ (.t 14) [(.t 15)]) (.nil)))))
 (.cond (.t 16) (.ops (.op (some 17) (.mv (.t 5)) (.op (some 18) (.load z true (.t 7)) (.op (some 19) (.Em z (.agg zero) 1 [(0,(.t 18))]) (.op (some 20) (.app z bytes (.t 17) (.t 19)) (.op (some 5) (.mv (.t 20)) (.nil))))))) (.skip)))))
 (.ops (.op (some 21) (.bin .add (.t 10) (.c (.int .i64 1))) (.op (some 10) (.mv (.t 21)) (.nil))))))
def dSf(z bytes:Nat)(zero:List AV):AC:=bSf z bytes zero
variable{X:AH}{Γ:jE}{z n:Nat}
@[simp]theorem eSf{V:aB}{ρ:Type}(z bytes:Nat)(zero:List AV)(k:AX->St->Option ρ)(s:St):eval Γ (dSf z bytes zero) V ρ k s=eval Γ (bSf z bytes zero) V ρ k s:=rfl
def cSf(z bytes:Nat)(zero:List AV):AF:=AF.mk 23 [.t 4] (.seq (.ops (.op (some 4) (.mv (.c (.b9 false []))) (.nil)))
 (.seq (.ops (.op (some 5) (.mv (.c (.b9 true []))) (.nil)))
 (.seq (.seq (.ops (.op (some 8) (.mv (.t 0)) (.op (some 9) (.len false (.t 8)) (.op (some 10) (.mv (.c (.int .i64 0))) (.nil)))))
 (.block 0 (.loop [5,10] [(5,5),(7,7),(10,21)] [(5,z)] [(.exit 0,[5])] (dSf z bytes zero))))
 (.seq (.ops (.op (some 22) (.mv (.t 5)) (.op (some 4) (.mv (.t 22)) (.nil))))
 (.ret)))))
def zG{cs:List AV}(h:cs.all AV.jW=true):cs.all AV.sw=true:=by
 rw[aM]at h⊢;exact λx b=>oy (h x b)
def Au{α:Type}{a b:List α}(h:b.length=a.length):over a 0 b=b:=by
 unfold over;rw[ir,aL,eF af,cC]
def SP{α:Type}{bytes:Nat}{zero:List AV}{cs:α->List AV}(hb:bytes<=1000)(hz:∀x,(cs x).length=z)(hS:∀x,(cs x).all AV.jW=true)(h0:zero.length=z)(S:zero.all AV.jW=true){l:List α}(hl:l.length<=1000000)(f:Bool)(K:AH->Prop)(hK:K X)(M:∀F,K F->oE F/\F.length=X.length)(g:FuncId)(first cap:List AV)(q:α->Bool)
  (hfn:k7 [X.length] (.fn (.func g) first cap) = .fn (.func g) first cap) (hg:∀x∈l,∀F,K F->∀Y,∃n,K n/\eT Γ g (first ++ .agg (cs x)::cap) (F++Y)=some (.bool (q x),n++Y)) :
  ∃n,K n/\kU Γ (cSf z bytes zero) [.b9 f (l.map λx=>.agg (cs x)),.fn (.func g) first cap] X=some (.own X.length 0 0 (l.filter q).length,n++[.row 0 z ((l.filter q).map λx=>.agg (cs x))]):=by
 have h:∀e0:Env,e0 8 = .b9 f (l.map λx=>.agg (cs x))->e0 9 = .int .i64 l.length->e0 1 = .fn (.func g) first cap->
   ∃y,(∃n,K n/\y=(AX.exit 0,[AV.own X.length 0 0 (l.filter q).length],n++[.row 0 z ((l.filter q).map λx=>.agg (cs x))]))/\
   iter (round Γ [5,10] [(.exit 0,[5])] (dSf z bytes zero) e0 (X.length+1) [X.length]) ([.own X.length 0 0 0,.int .i64 0],X++[.row 0 z []])=some y:=λe0 h8 h9 h1 =>
  iQ (f:=round Γ [5,10] [(.exit 0,[5])] (dSf z bytes zero) e0 (X.length+1) [X.length]) l.length (λi (a:AH×List α)=>([.own X.length 0 0 a.2.length,.int .i64 (i:Int)],a.1++[.row 0 z (a.2.map λx=>.agg (cs x))])) (λy=>∃n,K n/\y=(AX.exit 0,[AV.own X.length 0 0 (l.filter q).length],n++[.row 0 z ((l.filter q).map λx=>.agg (cs x))])) (λi a=>K a.1/\a.2=(l.take i).filter q)
   (λi a hi G=>by
    let⟨F,a⟩:=a;let⟨E,G⟩:=G;simp only at E G;let⟨hX,A⟩:=M F E;have O:=λh0 Y=>hX.tail (L:=X.length+1) (R:=[X.length]) af (by simp[A]) h0 Y
    have r:=jr F;rw[A]at O r;have h:=hg _ (aP hi) F E;obtain⟨x,T⟩:∃x,x=l[i]:=⟨_,rfl⟩;rw[<-T]at h;let⟨n,N,h⟩:=h [.row 0 z (a.map λx=>.agg (cs x)),.var (cs x)]
    let⟨hX2,b⟩:=M n N;have P:=λh0 Y=>hX2.tail (L:=X.length+1) (R:=[X.length]) af (by simp[b]) h0 Y
    have H:=jr n;rw[b]at P H;have W:(l.take (i+1)).filter q=a++[x].filter q:=by rw[G,T,cG hi,dz]
    have hal:a.length<=i:=by rw[G];exact bJ (bz _ _) (by rw[bF];omega)
    have Z:=vX (hz x);have U:=hz x;have Q:=hS x;have hOx:=zG Q;have WC:=Au (show (cs x).length=zero.length by rw[hz,h0])
    have h0O:=zG S;left;refine⟨(n,a++[x].filter q),⟨N,W.symm⟩,?_⟩;have hbb:(a.length+1)*bytes<=140737488355328:=bJ (Nat.mul_le_mul (show a.length+1<=1000001 by omega) hb) ah
    clear G W;cases hq:q x with
    |true =>
     rw[hq]at h;simp(disch:=omega)[round_eq,bSf,h8,h9,h1,hi,<-T,U,Z,Q,hOx,h0,S,h0O,WC,hbb,bO,hq,h,A,b,O,r,P,H,jk,uZ,EW,EV]
    |false =>
     rw[hq]at h;simp(disch:=omega)[round_eq,bSf,h8,h9,h1,hi,<-T,U,Z,Q,hOx,h0,S,h0O,WC,hbb,bO,hq,h,A,b,O,r,P,H,jk,uZ,EW,EV])
   (λa G=>by
    let⟨F,a⟩:=a;let⟨E,G⟩:=G;simp only at E G;let⟨hX,A⟩:=M F E;have O:=λh0 Y=>hX.tail (L:=X.length+1) (R:=[X.length]) af (by simp[A]) h0 Y
    have r:=jr F;rw[A]at O r;rw[gI]at G;subst G;exact⟨_,⟨F,E,rfl⟩,by simp(disch:=omega)[round_eq,bSf,h9,A,O,r,jk,uZ]⟩) (aT _) (X,[]) ⟨hK,ai⟩
 let⟨hX,_⟩:=M X hK;have O:=λh0 Y=>hX.tail (L:=X.length+1) (R:=[X.length]) af ai h0 Y
 have r:=jr X;generalize v:kU Γ (cSf z bytes zero) _ _=res;rw[b6]at v;simp(disch:=omega)[cSf,O,r,jk,uZ]at v;generalize T:iter _ _=o at v;obtain⟨_,⟨n,N,rfl⟩,rfl⟩:∃y,_/\o=some y:=by rw[<-T];exact h _ aq aq (by simp(disch:=omega)[hfn])
 let⟨_,b⟩:=M n N;simp(disch:=omega)[b,jk,uZ]at v;exact⟨n,N,v.symm⟩
def bDe(z:Nat)(zero:List AV):AC:=.seq (.seq (.ops (.op (some 16) (.mv (.t 6)) (.op (some 17) (.mv (.t 0)) (.op (some 18) (.len false (.t 17)) (.op (some 19) (.bin .lss (.t 16) (.t 18)) (.nil))))))
 (.cond (.t 19) (.skip) (.exit 0)))
 (.seq (.block 1 (.seq (.ops (.op (some 22) (.mv (.t 0)) (.op (some 23) (.mv (.t 6)) (.op (some 24) (.FQ z (.t 22) (.t 23)) (.op (some 25) (.load z true (.t 24)) (.op (some 7) (.alloc zero) (.op none (.store z (.t 7) (.t 25)) (.nil))))))))
 (.seq (.ops (.op (some 26) (.mv (.t 1)) (.op (some 27) (.load z true (.t 7)) (.op (some 28) (.lQ (.t 26) [(.t 27)]) (.op (some 29) (.un .not (.t 28)) (.nil))))))
 (.cond (.t 29) (.seq (.ops (.op (some 30) (.mv (.t 0)) (.op (some 31) (.mv (.t 5)) (.op (some 32) (.load z true (.t 7)) (.op (some 33) (.FQ z (.t 30) (.t 31)) (.op none (.store z (.t 33) (.t 32)) (.nil)))))))
 (.ops (.op (some 34) (.mv (.t 5)) (.op (some 35) (.bin .add (.t 34) (.c (.int .i64 1))) (.op (some 5) (.mv (.t 35)) (.nil)))))) (.skip)))))
 (.ops (.op (some 20) (.mv (.t 6)) (.op (some 21) (.bin .add (.t 20) (.c (.int .i64 1))) (.op (some 6) (.mv (.t 21)) (.nil))))))
def dDe(z:Nat)(zero:List AV):AC:=bDe z zero
@[simp]theorem eDe{V:aB}{ρ:Type}(z:Nat)(zero:List AV)(k:AX->St->Option ρ)(s:St):eval Γ (dDe z zero) V ρ k s=eval Γ (bDe z zero) V ρ k s:=rfl
def cDe(z:Nat)(zero:List AV)(k:FuncId):AF:=AF.mk 42 [.t 4] (.seq (.ops (.op (some 4) (.mv (.c (.b9 false []))) (.nil)))
 (.seq (.ops (.op (some 8) (.mv (.t 0)) (.op (some 9) (.mv (.t 1)) (.op (some 10) (.call k [(.t 8),(.t 9)]) (.op (some 5) (.mv (.t 10)) (.nil))))))
 (.seq (.seq (.ops (.op (some 11) (.mv (.t 5)) (.op (some 12) (.bin .eql (.t 11) (.c (.int .i64 (-1)))) (.nil))))
 (.cond (.t 12) (.seq (.ops (.op (some 13) (.mv (.t 0)) (.op (some 4) (.mv (.t 13)) (.nil))))
 (.ret)) (.skip)))
 (.seq (.seq (.ops (.op (some 14) (.mv (.t 5)) (.op (some 15) (.bin .add (.t 14) (.c (.int .i64 1))) (.op (some 6) (.mv (.t 15)) (.nil)))))
 (.block 0 (.loop [5,6] [(5,7),(16,35)] [] [(.exit 0,[5])] (dDe z zero))))
 (.seq (.ops (.op (some 36) (.mv (.t 0)) (.op (some 37) (.mv (.t 5)) (.op (some 38) (.vf z (.t 36) (some (.t 37)) none none) (.op none (.XK z (.agg zero) (.t 38)) (.nil))))))
 (.seq (.ops (.op (some 39) (.mv (.t 0)) (.op (some 40) (.mv (.t 5)) (.op (some 41) (.vf z (.t 39) none (some (.t 40)) none) (.op (some 4) (.mv (.t 41)) (.nil))))))
 (.ret)))))))
def MK{α:Type}(X:AH){cs:α->List AV}(b:∀x,(cs x).length=z)(l:List α):Rd (X++[.row 0 z (l.map λx=>.agg (cs x))]) z (.own X.length 0 0 l.length) cs l:=by
 refine⟨aq,λk h=>⟨.ptr X.length 0 k 0,?_,?_⟩⟩
 .simp(disch:=omega)[h,jb,uZ]
 .simp(disch:=omega)[h,uZ]
def Me{m:Nat}(h:n<=m){c:AV}(i:uI n c=true):uI m c=true:=by
 cases c<;>simp_all[uI]<;>first | omega | skip
 refine⟨λx b=>(i.1 x b).imp id λh=>?_,λx b=>(i.2 x b).imp id λh=>?_⟩
 .cases x<;>simp_all<;>omega
 .cases x<;>simp_all<;>omega
def Dx{m:Nat}(h:n<=m)(i:X.all (ve n)=true):X.all (ve m)=true:=by
 rw[aM]at i⊢;intro b r;have:=i b r;cases b with
 |var cs =>
  simp only[ve,aM]at this⊢;exact λc o=>Me h (this c o)
 |mp q es =>
  simp only[ve,aM,bR]at this⊢;exact λp l=>(this p l).imp id (Me h)
 |_=>exact this
def w9{b:AB}(h:gd b=true):ve n b=true:=by
 cases b with
 |var cs =>
  simp only[gd,ve,aM]at h⊢;intro c l;have:=h c l;cases c<;>simp_all[uI,AV.jW]
 |mp q es =>
  simp only[gd,ve,aM]at h⊢;exact λp i=>by rw[h p i];rfl
 |_=>exact h
def vV(b:oE X)(z:Nat)(es:List AV):oE (X++[.row 0 z es]):=by
 unfold oE at b⊢;rw[cq,aF];exact⟨Dx ai b,rfl⟩
def tZ{Y:AH}(i:oE X)(h:Y.all gd=true):oE (X++Y):=by
 unfold oE at i⊢;rw[cq,aF];refine⟨Dx ai i,?_⟩
 rw[aM]at h⊢;exact λb l=>w9 (h b l)
def IJ(i:oE X)(k:Nat){A:AB}(l:gd A=true):oE (X.set k A):=by
 unfold oE at i⊢;rw[dG];rw[aM]at i⊢;intro b h
 rcases cZ h with h | rfl
 .exact i b h
 .exact w9 l
def aeL{α:Type}{zero:List AV}{k:FuncId}{cs:α->List AV}(U:∀x,(cs x).length=z)(hS:∀x,(cs x).all AV.jW=true)(h0:zero.length=z)(S:zero.all AV.jW=true){l:List α}(hl:l.length<=1000000)(hX:oE X)(g:FuncId)(first cap:List AV)(q:α->Bool)
  (hk:∃Z,Z.all gd=true/\eT Γ k [.own X.length 0 0 l.length,.fn (.func g) first cap] (X++[.row 0 z (l.map λx=>.agg (cs x))])=some (.int .i64 (EC l q),X++[.row 0 z (l.map λx=>.agg (cs x))]++Z))
  (hg:∀x∈l,∀Y,∃Z,Z.all gd=true/\eT Γ g (first ++ .agg (cs x)::cap) (X++Y)=some (.bool (q x),X++Y++Z)) :
  ∃r k' Z,Z.all gd=true/\r.take k'=(l.filter λx=>!q x).map (λx=>.agg (cs x))/\k'<=r.length/\
   kU Γ (cDe z zero k) [.own X.length 0 0 l.length,.fn (.func g) first cap] (X++[.row 0 z (l.map λx=>.agg (cs x))])=some (.own X.length 0 0 k',X ++ .row 0 z r::Z):=by
 let⟨v,M,hk⟩:=hk;generalize n:kU Γ (cDe z zero k) _ _=res;rw[b6]at n;let⟨hi1,hi2,hi3⟩:=DT l q
 by_cases K:EC l q = -1
 .refine⟨l.map λx=>.agg (cs x),l.length,v,M,?_,ai,?_⟩
  .rw[aO ai,bQ.2]
   intro x N;cases W:q x with
   |false=>rfl
   |true =>
    have:=hi3.2 (ct.2 ⟨x,N,W⟩);omega
  .rw[K]at hk;simp(disch:=omega)[cDe,hk]at n;rw[<-n]
 .have P:∃y,l.find? q=some y:=by
   unfold EC at K;cases P:l.find? q with
   |none=>rw[P]at K;exact absurd rfl K
   |some y=>exact⟨y,rfl⟩
  let⟨y,P⟩:=P;have hlt:l.findIdx q<l.length:=cT ⟨y,bI P,cL P⟩;have Ti:EC l q=(l.findIdx q:Nat):=by unfold EC;rw[P];rfl
  have hpre:(l.take (l.findIdx q+1)).filter (λx=>!q x)=l.take (l.findIdx q):=by
   rw[cG hlt,dz];have e2:[l[l.findIdx q]].filter (λx=>!q x)=[]:=by simp[iC]
   rw[e2,cC,bQ];intro c hc;let⟨i,hi,e⟩:=ff hc;rw[bF]at hi;rw[eu]at e;have:=gQ (p:=q) (xs:=l) (i:=i) af
   rw[e]at this
   simpa using this
  rw[Ti]at hk;generalize l.findIdx q=i0 at *
  obtain⟨L,hL⟩:∃L,L=X.length+(v.length+1):=⟨_,rfl⟩;have E:∀es,(X++AB.row 0 z es::v).length=L:=λes=>by simp[hL]
  have hT:∀h0 es,jD L [] h0 0 (X ++ .row 0 z es::v)=X ++ .row 0 z es::v:=λh0 es=>by
   have h1:oE (X ++ .row 0 z es::v):=by
    have h1:=vV hX z es;unfold oE at h1⊢;rw[E];rw[aU]at h1;rw[show X++AB.row 0 z es::v=(X++[.row 0 z es])++v by simp,cq,aF]
    refine⟨Dx ak h1,?_⟩
    rw[aM]at M⊢;exact λb hb=>w9 (M b hb)
   have:=h1.same h0
   rwa [E]at this
  have H:∀es Y,(X++AB.row 0 z es::(v++Y)).take L=X ++ .row 0 z es::v:=λes Y=>by
   rw[show X++AB.row 0 z es::(v++Y)=(X ++ .row 0 z es::v)++Y by simp]
   exact fm (E es)
  have A:∀es,(X++AB.row 0 z es::v).take L=X ++ .row 0 z es::v:=λes=>aO (by rw[E];exact aV _)
  subst hL
  have h:∀e0:Env,e0 0 = .own X.length 0 0 l.length->e0 1 = .fn (.func g) first cap->
    ∃y,(∃(r:List α) (i:Nat),r.take i=l.filter (λx=>!q x)/\i<=l.length/\r.length=l.length/\y=(AX.exit 0,[AV.int .i64 (i:Nat)],X ++ .row 0 z (r.map λx=>.agg (cs x))::v))/\
    iter (round Γ [5,6] [(.exit 0,[5])] (dDe z zero) e0 (X.length+(v.length+1)) []) ([.int .i64 i0,.int .i64 ((i0:Int)+1)],X ++ .row 0 z (l.map λx=>.agg (cs x))::v)=some y:=λe0 q0 q1 =>
   iQ (i := i0 + 1) (f := round Γ [5, 6] [(.exit 0, [5])] (dDe z zero) e0 (X.length + (v.length + 1)) []) l.length (λj (s : Nat × List α) => ([.int .i64 (s.1 : Int), .int .i64 (j : Int)], X ++ .row 0 z (s.2.map λx => .agg (cs x)) :: v)) (λy => ∃ (r : List α) (i : Nat), r.take i = l.filter (λx => !q x) /\ i <= l.length /\ r.length = l.length /\ y = (AX.exit 0, [AV.int .i64 (i : Nat)], X ++ .row 0 z (r.map λx => .agg (cs x)) :: v))
    (λj s=>s.2.take s.1=(l.take j).filter (λx=>!q x)/\s.1<j/\s.2.length=l.length/\∀m,j<=m->s.2[m]? = l[m]?)
    (λj s hj hs=>by
     let⟨i,r⟩:=s;let⟨G,w2,F,T⟩:=hs;simp only at G w2 F T;have h:=hg _ (aP hj);obtain⟨x,N⟩:∃x,x=l[j]:=⟨_,rfl⟩;rw[<-N]at h;let⟨Z',_,h⟩:=h (.row 0 z (r.map λx=>.agg (cs x))::(v++[.var (cs x)]))
     simp only[cM,aK,aL]at h;have hgx:r[j]? = some x:=by rw[T _ af,N];exact aH hj
     have O:j<r.length:=af
     have hir:i<r.length:=af
     have hrj:r[j]=x:=bB ((aH O).symm.trans hgx);have hsh:=vX (U x);have hzx:=U x;have Q:=hS x;have hOx:=zG Q;have h0O:=zG S;have WC:=Au (show (cs x).length=zero.length by rw[U,h0])
     have hzi:=U r[i];have ajY:=Au (show (cs x).length=(cs r[i]).length by rw[U,U])
     left;cases W:q x with
     |true =>
      rw[W]at h;refine⟨(i,r),⟨?_,by simp only;omega,F,λm hm=>T m af⟩,?_⟩
      .rw[cG hj,dz,<-N,G];simp[bO,W]
      .simp(disch:=omega)[round_eq,bDe,q0,q1,jb,hj,O,hrj,<-F,hzx,hsh,Q,hOx,h0,S,h0O,WC,h,hT,H,A,lV,nP,kM,zV,pR,jk,uZ,EW,EV]
     |false =>
      rw[W]at h;refine⟨(i+1,r.set i x),⟨?_,by simp only;omega,an F,λm hm=>?_⟩,?_⟩
      .rw[cG hj,dz,<-N,cG (an hir),List.take_set_of_le (aV _),G]
       simp[bO,W]
      .rw[aI af]
       exact T m af
      .simp(disch:=omega)[round_eq,bDe,q0,q1,jb,hj,O,hir,hrj,<-F,hzx,hzi,ajY,hsh,Q,hOx,h0,S,h0O,WC,h,hT,H,A,fH,AV.kJ,lV,nP,kM,zV,pR,jk,uZ,EW,EV])
    (λs hs=>by
     let⟨i,r⟩:=s;let⟨G,w2,F,T⟩:=hs;simp only at G w2 F T;rw[gI]at G;refine⟨_,⟨r,i,G,af,F,rfl⟩,?_⟩
     simp(disch:=omega)[round_eq,bDe,q0,hT,H,A]) af (i0,l) ⟨hpre.symm,ai,rfl,λm _=>rfl⟩
  have hne:¬((i0:Int) = -1):=af
  simp(disch:=omega)[cDe,hk,hne,hT,H,A]at n;generalize N:iter _ _=o at n;obtain⟨y,⟨r,i,G,w2,F,rfl⟩,rfl⟩:∃y,_/\o=some y:=by rw[<-N];exact h _ aq aq
  simp(disch:=omega)[jk,uZ,EW,EV,w2,F]at n;refine⟨_,i,v,M,?_,?_,n.symm⟩
  .unfold over;rw[cM,fV (by rw[bF,cv];omega),iD,iK,<-List.map_take,G]
  .unfold over;simp only[aU,bF,cv];omega
end Go.Am
