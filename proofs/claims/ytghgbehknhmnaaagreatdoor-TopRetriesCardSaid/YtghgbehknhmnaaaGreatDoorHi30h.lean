/- Part of the proof that TopRetriesCard holds. -/
import Derived.Test.YtghgbehknhmnaaaGreatDoorRd30g
set_option linter.all false
namespace Go.Proofs.YtghgbehknhmnaaaGreatDoor
open Go.Am Go.Tr Go.Am.Nm Go.Lib
def KD(es:List (Int×AV))(k:Int)(v:AV)(j:Int)(d:AV):ko (kQ es k v) j d=if k=j then v else ko es j d:=by
 induction es with
 |nil =>
  unfold kQ ko
  by_cases h:k=j<;>simp[h]
 |cons p es b =>
  unfold kQ;unfold ko at b⊢
  by_cases h1:p.1=k
  .rw[if_pos h1]
   by_cases h:k=j
   .simp[h]
   .have:¬p.1=j:=λe=>h (h1.symm.trans e)
    simp[h,this]
  .rw[if_neg h1,eN,eN]
   by_cases h2:p.1=j
   .have:¬k=j:=λe=>h1 (h2.trans e.symm)
    simp[h2,this]
   .simp only[h2,decide_false];exact b
def Mi.norm{es:List (Int×AV)}(h:Mi es)(L:Nat)(R:ax)(H:AH):es.map (λp=>(p.1,kL L R H p.2))=es:=by
 conv=>rhs;rw[<-fq es]
 refine dW λp l=>?_
 obtain⟨v,i⟩:=h p l;obtain⟨a,b⟩:=p;simp only at i;subst i;rfl
abbrev JT:=Li.Ca AV nH
@[simp]def Pr(c:JT):AV:=.agg [.int .i64 (c.b:Int),.int .i64 (c.e.elim (-1) λe=>(e.1:Int))]
@[simp]def akL(l:List JT):jw 2 (l.map Pr)=true:=by simp[jw]
@[simp]theorem Zn(v r a3 a4 a5 a6 a7 a8 a9 b1 q o n l i h b:AV):Am.shape 17 true [v,r,a3,a4,a5,a6,a7,a8,a9,b1,q,o,n,l,i,h,b]=some (.agg [v,r,a3,a4,a5,a6,a7,a8,a9,b1,q,o,n,l,i,h,b]):=rfl
variable(D:lX->AV->AV×nH)
def l34(l:List ze)(hl:l.length<=1000)(S:Li.rk (λ_=>false) l)(U:∀x∈l,x.c<16)(f:Bool)(e0:Env)(h8:e0 8 = .b9 f (l.map Po))(Q:e0 9=I (l.length:Int))(h4:e0 4 = .mb 0):
  ∃y,(∃M,y=(AX.exit 0,[AV.own 1 0 0 (Li.calls D l).cs.length],[AB.mp .i64 M,.row 0 2 ((Li.calls D l).cs.map Pr)]))/\iter (round (en.cz 172) [3,10] [(.exit 0,[3])] Db e0 2 [1]) ([.own 1 0 0 0,I 0],[.mp .i64 [],.row 0 2 []])=some y :=
 iQ (f := round (en.cz 172) [3, 10] [(.exit 0, [3])] Db e0 2 [1]) l.length (λi (M : List (Int × AV)) => ([.own 1 0 0 (Li.calls D (l.take i)).cs.length, I (i : Int)], [AB.mp .i64 M, .row 0 2 ((Li.calls D (l.take i)).cs.map Pr)])) (λy => ∃ M, y = (AX.exit 0, [AV.own 1 0 0 (Li.calls D l).cs.length], [AB.mp .i64 M, .row 0 2 ((Li.calls D l).cs.map Pr)]))
  (λi M=>Mi M/\∀c:Nat,ko M c (I 0)=I ((Li.calls D (l.take i)).last c:Int))
  (λi M N ⟨F,G⟩=>by
   obtain⟨L,K⟩:=Li.SV S N;have W:=Li.Ib (D:=D) N;have E:=(Li.Bv (D:=D) (l.take i)).2;rw[bE]at E;have hk:(Li.calls D (l.take i)).k=i:=by rw[Li.sg,bE];omega
   have z:=Li.Ic (D:=D) K;rw[W];have q:=U _ (aN N);obtain⟨x,H⟩:∃x,x=l[i]:=⟨_,rfl⟩;rw[<-H]at L q⊢;generalize Li.calls D (l.take i)=C at *
   obtain⟨k,cs,la⟩:=C;simp only at hk z E G;subst hk;obtain⟨b,c,o,a⟩:=x;simp only at L q;have Y:=F.j8;cases b with
   |true =>
    have r:=F.put (n:=(c:Int)) (v:=(cs.length:Int));have X:=r.j8;have O:=r.norm 2 [1];left;refine⟨kQ M (c:Int) (I (cs.length:Int)),⟨r,λd=>?_⟩,?_⟩
    .rw[KD];simp only[Li.oZ,if_true]
     by_cases h:d=c
     .rw[h,if_pos rfl,Li.ng]
     .rw[if_neg af,Li.mo _ h];exact G d
    .simp only[Li.oZ,if_true];simp(disch:=omega)[round_eq,Db,h8,Q,h4,<-H,O]
   |false =>
    have A:=z c (an L)
    have P:=G c;have O:=F.norm 2 [1];left;refine⟨M,⟨F,λd=>by simpa[Li.oZ]using G d⟩,?_⟩
    simp only[Li.oZ,aZ,if_false,List.length_modify];rw[Li.rR (aD A),gQ];simp(disch:=omega)[round_eq,Db,h8,Q,h4,<-H,P,A,O])
  (λM _=>⟨_,⟨M,rfl⟩,by
   have e:l.take l.length=l:=aO (aU _);rw[e];simp(disch:=omega)[round_eq,Db,Q]⟩) (aQ _) [] ⟨(λp T=>by cases T),λc=>rfl⟩
def s34{n:Nat}(q:172<n)(l:List ze)(hl:l.length<=1000)(i:Li.rk (λ_=>false) l)(r:∀x∈l,x.c<16)(f:Bool):(en.cz n).p 34 [.b9 f (l.map Po)]=some (.b9 false ((Li.calls D l).cs.map Pr)):=by
 generalize b:(en.cz n).p 34 _=res;rw[pp 34 rfl q rfl,b8,b6]at b;simp(disch:=omega)[c34]at b;generalize h:iter _ _=o at b;obtain⟨_,⟨M,rfl⟩,rfl⟩:∃y,_/\o=some y:=by rw[<-h];exact l34 D l hl i r f _ aq aq aq
 simp(disch:=omega)at b;exact b.symm
def It{m:Nat}(h:m<18446744073709551616):IntKind.u64.wrap (m:Int)=m:=by
 have:((m:Int))%18446744073709551616=m:=af
 have h1:IntKind.u64.signed=false:=rfl;have h2:IntKind.u64.bits=64:=rfl;simp[IntKind.wrap,h1,h2];omega
def ZU{m:Nat}(h:m<18446744073709551616):(BitVec.ofInt 64 (m:Int)).toNat=m:=by
 rw[BitVec.toNat_ofInt];have:(2:Nat) ^ 64=18446744073709551616:=rfl;rw[this];omega
def Er{i:Nat}(h:i<64):bin .shl (.int .u64 1) (.int .i64 (i:Int))=some (.int .u64 ((2 ^ i:Nat):Int)):=by
 have l:2 ^ i<18446744073709551616:=(Nat.pow_lt_pow_iff_right (by decide:1<2)).2 h
 have b:=It l;have n:min i 64=i:=af
 have:¬(i:Int)<0:=af
 simp only[bin,this,if_false,fB];rw[show IntKind.u64.bits=64 from rfl,n,Int.one_mul,show ((2:Int) ^ i)=((2 ^ i:Nat):Int) by simp,b]
def Ik{m k:Nat}(b:m<18446744073709551616)(hk:k<18446744073709551616):bin .or (.int .u64 (m:Int)) (.int .u64 (k:Int))=some (.int .u64 ((m ||| k:Nat):Int)):=by
 have h:m ||| k<2 ^ 64:=gC b hk;simp only[bin,mA,if_true];rw[show IntKind.u64.bits=64 from rfl,BitVec.toNat_or,ZU b,ZU hk,It h]
def JM{m k:Nat}(b:m<18446744073709551616)(hk:k<18446744073709551616):bin .and (.int .u64 (m:Int)) (.int .u64 (k:Int))=some (.int .u64 ((m &&& k:Nat):Int)):=by
 have h:m &&& k<18446744073709551616:=fm Nat.and_le_left b;simp only[bin,mA,if_true];rw[show IntKind.u64.bits=64 from rfl,BitVec.toNat_and,ZU b,ZU hk,It h]
def Sm{m i:Nat}(h:i<64):bin .shr (.int .u64 (m:Int)) (.int .i64 (i:Int))=some (.int .u64 ((m >>> i:Nat):Int)):=by
 have b:min i 64=i:=af
 have:¬(i:Int)<0:=af
 simp only[bin,this,if_false,fB];rw[show IntKind.u64.bits=64 from rfl,b,Nat.shiftRight_eq_div_pow,show ((2:Int) ^ i)=((2 ^ i:Nat):Int) by simp]
 rw[Int.fdiv_eq_ediv_of_nonneg _ (show (0:Int)<=((2 ^ i:Nat):Int)from Int.natCast_nonneg _)]
 simp
def Sr{m k:Nat}(b:m<18446744073709551616)(hk:k<18446744073709551616):∃r:Nat,bin .andNot (.int .u64 (m:Int)) (.int .u64 (k:Int))=some (.int .u64 (r:Int))/\(r=0↔∀j,m.testBit j=true->k.testBit j=true):=by
 refine⟨(BitVec.ofInt 64 (m:Int) &&& ~~~ (BitVec.ofInt 64 (k:Int))).toNat,?_,?_⟩
 .simp only[bin,mA,if_true];rw[show IntKind.u64.bits=64 from rfl,It (BitVec.isLt _)]
 .have i:∀j,(BitVec.ofInt 64 (m:Int) &&& ~~~ (BitVec.ofInt 64 (k:Int))).toNat.testBit j=(m.testBit j && !k.testBit j):=λj=>by
   rw[BitVec.toNat_and,gU,ZU b,<-BitVec.getLsbD,BitVec.getLsbD_not,BitVec.getLsbD,ZU hk]
   by_cases l:j<64
   .simp[l]
   .have:m.testBit j=false:=Nat.testBit_lt_two_pow (bu (show m<2 ^ 64 from b) (eW ah af))
    simp[this]
  constructor
  .intro h j h1;have:=i j;rw[h,h1]at this
   simpa using this
  .intro h;apply iG;intro j;rw[i j];cases h1:m.testBit j with
   |false=>simp
   |true=>simp[h j h1]
def JL(m i j:Nat):(m ||| 2 ^ i).testBit j=(m.testBit j||decide (i=j)):=by
 rw[gu,Nat.testBit_two_pow]
def Sl(m i:Nat):((m >>> i) &&& 1=1)↔m.testBit i=true:=by
 rw[Nat.testBit,Nat.and_comm];have:1 &&& m >>> i=(m >>> i)%2:=Nat.one_and_eq_mod_two _;rw[this]
 constructor<;>intro h
 .simp[h]
 .have:=gw (m >>> i)
  rcases this with h0 | h0
  .rw[h0]at h;simp at h
  .exact h0
def Ss{m i:Nat}(l:m<18446744073709551616):bin .and (.int .u64 ((m:Int) >>> i)) (.int .u64 1)=some (.int .u64 (if m.testBit i=true then 1 else 0)):=by
 have h:=JM (m:=m >>> i) (k:=1) (by have:=Nat.shiftRight_le m i;omega) ah
 have e:bin .and (.int .u64 ((m:Int) >>> i)) (.int .u64 1)=bin .and (.int .u64 ((m >>> i:Nat):Int)) (.int .u64 ((1:Nat):Int)):=rfl;rw[e,h];have h1:=Sl m i;have h2:(m >>> i) &&& 1=(m >>> i)%2:=Nat.and_one_is_mod _;cases b:m.testBit i with
 |true=>rw[h1.2 b];rfl
 |false =>
  have:(m >>> i) &&& 1=0:=by
   rcases gw (m >>> i)with h0 | h0
   .rw[h2,h0]
   .exact absurd (h1.1 (by rw[h2,h0])) (by rw[b];simp)
  rw[this];rfl
structure BR(n m:Nat)(s:aB):Prop where
 lt:m<2 ^ n
 bit:∀j,m.testBit j=(decide (j<n)&&s j)
def BR.zero(s:aB):BR 0 0 s:=⟨ai,λj=>ai⟩
def xl{n:Nat}(b:n<=60):2 ^ n<=1152921504606846976:=bH (eW ah b) ah
def BR.u{n m:Nat}{s:aB}(h:BR n m s)(b:n<=60):m<18446744073709551616:=by
 have:=h.lt;have:=xl b;omega
def BR.yes{n m:Nat}{s:aB}(h:BR n m s)(hs:s n=true):BR (n+1) (m ||| 2 ^ n) s:=by
 refine⟨gC (bu h.lt (eW ah af)) (iH ah af),λj=>?_⟩
 rw[JL,h.bit]
 by_cases h1:j<n
 .have:j<n+1:=by omega
  simp[h1,this];omega
 .by_cases h2 : n = j
  .subst h2;simp[hs]
  .have:¬j<n+1:=by omega
   simp[h1,h2,this]
def BR.no{n m:Nat}{s:aB}(h:BR n m s)(hs:s n=false):BR (n+1) m s:=by
 refine⟨bu h.lt (eW ah af),λj=>?_⟩
 rw[h.bit]
 by_cases h1:j<n
 .have:j<n+1:=by omega
  simp[h1,this]
 .by_cases h2 : n = j
  .subst h2;simp[hs]
  .have:¬j<n+1:=by omega
   simp[h1,this]
def Gj(cs:List JT)(j:Nat):Bool:=(cs[j]?).elim false λd=>d.e.isSome
def preB(cs:List JT)(b:Nat)(j:Nat):Bool:=(cs[j]?).elim false λd=>d.e.elim false λe=>decide (e.1<b)
variable{A C:AB}
def adh(cs:List JT)(M:cs.length<=60)(H:gd A=true)(e0:Env)(h6:e0 6 = .ptr 1 0 0 0)(N:e0 7 = .ptr 2 0 0 0)(v:e0 20 = .b9 false (cs.map Pr))(h:e0 21=I (cs.length:Int)):
  ∃y,(∃m,BR cs.length m (Gj cs)/\y=(AX.exit 0,[],[A,AB.var [.b9 false (cs.map Pr)],.var [.int .u64 (m:Int)]]))/\iter (round (en.cz 173) [22] [(.exit 0,[])] De e0 3 []) ([I 0],[A,.var [.b9 false (cs.map Pr)],.var [.int .u64 0]])=some y :=
 iQ (f:=round (en.cz 173) [22] [(.exit 0,[])] De e0 3 []) cs.length (λi (m:Nat)=>([I (i:Int)],[A,AB.var [.b9 false (cs.map Pr)],.var [.int .u64 (m:Int)]])) (λy=>∃m,BR cs.length m (Gj cs)/\y=(AX.exit 0,[],[A,AB.var [.b9 false (cs.map Pr)],.var [.int .u64 (m:Int)]])) (λi m=>BR i m (Gj cs))
  (λi m L q=>by
   have G:=lZ H;have K:=q.u af
   have E:=Er (i:=i) af
   have l:=Ik K (show 2 ^ i<18446744073709551616 by have:=xl (n:=i) af;omega)
   rw[show ((2 ^ i:Nat):Int)=(2:Int) ^ i by simp]at l
   have F:Gj cs i=(cs[i]).e.isSome:=by simp[Gj,L]
   obtain⟨x,z⟩:∃x,x=cs[i]:=⟨_,rfl⟩;rw[<-z]at F;obtain⟨r,b,o⟩:=x;left;cases o with
   |none=>exact⟨m,q.no F,by simp(disch:=omega)[round_eq,De,v,h,<-z,G]⟩
   |some o=>exact⟨m ||| 2 ^ i,q.yes F,by simp(disch:=omega)[round_eq,De,N,v,h,<-z,G,E,l]⟩)
  (λm q=>⟨_,⟨m,q,rfl⟩,by
   have G:=lZ H;simp(disch:=omega)[round_eq,De,h]⟩) (aQ _) 0 (BR.zero _)
def adg(cs:List JT)(Y:cs.length<=60)(T:gd A=true)(S:gd C=true)(i:Nat)(X:i<cs.length)(ci:JT)(Z:cs[i]=ci)(bf:ax)(hbf:bf.length=cs.length)(h0:bf[i]=0)(e0:Env)(h6:e0 6 = .ptr 1 0 0 0)(Q:e0 10 = .ptr 4 0 0 0)(P:e0 11=I (i:Int))(F:e0 12 = .ptr 5 0 0 0)(z:e0 45 = .b9 false (cs.map Pr))(l:e0 46=I (cs.length:Int)):
  ∃y,(∃m,BR cs.length m (preB cs ci.b)/\y=(AX.exit 4,[],[A,AB.var [.b9 false (cs.map Pr)],C,.row 0 1 ((bf.set i m).map λ(m:Nat)=>AV.int .u64 (m:Int)),.var [.own 3 0 0 cs.length],.var (Pr ci).cells]))/\
   iter (round (en.cz 173) [47] [(.exit 4,[])] BC e0 6 []) ([I 0],[A,.var [.b9 false (cs.map Pr)],C,.row 0 1 (bf.map λ(m:Nat)=>AV.int .u64 (m:Int)),.var [.own 3 0 0 cs.length],.var (Pr ci).cells])=some y:=by
 have O:bf.set i 0=bf:=by rw[<-h0];simp
 have:=iQ (f:=round (en.cz 173) [47] [(.exit 4,[])] BC e0 6 []) cs.length (λj (m:Nat)=>([I (j:Int)],[A,AB.var [.b9 false (cs.map Pr)],C,.row 0 1 ((bf.set i m).map λ(m:Nat)=>AV.int .u64 (m:Int)),.var [.own 3 0 0 cs.length],.var (Pr ci).cells])) (λy=>∃m,BR cs.length m (preB cs ci.b)/\y=(AX.exit 4,[],[A,AB.var [.b9 false (cs.map Pr)],C,.row 0 1 ((bf.set i m).map λ(m:Nat)=>AV.int .u64 (m:Int)),.var [.own 3 0 0 cs.length],.var (Pr ci).cells])) (λj m=>BR j m (preB cs ci.b))
  (λj m W q=>by
   have K:=lZ T;have h:=lZ S;have U:=q.u af
   have L:=Er (i:=j) af
   have E:=Ik U (show 2 ^ j<18446744073709551616 by have:=xl (n:=j) af;omega)
   rw[show ((2 ^ j:Nat):Int)=(2:Int) ^ j by simp]at E
   have hs:=q.lt;have H:preB cs ci.b j=(cs[j]).e.elim false λe=>decide (e.1<ci.b):=by simp[preB,W]
   obtain⟨x,G⟩:∃x,x=cs[j]:=⟨_,rfl⟩;rw[<-G]at H;obtain⟨r,b,o⟩:=x;have M:i<bf.length:=af
   have N:∀v:AV,((bf.map λ(m:Nat)=>AV.int .u64 (m:Int)).set i v)[i]? = some v:=λv=>aK (an M)
   left;cases o with
   |none=>exact⟨m,q.no H,by simp(disch:=omega)[round_eq,BC,z,l,<-G,K,h]⟩
   |some o =>
    by_cases c:o.1<ci.b
    .exact⟨m ||| 2 ^ j,q.yes (by simpa[c]using H),by simp(disch:=omega)[round_eq,BC,Q,P,F,z,l,<-G,K,h,X,L,E,N]⟩
    .exact⟨m,q.no (by simpa[c]using H),by simp(disch:=omega)[round_eq,BC,F,z,l,<-G,K,h]⟩)
  (λm q=>⟨_,⟨m,q,rfl⟩,by
   have K:=lZ T;have h:=lZ S;simp(disch:=omega)[round_eq,BC,l]⟩) (aQ _) 0 (BR.zero _)
 simp only[O]at this;exact this
abbrev Un(m:Nat):AV:=.int .u64 (m:Int)
def adf(cs:List JT)(L:cs.length<=60)(O:gd A=true)(N:gd C=true)(e0:Env)(h6:e0 6 = .ptr 1 0 0 0)(Q:e0 10 = .ptr 4 0 0 0)(P:e0 38 = .b9 false (cs.map Pr))(z:e0 39=I (cs.length:Int)):
  ∃y,(∃bf:ax,bf.length=cs.length/\(∀(k:Nat)(c:JT),cs[k]? = some c->∃m,bf[k]? = some m/\BR cs.length m (preB cs c.b))/\y=(AX.exit 2,[],[A,AB.var [.b9 false (cs.map Pr)],C,.row 0 1 (bf.map Un),.var [.own 3 0 0 cs.length]]))/\
   iter (round (en.cz 173) [40] [(.exit 2,[])] Dd e0 5 []) ([I 0],[A,.var [.b9 false (cs.map Pr)],C,.row 0 1 (List.replicate cs.length (.int .u64 0)),.var [.own 3 0 0 cs.length]])=some y:=by
 have := iQ (f := round (en.cz 173) [40] [(.exit 2, [])] Dd e0 5 []) cs.length (λi (bf : ax) => ([I (i : Int)], [A, AB.var [.b9 false (cs.map Pr)], C, .row 0 1 (bf.map Un), .var [.own 3 0 0 cs.length]])) (λy => ∃ bf : ax, bf.length = cs.length /\ (∀ (k : Nat) (c : JT), cs[k]? = some c -> ∃ m, bf[k]? = some m /\ BR cs.length m (preB cs c.b)) /\ y = (AX.exit 2, [], [A, AB.var [.b9 false (cs.map Pr)], C, .row 0 1 (bf.map Un), .var [.own 3 0 0 cs.length]]))
  (λi bf=>bf.length=cs.length/\(∀(k:Nat)(c:JT),k<i->cs[k]? = some c->∃m,bf[k]? = some m/\BR cs.length m (preB cs c.b))/\∀k,i<=k->k<cs.length->bf[k]? = some 0)
  (λi bf K ⟨E,G,F⟩=>by
   have M:=lZ O;have q:=lZ N;obtain⟨ci,n⟩:∃ci,ci=cs[i]:=⟨_,rfl⟩;have x:i<bf.length:=af
   have h0:bf[i]=0:=by
    have:=F i (aU _) K;rw[aD x]at this;exact bp this
   generalize l:round (en.cz 173) [40] [(.exit 2,[])] Dd e0 5 [] _=res;simp(disch:=omega)[round_eq,Dd,h6,P,z,<-n,M,q]at l;generalize S:iter _ _=o at l;obtain⟨_,⟨m,T,rfl⟩,rfl⟩:∃y,_/\o=some y:=by rw[<-S];exact adg cs L O N i K ci n.symm bf E h0 _ (by simp(disch:=omega)[h6]) (by simp(disch:=omega)[Q]) aq aq aq aq
   simp(disch:=omega)[M,q]at l;refine .inl ⟨bf.set i m,⟨by simp[E],λk c hk r=>?_,λk hk H=>?_⟩,by rw[<-l];simp(disch:=omega)⟩
   .by_cases v : k = i
    .subst v;rw[aD K,<-n]at r;cases r;exact⟨m,aK x,T⟩
    .rw[aH (λe=>v e.symm)]
     exact G k c af r
   .rw[aH af]
    exact F k af H)
  (λbf ⟨E,G,F⟩=>⟨_,⟨bf,E,λk c r=>G k c (aA.1 r).1 r,rfl⟩,by
   have M:=lZ O;have q:=lZ N;simp(disch:=omega)[round_eq,Dd,z]⟩) (aQ _) (List.replicate cs.length 0) ⟨ai,λk c h=>af,λk _ hk=>by simp[hk]⟩
 rw[List.map_replicate]at this;exact this
open Classical in
noncomputable def Dv(o:lX)(f:AV):AV×nH:=if h:∃r:AV×nH,Ae (en.cz 155) d12 [f,Ov o]=some (.jg [r.1,Av r.2])then h.choose else(f,Az)
def Pg(k:Nat)(st:AV):Prop:=∃g,st=Fv g/\mF k g
def Pg.mono{k m:Nat}{st:AV}(h:Pg k st)(b:k<=m):Pg m st:=by
 obtain⟨g,h1,h2⟩:=h;exact⟨g,h1,h2.mono b⟩
def JS{k:Nat}{f:FS}(F:mF k f)(hk:k<=200){o:lX}(E:uy o):
  ∃h,(Dv o (Fv f)).1=Fv h/\mF (k+1) h/\zM (Dv o (Fv f)).2/\∀ {n:Nat},155<n->(en.cz n).p 12 [Fv f,Ov o]=some (.jg [Fv h,Av (Dv o (Fv f)).2]):=by
 obtain⟨h,K,h1,h2,h3⟩:=s12 (n:=156) ah F hk E
 have y:=λ{n:Nat}(b:155<n)=>p12 b [Fv f,Ov o]
 rw[y ah]at h1
 have hex:∃r:AV×nH,Ae (en.cz 155) d12 [Fv f,Ov o]=some (.jg [r.1,Av r.2]):=⟨(Fv h,K),h1⟩
 have A:Ae (en.cz 155) d12 [Fv f,Ov o]=some (.jg [(Dv o (Fv f)).1,Av (Dv o (Fv f)).2]):=by
  unfold Dv;rw[dif_pos hex];exact hex.choose_spec
 generalize Dv o (Fv f)=r at *
 obtain⟨st,a⟩:=r;have z:=h1.symm.trans A;simp only[bh,AV.jg.injEq,dU,and_true]at z;obtain⟨x,i⟩:=z;simp only[Av,AV.agg.injEq,Ac,dU,AV.b9.injEq,and_true,true_and]at i;obtain⟨-,-,-,-,-,b,v⟩:=i;have b:=congrArg List.length b;have v:=congrArg List.length v;rw[cw,cw]at b v;have l:zM a:=⟨by have:=h3.n;omega,by have:=h3.d;omega⟩
 subst x;refine⟨h,rfl,h2,l,λb=>?_⟩
 rw[y b];exact A
abbrev EN:List AV:=[.ptr 2 0 0 0,.ptr 6 0 0 0,.ptr 1 0 0 0,.ptr 4 0 0 0,.ptr 0 0 0 0,.ptr 7 0 0 0,.ptr 8 0 0 0]
structure Ir where
 f:Bool
 l:List ze
 nd:Nat
 bf:ax
 K:Nat
 cs:List JT
structure Ir.Ok(G:Ir):Prop where
 cs:G.cs=(Li.calls Dv G.l).cs
 n:G.cs.length<=10
 l:G.l.length<=1000
 nd:BR G.cs.length G.nd (Gj G.cs)
 bl:G.bf.length=G.cs.length
 bf:∀(k:Nat)(c:JT),G.cs[k]? = some c->∃m,G.bf[k]? = some m/\BR G.cs.length m (preB G.cs c.b)
 o:∀x∈G.l,x.vO=true->uy x.op
 a:∀x∈G.l,x.vO=false->zM x.PT
 k:G.K<=200
def Y0(G:Ir)(key:Int)(st:AV):Prop:=∀m:Nat,key=(m:Int)->¬Li.vT G.cs st m.testBit
structure Lst(G:Ir)(H:AH)(p:Int×AV)(b:Nat)(w:Nat)(oP:List FS):Prop where
 v:p.2 = .own b w 0 oP.length
 r:H[b]? = some (.row w 10 (oP.map Fv))
 b:9<=b
 d:∀g∈oP,mF G.K g/\Y0 G p.1 (Fv g)
def Odr(H:AH)(q:Nat)(b:Nat):Prop:=(q=0/\H[7]? = some (.var [.b9 true []]))\/∃(v:Nat) (r:ay),9<=b/\H[b]? = some (.row v 1 (r.map I))/\H[7]? = some (.var [.own b v 0 q])/\q<=r.length
structure Tm(G:Ir)(c:Nat)(H:AH)(q:Nat)(es:List (Int×AV))(ob:Nat)(bk:Int->Nat):Prop where
 len:9<=H.length
 h0:H[0]? = some (.var [.b9 G.f (G.l.map Po)])
 h1:H[1]? = some (.var [.b9 false (G.cs.map Pr)])
 h2:H[2]? = some (.var [Un G.nd])
 h3:H[3]? = some (.row 0 1 (G.bf.map Un))
 h4:H[4]? = some (.var [.own 3 0 0 G.cs.length])
 h5:H[5]? = some (.mp .u64 es)
 h6:H[6]? = some (.var [.mb 5])
 h8:H[8]? = some (.var [.fn (.func 35) [] EN])
 st:oE H
 ks:(es.map Prod.fst).Nodup
 ls:∀p∈es,∃w oP,Lst G H p (bk p.1) w oP/\oP.length<=c
 inj:∀p∈es,∀p'∈es,bk p.1=bk p'.1->p.1=p'.1
 od:Odr H q ob
 o9:9<=ob
 ob:∀p∈es,bk p.1≠ob
variable{H i:AH}
def Lst.keep{G:Ir}{p:Int×AV}{b w:Nat}{oP:List FS}(h:Lst G H p b w oP)(hk:∀A,H[b]? = some A->i[b]? = some A):Lst G i p b w oP:=⟨h.v,hk _ h.r,h.b,h.d⟩
def Odr.keep{q b:Nat}(h:Odr H q b)(l:∀A,H[7]? = some A->i[7]? = some A)(n:∀A,H[b]? = some A->i[b]? = some A):Odr i q b:=by
 rcases h with⟨h1,h2⟩ | ⟨v,r,h1,h2,h3,h4⟩
 .exact .inl ⟨h1,l _ h2⟩
 .exact .inr ⟨v,r,h1,n _ h2,l _ h3,h4⟩
section
variable{G:Ir}{c:Nat}{H:AH}{q:Nat}{es:List (Int×AV)}{ob:Nat}{bk:Int->Nat}
def Tm.app(T:Tm G c H q es ob bk){Y:AH}(n:Y.all gd=true):Tm G c (H++Y) q es ob bk:=by
 have hl:=T.len
 have g:∀ {j:Nat} {A:AB},H[j]? = some A->(H++Y)[j]? = some A:=λ{j A} b=>by
  rw[aJ (aA.1 b).1];exact b
 exact⟨ak,g T.h0,g T.h1,g T.h2,g T.h3,g T.h4,g T.h5,g T.h6,g T.h8,tZ T.st n,T.ks,λp i=>by
  obtain⟨w,oP,h,l⟩:=T.ls p i;exact⟨w,oP,h.keep λA=>g,l⟩,T.inj,T.od.keep (λA=>g) (λA=>g),T.o9,T.ob⟩
def Tm.mono(T:Tm G c H q es ob bk){b:Nat}(n:c<=b):Tm G b H q es ob bk:=⟨T.len,T.h0,T.h1,T.h2,T.h3,T.h4,T.h5,T.h6,T.h8,T.st,T.ks,λp i=>by
 obtain⟨w,oP,h,l⟩:=T.ls p i;exact⟨w,oP,h,af⟩,T.inj,T.od,T.o9,T.ob⟩
def Tm.ord(T:Tm G c H q es ob bk){n:AH}(hl:9<=n.length)(hs:oE n)(l:∀(j:Nat) A,j≠7->j≠ob->H[j]? = some A->n[j]? = some A){r i:Nat}(z:9<=i)(o:∀p∈es,bk p.1≠i)(y:Odr n r i):Tm G c n r es i bk:=by
 have h:=T.o9
 exact⟨hl,l _ _ ah af T.h0,l _ _ ah af T.h1,l _ _ ah af T.h2,l _ _ ah af T.h3,l _ _ ah af T.h4,l _ _ ah af T.h5,l _ _ ah af T.h6,l _ _ ah af T.h8,hs,T.ks,λp v=>by
  obtain⟨w,oP,h,x⟩:=T.ls p v;have:=h.b;exact⟨w,oP,h.keep λA=>l _ A af (T.ob p v),x⟩,T.inj,y,z,o⟩
def zz{es:List (Int×AV)}(hk:(es.map Prod.fst).Nodup){k:Int}{v:AV}{p:Int×AV}(b:p∈kQ es k v):p=(k,v)\/(p∈es/\p.1≠k):=by
 induction es with
 |nil=>exact .inl (bT.1 b)
 |cons x es i =>
  rw[bN,dS]at hk;unfold kQ at b
  by_cases h:x.1=k
  .rw[if_pos h]at b
   rcases bw.1 b with rfl | b
   .left;rw[<-h]
   .refine .inr ⟨by simp[b],λe=>hk.1 ?_⟩
    rw[h,<-e];exact List.mem_map_of_mem b
  .rw[if_neg h]at b
   rcases bw.1 b with rfl | b
   .exact .inr ⟨ai,h⟩
   .rcases i hk.2 b with h' | ⟨h1,h2⟩
    .exact .inl h'
    .exact .inr ⟨by simp[h1],h2⟩
def UT{es:List (Int×AV)}(hk:(es.map Prod.fst).Nodup)(k:Int)(v:AV):((kQ es k v).map Prod.fst).Nodup:=by
 induction es with
 |nil=>simp[kQ]
 |cons x es i =>
  have o:=hk;rw[bN,dS]at hk;unfold kQ
  by_cases h:x.1=k
  .rw[if_pos h,bN,dS];rw[h]at hk;exact hk
  .rw[if_neg h,bN,dS];refine⟨λn=>?_,i hk.2⟩
   obtain⟨p,l,b⟩:=cT.1 n
   rcases zz hk.2 l with rfl | ⟨h1,_⟩
   .exact h b.symm
   .exact hk.1 (by rw[<-b];exact List.mem_map_of_mem h1)
def Tm.los(T:Tm G c H q es ob bk){o:AH}(hl:9<=o.length)(hs:oE o){b':Nat}(i:∀(j:Nat) A,j≠5->j≠b'->H[j]? = some A->o[j]? = some A)(L:9<=b')(r:b'≠ob){key:Int}(y:∀p∈es,p.1≠key->bk p.1≠b'){v':AV}{w:Nat}{oP:List FS}(h5:o[5]? = some (.mp .u64 (kQ es key v')))(K:Lst G o (key,v') b' w oP)(E:oP.length<=c+1):
  ∃z,Tm G (c+1) o q (kQ es key v') ob z:=by
 have F:=T.o9;have l:∀p∈kQ es key v',p=(key,v')\/(p∈es/\p.1≠key):=λp n=>zz T.ks n
 refine⟨λk=>if k=key then b' else bk k,hl,i _ _ ah af T.h0,i _ _ ah af T.h1,i _ _ ah af T.h2,i _ _ ah af T.h3,i _ _ ah af T.h4,h5,i _ _ ah af T.h6,i _ _ ah af T.h8,hs,UT T.ks _ _,λp n=>?_,λp n v x=>?_,T.od.keep (λA=>i 7 A ah af) (λA=>i ob A af λe=>r e.symm),F,λp n=>?_⟩
 .rcases l p n with rfl | ⟨h1,h2⟩
  .simp only[if_true];exact⟨w,oP,K,E⟩
  .simp only[if_neg h2];obtain⟨w,oP,h,E⟩:=T.ls p h1;have:=h.b;exact⟨w,oP,h.keep λA=>i _ A af (y p h1 h2),af⟩
 .rcases l p n with rfl | ⟨h1,h2⟩<;>rcases l v x with rfl | ⟨h3,h4⟩
  .simp
  .simp only[if_true,if_neg h4];exact λe=>absurd e.symm (y v h3 h4)
  .simp only[if_true,if_neg h2];exact λe=>absurd e (y p h1 h2)
  .simp only[if_neg h2,if_neg h4];exact T.inj p h1 v h3
 .rcases l p n with rfl | ⟨h1,h2⟩
  .simp only[if_true];exact r
  .simp only[if_neg h2];exact T.ob p h1
end
variable{X Y:AH}{b n v:Nat}
def US{α:Type}{z w:Nat}{cs:α->List AV}(o:∀x,(cs x).length=z){l:List α}(n:X[b]? = some (.row w z (l.map λx=>.agg (cs x)))):Rd X z (.own b w 0 l.length) cs l:=by
 have r:=(aA.1 n).1;have i:=(aA.1 n).2;refine⟨aq,λk h=>⟨.ptr b w k 0,?_,?_⟩⟩
 .simp(disch:=omega)[i,h]
 .simp(disch:=omega)[i,o]
open Classical in
noncomputable def SO(g x:FS):Bool:=decide ((en.cz 154).p 18 [Fv g,Fv x]=some (.bool true))
def s37(v:154<n){g x:FS}{k:Nat}(hg:mF k g)(l:mF k x)(hk:k<=400)(i:X[b]? = some (.var (Fc g))):eT (en.cz n) 37 [Fv x,.ptr b 0 0 0] X=some (.bool (SO g x),X):=by
 obtain⟨r,h1,-⟩:=s18 (n:=154) ah hg l hk
 have o:SO g x=r:=by
  unfold SO;rw[h1];cases r<;>simp
 rw[o,ph 37 rfl v rfl,b6];have y:=(aA.1 i).1;have h:=(aA.1 i).2;simp only[Fv,Fc,Sc,aI,aL]at h1;simp(disch:=omega)[c37,h,ca 18,h1]
def Uj{g x:FS}{k:Nat}(hg:mF k g)(b:mF k x)(hk:k<=400)(h:SO g x=true):Fv g=Fv x:=by
 obtain⟨r,h1,h2⟩:=s18 (n:=154) ah hg b hk
 unfold SO at h;rw[h1]at h;simp only[bh,AV.bool.injEq,decide_eq_true_eq]at h;exact h2 h
def s36(r:158<n){g:FS}{k:Nat}(hg:mF k g)(hk:k<=400)(A:oE X)(v:X[b]? = some (.var (Fc g))){i:AV}{oP:List FS}(hs:∀x∈oP,mF k x)(hl:oP.length<=1000000000000)(o:Rd X 10 i Fc oP):
  ∃Z,Z.all gd=true/\eT (en.cz n) 36 [i,.fn (.func 37) [] [.ptr b 0 0 0]] X=some (.bool (oP.any (SO g)),X++Z):=by
 obtain⟨Z,y,h⟩:=ixG (Γ:=en.cz 157) (z:=10) (cs:=Fc) (λ_=>rfl) hl A o 37 [] [.ptr b 0 0 0] (SO g) λx l=>⟨[],rfl,by rw[cH];exact s37 ah hg (hs x l) hk v⟩
 have h1:eT (en.cz 158) 85 [i,.fn (.func 37) [] [.ptr b 0 0 0]] X=_:=(p85 ah _ _).trans h
 exact⟨Z,y,(ph 36 rfl r rfl _ _).trans (cfG h1)⟩
def pQ(i:oE X)(k:Nat){A:AB}(l:ve X.length A=true):oE (X.set k A):=by
 unfold oE at i⊢;rw[dG];rw[aM]at i⊢;intro b h
 rcases dz h with h | rfl
 .exact i b h
 .exact l
section
variable{G:Ir}{c:Nat}{H:AH}{q:Nat}{es:List (Int×AV)}{ob:Nat}{bk:Int->Nat}
def Tm.bkl(T:Tm G c H q es ob bk){p:Int×AV}(b:p∈es):bk p.1<H.length:=by
 obtain⟨w,oP,h,-⟩:=T.ls p b;exact(aA.1 h.r).1
def Tm.S2(T:Tm G c H q es ob bk)(i:Y.all gd=true)(x:Int):Tm G c (H.set 7 (.var [.own (H.length+Y.length) 0 0 1])++(Y++[.row 0 1 [I x]])) 1 es (H.length+Y.length) bk:=by
 have hl:=T.len
 have hs:oE (H.set 7 (.var [.own (H.length+Y.length) 0 0 1])++(Y++[.row 0 1 [I x]])):=by
  rw[<-eo _ _ af]
  refine pQ (tZ T.st (by rw[cm,i];rfl)) 7 ?_
  simp[ve,uI]
 refine T.ord ak hs (λj A l _ b=>?_) af (λp h=>by have:=T.bkl h;omega) (.inr ⟨0,[x],af,?_,?_,ai⟩)
 .rw[aJ (by simpa using(aA.1 b).1),aH (λe=>l e.symm)]
  exact b
 .rw[aS ai]
  simp
 .rw[aJ ak,aK af]
def Tm.S0(T:Tm G c H q es ob bk){r:ay}(l:H[ob]? = some (.row v 1 (r.map I)))(z:q<=r.length)(o:Y.all gd=true)(x:Int):Tm G c ((H.set ob (.row (v+1) 1 ((r.map I).take q++[I x]))++Y).set 7 (.var [.own ob (v+1) 0 (q+1)])) (q+1) es ob bk:=by
 have hl:=T.len;have i:=T.o9;have b:=(aA.1 l).1;refine T.ord ak (pQ (tZ (pQ T.st ob rfl) o) 7 ?_) (λj A y n h=>?_) i T.ob (.inr ⟨v+1,r.take q++[x],i,?_,?_,?_⟩)
 .simp[ve,uI];omega
 .rw[aH (λe=>y e.symm),aJ (by simpa using(aA.1 h).1),aH (λe=>n e.symm)]
  exact h
 .rw[aH af,aJ (an b),aK b]
  simp
 .rw[aK ak]
 .simp;omega
def Tm.pop(T:Tm G c H (q+1) es ob bk){r:ay}(h:H[ob]? = some (.row v 1 (r.map I)))(o:q+1<=r.length):Tm G c (H.set 7 (.var [.own ob v 0 q])) q es ob bk:=by
 have hl:=T.len;have i:=T.o9;have b:=(aA.1 h).1;refine T.ord (an hl) (pQ T.st 7 ?_) (λj A n x l=>?_) i T.ob (.inr ⟨v,r,i,?_,?_,af⟩)
 .simp[ve,uI,b]
 .rw[aH (λe=>n e.symm)]
  exact l
 .rw[aH af]
  exact h
 .rw[aK af]
end
structure Gt(Γ:jE):Prop where
 p12:∀a,Γ.p 12 a=(en.cz 162).p 12 a
 p38:∀a,Γ.p 38 a=(en.cz 162).p 38 a
 c36:∀a H,eT Γ 36 a H=eT (en.cz 162) 36 a H
def WX(d:Nat):Gt (mG (en.cz 162) 35 OR d):=⟨λa=>DE ah a d,λa=>DE ah a d,λa H=>by
 have h1:=λa=>DE (Γ:=en.cz 162) (F:=OR) (show (36:Nat)≠35 by decide) a d
 have h2:=λa H=>UR (Γ:=en.cz 162) (F:=OR) (show (36:Nat)≠35 by decide) a H d
 unfold eT;simp only[h1,h2]⟩
def Fr(H b:AH):Prop:=∀(j:Nat) cs,j≠7->H[j]? = some (.var cs)->b[j]? = some (.var cs)
def Fr.trans{A B C:AH}(h:Fr A B)(k:Fr B C):Fr A C:=λj cs b h1=>k j cs b (h j cs b h1)
def vp(H Y:AH):Fr H (H++Y):=λj cs _ h=>by
 rw[aJ (aA.1 h).1];exact h
def F0(H:AH)(A:AB)(Y:AH):Fr H (H.set 7 A++Y):=λj cs b h=>by
 rw[aJ (by simpa using(aA.1 h).1),aH (λe=>b e.symm)]
 exact h
def FZ{H:AH}{ob v:Nat}{r:List AV}(i:H[ob]? = some (.row v 1 r))(A B:AB)(Y:AH):Fr H ((H.set ob A++Y).set 7 B):=λj cs l h=>by
 have b:ob≠j:=λe=>by rw[e,h]at i;cases i
 rw[aH (λe=>l e.symm),aJ (by simpa using(aA.1 h).1),aH b]
 exact h
def zI(H:AH)(A:AB):Fr H (H.set 7 A):=λj cs b h=>by
 rw[aH (λe=>b e.symm)]
 exact h
def jV(m i:Nat):(m ||| 2 ^ i).testBit=Li.put m.testBit i:=by
 funext j
 rw[JL];unfold Li.put
 by_cases h:i=j
 .simp[h]
 .have:¬j=i:=λe=>h e.symm
  simp[h,this]
def An:Nat->Nat
 |0=>0
 |e+1=>1+10*An e
def Ph(G:Ir)(Γ:jE)(d:Nat):Prop:=∀(m:Nat)(g:FS)(k q c:Nat)(H:AH) es ob o,Tm G c H q es ob o->c+An (Li.left G.cs.length m.testBit+1)<=100000000000->mF k g->m<2 ^ G.cs.length->k+Li.left G.cs.length m.testBit<=G.K->q+Li.left G.cs.length m.testBit<=100->Li.left G.cs.length m.testBit<d->
 ∃b l n es' h i,eT Γ 35 (Fv g::Un m::EN) H=some (.bool b,l)/\Tm G (c+An (Li.left G.cs.length m.testBit+1)) l n es' h i/\Fr H l/\(b=true↔Li.vT G.cs (Fv g) m.testBit)/\(b=false->n=q)
set_option maxHeartbeats 2000000 in
def r35{G:Ir}(hG:G.Ok){Γ:jE}(hΓ:Gt Γ){d:Nat}(ih:Ph G Γ d){m:Nat}(hm:m<2 ^ G.cs.length){g:FS}{k:Nat}(hg:mF k g)(hk:k+Li.left G.cs.length m.testBit<=G.K)(hd:Li.left G.cs.length m.testBit<=d){q:Nat}(akz:q+Li.left G.cs.length m.testBit<=100)
  {H:AH} {es:List (Int×AV)} {ob:Nat} {bk:Int->Nat} {cn:Nat} (PI:cn+An (Li.left G.cs.length m.testBit)<=100000000000) (T:Tm G cn H q es ob bk) {p:Nat} (hp:H[p]? = some (.var (Fc g))) (L:Nat) (e0:Env) (h1:e0 1=Un m) (h5:e0 5 = .ptr 4 0 0 0) (h6:e0 6 = .ptr 0 0 0 0) (h7:e0 7 = .ptr 7 0 0 0) (h8:e0 8 = .ptr 8 0 0 0) (h9:e0 9 = .ptr p 0 0 0) (FU:e0 26 = .b9 false (G.cs.map Pr)) (N0:e0 27=I (G.cs.length:Int))
  (i:Nat) (hi:i<G.cs.length) (c:JT) (hc:G.cs[i]=c) :
  (∃H' es' Vq bk',Tm G (cn+An (Li.left G.cs.length m.testBit)) H' q es' Vq bk'/\Fr H H'/\mN Γ [28] [(.exit 0,[]),(.ret,[11])] mX e0 L ([I (i:Int)],H)=some (.inl ([I ((i+1:Nat):Int)],H'))/\(Li.SC G.cs (Fv g) m.testBit i c->¬Li.vT G.cs (c.run (Fv g)).1 (Li.put m.testBit i)))\/
  (∃H' q' es' Vq bk',Tm G (cn+An (Li.left G.cs.length m.testBit)) H' q' es' Vq bk'/\Fr H H'/\mN Γ [28] [(.exit 0,[]),(.ret,[11])] mX e0 L ([I (i:Int)],H)=some (.inr (.ret,[.bool true],H'))/\Li.vT G.cs (Fv g) m.testBit):=by
 have hn:G.cs.length<=60:=by have:=hG.n;omega
 have hpl:=xl hn;have hl:=T.len;have g0:=iT T.h0 af
 have g3:=iT T.h3 af
 have g4:=iT T.h4 af
 have g8:=iT T.h8 af
 have ajX:=(aA.1 hp).1;have gp:=iT hp ajX;have l0:0<H.length:=af
 have l3:3<H.length:=af
 have l4:4<H.length:=af
 have l7:7<H.length:=af
 have l8:8<H.length:=af
 have hml:m<18446744073709551616:=af
 have F:=Sm (m:=m) (i:=i) af
 have E:=Ss (i:=i) hml;obtain⟨bm,hb1,WS⟩:=hG.bf i c (by rw[<-hc];exact aD hi)
 have PK:=hG.bl;have hib:i<G.bf.length:=af
 have PL:G.bf[i]=bm:=bp ((aD hib).symm.trans hb1);obtain⟨r,NN,hr2⟩:=Sr (WS.u hn) hml;have hcb:i<1000000:=af
 have O:=Er (i:=i) af
 have hp2:2 ^ i<18446744073709551616:=by have:=xl (n:=i) af;omega
 have P:=Ik hml hp2;rw[show ((2 ^ i:Nat):Int)=(2:Int) ^ i by simp]at P O
 have akV:=T.o9;have ne7:¬ob=7:=af
 have ne8:¬ob=8:=af
 cases HL:m.testBit i with
 |true =>
  rw[HL]at E;refine .inl ⟨_,_,_,_,(T.app (Y:=[.var (Pr c).cells]) rfl).mono af,vp _ _,by simp(disch:=omega)[iZ,mX,h1,FU,N0,hc,F,E],λhM=>?_⟩
  rw[hM.no]at HL;cases HL
 |false =>
 rw[HL]at E
 by_cases hr:r=0
 case neg =>
  refine .inl ⟨_,_,_,_,(T.app (Y:=[.var (Pr c).cells]) rfl).mono af,vp _ _,by simp(disch:=omega)[iZ,mX,h1,h5,FU,N0,hi,hc,g3,g4,F,E,PL,NN,hr,jk],λhM=>?_⟩
  refine absurd (hr2.2 λj hj=>?_) hr
  rw[WS.bit]at hj;simp only[aF,decide_eq_true_eq]at hj;obtain⟨hjn,hj⟩:=hj;unfold preB at hj;rw[aD hjn]at hj;simp only[bB]at hj;cases he:G.cs[j].e with
  |none=>rw[he]at hj;simp at hj
  |some e =>
   rw[he]at hj;simp only[bB,decide_eq_true_eq]at hj;exact hM.pre j _ e (aD hjn) he hj
 have hpre:=hr2.1 hr;have hfr:=(Li.Bv (D:=Dv) G.l).1 c (by rw[<-hG.cs,<-hc];exact aN hi)
 obtain⟨⟨x,hx1,hx2,hx3⟩,hfe⟩:=hfr;have hxl:=(aA.1 hx1).1;have W:G.l[c.b]=x:=(aA.1 hx1).2;have hox:=hG.o x (by rw[<-W];exact aN hxl) hx2
 have hGk:=hG.k;obtain⟨f',Q9,Tp,hD3,hD4⟩:=JS hg af hox
 have hD:Γ.p 12 [Fv g,Ov x.op]=some (.jg [Fv f',Av (Dv x.op (Fv g)).2]):=(hΓ.p12 _).trans (hD4 ah)
 have Q:c.run (Fv g)=Dv x.op (Fv g):=by rw[hx3]
 rw[Q,Q9];generalize hra:(Dv x.op (Fv g)).2=a' at *
 obtain⟨run,cb,ce⟩:=c;simp only at hxl W hfe Q;have M:=Li.Nv (m:=G.cs.length) (s:=m.testBit) hi HL;have hm2:m ||| 2 ^ i<2 ^ G.cs.length:=gC hm (iH ah hi)
 have PM:G.cs[i]? = some ⟨run,cb,ce⟩:=by rw[<-hc];exact aD hi
 have hMp:∀(j:Nat) d e,G.cs[j]? = some d->d.e=some e->e.1<cb->m.testBit j=true:=λj d e hj he hlt=>hpre j (by
  have hjl:=(aA.1 hj).1;rw[WS.bit];unfold preB;rw[hj];simp[hjl,he,hlt])
 cases ce with
 |none =>
  have NY:Li.SC G.cs (Fv g) m.testBit i ⟨run,cb,none⟩:=⟨PM,HL,hMp,λe he=>by cases he⟩
  simp only[Fv,Fc,Sc,Ov,Oc,Av,Ac,aI,aL]at hD
  rcases T.od with⟨rfl,Tg⟩ | ⟨v,rw_,ho9,NP,Tg,hoq⟩
  .have g7:=iT Tg af
   generalize z:mN Γ _ _ mX e0 L _=res;have T2:=T.S2 (Y:=[.var [I cb,I (-1)],.var (Fc f'),.var (Ac a')]) rfl (cb:Int);have KT:=F0 H (.var [.own (H.length+3) 0 0 1]) ([.var [I cb,I (-1)],.var (Fc f'),.var (Ac a')]++[.row 0 1 [I cb]]);obtain⟨b,H3,q3,Oo,S,O6,hC,T3,HO,hb,N⟩:=ih (m ||| 2 ^ i) f' (k+1) _ _ _ _ _ _ T2 (by rw[jV,M];exact PI) Tp hm2 (by rw[jV];omega) (by rw[jV];omega) (by rw[jV];omega)
   rw[jV]at hb;rw[jV,M]at T3;simp only[Fv,Fc,Sc,Ac,Un,EN,aR,bt,bV,Nat.reduceAdd,aI,aL]at hC;cases b with
   |true =>
    simp(disch:=omega)[iZ,mX,h1,h5,h6,h7,h8,h9,FU,N0,hi,hc,g0,g3,g4,g8,gp,F,E,PL,NN,hr,W,hD,g7,O,P,nP,kM,jk,hC]at z;exact .inr ⟨H3,q3,Oo,S,O6,T3,KT.trans HO,z.symm,.step i _ NY (by show Li.vT G.cs (run (Fv g)).1 _;rw[Q,Q9];exact hb.1 rfl)⟩
   |false =>
    have N:=N rfl;subst N
    rcases T3.od with⟨h0,_⟩ | ⟨v3,r3,ho3,A,Z,X⟩
    .omega
    .have VF:7<H3.length:=by have:=T3.len;omega
     have W5:=iT Z VF;have U:=(aA.1 A).1;have HP:=iT A U;simp(disch:=omega)[iZ,mX,h1,h5,h6,h7,h8,h9,FU,N0,hi,hc,g0,g3,g4,g8,gp,F,E,PL,NN,hr,W,hD,g7,O,P,nP,kM,jk,hC,W5,HP]at z;exact .inl ⟨_,Oo,S,O6,T3.pop A X,(KT.trans HO).trans (zI _ _),z.symm,λ_ h=>absurd (hb.2 h) ai⟩
  .have g7:=iT Tg af
   have lob:=(aA.1 NP).1;have gob:=iT NP lob;generalize z:mN Γ _ _ mX e0 L _=res;have T2:=T.S0 NP hoq (Y:=[.var [I cb,I (-1)],.var (Fc f'),.var (Ac a')]) rfl (cb:Int);have KT:=FZ NP (.row (v+1) 1 ((rw_.map I).take q++[I cb])) (.var [.own ob (v+1) 0 (q+1)]) [.var [I cb,I (-1)],.var (Fc f'),.var (Ac a')]
   obtain⟨b,H3,q3,Oo,S,O6,hC,T3,HO,hb,N⟩:=ih (m ||| 2 ^ i) f' (k+1) _ _ _ _ _ _ T2 (by rw[jV,M];exact PI) Tp hm2 (by rw[jV];omega) (by rw[jV];omega) (by rw[jV];omega)
   rw[jV]at hb;rw[jV,M]at T3;simp only[Fv,Fc,Sc,Ac,Un,EN,aI,aL]at hC;cases b with
   |true =>
    simp(disch:=omega)[iZ,mX,h1,h5,h6,h7,h8,h9,FU,N0,hi,hc,g0,g3,g4,g8,gp,F,E,PL,NN,hr,W,hD,g7,gob,O,P,nP,kM,jk,hC]at z;exact .inr ⟨H3,q3,Oo,S,O6,T3,KT.trans HO,z.symm,.step i _ NY (by show Li.vT G.cs (run (Fv g)).1 _;rw[Q,Q9];exact hb.1 rfl)⟩
   |false =>
    have N:=N rfl;subst N
    rcases T3.od with⟨h0,_⟩ | ⟨v3,r3,ho3,A,Z,X⟩
    .omega
    .have VF:7<H3.length:=by have:=T3.len;omega
     have W5:=iT Z VF;have U:=(aA.1 A).1;have HP:=iT A U;simp(disch:=omega)[iZ,mX,h1,h5,h6,h7,h8,h9,FU,N0,hi,hc,g0,g3,g4,g8,gp,F,E,PL,NN,hr,W,hD,g7,gob,O,P,nP,kM,jk,hC,W5,HP]at z;exact .inl ⟨_,Oo,S,O6,T3.pop A X,(KT.trans HO).trans (zI _ _),z.symm,λ_ h=>absurd (hb.2 h) ai⟩
 |some e =>
  obtain⟨t,ea⟩:=e;obtain⟨y,hy1,hy2,hy3⟩:=hfe _ rfl;simp only at hy1 hy3;have hyl:=(aA.1 hy1).1;have hyg:G.l[t]=y:=(aA.1 hy1).2;have hya:=hG.a y (by rw[<-hyg];exact aN hyl) hy2
  obtain⟨rs,hS,hrs⟩:=s38 (n:=162) ah hD3 hya
  have hS:=(hΓ.p38 _).trans hS;simp only[Fv,Fc,Sc,Ov,Oc,Av,Ac,aI,aL]at hD hS;cases rs with
  |false =>
   refine .inl ⟨_,_,_,_,(T.app (Y:=[.var [I cb,I t],.var (Fc f'),.var (Ac a')]) rfl).mono af,vp _ _,by simp(disch:=omega)[iZ,mX,h1,h5,h6,h9,FU,N0,hi,hc,g0,g3,g4,gp,F,E,PL,NN,hr,W,hD,hyg,hS,jk],λhM=>?_⟩
   have:=hM.PT _ rfl;simp only at this;rw[Q,hra,<-hy3]at this;exact absurd (hrs.2 this) ai
  |true =>
   have WU:=hrs.1 rfl
   have NY:Li.SC G.cs (Fv g) m.testBit i ⟨run,cb,some (t,ea)⟩:=⟨PM,HL,hMp,λe he=>by
    cases he;simp only;rw[Q,hra,WU,hy3]⟩
   rcases T.od with⟨rfl,Tg⟩ | ⟨v,rw_,ho9,NP,Tg,hoq⟩
   .have g7:=iT Tg af
    generalize z:mN Γ _ _ mX e0 L _=res;have T2:=T.S2 (Y:=[.var [I cb,I t],.var (Fc f'),.var (Ac a')]) rfl (cb:Int);have KT:=F0 H (.var [.own (H.length+3) 0 0 1]) ([.var [I cb,I t],.var (Fc f'),.var (Ac a')]++[.row 0 1 [I cb]]);obtain⟨b,H3,q3,Oo,S,O6,hC,T3,HO,hb,N⟩:=ih (m ||| 2 ^ i) f' (k+1) _ _ _ _ _ _ T2 (by rw[jV,M];exact PI) Tp hm2 (by rw[jV];omega) (by rw[jV];omega) (by rw[jV];omega)
    rw[jV]at hb;rw[jV,M]at T3;simp only[Fv,Fc,Sc,Ac,Un,EN,aR,bt,bV,Nat.reduceAdd,aI,aL]at hC;cases b with
    |true =>
     simp(disch:=omega)[iZ,mX,h1,h5,h6,h7,h8,h9,FU,N0,hi,hc,g0,g3,g4,g8,gp,F,E,PL,NN,hr,W,hD,hyg,hS,g7,O,P,nP,kM,jk,hC]at z;exact .inr ⟨H3,q3,Oo,S,O6,T3,KT.trans HO,z.symm,.step i _ NY (by show Li.vT G.cs (run (Fv g)).1 _;rw[Q,Q9];exact hb.1 rfl)⟩
    |false =>
     have N:=N rfl;subst N
     rcases T3.od with⟨h0,_⟩ | ⟨v3,r3,ho3,A,Z,X⟩
     .omega
     .have VF:7<H3.length:=by have:=T3.len;omega
      have W5:=iT Z VF;have U:=(aA.1 A).1;have HP:=iT A U;simp(disch:=omega)[iZ,mX,h1,h5,h6,h7,h8,h9,FU,N0,hi,hc,g0,g3,g4,g8,gp,F,E,PL,NN,hr,W,hD,hyg,hS,g7,O,P,nP,kM,jk,hC,W5,HP]at z;exact .inl ⟨_,Oo,S,O6,T3.pop A X,(KT.trans HO).trans (zI _ _),z.symm,λ_ h=>absurd (hb.2 h) ai⟩
   .have g7:=iT Tg af
    have lob:=(aA.1 NP).1;have gob:=iT NP lob;generalize z:mN Γ _ _ mX e0 L _=res;have T2:=T.S0 NP hoq (Y:=[.var [I cb,I t],.var (Fc f'),.var (Ac a')]) rfl (cb:Int);have KT:=FZ NP (.row (v+1) 1 ((rw_.map I).take q++[I cb])) (.var [.own ob (v+1) 0 (q+1)]) [.var [I cb,I t],.var (Fc f'),.var (Ac a')]
    obtain⟨b,H3,q3,Oo,S,O6,hC,T3,HO,hb,N⟩:=ih (m ||| 2 ^ i) f' (k+1) _ _ _ _ _ _ T2 (by rw[jV,M];exact PI) Tp hm2 (by rw[jV];omega) (by rw[jV];omega) (by rw[jV];omega)
    rw[jV]at hb;rw[jV,M]at T3;simp only[Fv,Fc,Sc,Ac,Un,EN,aI,aL]at hC;cases b with
    |true =>
     simp(disch:=omega)[iZ,mX,h1,h5,h6,h7,h8,h9,FU,N0,hi,hc,g0,g3,g4,g8,gp,F,E,PL,NN,hr,W,hD,hyg,hS,g7,gob,O,P,nP,kM,jk,hC]at z;exact .inr ⟨H3,q3,Oo,S,O6,T3,KT.trans HO,z.symm,.step i _ NY (by show Li.vT G.cs (run (Fv g)).1 _;rw[Q,Q9];exact hb.1 rfl)⟩
    |false =>
     have N:=N rfl;subst N
     rcases T3.od with⟨h0,_⟩ | ⟨v3,r3,ho3,A,Z,X⟩
     .omega
     .have VF:7<H3.length:=by have:=T3.len;omega
      have W5:=iT Z VF;have U:=(aA.1 A).1;have HP:=iT A U;simp(disch:=omega)[iZ,mX,h1,h5,h6,h7,h8,h9,FU,N0,hi,hc,g0,g3,g4,g8,gp,F,E,PL,NN,hr,W,hD,hyg,hS,g7,gob,O,P,nP,kM,jk,hC,W5,HP]at z;exact .inl ⟨_,Oo,S,O6,T3.pop A X,(KT.trans HO).trans (zI _ _),z.symm,λ_ h=>absurd (hb.2 h) ai⟩
def l35{G:Ir}(U:G.Ok){Γ:jE}(N:Gt Γ){d:Nat}(ih:Ph G Γ d){m:Nat}(hm:m<2 ^ G.cs.length){g:FS}{k:Nat}(hg:mF k g)(hk:k+Li.left G.cs.length m.testBit<=G.K)(hd:Li.left G.cs.length m.testBit<=d){q:Nat}(v:q+Li.left G.cs.length m.testBit<=100)
  {H:AH} {es:List (Int×AV)} {ob:Nat} {bk:Int->Nat} {M:Nat} (PI:M+10*An (Li.left G.cs.length m.testBit)<=100000000000) (T:Tm G M H q es ob bk) {p:Nat} (W:p≠7) (hp:H[p]? = some (.var (Fc g))) (L:Nat) (e0:Env) (h1:e0 1=Un m) (h5:e0 5 = .ptr 4 0 0 0) (h6:e0 6 = .ptr 0 0 0 0) (h7:e0 7 = .ptr 7 0 0 0) (h8:e0 8 = .ptr 8 0 0 0) (h9:e0 9 = .ptr p 0 0 0) (X:e0 26 = .b9 false (G.cs.map Pr)) (F:e0 27=I (G.cs.length:Int)) :
  ∃y,(∃o r es' b l,Tm G (M+10*An (Li.left G.cs.length m.testBit)) o r es' b l/\Fr H o/\((y=(AX.exit 0,[],o)/\r=q/\∀(i:Nat) c,Li.SC G.cs (Fv g) m.testBit i c->¬Li.vT G.cs (c.run (Fv g)).1 (Li.put m.testBit i))\/(y=(AX.ret,[AV.bool true],o)/\Li.vT G.cs (Fv g) m.testBit)))/\
   iter (mN Γ [28] [(.exit 0,[]),(.ret,[11])] mX e0 L) ([I 0],H)=some y :=
 iQ (f:=mN Γ [28] [(.exit 0,[]),(.ret,[11])] mX e0 L) G.cs.length (λi (x:AH×List (Int×AV)×Nat×(Int->Nat))=>([I (i:Int)],x.1)) (λy=>∃o r es' b l,Tm G (M+10*An (Li.left G.cs.length m.testBit)) o r es' b l/\Fr H o/\((y=(AX.exit 0,[],o)/\r=q/\∀(i:Nat) c,Li.SC G.cs (Fv g) m.testBit i c->¬Li.vT G.cs (c.run (Fv g)).1 (Li.put m.testBit i))\/(y=(AX.ret,[AV.bool true],o)/\Li.vT G.cs (Fv g) m.testBit)))
  (λi x=>Tm G (M+i*An (Li.left G.cs.length m.testBit)) x.1 q x.2.1 x.2.2.1 x.2.2.2/\Fr H x.1/\∀(j:Nat) c,j<i->Li.SC G.cs (Fv g) m.testBit j c->¬Li.vT G.cs (c.run (Fv g)).1 (Li.put m.testBit j))
  (λi x Z ⟨T,E,S⟩=>by
   have hGn:=U.n;have P:(i+1)*An (Li.left G.cs.length m.testBit)<=10*An (Li.left G.cs.length m.testBit):=br _ af
   rw[gK]at P
   rcases r35 U N ih hm hg hk hd v af T (E p _ W hp) L e0 h1 h5 h6 h7 h8 h9 X F i Z _ rfl with⟨o,es',b,l,Y,z,O,hn⟩ | ⟨o,r,es',b,l,Y,z,O,hy⟩
   .refine .inl ⟨(o,es',b,l),⟨by rw[gK,<-cF];exact Y,E.trans z,λj c hj A=>?_⟩,O⟩
    by_cases Q:j=i
    .subst Q;have:=A.at_;rw[aD Z]at this;cases this;exact hn A
    .exact S j c af A
   .exact .inr ⟨_,⟨o,r,es',b,l,Y.mono af,E.trans z,.inr ⟨rfl,hy⟩⟩,O⟩)
  (λx ⟨T,E,S⟩=>⟨_,⟨x.1,q,x.2.1,x.2.2.1,x.2.2.2,T.mono (Nat.add_le_add_left (br _ U.n) _),E,.inl ⟨rfl,rfl,λj c A=>S j c (aA.1 A.at_).1 A⟩⟩,by simp(disch:=omega)[iZ,mX,F]⟩) (aQ _) (H,es,ob,bk) ⟨by rw[gm,cQ];exact T,λ_ _ _ h=>h,λj c hj=>af⟩
def Ch{G:Ir}(r:G.Ok)(m:Nat):(m &&& G.nd=G.nd)↔Li.Whole G.cs m.testBit:=by
 have b:=r.nd.bit
 constructor
 .intro h i c n l;have q:=(aA.1 n).1;have h1:G.nd.testBit i=true:=by
   rw[b];unfold Gj;rw[n];simp[q,l]
  rw[<-h,gU]at h1;simp only[aF]at h1;exact h1.1
 .intro h;apply iG;intro j;rw[gU];cases o:G.nd.testBit j with
  |false=>simp
  |true =>
   have h2:=o;rw[b]at h2;simp only[aF,decide_eq_true_eq]at h2;obtain⟨hl,l⟩:=h2;unfold Gj at l;rw[aD hl]at l;rw[h j _ (aD hl) l];rfl
def QH{G:Ir}{c:Nat}{H:AH}{q:Nat}{es:List (Int×AV)}{ob:Nat}{z:Int->Nat}(T:Tm G c H q es ob z)(m:Int):∃oP:List FS,(∀x∈oP,mF G.K x/\Y0 G m (Fv x))/\oP.length<=c/\Rd H 10 (ko es m (.b9 true [])) Fc oP:=by
 unfold ko;cases i:es.find? λp=>decide (p.1=m)with
 |none=>exact⟨[],ai,ai,xk H (cs:=Fc) (λ_=>rfl) [] true⟩
 |some p =>
  have o:=bG i;have b:=cM i;simp only[decide_eq_true_eq]at b;obtain⟨w,oP,h,y⟩:=T.ls p o;refine⟨oP,λx n=>?_,y,?_⟩
  .rw[<-b];exact h.d x n
  .have:=US (cs:=Fc) (λ_=>rfl) (l:=oP) h.r
   rw[<-h.v]at this;exact this
def LZ{G:Ir}(hG:G.Ok):∀d,Ph G (mG (en.cz 162) 35 OR d) d
 |0=>λm g k q c H es ob bk T hc hg hm hk hq hd=>af
 |d+1=>λm g k q c H es ob bk T hc hg hm hk hq hd=>by
  have hAn:An (Li.left G.cs.length m.testBit+1)=1+10*An (Li.left G.cs.length m.testBit):=rfl;have ih:=LZ hG d;have hΓ:=WX d;generalize l:eT (mG (en.cz 162) 35 OR (d+1)) 35 _ H=res;rw[ow,b6]at l;obtain⟨Γ,ajQ⟩:∃Γ,Γ=mG (en.cz 162) 35 OR d:=⟨_,rfl⟩;rw[<-ajQ]at ih hΓ l;have hn:G.cs.length<=60:=by have:=hG.n;omega
  have hpl:=xl hn;have hml:m<18446744073709551616:=af
  have aj4:=hG.nd.u hn;have hand:=JM hml aj4;have hl:=T.len;have hGk:=hG.k;have T1:=T.app (Y:=[.var (Fc g)]) rfl;have g2:=iT T.h2 af
  have g1:=iT T.h1 af
  have g6:=iT T.h6 af
  have g5:=iT T.h5 af
  have l1:1<H.length:=af
  have l2:2<H.length:=af
  have l5:5<H.length:=af
  have l6:6<H.length:=af
  by_cases hw:m &&& G.nd=G.nd
  .simp(disch:=omega)[OR,g2,hand,hw,jk]at l;exact⟨true,_,_,_,_,_,l.symm,T1.mono af,vp _ _,by simpa using Li.vT.fin ((Ch hG m).1 hw),ai⟩
  simp(disch:=omega)[OR,g2,g5,g6,hand,jk]at l;have X:H.length≠7:=af
  have W:mF G.K g:=hg.mono af
  obtain⟨oP,hst,hsl,hRd⟩:=QH T1 (m:Int);have hp1:(H++[AB.var (Fc g)])[H.length]? = some (.var (Fc g)):=by rw[aS af];simp
  obtain⟨Z,hZ,F⟩:=s36 (n:=162) ah W af T1.st hp1 (λx M=>(hst x M).1) af hRd
  have F:=(hΓ.c36 _ _).trans F;simp only[Fc,Sc,aI,aL]at F;cases Q:oP.any (SO g)with
  |true =>
   rw[Q]at F;simp(disch:=omega)[F]at l;obtain⟨x,M,hxs⟩:=cv.1 Q;have he:=Uj W (hst x M).1 af hxs
   have P:=(hst x M).2 m rfl;rw[<-he]at P;exact⟨false,_,_,_,_,_,l.symm,(T.app (Y:=.var (Fc g)::Z) (by rw[bU,hZ];rfl)).mono af,vp _ _,an P,λ_=>rfl⟩
  |false =>
   rw[Q]at F;have T2:=T.app (Y:=.var (Fc g)::Z) (by rw[bU,hZ];rfl)
   have hp2:(H++AB.var (Fc g)::Z)[H.length]? = some (.var (Fc g)):=by rw[aS af];simp
   simp(disch:=omega)[F,g1,jk]at l;have key:=λL e0=>l35 hG hΓ ih hm hg af af (q:=q) af af T2 X hp2 L e0
   simp only[Fc,Sc,aI,aL]at key;generalize M:iter _ _=oo at l;obtain⟨_,⟨E,q3,z,ob3,S,o,HO,hc⟩,rfl⟩:∃y,_/\oo=some y:=by rw[<-M];exact key _ _ aq aq aq aq aq aq aq aq
   rcases hc with⟨rfl,rfl,hno⟩ | ⟨rfl,hyes⟩
   .have hl3:=o.len;have hp3:=HO _ _ X hp2;have lp3:=(aA.1 hp3).1;have gp3:=iT hp3 lp3;have k6:=iT o.h6 af
    have k5:=iT o.h5 af
    have m5:5<E.length:=af
    have m6:6<E.length:=af
    simp only[Fc,Sc,aI,aL]at gp3
    have hnl:¬Li.vT G.cs (Fv g) m.testBit:=λh=>by
     obtain⟨i,c,h1,h2⟩:=h.cases λh=>hw ((Ch hG m).2 h)
     exact hno i c h1 h2
    have P:Y0 G (m:Int) (Fv g):=λm' hmm=>by
     have:m'=m:=af
     rw[this];exact hnl
    have fin:∀ {H' U v' Vq},res=some (.bool false,H')->Tm G (c+10*An (Li.left G.cs.length m.testBit)+1) H' q3 (kQ z (m:Int) v') Vq U->Fr E H'->∃b H' q' es' Vq U,res=some (.bool b,H')/\Tm G (c+An (Li.left G.cs.length m.testBit+1)) H' q' es' Vq U/\Fr H H'/\(b=true↔Li.vT G.cs (Fv g) m.testBit)/\(b=false->q'=q3):=λh1 h2 h3=>⟨false,_,_,_,_,_,h1,h2.mono af,((vp _ _).trans HO).trans h3,an hnl,λ_=>rfl⟩
    cases hf:z.find? λp=>decide (p.1=(m:Int))with
    |none =>
     have hlk:ko z (m:Int) (.b9 true []) = .b9 true []:=by unfold ko;rw[hf];rfl
     simp(disch:=omega)[gp3,k6,k5,hlk,jk]at l
     have hs5:oE (E.set 5 (AB.mp .u64 (kQ z (m:Int) (.own E.length 0 0 1)))++[AB.row 0 10 [Fv g]]):=by
      rw[<-eo _ _ m5];refine pQ (tZ o.st rfl) 5 ?_;simp only[ve,aM,bP];intro p N
      rcases zz o.ks N with rfl | ⟨h1,-⟩
      .right;simp[uI]
      .obtain⟨w,oP,hL,-⟩:=o.ls p h1;have:=o.bkl h1;right;rw[hL.v];simp[uI];omega
     have O:∀(j:Nat) A,j≠5->E[j]? = some A->(E.set 5 (AB.mp .u64 (kQ z (m:Int) (.own E.length 0 0 1)))++[AB.row 0 10 [Fv g]])[j]? = some A:=λj A h5 h=>by
      rw[aJ (by simpa using(aA.1 h).1),aH (λe=>h5 e.symm)]
      exact h
     obtain⟨ob4,T4,ajZ⟩:∃ob4,Tm G (c+10*An (Li.left G.cs.length m.testBit)) E q3 z ob4 S/\ob4≠E.length:=by
      rcases o.od with⟨e1,e2⟩ | ⟨v,r,_,h,_⟩
      .exact⟨E.length+1,o.ord o.len o.st (λ_ _ _ _ h=>h) af (λp N=>by have:=o.bkl N;omega) (.inl ⟨e1,e2⟩),af⟩
      .exact⟨ob3,o,by have:=(aA.1 h).1;omega⟩
     obtain⟨U,T5⟩:=T4.los (key:=(m:Int)) (v':=.own E.length 0 0 1) ak hs5 (b':=E.length) (λj A h5 _ h=>O j A h5 h) af (λe=>ajZ e.symm) (λp N _=>by have:=o.bkl N;omega) (by rw[aJ (an m5),aK m5]) (w:=0) (oP:=[g]) ⟨rfl,by rw[aS ai];simp,af,λx M=>by rw[bT.1 M];exact⟨W,P⟩⟩ ai
     exact fin l.symm T5 λj cs h7 h=>O j _ (λe=>by rw[e,o.h5]at h;cases h) h
    |some p =>
     have N:=bG hf;have hpm:=cM hf;simp only[decide_eq_true_eq]at hpm;obtain⟨w,oP,hL,hsn⟩:=o.ls p N;have hlk:ko z (m:Int) (.b9 true []) = .own (S p.1) w 0 oP.length:=by unfold ko;rw[hf];exact hL.v
     have hr:=hL.r;have lb:=(aA.1 hr).1;have gb:=iT hr lb;have hb9:=hL.b;have nb5:¬S p.1=5:=af
     have nb6:¬S p.1=6:=af
     have htk:(oP.map Fv).take oP.length=oP.map Fv:=aO ai
     generalize hbb:S p.1=bb at *
     simp(disch:=omega)[gp3,k6,k5,hlk,gb,htk]at l
     have hs5:oE ((E.set bb (.row (w+1) 10 (oP.map Fv++[Fv g]))).set 5 (AB.mp .u64 (kQ z (m:Int) (.own bb (w+1) 0 (oP.length+1))))):=by
      refine pQ (pQ o.st bb rfl) 5 ?_;simp only[ve,aM,bP,dG];intro p N
      rcases zz o.ks N with rfl | ⟨h1,-⟩
      .right;simp[uI,lb]
      .obtain⟨w,oP,hL,-⟩:=o.ls p h1;have:=o.bkl h1;right;rw[hL.v];simp[uI];omega
     have O:∀(j:Nat) A,j≠5->j≠bb->E[j]? = some A->((E.set bb (.row (w+1) 10 (oP.map Fv++[Fv g]))).set 5 (AB.mp .u64 (kQ z (m:Int) (.own bb (w+1) 0 (oP.length+1)))))[j]? = some A:=λj A h5 hb h=>by
      rw[aH (λe=>h5 e.symm),aH (λe=>hb e.symm)]
      exact h
     obtain⟨U,T5⟩:=o.los (key:=(m:Int)) (v':=.own bb (w+1) 0 (oP.length+1)) ak hs5 (b':=bb) O hb9 (by rw[<-hbb];exact o.ob p N) (λp' hp' hne e=>hne (by rw[<-hpm];exact o.inj p' hp' p N (by rw[e,hbb]))) (by rw[aK (an m5)]) (w:=w+1) (oP:=oP++[g]) ⟨ai,by rw[aH af,aK lb];simp,hb9,λx M=>by
      rcases aX.1 M with M | M
      .have:=hL.d x M;rw[hpm]at this;exact this
      .rw[bT.1 M];exact⟨W,P⟩⟩ ak
     exact fin l.symm T5 λj cs h7 h=>O j _ (λe=>by rw[e,o.h5]at h;cases h) (λe=>by rw[e,hr]at h;cases h) h
   .simp(disch:=omega)at l;exact⟨true,_,_,_,_,_,l.symm,o.mono af,(vp _ _).trans HO,an hyes,ai⟩
end Go.Proofs.YtghgbehknhmnaaaGreatDoor
