/- Part of the proof that TopTwoPartsCard holds. -/
import Derived.Test.YtghgbehknhmnaaaGreatDoorSm30b
set_option linter.all false
namespace Go.Proofs.YtghgbehknhmnaaaGreatDoor
open Go.Am Go.Tr Go.Am.Nm Go.Lib
abbrev Tc(t:Tr.Tree)(tick:Int)(sn pc:AV)(s:j5):List AV:=[.b9 false (t.nodes.map Nd),I t.next,I t.ek,I tick,sn,pc,.b9 false (s.taken.map Xv),I s.next]
def MU{l:List Tr.Node}(hs:lC l){i:Int}(h:¬Ks l i<0):∃k:Nat,Ks l i=k/\k<l.length:=by
 have:=UX hs i;exact⟨(Ks l i).toNat,af,af⟩
def V7{s:j5}{k:Nat}(h:sF k s)(hk:k<=1000){t:Tr.Tree}(w:lM t)(tick:Int)(e0:Env)(h2:e0 2 = .iV (Sc s))(h3:e0 3 = .iV [.b9 false (t.nodes.map Nd),I t.next,I t.ek])(h5:e0 5 = .ptr 2 0 0 0)(r:e0 32 = .b9 false (s.now.nodes.map Nd))(o:e0 33=I (s.now.nodes.length:Int)):
  ∃y,(∃ps v G,Ly s s.now.nodes.length ps/\y=(AX.exit 0,[],AB.var Z8 :: .row v 8 (ps.map Pv) :: .var (Tc t tick (.b9 true []) (.own 1 v 0 ps.length) s)::G))/\
   iter (mN (en.cz 104) [34] [(.exit 0,[])] si e0 3) ([I 0],[.var Z8,.row 0 8 (s.jU.map Pv),.var (Tc t tick (.b9 true []) (.own 1 0 0 s.jU.length) s)])=some y :=
 iQ (f := mN (en.cz 104) [34] [(.exit 0, [])] si e0 3) s.now.nodes.length (λi (x : List tW × Nat × AH) => ([I (i : Int)], .var Z8 :: .row x.2.1 8 (x.1.map Pv) :: .var (Tc t tick (.b9 true []) (.own 1 x.2.1 0 x.1.length) s) :: x.2.2)) (λy => ∃ ps v G, Ly s s.now.nodes.length ps /\ y = (AX.exit 0, [], AB.var Z8 :: .row v 8 (ps.map Pv) :: .var (Tc t tick (.b9 true []) (.own 1 v 0 ps.length) s) :: G)) (λi x => Ly s i x.1)
  (λi x Y z=>by
   obtain⟨ps,v,G⟩:=x;simp only at z;have S:=h.sn;have T:=h.pl;have U:=h.w.wf.len;have Q:=w.wf.len;have A:=jQ h.w (aP Y);have Z:=z.1;obtain⟨q,E⟩:∃q,q=s.now.nodes[i]:=⟨_,rfl⟩;obtain⟨x,K⟩:∃x,x=s.since[i]:=⟨_,rfl⟩;have X:i<s.since.length:=af
   rw[<-E]at A;have F:=abw (n:=104) ah w.wf.jL af q.ino
   have H:=abu (n:=104) ah (l:=s.taken) (by have:=h.tl;omega) x tick
   generalize v7 s.taken x tick=b at H;left
   by_cases P:Ks t.nodes q.ino<0
   .generalize Ks t.nodes q.ino=j at *
    cases b with
    |true=>exact⟨(_,_,_),z.more A x tick,by simp(disch:=omega)[iZ,si,h2,h3,h5,r,o,<-E,<-K,ca 211,F,P,H];first | rfl | exact⟨rfl,rfl⟩⟩
    |false=>exact⟨(_,_,_),z.stay,by simp(disch:=omega)[iZ,si,h2,h3,h5,r,o,<-E,<-K,ca 211,F,P,H];first | rfl | exact⟨rfl,rfl⟩⟩
   .obtain⟨j,W,O⟩:=MU w.wf.jL P;obtain⟨m,L⟩:∃m,m=t.nodes[j]:=⟨_,rfl⟩;have N:=jQ w (aP O);rw[<-L]at N;obtain⟨c,M⟩:=abv (n:=104) ah q m af af
    rw[W]at F;simp only[Nd]at M;cases c with
    |true=>exact⟨(_,_,_),z.stay,by simp(disch:=omega)[iZ,si,h3,r,o,<-E,ca 211,F,<-L,M];first | rfl | exact⟨rfl,rfl⟩⟩
    |false =>
     cases b with
     |true=>exact⟨(_,_,_),z.more A x tick,by simp(disch:=omega)[iZ,si,h2,h3,h5,r,o,<-E,<-K,ca 211,F,<-L,M,H];first | rfl | exact⟨rfl,rfl⟩⟩
     |false=>exact⟨(_,_,_),z.stay,by simp(disch:=omega)[iZ,si,h2,h3,h5,r,o,<-E,<-K,ca 211,F,<-L,M,H];first | rfl | exact⟨rfl,rfl⟩⟩)
  (λx z=>⟨_,⟨x.1,x.2.1,x.2.2,z,rfl⟩,by simp(disch:=omega)[iZ,si,o]⟩) (aT _) (s.jU,0,[]) ⟨aV _,h.pe⟩
def Pz:Option (Nat×Nat)->Nat->AV
 |none,_=>.b9 true []
 |some p,n=>.own (p.1+3) p.2 0 n
def Ui(G:AH):Option (Nat×Nat)->ay->Prop
 |none,xs=>xs=[]
 |some p,xs=>G[p.1]? = some (.row p.2 1 (xs.map I))
def V6{s:j5}{k:Nat}(h:sF k s){t:Tr.Tree}(w:lM t)(tick:Int)(v T:Nat)(R:AB)(G:AH)(e0:Env)(h2:e0 2 = .iV (Sc s))(h5:e0 5 = .ptr 2 0 0 0)(l:e0 84 = .b9 false (t.nodes.map Nd))(b:e0 85=I (t.nodes.length:Int)):
  ∃y,(∃o xs S,xs.length=t.nodes.length/\Ui S o xs/\y=(AX.exit 2,[],AB.var Z8::R :: .var (Tc t tick (Pz o xs.length) (.own 1 v 0 T) s)::S))/\
   iter (mN (en.cz 104) [86] [(.exit 2,[])] qG e0 3) ([I 0],.var Z8::R :: .var (Tc t tick (.b9 true []) (.own 1 v 0 T) s)::G)=some y :=
 iQ (f := mN (en.cz 104) [86] [(.exit 2, [])] qG e0 3) t.nodes.length (λi (x : Option (Nat × Nat) × ay × AH) => ([I (i : Int)], .var Z8 :: R :: .var (Tc t tick (Pz x.1 x.2.1.length) (.own 1 v 0 T) s) :: x.2.2)) (λy => ∃ o xs S, xs.length = t.nodes.length /\ Ui S o xs /\ y = (AX.exit 2, [], AB.var Z8 :: R :: .var (Tc t tick (Pz o xs.length) (.own 1 v 0 T) s) :: S)) (λi x => x.2.1.length = i /\ Ui x.2.2 x.1 x.2.1)
  (λi x hi U=>by
   obtain⟨o,xs,G⟩:=x;obtain⟨z,hG⟩:=U;simp only at z hG;have hsl:=h.sn;have hnl:=h.w.wf.len;have hwl:=w.wf.len;have Z:=jQ w (aP hi);obtain⟨q,H⟩:∃q,q=t.nodes[i]:=⟨_,rfl⟩;rw[<-H]at Z;have E:=abw (n:=104) ah h.w.wf.jL af q.ino
   have hc:(∃j,Ks s.now.nodes q.ino=j/\j<0)\/∃(j:Nat) (F:j<s.now.nodes.length) (c:Bool),Ks s.now.nodes q.ino=j/\(en.cz 104).p 212 [Nd q,Nd s.now.nodes[j]]=some (.bool c):=by
    by_cases W:Ks s.now.nodes q.ino<0
    .exact .inl ⟨_,rfl,W⟩
    .obtain⟨j,F,P⟩:=MU h.w.wf.jL W;obtain⟨c,A⟩:=abv (n:=104) ah q s.now.nodes[j] af (by have:=(jQ h.w (aP P)).1;omega)
     exact .inr ⟨j,P,c,F,A⟩
   left;cases o with
   |none =>
    have X:xs=[]:=hG;subst X;have M:i=0:=z.symm;have fin:∀x,Ui (G++[.var (Nc q),.row 0 1 [I x]]) (some (G.length+1,0)) [x]:=λx=>by simp[Ui]
    rcases hc with⟨j,F,W⟩ | ⟨j,F,c,L,A⟩
    .rw[F]at E;exact⟨(some (G.length+1,0),[tick],G++[.var (Nc q),.row 0 1 [I tick]]),⟨by simp[M],fin _⟩,by simp(disch:=omega)[iZ,qG,h2,h5,l,b,<-H,ca 211,E,Pz]⟩
    .obtain⟨m,K⟩:∃m,m=s.now.nodes[j]:=⟨_,rfl⟩;obtain⟨x,Y⟩:∃x,x=s.since[j]:=⟨_,rfl⟩;have hjs:j<s.since.length:=by omega
     rw[<-K]at A;rw[L]at E;simp only[Nd]at A;cases c with
     |true=>exact⟨(some (G.length+1,0),[x],G++[.var (Nc q),.row 0 1 [I x]]),⟨by simp[M],fin _⟩,by simp(disch:=omega)[iZ,qG,h2,h5,l,b,<-H,ca 211,E,<-K,A,<-Y,Pz]⟩
     |false=>exact⟨(some (G.length+1,0),[tick],G++[.var (Nc q),.row 0 1 [I tick]]),⟨by simp[M],fin _⟩,by simp(disch:=omega)[iZ,qG,h2,h5,l,b,<-H,ca 211,E,<-K,A,Pz]⟩
   |some p =>
    obtain⟨r,v'⟩:=p;have Q:G[r]? = some (.row v' 1 (xs.map I)):=hG;have O:r<G.length:=(aD.1 Q).1;have N:=(aD.1 Q).2
    have fin:∀x,Ui (G.set r (.row (v'+1) 1 ((xs++[x]).map I))++[.var (Nc q)]) (some (r,v'+1)) (xs++[x]):=λx=>by
     simp only[Ui];rw[aJ (an O),aR O]
    rcases hc with⟨j,F,W⟩ | ⟨j,F,c,L,A⟩
    .rw[F]at E;exact⟨(some (r,v'+1),xs++[tick],_),⟨by simp[z],fin _⟩,by simp(disch:=omega)[iZ,qG,h2,h5,l,b,<-H,ca 211,E,Pz,N,jk]⟩
    .obtain⟨m,K⟩:∃m,m=s.now.nodes[j]:=⟨_,rfl⟩;obtain⟨x,Y⟩:∃x,x=s.since[j]:=⟨_,rfl⟩;have hjs:j<s.since.length:=by omega
     rw[<-K]at A;rw[L]at E;simp only[Nd]at A;cases c with
     |true=>exact⟨(some (r,v'+1),xs++[x],_),⟨by simp[z],fin _⟩,by simp(disch:=omega)[iZ,qG,h2,h5,l,b,<-H,ca 211,E,<-K,A,<-Y,Pz,N,jk]⟩
     |false=>exact⟨(some (r,v'+1),xs++[tick],_),⟨by simp[z],fin _⟩,by simp(disch:=omega)[iZ,qG,h2,h5,l,b,<-H,ca 211,E,<-K,A,Pz,N,jk]⟩)
  (λx U=>⟨_,⟨x.1,x.2.1,x.2.2,U.1,U.2,rfl⟩,by simp(disch:=omega)[iZ,qG,b]⟩) (aT _) (none,[],G) ⟨rfl,rfl⟩
def UM{n:Nat}(Q:104<n){s:j5}{k:Nat}(h:sF k s)(hk:k<=1000){t:Tr.Tree}(w:lM t):∃s',(en.cz n).p 129 [Sv s,Tv t]=some (Sv s')/\sF (k+1) s':=by
 generalize b:(en.cz n).p 129 _=res;rw[pp 129 rfl Q rfl,b8,b6]at b;have l:=s40 (n:=104) ah s.now t (nc h.w) (nc w)
 have A:=aiV (n:=104) ah
 have O:=h.pl;have N:=h.tk;have M:=w.wf.len;have P:=h.w.wf.len;simp only[Tv]at l;cases F:qO s.now t with
 |true =>
  rw[F]at l;simp(disch:=omega)[YH,ca 40,l]at b;exact⟨s,b.symm,h.mono af⟩
 |false =>
  rw[F]at l;simp(disch:=omega)[YH,ca 40,l,A,jd]at b;generalize z:iter _ _=o at b;obtain⟨_,⟨ps,v,G,H,rfl⟩,rfl⟩:∃y,_/\o=some y:=by rw[<-z];exact V7 h hk w (s.tick+1) _ aq aq aq aq aq
  have T:=H.1;simp(disch:=omega)at b;generalize z:iter _ _=o at b;obtain⟨_,⟨o,xs,L,i,K,rfl⟩,rfl⟩:∃y,_/\o=some y:=by rw[<-z];exact V6 h w (s.tick+1) v ps.length (.row v 8 (ps.map Pv)) G _ aq aq aq aq
  refine⟨⟨t,s.tick+1,xs,ps,s.taken,s.next⟩,?_,⟨w,i,by simp only;omega,by simp only;omega,H.2,h.tl,h.nx⟩⟩
  rw[<-b];cases o with
  |none =>
   have x:xs=[]:=K;subst x;obtain⟨h0,_⟩:=w.first;simp only[bt]at i;omega
  |some p =>
   obtain⟨r,v'⟩:=p;have q:L[r]? = some (.row v' 1 (xs.map I)):=K;have S:r<L.length:=(aD.1 q).1;have E:=(aD.1 q).2;simp(disch:=omega)[Pz,E]
variable{s:j5}
def aik{n:Nat}(y:233<n){k:Nat}(h:sF k s)(i:Int):∃s' a e,(en.cz n).p 105 [Sv s,I i]=some (.jg [Sv s',I a,I e])/\sF k s':=by
 rw[pp 105 rfl y rfl,b8,b6];have b:=pT (n:=233) ah s.now (nc h.w) i
 have v:=h.tl;unfold lq at b;cases r:find s.now.nodes i with
 |none =>
  rw[r]at b;simp only[bS,Tv,Nd,jo,aN]at b;exact⟨s,0,70,by simp(disch:=omega)[Lr,ca 100,b],h⟩
 |some q =>
  rw[r]at b;simp only[bC,Tv,Nd]at b
  by_cases o:q.kind=2
  .by_cases z : 16 <= s.taken.length
   .exact⟨s,0,76,by simp(disch:=omega)[Lr,ca 100,b,o],h⟩
   .by_cases l : 1099511627776 <= s.next
    .exact⟨s,0,76,by simp(disch:=omega)[Lr,ca 100,b,o,l],h⟩
    .have x:=h.nx;refine⟨⟨s.now,s.tick,s.since,s.jU,s.taken++[⟨s.next,i,s.tick⟩],s.next+1⟩,s.next,0,?_,⟨h.w,h.sn,h.tk,h.pl,h.pe,ak,by simp only;omega⟩⟩
     simp(disch:=omega)[Lr,ca 100,b,o,l]
  .exact⟨s,0,73,by simp(disch:=omega)[Lr,ca 100,b,o],h⟩
def ac4{k:Nat}(h:sF k s)(i:Int)(z:List AV)(e0:Env)(h2:e0 2 = .ptr 0 0 0 0)(h1:e0 1=I i):
  ∃y,(∃l:List qI,l.length<=s.taken.length/\y=(AX.exit 0,[AV.own 2 0 0 l.length],[AB.var (Sc s),.var Z8,.row 0 3 (l.map Xv)]))/\
   iter (round (en.cz 246) [6,7] [(.exit 0,[6])] C8 e0 3 [2]) ([.own 2 0 0 0,I 0],[.var (Sc s),.var Z8,.row 0 3 []])=some y :=
 iQ (f:=round (en.cz 246) [6,7] [(.exit 0,[6])] C8 e0 3 [2]) s.taken.length (λi (l:List qI)=>([.own 2 0 0 l.length,I (i:Int)],[.var (Sc s),.var Z8,.row 0 3 (l.map Xv)])) (λy=>∃l:List qI,l.length<=s.taken.length/\y=(AX.exit 0,[AV.own 2 0 0 l.length],[AB.var (Sc s),.var Z8,.row 0 3 (l.map Xv)])) (λi l=>l.length<=i)
  (λj l o hl=>by
   have n:=h.tl;obtain⟨x,b⟩:∃x,x=s.taken[j]:=⟨_,rfl⟩;left
   by_cases c:x.id=i
   .exact⟨l,af,by simp(disch:=omega)[round_eq,C8,h2,h1,<-b,c]⟩
   .exact⟨l++[x],ak,by simp(disch:=omega)[round_eq,C8,h2,h1,<-b,c]⟩)
  (λl hl=>⟨_,⟨l,hl,rfl⟩,by simp(disch:=omega)[round_eq,C8,h2]⟩) (aT _) [] (aV _)
def ac3{k:Nat}(h:sF k s)(hk:k<=1000){l:List qI}(hl:l.length<=1000)(e0:Env)(h2:e0 2 = .ptr 0 0 0 0)(h6:e0 6 = .own 2 0 0 l.length):
  ∃y,(∃(ps:List tW) (A:AB),(∀p∈ps,p∈s.jU)/\ps.length<=s.jU.length/\(A = .row 0 3 (l.map Xv)\/A = .me 0 3 (l.map Xv))/\y=(AX.exit 2,[AV.own 3 0 0 ps.length],[AB.var (Sc s),.var Z8,A,.row 0 8 (ps.map Pv)]))/\
   iter (round (en.cz 246) [8,9] [(.exit 2,[8])] wR e0 4 [3]) ([.own 3 0 0 0,I 0],[.var (Sc s),.var Z8,.row 0 3 (l.map Xv),.row 0 8 []])=some y :=
 iQ (f:=round (en.cz 246) [8,9] [(.exit 2,[8])] wR e0 4 [3]) s.jU.length (λi (x:List tW×AB)=>([.own 3 0 0 x.1.length,I (i:Int)],[.var (Sc s),.var Z8,x.2,.row 0 8 (x.1.map Pv)])) (λy=>∃(ps:List tW) (A:AB),(∀p∈ps,p∈s.jU)/\ps.length<=s.jU.length/\(A = .row 0 3 (l.map Xv)\/A = .me 0 3 (l.map Xv))/\y=(AX.exit 2,[AV.own 3 0 0 ps.length],[AB.var (Sc s),.var Z8,A,.row 0 8 (ps.map Pv)]))
  (λi x=>(∀p∈x.1,p∈s.jU)/\x.1.length<=i/\(x.2 = .row 0 3 (l.map Xv)\/x.2 = .me 0 3 (l.map Xv)))
  (λj x L G=>by
   obtain⟨ps,A⟩:=x;obtain⟨r,E,o⟩:=G;simp only at r E o;have K:=h.pl;have H:=aP L;obtain⟨p,z⟩:∃p,p=s.jU[j]:=⟨_,rfl⟩;rw[<-z]at H;obtain⟨b,F⟩:=abV (n:=246) ah hl p.from_ p.till
   left
   have M:∀q∈ps++[p],q∈s.jU:=λq v=>by
    rcases aY.1 v with v | v
    .exact r q v
    .rw[cr.1 v];exact H
   cases b with
   |true =>
    refine⟨(ps++[p],.me 0 3 (l.map Xv)),⟨M,ak,.inr rfl⟩,?_⟩
    rcases o with rfl | rfl
    .simp(disch:=omega)[round_eq,wR,h2,h6,<-z,F]
    .simp(disch:=omega)[round_eq,wR,h2,h6,<-z,F]
   |false =>
    refine⟨(ps,.me 0 3 (l.map Xv)),⟨r,by simp only;omega,.inr rfl⟩,?_⟩
    rcases o with rfl | rfl
    .simp(disch:=omega)[round_eq,wR,h2,h6,<-z,F]
    .simp(disch:=omega)[round_eq,wR,h2,h6,<-z,F])
  (λx G=>by
   obtain⟨ps,A⟩:=x;obtain⟨r,E,o⟩:=G;simp only at r E o;refine⟨_,⟨ps,A,r,E,o,rfl⟩,?_⟩
   rcases o with rfl | rfl
   .simp(disch:=omega)[round_eq,wR,h2]
   .simp(disch:=omega)[round_eq,wR,h2]) (aT _) ([],.row 0 3 (l.map Xv)) ⟨ai,aV _,.inl rfl⟩
def s53{n:Nat}(F:246<n){k:Nat}(h:sF k s)(hk:k<=1000)(i:Int):∃s' e,(en.cz n).p 53 [Sv s,I i]=some (.jg [Sv s',I e])/\sF k s':=by
 generalize b:(en.cz n).p 53 _=res;rw[pp 53 rfl F rfl,b8,b6]at b;have x:=h.tl;have z:=h.pl;simp(disch:=omega)[c53]at b;generalize q:iter _ _=o at b;obtain⟨_,⟨l,hl,rfl⟩,rfl⟩:∃y,_/\o=some y:=by rw[<-q];exact ac4 h i [] _ aq aq
 by_cases G:l.length=s.taken.length
 .simp(disch:=omega)[G]at b;exact⟨s,100,b.symm,h⟩
 .simp(disch:=omega)at b;generalize q:iter _ _=o at b;obtain⟨_,⟨ps,A,v,H,r,rfl⟩,rfl⟩:∃y,_/\o=some y:=by rw[<-q];exact ac3 h hk af _ aq aq
  refine⟨{s with taken:=l,jU:=ps},0,?_,⟨h.w,h.sn,h.tk,by simp only;omega,λp E=>h.pe p (v p E),by simp only;omega,h.nx⟩⟩
  rw[<-b]
  rcases r with rfl | rfl
  .simp(disch:=omega)
  .simp(disch:=omega)
structure zc(k:Nat)(l:List Tr.Node):Prop where
 len:l.length<=k
 sm:∀q∈l,q.b7.length<=64/\q.data.length<=4096
def ajn(l:List Tr.Node)(hl:l.length<=1000000)(i:Int)(c:List AV)(e0:Env)(h0:e0 0 = .b9 false (l.map Nd))(h3:e0 3 = .iV (.int .i64 i::c)):
  ∃y,(∃j:Nat,j<=l.length/\y=(AX.exit 0,[I (j:Int)],[]))/\iter (round (en.cz 241) [5] [(.exit 0,[5])] xR e0 0 []) ([I 0],[])=some y :=
 iQ (f:=round (en.cz 241) [5] [(.exit 0,[5])] xR e0 0 []) l.length (λi (_:Unit)=>([I (i:Int)],[])) (λy=>∃j:Nat,j<=l.length/\y=(AX.exit 0,[I (j:Int)],[])) (λ_ _=>True)
  (λj _ h _=>by
   obtain⟨x,b⟩:∃x,x=l[j]:=⟨_,rfl⟩
   by_cases c:x.ino<=i
   .exact .inl ⟨(),trivial,by simp(disch:=omega)[round_eq,xR,h0,h3,<-b,c]⟩
   .exact .inr ⟨_,⟨j,af,rfl⟩,by simp(disch:=omega)[round_eq,xR,h0,h3,<-b,c]⟩)
  (λ_ _=>⟨_,⟨l.length,aV _,rfl⟩,by simp(disch:=omega)[round_eq,xR,h0]⟩) (aT _) () trivial
def abq{n:Nat}(z:241<n){k:Nat}{l:List Tr.Node}(hl:zc k l)(hk:k<=100000){q:Tr.Node}(L:q.b7.length<=64/\q.data.length<=4096):∃r,(en.cz n).p 234 [.b9 false (l.map Nd),Nd q]=some (.b9 false (r.map Nd))/\zc (k+1) r:=by
 generalize b:(en.cz n).p 234 _=res;rw[pp 234 rfl z rfl,b8,b6]at b;have E:=hl.len;simp(disch:=omega)[aff]at b;generalize v:iter _ _=o at b;obtain⟨_,⟨j,M,rfl⟩,rfl⟩:∃y,_/\o=some y:=by rw[<-v];exact ajn l af q.ino _ _ (by simp_all) (by simp(disch:=omega);rfl)
 refine⟨l.take j++[q]++l.drop j,?_,⟨ak,λp h=>?_⟩⟩
 .rw[<-b];obtain⟨A,D,rfl,rfl⟩:∃A D,l=A++D/\A.length=j:=⟨l.take j,l.drop j,(dm ..).symm,ak⟩
  have e1:((A++D).map Nd).take A.length=A.map Nd:=by grind
  have K:((A++D).map Nd).drop A.length=D.map Nd:=by grind
  have i:∀x:AV,(A.map Nd++x::D.map Nd).take (A.length+1+D.length)=A.map Nd++x::D.map Nd:=λx=>aO ak
  have H:∀x:AV,(A.map Nd++[x]).take (A.length+1)=A.map Nd++[x]:=λx=>aO ai
  have G:((A++D).map Nd).take (A.length+D.length)=(A++D).map Nd:=aO ai
  have e6:(A.length+1+D.length)*80<=140737488355328/\A.length+1+D.length<=140737488355328:=by grind
  have F:(List.take A.length (A++D)++[q]++List.drop A.length (A++D)).map Nd=A.map Nd++Nd q::D.map Nd:=ai
  have i:=i (Nd q);rw[F];simp only[Nd]at i⊢;simp(disch:=omega)[-List.map_append,e1,K,i,H,G,e6]
 .rcases aY.1 h with h | h
  .rcases aY.1 h with h | h
   .exact hl.sm p (ei h)
   grind
  .exact hl.sm p (cE h)
variable{s:j5}
def VV{k:Nat}(h:sF k s)(at_:Int)(e0:Env)(h2:e0 2 = .iV (Sc s))(h1:e0 1=I at_):
  ∃y,(∃l,zc s.now.nodes.length l/\y=(AX.exit 0,[AV.b9 false (l.map Nd)],[]))/\iter (round (en.cz 242) [5,6] [(.exit 0,[5])] yg e0 0 []) ([.b9 false [],I 0],[])=some y :=
 iQ (f:=round (en.cz 242) [5,6] [(.exit 0,[5])] yg e0 0 []) s.now.nodes.length (λi (l:List Tr.Node)=>([.b9 false (l.map Nd),I (i:Int)],[])) (λy=>∃l,zc s.now.nodes.length l/\y=(AX.exit 0,[AV.b9 false (l.map Nd)],[])) zc
  (λj l H hl=>by
   have E:=h.sn;have F:=h.w.wf.len;have G:j<s.since.length:=af
   have b:=jQ h.w (aP H);obtain⟨q,v⟩:∃q,q=s.now.nodes[j]:=⟨_,rfl⟩;obtain⟨x,r⟩:∃x,x=s.since[j]:=⟨_,rfl⟩;rw[<-v]at b;obtain⟨A,z,o⟩:=abq (n:=242) ah hl af b
   simp only[Nd]at z;left
   by_cases c:x<=at_
   .exact⟨A,o,by simp(disch:=omega)[round_eq,yg,h2,h1,<-v,<-r,c,ca 234,z]⟩
   .exact⟨l,⟨by have:=hl.len;omega,hl.sm⟩,by simp(disch:=omega)[round_eq,yg,h2,h1,<-r,c]⟩)
  (λl hl=>⟨_,⟨l,hl,rfl⟩,by simp(disch:=omega)[round_eq,yg,h2]⟩) (aT _) [] ⟨aV _,ai⟩
def VU{k:Nat}(h:sF k s)(hk:k<=400)(at_:Int)(q:List Tr.Node)(h0:zc s.now.nodes.length q)(e0:Env)(h2:e0 2 = .iV (Sc s))(h1:e0 1=I at_):
  ∃y,(∃l,zc (s.now.nodes.length+s.jU.length) l/\y=(AX.exit 2,[AV.b9 false (l.map Nd)],[]))/\iter (round (en.cz 242) [5,7] [(.exit 2,[5])] vE e0 0 []) ([.b9 false (q.map Nd),I 0],[])=some y :=
 iQ (f:=round (en.cz 242) [5,7] [(.exit 2,[5])] vE e0 0 []) s.jU.length (λi (l:List Tr.Node)=>([.b9 false (l.map Nd),I (i:Int)],[])) (λy=>∃l,zc (s.now.nodes.length+s.jU.length) l/\y=(AX.exit 2,[AV.b9 false (l.map Nd)],[])) (λi l=>zc (s.now.nodes.length+i) l)
  (λj l E hl=>by
   have z:=h.pl;have A:=h.w.wf.len;have b:=h.pe _ (aP E);obtain⟨p,o⟩:∃p,p=s.jU[j]:=⟨_,rfl⟩;rw[<-o]at b;obtain⟨x,v,r⟩:=abq (n:=242) ah hl af b
   simp only[Nd]at v;left
   by_cases c:p.from_<=at_
   .by_cases d:at_<p.till
    .exact⟨x,r,by simp(disch:=omega)[round_eq,vE,h2,h1,<-o,c,d,ca 234,v]⟩
    .exact⟨l,⟨by have:=hl.len;omega,hl.sm⟩,by simp(disch:=omega)[round_eq,vE,h2,h1,<-o,c,d]⟩
   .exact⟨l,⟨by have:=hl.len;omega,hl.sm⟩,by simp(disch:=omega)[round_eq,vE,h2,h1,<-o,c]⟩)
  (λl hl=>⟨_,⟨l,hl,rfl⟩,by simp(disch:=omega)[round_eq,vE,h2]⟩) (aT _) q h0
def ahX{n:Nat}(v:242<n){k:Nat}(h:sF k s)(hk:k<=400)(at_:Int):∃l,(en.cz n).p 167 [Sv s,I at_]=some (.b9 false (l.map Nd))/\zc 100000 l:=by
 generalize b:(en.cz n).p 167 _=res;rw[pp 167 rfl v rfl,b8,b6]at b;simp(disch:=omega)[afE]at b;generalize q:iter _ _=o at b;obtain⟨_,⟨l,hl,rfl⟩,rfl⟩:∃y,_/\o=some y:=by rw[<-q];exact VV h at_ _ (by simp_all) (by simp_all)
 simp(disch:=omega)at b;generalize q:iter _ _=o at b;obtain⟨_,⟨r,i,rfl⟩,rfl⟩:∃y,_/\o=some y:=by rw[<-q];exact VU h hk at_ l hl _ (by simp_all) (by simp_all)
 simp(disch:=omega)at b;exact⟨r,b.symm,⟨by have:=i.len;have:=h.pl;have:=h.w.wf.len;omega,i.sm⟩⟩
def T9(m:List Bool):Nat:=(m.filter λb=>!b).length
def IC:∀ {m:List Bool} {j:Nat} (i:j<m.length),m[j]=false->T9 (m.set j true)+1=T9 m
 |b::m,0,_,h=>by
  grind[T9]
 |b::m,j+1,i,h=>by
  have:=IC (m:=m) (j:=j) (an i) (an h)
  unfold T9 at this⊢;cases b<;>simp at this⊢<;> omega
def VT(l:List Tr.Node)(hl:l.length<=1000000)(q:Tr.Node)(j:Nat)(A:j<l.length)(o:l[j].ino=q.ino)(H:AH)(F:oE H)(L:Nat)(E:H.length=L)(n:H[3]? = some (.var (Nc q)))(e0:Env)(h0:e0 0 = .b9 false (l.map Nd))(b:e0 10 = .ptr 3 0 0 0):
  ∃y,(∃i:Nat,i<l.length/\y=(AX.exit 2,[I (i:Int)],H))/\iter (round (en.cz 243) [12] [(.exit 2,[12])] yf e0 L []) ([I 0],H)=some y:=by
 have z:=F.same;rw[E]at z;have h:H.take L=H:=aO af
 exact iQ (f:=round (en.cz 243) [12] [(.exit 2,[12])] yf e0 L []) j (λi (_:Unit)=>([I (i:Int)],H)) (λy=>∃i:Nat,i<l.length/\y=(AX.exit 2,[I (i:Int)],H)) (λ_ _=>True)
  (λi _ G _=>by
   have r:i<l.length:=af
   obtain⟨x,v⟩:∃x,x=l[i]:=⟨_,rfl⟩
   by_cases c:x.ino=q.ino
   .exact .inr ⟨_,⟨i,r,rfl⟩,by simp(disch:=omega)[round_eq,yf,h0,b,<-v,n,c]⟩
   .exact .inl ⟨(),trivial,by simp(disch:=omega)[round_eq,yf,h0,b,<-v,n,c,z,h]⟩)
  (λ_ _=>⟨_,⟨j,A,rfl⟩,by simp(disch:=omega)[round_eq,yf,h0,b,n,o]⟩) (aT _) () trivial
def VS(q:Tr.Node)(z:q.b7.length<=64)(all:ay)(F:all.length<=100000000)(A B:AB)(H:ve 4 A=true)(G:ve 4 B=true)(n:∀h,mz 4 [2] h 0 A=A)(l:∀h,mz 4 [2] h 1 B=B)(e0:Env)(b:e0 10 = .ptr 3 0 0 0):
  ∃y,(∃r:ay,r.length<=all.length+64/\all.length<=r.length/\y=(AX.exit 4,[AV.own 2 0 0 r.length],[A,B,.row 0 1 (r.map I),.var (Nc q)]))/\
   iter (round (en.cz 243) [8,13] [(.exit 4,[8])] BD e0 4 [2]) ([.own 2 0 0 all.length,I 0],[A,B,.row 0 1 (all.map I),.var (Nc q)])=some y :=
 iQ (f:=round (en.cz 243) [8,13] [(.exit 4,[8])] BD e0 4 [2]) q.b7.length (λi (r:ay)=>([.own 2 0 0 r.length,I (i:Int)],[A,B,.row 0 1 (r.map I),.var (Nc q)])) (λy=>∃r:ay,r.length<=all.length+64/\all.length<=r.length/\y=(AX.exit 4,[AV.own 2 0 0 r.length],[A,B,.row 0 1 (r.map I),.var (Nc q)])) (λi r=>r.length=all.length+i)
  (λi r E v=>by
   obtain⟨x,o⟩:∃x,x=q.b7[i]:=⟨_,rfl⟩;exact .inl ⟨r++[x.ino],ak,by simp(disch:=omega)[round_eq,BD,b,<-o,n,l]⟩)
  (λr v=>⟨_,⟨r,af,af,rfl⟩,by simp(disch:=omega)[round_eq,BD,b]⟩) (aT _) all rfl
def VQ(l:List Tr.Node)(hl:zc 100000 l)(ino:Int)(e0:Env)(h0:e0 0 = .b9 false (l.map Nd))(h6:e0 6 = .own 0 0 0 l.length)(X:e0 7 = .ptr 1 0 0 0):
  ∃y,(∃(v:List Bool) (G:AH),v.length=l.length/\(y=(AX.exit 0,[],AB.row 0 1 (v.map .bool)::G)\/y=(AX.ret,[AV.own 0 0 0 l.length,.bool false],AB.row 0 1 (v.map .bool)::G)))/\
   iter (round (en.cz 243) [8,9] [(.exit 0,[]),(.ret,[4,5])] ye e0 3 [2]) ([.own 2 0 0 1,I 0],[.row 0 1 (List.replicate l.length (.bool false)),.var [.b9 false (l.map Nd),I 0,I 0],.row 0 1 [I ino]])=some y:=by
 have := zF (f := round (en.cz 243) [8, 9] [(.exit 0, []), (.ret, [4, 5])] ye e0 3 [2]) (λx : Nat × ay × List Bool => ([AV.own 2 0 0 x.2.1.length, I (x.1 : Int)], [AB.row 0 1 (x.2.2.map .bool), .var [.b9 false (l.map Nd), I 0, I 0], .row 0 1 (x.2.1.map I)]))
  (λy=>∃(v:List Bool) (G:AH),v.length=l.length/\(y=(AX.exit 0,[],AB.row 0 1 (v.map .bool)::G)\/y=(AX.ret,[AV.own 0 0 0 l.length,.bool false],AB.row 0 1 (v.map .bool)::G)))
  (λx=>x.2.1.length+64*T9 x.2.2<=1+64*l.length/\x.2.2.length=l.length/\x.1<=x.2.1.length) (λx=>65*T9 x.2.2+(x.2.1.length-x.1))
  (λx E=>by
   obtain⟨i,all,v⟩:=x;obtain⟨S,A,Z⟩:=E;simp only at S A Z;have hll:=hl.len
   by_cases U:i<all.length
   .obtain⟨a,W⟩:∃a,a=all[i]:=⟨_,rfl⟩;have F:=IM (n:=243) ah ⟨false,l,0,0⟩ (by simp only;omega) a
    unfold lq at F;cases H:find l a with
    |none =>
     right;simp only[H,bS,Tv,Nd,jo,aN]at F;exact⟨_,⟨v,_,A,.inr rfl⟩,by simp(disch:=omega)[round_eq,ye,h6,X,U,<-W,F];rfl⟩
    |some q =>
     left;simp only[H,bC,Tv,Nd]at F;obtain⟨Y,N,M⟩:=bp.1 (fk H).1;have K:=hl.sm q (fk H).1;have Q:=λe0 h0 z=>VT l af q Y N (by rw[M]) [.row 0 1 (v.map .bool),.var [.b9 false (l.map Nd),I 0,I 0],.row 0 1 (all.map I),.var (Nc q)] rfl 4 rfl rfl e0 h0 z
     generalize h:round (en.cz 243) _ _ _ _ _ _ _=res;simp(disch:=omega)[round_eq,ye,X,U,<-W,F]at h;generalize E:iter _ _=o at h;obtain⟨_,⟨j,T,rfl⟩,rfl⟩:∃y,_/\o=some y:=by rw[<-E];exact Q _ (by simp_all) (by simp_all)
     obtain⟨b,O⟩:∃b,b=v[j]'af:=⟨_,rfl⟩
     have L:j<v.length:=af
     cases b with
     |true =>
      refine⟨(i+1,all,v),⟨S,A,by simp only;omega⟩,by simp only;omega,?_⟩
      rw[<-h];simp(disch:=omega)[h6,T,<-O]
     |false =>
      have hun:=IC L O.symm;have P:=λe0 z=>VS q K.1 all af (.row 0 1 ((v.map .bool).set j (.bool true))) (.var [.b9 false (l.map Nd),I 0,I 0]) rfl rfl (λ_=>rfl) (λ_=>by simp_all) e0 z
      simp(disch:=omega)[h6,T,<-O]at h;generalize E:iter _ _=o at h;obtain⟨_,⟨r,hr,hr2,rfl⟩,rfl⟩:∃y,_/\o=some y:=by rw[<-E];exact P _ (by simp_all)
      refine⟨(i+1,r,v.set j true),⟨by simp only;omega,by simp[A],by simp only;omega⟩,by simp only;omega,?_⟩
      rw[<-h];simp(disch:=omega)[fH]
   .right;exact⟨_,⟨v,_,A,.inl rfl⟩,by simp(disch:=omega)[round_eq,ye];rfl⟩) (0,[ino],List.replicate l.length false) ⟨by simp[T9],ai,ai⟩
 simpa using this
def ahW{n:Nat}(x:243<n){l:List Tr.Node}(hl:zc 100000 l)(ino:Int):∃(q:List Bool) (b:Bool),q.length=l.length/\(en.cz n).p 168 [.b9 false (l.map Nd),I ino]=some (.jg [.b9 false (q.map .bool),.bool b]):=by
 generalize i:(en.cz n).p 168 _=res;rw[pp 168 rfl x rfl,b8,b6]at i;have z:=hl.len;simp(disch:=omega)[afD]at i;generalize v:iter _ _=o at i;obtain⟨_,⟨q,G,r,h⟩,rfl⟩:∃y,_/\o=some y:=by rw[<-v];exact VQ l hl ino _ (by simp_all) (by simp_all) (by simp_all)
 rcases h with rfl | rfl
 .refine⟨q,true,r,?_⟩;rw[<-i];simp(disch:=omega)[<-r]
 .refine⟨q,false,r,?_⟩;rw[<-i];simp(disch:=omega)[<-r]
def Wb{l:List Tr.Node}(hl:zc 100000 l)(v:List Bool)(Q:v.length=l.length)(H:AH)(G:oE H)(e0:Env)(h8:e0 8 = .b9 false (l.map Nd))(K:e0 9 = .b9 false (v.map .bool)):
  ∃y,(∃h,zc 100000 h/\y=(AX.exit 2,[AV.own H.length 0 0 h.length],H++[.row 0 6 (h.map Nd)]))/\
   iter (round (en.cz 244) [11,12] [(.exit 2,[11])] yB e0 (H.length+1) [H.length]) ([.own H.length 0 0 0,I 0],H++[.row 0 6 []])=some y :=
 iQ (f := round (en.cz 244) [11, 12] [(.exit 2, [11])] yB e0 (H.length + 1) [H.length]) l.length (λi (r : List Tr.Node) => ([.own H.length 0 0 r.length, I (i : Int)], H ++ [.row 0 6 (r.map Nd)])) (λy => ∃ h, zc 100000 h /\ y = (AX.exit 2, [AV.own H.length 0 0 h.length], H ++ [.row 0 6 (h.map Nd)])) (λi r => zc i r)
  (λi r P o=>by
   have N:=hl.len;have M:=o.len;have z:=hl.sm _ (aP P);have O:i<v.length:=af
   obtain⟨q,E⟩:∃q,q=l[i]:=⟨_,rfl⟩;obtain⟨b,F⟩:∃b,b=v[i]:=⟨_,rfl⟩;have A:=λh0 Y=>G.tail (L:=H.length+1) (R:=[H.length]) af ai h0 Y
   have n:=jr H;rw[<-E]at z;left;cases b with
   |true=>exact⟨r++[q],⟨ak,λp x=>by
     rcases aY.1 x with x | x
     .exact o.sm p x
     grind⟩,by simp(disch:=omega)[round_eq,yB,h8,K,<-E,<-F,A,n]⟩
   |false=>exact⟨r,⟨af,o.sm⟩,by simp(disch:=omega)[round_eq,yB,h8,K,<-F,A,n]⟩)
  (λr o=>⟨_,⟨r,⟨by have:=o.len;have:=hl.len;omega,o.sm⟩,rfl⟩,by
   have A:=λh0 Y=>G.tail (L:=H.length+1) (R:=[H.length]) af ai h0 Y
   have n:=jr H;simp(disch:=omega)[round_eq,yB,h8]⟩) (aT _) [] ⟨aV _,ai⟩
def Wa{k:Nat}(h:sF k s)(hk:k<=400)(id:Int)(e0:Env)(h2:e0 2 = .iV (Sc s))(h1:e0 1=I id):
  ∃y,(y=(AX.exit 0,[],[])\/∃a l G,zc 100000 l/\y=(AX.ret,[I a,.own 0 0 0 l.length,I 0],AB.row 0 6 (l.map Nd)::G))/\iter (round (en.cz 244) [7] [(.exit 0,[]),(.ret,[4,5,6])] yA e0 0 []) ([I 0],[])=some y :=
 iQ (f:=round (en.cz 244) [7] [(.exit 0,[]),(.ret,[4,5,6])] yA e0 0 []) s.taken.length (λi (_:Unit)=>([I (i:Int)],[])) (λy=>y=(AX.exit 0,[],[])\/∃a l G,zc 100000 l/\y=(AX.ret,[I a,.own 0 0 0 l.length,I 0],AB.row 0 6 (l.map Nd)::G)) (λ_ _=>True)
  (λi _ N _=>by
   have H:=h.tl;obtain⟨x,r⟩:∃x,x=s.taken[i]:=⟨_,rfl⟩
   by_cases c:x.id=id
   .right;obtain⟨l,z,hl⟩:=ahX (n:=244) ah h hk x.at_
    obtain⟨A,b,K,M⟩:=ahW (n:=244) ah hl x.ino
    have L:=hl.len;simp only[Sv]at z;generalize q:round (en.cz 244) _ _ _ _ _ _ _=res;simp(disch:=omega)[round_eq,yA,h2,h1,<-r,c,z,ca 168,M]at q;generalize F:iter _ _=o at q;obtain⟨_,⟨E,v,rfl⟩,rfl⟩:∃y,_/\o=some y:=by rw[<-F];exact Wb hl A K [] rfl _ (by simp_all) (by simp_all)
    refine⟨_,.inr ⟨x.ino,E,[],v,rfl⟩,?_⟩
    simp_all
   .exact .inl ⟨(),trivial,by simp(disch:=omega)[round_eq,yA,h2,h1,<-r,c]⟩)
  (λ_ _=>⟨_,.inl rfl,by simp(disch:=omega)[round_eq,yA,h2]⟩) (aT _) () trivial
def aih{n:Nat}(r:244<n){k:Nat}(h:sF k s)(hk:k<=400)(id:Int):∃a l e,zc 100000 l/\(en.cz n).p 110 [Sv s,I id]=some (.jg [I a,.b9 false (l.map Nd),I e]):=by
 generalize b:(en.cz n).p 110 _=res;rw[pp 110 rfl r rfl,b8,b6]at b;simp(disch:=omega)[afZ]at b;generalize q:iter _ _=o at b;obtain⟨_,i,rfl⟩:∃y,_/\o=some y:=by rw[<-q];exact Wa h hk id _ (by simp_all) (by simp_all)
 rcases i with rfl | ⟨a,l,G,hl,rfl⟩
 .simp(disch:=omega)at b;exact⟨0,[],100,⟨ai,ai⟩,b.symm⟩
 .refine⟨a,l,0,hl,?_⟩;rw[<-b];simp(disch:=omega)
abbrev Wc(f:FS)(o:lX)(a:nH):List AV:=Fc f++(Oc o++Ac a)
attribute [simp] Wc
abbrev pJ(B0 B1 B2 B3:AB)(f:FS)(o:lX)(a:nH)(Y:AH):AH:=B0::B1::B2::B3 :: .var (Wc f o a)::Y
attribute [simp] pJ
def Pk(r:AV⊕Pn):Prop:=∃e,r = .inr (45,.i64,e)
variable{n:Nat}{B0 B1 B2 B3:AB}
def vh(b:1<n)(H:AH):(en.cz n).x 77 [.int .i64 0] H=some (.inl (.jg []),H):=by
 rw[p77 b,jC];simp(disch:=omega)[c77]
def rK(b:1<n){e:Int}(h:e≠0)(H:AH):(en.cz n).x 77 [.int .i64 e] H=some (.inr (45,.i64,e),H):=by
 rw[p77 b,jC];simp(disch:=omega)[c77,h]
def DC(b:66<n)(e:Int)(H:AH):(en.cz n).x 26 [.bool true,.int .i64 e] H=some (.inl (.jg []),H):=by
 rw[p26 b,jC];simp(disch:=omega)[c26]
def DD(b:66<n){e:Int}(i:e≠0)(H:AH):(en.cz n).x 26 [.bool false,.int .i64 e] H=some (.inr (45,.i64,e),H):=by
 have h:=rK (n:=66) ah i
 rw[p26 b,jC];simp(disch:=omega)[c26,h]
section
variable{n:Nat}{f:FS}{k:Nat}{B0 B1 B2 B3:AB}{o:lX}{a:nH}
def abF(v:50<n)(l:mF k f)(i:Int)(Y:AH):∃r,r.all gd=true/\eT (en.cz n) 170 [.ptr 4 0 0 0,I i] (pJ B0 B1 B2 B3 f o a Y)=some (Nd (iS f.s.now i),pJ B0 B1 B2 B3 f o a (Y++r)):=by
 have h:=BW (n:=50) ah f.s.now l.s.w.wf.jL (nc l.s.w).len i
 have hg:lq (find f.s.now.nodes i) = .jg [Nd (iS f.s.now i),.bool (find f.s.now.nodes i).isSome]:=by
  unfold lq iS;cases find f.s.now.nodes i<;>rfl
 rw[hg]at h;generalize iS f.s.now i=q at *
 generalize(find f.s.now.nodes i).isSome=b at *
 simp only[Tv,Nd]at h;rw[ph 170 rfl v rfl,b6];refine⟨[.var (Nc q),.var (Nc q)],rfl,?_⟩;simp(disch:=omega)[afC,ca 182,h]
def Hg(y:51<n)(z:mF k f)(p:au)(Y:AH):∃r l,l.all gd=true/\(en.cz n).x 116 [.ptr 4 0 0 0,.str p] (pJ B0 B1 B2 B3 f o a Y)=some (r,pJ B0 B1 B2 B3 f o a (Y++l))/\(r = .inl (Nd (iS f.s.now (mO f.s.now p).1))\/Pk r):=by
 have h:=abG (n:=51) ah f.s.now z.s.w p
 have b:=λY=>abF (n:=51) ah z (mO f.s.now p).1 (B0:=B0) (B1:=B1) (B2:=B2) (B3:=B3) (o:=o) (a:=a) Y
 generalize mO f.s.now p=w at *
 obtain⟨i,e⟩:=w;simp only at h b⊢;simp only[Tv]at h
 by_cases A:e=0
 .have v:=vh (n:=51) ah
  subst A;obtain⟨l,E,b⟩:=b (Y++[.var [I 0,I 0,I 0,.b9 false [],.b9 false [],I 0]]);generalize iS f.s.now i=q at *
  refine⟨.inl (Nd q),[.var (Nc q)]++l,by rw[cq,E];rfl,?_,.inl rfl⟩
  simp only[pJ,Wc,Fc,Sc,Oc,Ac,Nd,aK,aL,cM]at b;rw[acz y,jC];simp(disch:=omega)[Sg,ca 169,h,v,b]
 .have v:=rK (n:=51) ah A
  refine⟨.inr (45,.i64,e),[.var [I 0,I 0,I 0,.b9 false [],.b9 false [],I 0]],rfl,?_,.inr ⟨e,rfl⟩⟩;rw[acz y,jC];simp(disch:=omega)[Sg,ca 169,h,v]
def Mx(l:56<n)(z:mF k f){p:au}(y:p.length<=1000000)(Y:AH):∃r,(en.cz n).x 117 [.ptr 4 0 0 0,.str p] (pJ B0 B1 B2 B3 f o a Y)=some (r,pJ B0 B1 B2 B3 f o a Y)/\((∃d s,r = .inl (.jg [I d,.str s]))\/Pk r):=by
 have b:=ahV (n:=56) ah p y
 unfold CE at b;cases hl:AM p with
 |none =>
  rw[hl]at b;have i:=rK (n:=56) ah (e:=60) ah
  refine⟨.inr (45,.i64,60),?_,.inr ⟨60,rfl⟩⟩;rw[U4 l,jC];simp(disch:=omega)[OZ,ca 171,b,i]
 |some x =>
  obtain⟨nm,up⟩:=x;rw[hl]at b;have q:=abG (n:=56) ah f.s.now z.s.w up
  have h:=vh (n:=56) ah
  generalize mO f.s.now up=w at *
  obtain⟨d,e⟩:=w;simp only[Tv]at q b
  by_cases v:e=0
  .subst v;refine⟨.inl (.jg [I d,.str nm]),?_,.inl ⟨d,nm,rfl⟩⟩;rw[U4 l,jC];simp(disch:=omega)[OZ,ca 171,b,h,ca 169,q]
  .have i:=rK (n:=56) ah v
   refine⟨.inr (45,.i64,e),?_,.inr ⟨e,rfl⟩⟩;rw[U4 l,jC];simp(disch:=omega)[OZ,ca 171,b,h,ca 169,q,i]
end
structure zM(a:nH):Prop where
 n:a.names.length<=1000
 d:a.data.length<=5000
structure uy(o:lX):Prop where
 p:o.path.length<=1000
 t:o.to.length<=1000
 d:o.data.length<=5000
abbrev Az:nH:=⟨0,0,0,0,0,[],[]⟩
abbrev Wq(f:FS)(o:lX)(a:nH)(b h:AV):List AV:=Sc f.s++([.b9 false (f.holds.map Hv),b]++(Oc o++[.int .i64 a.err,.int .i64 a.ino,.int .i64 a.kind,.int .i64 a.n,.int .i64 a.m,.b9 false (a.names.map AV.str),h]))
attribute [simp] Wq
def Fin(B0 B1 B2 B3:AB)(f:FS)(o:lX)(a:nH)(H:AH):Prop:=∃h i Y,H=B0::B1::B2::B3 :: .var (Wq f o a h i)::Y/\
 ((h = .b9 false (f.jG.map Qv)/\i = .b9 false (a.data.map B))\/
  (i = .b9 false (a.data.map B)/\∃b es,h = .own (b+5) 0 0 f.jG.length/\Y[b]? = some (.me 0 3 es)/\f.jG.length<=es.length/\es.take f.jG.length=f.jG.map Qv)\/
  (h = .b9 false (f.jG.map Qv)/\∃b v,i = .own (b+5) v 0 a.data.length/\Y[b]? = some (.row v 1 (a.data.map B))))
def Rk(B0 B1 B2 B3:AB)(f:FS)(o:lX)(a:nH)(Y:AH):Fin B0 B1 B2 B3 f o a (pJ B0 B1 B2 B3 f o a Y):=⟨_,_,Y,rfl,.inl ⟨rfl,rfl⟩⟩
def Out(B0 B1 B2 B3:AB)(k:Nat)(o:lX)(r:AV⊕Pn)(H:AH):Prop:=(r = .inl (.jg [])/\∃f a,mF (k+1) f/\zM a/\Fin B0 B1 B2 B3 f o a H)\/(Pk r/\∃Y,H=B0::B1::B2::B3::Y)
def qJ(K m:Nat):Prop:=∀ {n:Nat},m<n->∀ {k:Nat} {f:FS} {o:lX},mF k f->k<=200->uy o->∀(B0 B1 B2 B3:AB),gd B0=true->gd B1=true->gd B2=true->gd B3=true->
 ∃r H,(en.cz n).x K [.ptr 4 0 0 0] (pJ B0 B1 B2 B3 f o Az [])=some (r,H)/\Out B0 B1 B2 B3 k o r H
def mF.up{k:Nat}{f:FS}(h:mF k f):mF (k+1) f:=h.mono af
def j7(a b c d e:Int):zM ⟨a,b,c,d,e,[],[]⟩:=⟨ai,ai⟩
def DH{k:Nat}{f:FS}{o:lX}{a:nH}(b:mF (k+1) f)(h:zM a)(Y:AH):Out B0 B1 B2 B3 k o (.inl (.jg [])) (pJ B0 B1 B2 B3 f o a Y):=.inl ⟨rfl,f,a,b,h,Rk ..⟩
def jm{k:Nat}{o:lX}(e:Int)(Y:AH):Out B0 B1 B2 B3 k o (.inr (45,.i64,e)) (B0::B1::B2::B3::Y):=.inr ⟨⟨e,rfl⟩,Y,rfl⟩
def s60:qJ 60 52:=λ{n} h {k f o} i hk v B0 B1 B2 B3 _ _ _ _=>by
 obtain⟨r,Y,_,b,l⟩:=Hg (n:=52) ah i o.path [] (B0:=B0) (B1:=B1) (B2:=B2) (B3:=B3) (o:=o) (a:=Az)
 simp only[pJ,Wc,Fc,Sc,Oc,Ac,aK,aL,aN]at b
 rcases l with rfl | ⟨e,rfl⟩
 .generalize iS f.s.now (mO f.s.now o.path).1=q at *
  simp only[Nd]at b;refine⟨_,_,?_,DH i.up (j7 0 q.ino q.kind 0 0) (Y++[.var (Nc q)])⟩;rw[p60 h,jC];simp(disch:=omega)[c60,b]
 .refine⟨_,_,?_,jm e (.var (Wc f o Az)::Y)⟩;rw[p60 h,jC];simp(disch:=omega)[c60,b]
def abT(b:67<n)(q:Tr.Node):(en.cz n).p 126 [Nd q]=some (I (max (q.data.length:Int) (q.b7.length:Int))):=by
 rw[pp 126 rfl b rfl,b8,b6];simp(disch:=omega)[afW]
def s66:qJ 66 68:=λ{n} i {k f o} l hk x B0 B1 B2 B3 _ _ _ _=>by
 obtain⟨r,Y,_,b,v⟩:=Hg (n:=68) ah l o.path [] (B0:=B0) (B1:=B1) (B2:=B2) (B3:=B3) (o:=o) (a:=Az)
 simp only[pJ,Wc,Fc,Sc,Oc,Ac,aK,aL,aN]at b
 rcases v with rfl | ⟨e,rfl⟩
 .have h:=λq=>abT (n:=68) ah q
  have h:=h (iS f.s.now (mO f.s.now o.path).1);generalize iS f.s.now (mO f.s.now o.path).1=q at *
  simp only[Nd]at b h;refine⟨_,_,?_,DH l.up (j7 0 q.ino q.kind q.links (max (q.data.length:Int) (q.b7.length:Int))) (Y++[.var (Nc q)])⟩;rw[p66 i,jC];simp(disch:=omega)[WD,b,h]
 .refine⟨_,_,?_,jm e (.var (Wc f o Az)::Y)⟩;rw[p66 i,jC];simp(disch:=omega)[WD,b]
def Mi(es:List (Int×AV)):Prop:=∀p∈es,∃v:Int,p.2 = .int .i64 v
def Mi.look{es:List (Int×AV)}(h:Mi es)(n:Int):∃v:Int,ko es n (.int .i64 0) = .int .i64 v:=by
 unfold ko;cases b:es.find? λp=>decide (p.1=n)with
 |none=>exact⟨0,rfl⟩
 |some p=>exact h p (bI b)
theorem Mi.put{n v:Int}:∀ {es:List (Int×AV)},Mi es->Mi (kQ es n (.int .i64 v))
 | [],_=>λp l=>by
  rw[cr.1 l];exact⟨v,rfl⟩
 |p::es,h=>by
  unfold kQ;split
  .intro q b
   rcases bw.1 b with rfl | b
   .exact⟨v,rfl⟩
   .exact h q (by simp[b])
  .intro q b
   rcases bw.1 b with rfl | b
   .exact h q ai
   .exact Mi.put (λr i=>h r (by simp[i])) q b
def Mi.j8{es:List (Int×AV)}(h:Mi es):(es.all λp=>p.2.j8)=true:=by
 rw[aM];intro p i;obtain⟨v,b⟩:=h p i;rw[b];rfl
def VP{t:Tr.Tree}(w:lM t){q:Tr.Node}(M:q.b7.length<=64)(d:Int)(es:List (Int×AV))(o:Mi es)(e0:Env)(h2:e0 2 = .iV [.b9 false (t.nodes.map Nd),I t.next,I t.ek])(h5:e0 5 = .mb 0)(h8:e0 8=I d)(r:e0 33 = .b9 false (q.b7.map En))(h:e0 34=I (q.b7.length:Int)):
  ∃y,((∃es',Mi es'/\y=(AX.exit 2,[],[AB.mp .i64 es',.var (Nc q)]))\/∃G,y=(AX.ret,[.bool false],G))/\
   iter (round (en.cz 122) [35] [(.exit 2,[]),(.ret,[4])] tK e0 2 []) ([I 0],[.mp .i64 es,.var (Nc q)])=some y :=
 iQ (f := round (en.cz 122) [35] [(.exit 2, []), (.ret, [4])] tK e0 2 []) q.b7.length (λi (es : List (Int × AV)) => ([I (i : Int)], [.mp .i64 es, .var (Nc q)])) (λy => (∃ es', Mi es' /\ y = (AX.exit 2, [], [AB.mp .i64 es', .var (Nc q)])) \/ ∃ G, y = (AX.ret, [.bool false], G)) (λ_ es => Mi es)
  (λi es N o=>by
   obtain⟨e,l⟩:∃e,e=q.b7[i]:=⟨_,rfl⟩;have A:=BW (n:=122) ah t w.wf.jL (nc w).len e.ino
   obtain⟨v,x⟩:=o.look e.ino
   have hg:∃m b,lq (find t.nodes e.ino) = .jg [Nd m,.bool b]:=by
    unfold lq;cases find t.nodes e.ino with
    |none=>exact⟨jo,false,rfl⟩
    |some m=>exact⟨m,true,rfl⟩
   obtain⟨m,b,hg⟩:=hg;rw[hg]at A;simp only[Tv,Nd]at A
   have z:∀ {es:List (Int×AV)},Mi es->∀h0,jD 2 [] h0 0 [AB.mp .i64 es,.var (Nc q)]=[AB.mp .i64 es,.var (Nc q)]:=λ{es} o h0=>oE.same (X:=[AB.mp .i64 es,.var (Nc q)]) (by
    show List.all _ (ve 2)=true;simp[ve,uI,AV.jW];intro a b H;obtain⟨v,x⟩:=o (a,b) H;simp only at x;rw[x];exact .inl rfl) h0
   have z:=z (o.put (n:=e.ino) (v:=d));simp only[Nc]at z;have fin:Mi (kQ es e.ino (I d)):=o.put;generalize E:rW es e.ino=L
   by_cases F:m.kind=1
   .cases L with
    |true =>
     by_cases K:v=d
     .exact .inl ⟨_,fin,by simp(disch:=omega)[-jD,round_eq,tK,h2,h5,h8,r,h,<-l,ca 182,A,x,E,F,K,z]⟩
     .exact .inr ⟨_,.inr ⟨_,rfl⟩,by simp(disch:=omega)[-jD,round_eq,tK,h2,h5,h8,r,h,<-l,ca 182,A,x,E,F,K];rfl⟩
    |false=>exact .inl ⟨_,fin,by simp(disch:=omega)[-jD,round_eq,tK,h2,h5,h8,r,h,<-l,ca 182,A,x,E,F,z]⟩
   .exact .inl ⟨_,fin,by simp(disch:=omega)[-jD,round_eq,tK,h2,h5,h8,r,h,<-l,ca 182,A,x,E,F,z]⟩)
  (λes o=>⟨_,.inl ⟨es,o,rfl⟩,by simp(disch:=omega)[round_eq,tK,h]⟩) (aT _) es o
def Rw{t:Tr.Tree}(w:lM t){q:Tr.Node}(b:q∈t.nodes)(i:q.b7.length≠0):jF t q.ino=0:=by
 refine nS.2 ⟨q,jN w.wf.jL b,?_⟩
 rcases w.zB b with⟨_,h,_⟩ | ⟨h,_⟩
 .rw[h]at i;exact absurd rfl i
 .exact h
def VO{t:Tr.Tree}(w:lM t){l:List Qu}(hs:mE l)(hl:l.length<=1000)(e0:Env)(h2:e0 2 = .iV [.b9 false (t.nodes.map Nd),I t.next,I t.ek])(h1:e0 1 = .b9 false (l.map Qv))(h5:e0 5 = .mb 0)(K:e0 17 = .b9 false (t.nodes.map Nd))(z:e0 18=I (t.nodes.length:Int)):
  ∃y,((∃G,y=(AX.exit 0,[],G))\/∃G,y=(AX.ret,[.bool false],G))/\
   iter (round (en.cz 122) [19] [(.exit 0,[]),(.ret,[4])] yb e0 1 []) ([I 0],[.mp .i64 []])=some y :=
 iQ (f := round (en.cz 122) [19] [(.exit 0, []), (.ret, [4])] yb e0 1 []) t.nodes.length (λi (es : List (Int × AV)) => ([I (i : Int)], [.mp .i64 es])) (λy => (∃ G, y = (AX.exit 0, [], G)) \/ ∃ G, y = (AX.ret, [.bool false], G)) (λ_ es => Mi es)
  (λi es U r=>by
   have T:=w.wf.len;have N:=aP U;obtain⟨q,M⟩:∃q,q=t.nodes[i]:=⟨_,rfl⟩;rw[<-M]at N;have L:=jQ w N
   have A:∀ {es:List (Int×AV)},Mi es->∀h0 (G:AH),jD 1 [] h0 0 [AB.mp .i64 es]=[AB.mp .i64 es]:=λ{es} r h0 G=>oE.same (X:=[AB.mp .i64 es]) (by
    show List.all _ (ve 1)=true;simp[ve];intro a b x;obtain⟨v,E⟩:=r (a,b) x;simp only at E;rw[E];exact .inl rfl) h0
   have H:∀h0,jD 2 [] h0 0 [AB.mp .i64 es,.var (Nc q)]=[AB.mp .i64 es,.var (Nc q)]:=λh0=>oE.same (X:=[AB.mp .i64 es,.var (Nc q)]) (by
    show List.all _ (ve 2)=true;simp[ve,uI,AV.jW];intro a b x;obtain⟨v,E⟩:=r (a,b) x;simp only at E;rw[E];exact .inl rfl) h0
   simp only[Nc]at H
   by_cases P:q.b7.length=0
   .have A:=λh0=>A r h0 []
    exact .inl ⟨es,r,by simp(disch:=omega)[-jD,round_eq,yb,K,z,<-M,P,A]⟩
   .have O:=ahx (n:=122) ah t w l hs hl false (Rw w N P)
    generalize dom t l q.ino=d at O;simp only[Tv]at O;generalize h:round (en.cz 122) _ _ _ _ _ _ _=res;simp(disch:=omega)[-jD,round_eq,yb,h2,h1,K,z,<-M,P,ca 243,O,H]at h;generalize S:iter _ _=o at h;obtain⟨_,Q,rfl⟩:∃y,_/\o=some y:=by rw[<-S];exact VP w L.1 d es r _ (by simp(disch:=omega)[h2]) (by simp(disch:=omega)[h5]) aq aq aq
    rcases Q with⟨es',F,rfl⟩ | ⟨G,rfl⟩
    .have A:=λh0=>A F h0 []
     simp(disch:=omega)[-jD,A]at h;exact .inl ⟨es',F,by rw[<-h];push_cast;rfl⟩
    .simp(disch:=omega)[-jD]at h;exact .inr ⟨_,.inr ⟨G,rfl⟩,h.symm⟩)
  (λes r=>⟨_,.inl ⟨_,rfl⟩,by simp(disch:=omega)[round_eq,yb,z];rfl⟩) (aT _) [] (by simp[Mi])
def ahR{n:Nat}(v:122<n){t:Tr.Tree}(w:lM t){l:List Qu}(hs:mE l)(hl:l.length<=1000):∃b,(en.cz n).p 183 [Tv t,.b9 false (l.map Qv)]=some (.bool b):=by
 generalize h:(en.cz n).p 183 _=res;rw[pp 183 rfl v rfl,b8,b6]at h;have r:=w.wf.len;simp(disch:=omega)[afy]at h;generalize q:iter _ _=o at h;obtain⟨_,i,rfl⟩:∃y,_/\o=some y:=by rw[<-q];exact VO w hs hl _ aq aq aq aq aq
 rcases i with⟨G,rfl⟩ | ⟨G,rfl⟩
 .simp(disch:=omega)at h;exact⟨_,h.symm⟩
 .simp(disch:=omega)at h;exact⟨_,h.symm⟩
def ahT{n:Nat}(b:9<n)(x:Ho)(i:Int)(X:AH)(k:Nat)(hk:X[k]? = some (.var [I i])):eT (en.cz n) 177 [Hv x,.ptr k 0 0 0] X=some (.bool (decide (x.ino=i)),X):=by
 rw[ph 177 rfl b rfl,b6];simp(disch:=omega)[afz,hk]
def abC{n:Nat}(i:40<n){t:Tr.Tree}(w:lM t)(x:Qu)(X:AH)(k:Nat)(hk:X[k]? = some (.var (Tb t))):∃Z,Z.all gd=true/\eT (en.cz n) 181 [Qv x,.ptr k 0 0 0] X=some (.bool (!(find t.nodes x.ino).isSome),X++Z):=by
 have b:=BW (n:=40) ah t w.wf.jL (nc w).len x.ino
 unfold lq at b;rw[ph 181 rfl i rfl,b6];cases h:find t.nodes x.ino with
 |none =>
  rw[h]at b;simp only[bS,Tv,Nd,jo,aN]at b;exact⟨[.var [I 0,I 0,I 0,.b9 false [],.b9 false [],I 0]],rfl,by simp(disch:=omega)[Yw,hk,ca 182,b]⟩
 |some q =>
  rw[h]at b;simp only[bC,Tv,Nd]at b;exact⟨[.var (Nc q)],rfl,by simp(disch:=omega)[Yw,hk,ca 182,b]⟩
def uJ(t:Tr.Tree)(l:List Qu):List Qu:=l.filter λq=>(find t.nodes q.ino).isSome
def ahS{n:Nat}(y:118<n){t:Tr.Tree}(w:lM t){l:List Qu}(hl:l.length<=1000){X:AH}(r:X.all gd=true)(k:Nat)(hk:X[k]? = some (.var (Tb t))):
  ∃es Z,Z.all gd=true/\es.take (uJ t l).length=(uJ t l).map Qv/\(uJ t l).length<=es.length/\eT (en.cz n) 179 [.own X.length 0 0 l.length,.fn (.func 181) [] [.ptr k 0 0 0]] (X++[.row 0 3 (l.map Qv)])=some (.own X.length 0 0 (uJ t l).length,X ++ .row 0 3 es::Z):=by
 have b:=(aD.1 hk).1
 obtain⟨es,v,Z,i,h1,h2,h⟩:=aeL (Γ:=en.cz 118) (z:=3) (zero:=[I 0,I 0,I 0]) (k:=242) (cs:=λq:Qu=>[I q.ino,I q.nodes,I q.bytes]) (λ_=>rfl) (λ_=>rfl) rfl rfl (l:=l) af (kf r) 181 [] [.ptr k 0 0 0] (λq=>!(find t.nodes q.ino).isSome) (by
  obtain⟨Z,i,h⟩:=GB (Γ:=en.cz 117) (cs:=λq:Qu=>[I q.ino,I q.nodes,I q.bytes]) (λ_=>rfl) (l:=l) af (vV (kf r) 3 _) (MK X (cs:=λq:Qu=>[I q.ino,I q.nodes,I q.bytes]) (λ_=>rfl) l) 181 [] [.ptr k 0 0 0] (λq=>!(find t.nodes q.ino).isSome) λx _=>abC ah w x _ k (by rw[aJ b];exact hk)
  exact⟨Z,i,(aiN ah _ _).trans h⟩) λx _ Y=>abC ah w x _ k (by rw[aJ b];exact hk)
 have e:(l.filter λx=>!(λq:Qu=>!(find t.nodes q.ino).isSome) x)=uJ t l:=by
  unfold uJ
  congr 1
  funext q
  simp
 rw[e]at h1
 have A:v=(uJ t l).length:=by
  have:=congrArg List.length h1;rw[bF,cv]at this;omega
 subst A;exact⟨es,Z,i,h1,h2,(ph 179 rfl y rfl _ _).trans h⟩
section
variable{X:AH}{f:FS}{o:lX}{a:nH}{k:Nat}
def V9(F:X.all gd=true)(h3:X[4]? = some (.var (Wc f o a)))(P:mF k f){t:Tr.Tree}(w:lM t)(os:ay)(N:os.length<=1000)(e0:Env)(h0:e0 0 = .ptr 4 0 0 0)(h4:e0 4 = .ptr X.length 0 0 0)(E:e0 13 = .b9 false (os.map I))(q:e0 14=I (os.length:Int)):
  ∃y,(∃v,lM v/\y=(AX.exit 0,[],X++[AB.var (Tb v)]))/\iter (round (en.cz 124) [15] [(.exit 0,[])] yz e0 (X.length+1) []) ([I 0],X++[.var (Tb t)])=some y :=
 iQ (f:=round (en.cz 124) [15] [(.exit 0,[])] yz e0 (X.length+1) []) os.length (λi (t:Tr.Tree)=>([I (i:Int)],X++[.var (Tb t)])) (λy=>∃v,lM v/\y=(AX.exit 0,[],X++[AB.var (Tb v)])) (λ_ t=>lM t)
  (λi t S w=>by
   have Q:4<X.length:=(aD.1 h3).1;have A:=(aD.1 h3).2;have O:=P.hl;obtain⟨x,M⟩:∃x,x=os[i]:=⟨_,rfl⟩;have G:=λh0 Y=>(kf F).tail (L:=X.length+1) (R:=[]) af ai h0 Y
   have l:=jr X;have H:=abE (n:=124) ah f.holds af false 177 [] [.ptr (X.length+1) 0 0 0] (λh=>decide (h.ino=x)) (X++[.var (Tb t),.var [I x]]) (by rw[cq,F];rfl) λh _=>ahT ah h x _ _ (by rw[aQ af];simp)
   have K:=abD (n:=124) ah t w.wf.jL (nc w).len x
   have z:=WF.free w x;generalize(f.holds.any λh=>decide (h.ino=x))=b at H
   generalize free t x=r at K z;simp only[Tv]at K;left;cases b with
   |true=>exact⟨t,w,by simp(disch:=omega)[round_eq,yz,h0,E,q,<-M,A,H,G,l,jk]⟩
   |false=>exact⟨r.1,z,by simp(disch:=omega)[round_eq,yz,h0,h4,E,q,<-M,A,H,ca 178,K,G,l,jk]⟩)
  (λt w=>⟨_,⟨t,w,rfl⟩,by
   have G:=λh0 Y=>(kf F).tail (L:=X.length+1) (R:=[]) af ai h0 Y
   have l:=jr X;simp(disch:=omega)[round_eq,yz,q]⟩) (aT _) t w
def V8(hX:X.all gd=true){Z:AH}(hZ:Z.all gd=true){t:Tr.Tree}(w:lM t){l:List Qu}(hl:l.length<=1000){es:List AV}(W:l.length<=es.length)(O:es.take l.length=l.map Qv)(e0:Env)(h4:e0 4 = .ptr X.length 0 0 0)(F:e0 42 = .own (X.length+1) 0 0 l.length)(h:e0 43=I (l.length:Int)):
  ∃y,(y=(AX.exit 2,[],X++(AB.var (Tb t) :: .me 0 3 es::Z))\/∃e Q,y=(AX.ny (45,.i64,e),[],X++Q))/\iter (round (en.cz 124) [44] [(.exit 2,[])] vJ e0 (X.length+(Z.length+2)) []) ([I 0],X++(.var (Tb t) :: .me 0 3 es::Z))=some y:=by
 have hP:(X++(AB.var (Tb t) :: .me 0 3 es::Z)).all gd=true:=by
  rw[cq,hX]
  simpa[gd,AV.jW]using hZ
 have b:(X++(AB.var (Tb t) :: .me 0 3 es::Z)).length=X.length+(Z.length+2):=ai
 have E:=(kf hP).same;rw[b]at E;have z:(X++(AB.var (Tb t) :: .me 0 3 es::Z)).take (X.length+(Z.length+2))=X++(AB.var (Tb t) :: .me 0 3 es::Z):=aO (by rw[b];exact aV _)
 have x:∀Y,(X++(AB.var (Tb t) :: .me 0 3 es::(Z++Y))).take (X.length+(Z.length+2))=X++(AB.var (Tb t) :: .me 0 3 es::Z):=λY=>by
  rw[show X++(AB.var (Tb t) :: .me 0 3 es::(Z++Y))=(X++(AB.var (Tb t) :: .me 0 3 es::Z))++Y by simp]
  exact fm b
 exact iQ (f:=round (en.cz 124) [44] [(.exit 2,[])] vJ e0 (X.length+(Z.length+2)) []) l.length (λi (_:Unit)=>([I (i:Int)],X++(.var (Tb t) :: .me 0 3 es::Z))) (λy=>y=(AX.exit 2,[],X++(AB.var (Tb t) :: .me 0 3 es::Z))\/∃e Q,y=(AX.ny (45,.i64,e),[],X++Q)) (λ_ _=>True)
  (λi _ H _=>by
   obtain⟨q,U⟩:∃q,q=l[i]:=⟨_,rfl⟩
   have hg:es[i]? = some (Qv q):=by
    have:(es.take l.length)[i]? = some (Qv q):=by rw[O,bP,aH H,<-U];rfl
    rwa [dg,if_pos H]at this
   have N:i<es.length:=af
   have A:es[i]=Qv q:=bB ((aH N).symm.trans hg);have S:=E;have L:=z;have r:=x;have K:=abB (n:=124) ah t w q.ino
   have M:=DC (n:=124) ah 90
   have G:=DD (n:=124) ah (e:=90) ah
   generalize kR t q.ino=u at *
   generalize kS t q.ino=v at *
   simp only[Tv]at K
   by_cases P:u<=q.nodes
   .by_cases T:v<=q.bytes
    .exact .inl ⟨(),trivial,by simp(disch:=omega)[round_eq,vJ,jb,h4,F,h,H,A,ca 184,K,M,P,T,S,r]⟩
    .exact .inr ⟨_,.inr ⟨90,_,rfl⟩,by simp(disch:=omega)[round_eq,vJ,jb,h4,F,h,H,A,ca 184,K,G,P,T];rfl⟩
   .exact .inr ⟨_,.inr ⟨90,_,rfl⟩,by simp(disch:=omega)[round_eq,vJ,jb,h4,F,h,H,A,ca 184,K,G,P];rfl⟩)
  (λ_ _=>⟨_,.inl rfl,by
   have S:=E;have L:=z;have r:=x;simp(disch:=omega)[round_eq,vJ,h]⟩) (aT _) () trivial
end
end Go.Proofs.YtghgbehknhmnaaaGreatDoor
