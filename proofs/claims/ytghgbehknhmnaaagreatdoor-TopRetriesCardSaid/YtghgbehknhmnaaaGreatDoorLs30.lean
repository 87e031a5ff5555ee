/- Part of the proof that TopRetriesCard holds. -/
import Derived.Test.YtghgbehknhmnaaaGreatDoorLa30f
import Derived.KernelRfl
set_option linter.all false
namespace Go.Proofs.YtghgbehknhmnaaaGreatDoor
open Go.Am Go.Tr Go.Am.Nm Go.Lib
def s51{n:Nat}(hn:240<n){f:FS}{k:Nat}(h:mF k f)(hk:k<=200){o:lX}(ho:uy o):∃K L,(en.cz n).p 51 [Fv f,Ov o]=some (.jg [Fv K,Av L])/\mF (k+1) K/\zM L:=by
 generalize b:(en.cz n).p 51 _=res;rw[pp 51 rfl hn rfl,b8,b6]at b;have Tg:=ho.d;have hhl:=h.hl;have v:=λe=>Uz (n:=240) ah e
 simp only[Av,Ac,aP]at v
 by_cases c9:o.kind=9
 .have hC:=abX (n:=240) ah f.s.now (nc h.s.w) f.holds af false o.client o.handle
  have H:=WF.close h.s.w f.holds o.client o.handle;have Z:=r8 f.s.now f.holds o.client o.handle;have vo:=nG h.hs f.s.now o.client o.handle;have O:qh (js f.s.now f.holds o.client o.handle).2.1:=by rw[vo];exact h.hs.filter _
  generalize js f.s.now f.holds o.client o.handle=r at *
  obtain⟨t,l,e⟩:=r;simp only[Tv,dw]at hC H Z O
  by_cases P:e=0
  .subst P;obtain⟨s',A,U⟩:=s55 (n:=240) ah h.s af H
   simp only[Tv,Sv,Sc]at A;simp(disch:=omega)[LK,c9,ca 106,hC,ca 55,A]at b;exact⟨⟨s',l,f.jG⟩,⟨0,0,0,0,0,[],[]⟩,b.symm,⟨U,O,by simp only;omega,h.qs,h.ql⟩,j7 ..⟩
  .simp(disch:=omega)[LK,c9,ca 106,hC,P,v]at b;exact⟨f,⟨e,0,0,0,0,[],[]⟩,b.symm,h.up,j7 ..⟩
 have x:=aij (n:=240) ah f.holds af false o.client o.handle
 generalize FO f.holds o.client o.handle=r at *
 obtain⟨i,e⟩:=r;simp only at x
 by_cases P:e=0
 case neg =>
  simp(disch:=omega)[LK,c9,ca 107,x,P,v]at b;exact⟨f,⟨e,0,0,0,0,[],[]⟩,b.symm,h.up,j7 ..⟩
 subst P;have y:=pT (n:=240) ah f.s.now (nc h.s.w) i
 have hg:lq (find f.s.now.nodes i) = .jg [Nd (iS f.s.now i),.bool (find f.s.now.nodes i).isSome]:=by
  unfold lq iS;cases find f.s.now.nodes i<;>rfl
 rw[hg]at y
 have W:(iS f.s.now i).b7.length<=64/\(iS f.s.now i).data.length<=4096:=by
  unfold iS;cases hfi:find f.s.now.nodes i with
  |none=>simp[jo]
  |some q=>exact jQ h.s.w (fk hfi).1
 generalize iS f.s.now i=q at *
 generalize(find f.s.now.nodes i).isSome=bq at *
 simp only[Tv,Nd]at y;have Tl:=W.2
 by_cases z:o.n<0
 .simp(disch:=omega)[LK,c9,ca 107,x,ca 100,y,z,v]at b;exact⟨f,⟨1,0,0,0,0,[],[]⟩,b.symm,h.up,j7 ..⟩
 obtain⟨N,Q⟩:∃N:Nat,o.n=(N:Int):=⟨o.n.toNat,af⟩
 by_cases zb:o.kind=10
 .by_cases T:o.m<0
  .simp(disch:=omega)[LK,ca 107,x,ca 100,y,z,zb,T,v]at b;exact⟨f,⟨1,0,0,0,0,[],[]⟩,b.symm,h.up,j7 ..⟩
  by_cases G:4096<o.m
  .simp(disch:=omega)[LK,ca 107,x,ca 100,y,z,zb,T,G,v]at b;exact⟨f,⟨1,0,0,0,0,[],[]⟩,b.symm,h.up,j7 ..⟩
  obtain⟨M,hM⟩:∃M:Nat,o.m=(M:Int):=⟨o.m.toNat,af⟩
  rw[hM]at T G;rw[Q]at z;simp(disch:=omega)[LK,ca 107,x,ca 100,y,zb,hM,Q,z,T,G]at b;generalize(min (N:Int) (q.data.length:Int)).toNat=j1 at b;generalize(min (min (N:Int) (q.data.length:Int)+(M:Int)) (q.data.length:Int)).toNat=j2 at b;rw[<-List.map_take,<-List.map_drop]at b;exact⟨f,⟨0,i,0,0,0,[],(q.data.take j2).drop j1⟩,b.symm,h.up,⟨ai,by simp only[bS,bE];omega⟩⟩
 by_cases sE:o.kind=11
 .by_cases G:4096<o.n
  .simp(disch:=omega)[LK,ca 107,x,ca 100,y,z,sE,G,v]at b;exact⟨f,⟨1,0,0,0,0,[],[]⟩,b.symm,h.up,j7 ..⟩
  by_cases d4:4096<o.n+o.data.length
  .simp(disch:=omega)[LK,ca 107,x,ca 100,y,z,sE,G,d4,v]at b;exact⟨f,⟨2,0,0,0,0,[],[]⟩,b.symm,h.up,j7 ..⟩
  obtain⟨d',hL,ak4⟩:=aii (n:=240) ah q.data Tl N o.data af
  have A:=abW (n:=240) ah f.s.now (nc h.s.w) i false d' af
  have H:=WF.put h.s.w i d';generalize put f.s.now i d'=r at *
  obtain⟨t,e⟩:=r;obtain⟨K,L,S,E,F⟩:=Uy (n:=240) ah h hk H h.qs h.ql e (a:=⟨0,i,0,0,d'.length,[],[]⟩) (j7 ..)
  rw[<-Q]at hL;simp only[Tv,Fv,Fc,Sc,Av,Ac,aI,aL,aP]at A S;simp(disch:=omega)[LK,ca 107,x,ca 100,y,z,sE,G,d4,ca 108,hL,ca 109,A,ca 95,S]at b;exact⟨K,L,b.symm,E,F⟩
 rw[Q]at z;obtain⟨J,hJ,hJl⟩:∃J:Nat,min (N:Int) (q.data.length:Int)=J/\J<=q.data.length:=⟨(min (N:Int) (q.data.length:Int)).toNat,af,af⟩
 have A:=abW (n:=240) ah f.s.now (nc h.s.w) i false (q.data.take J) (by rw[bE];omega)
 have H:=WF.put h.s.w i (q.data.take J);generalize put f.s.now i (q.data.take J)=r at *
 obtain⟨t,e⟩:=r;obtain⟨K,L,S,E,F⟩:=Uy (n:=240) ah h hk H h.qs h.ql e (a:=⟨0,i,0,0,J,[],[]⟩) (j7 ..)
 have X:(q.data.take J).map B=(q.data.map B).take J:=List.map_take;rw[X]at A;have Y:min J q.data.length=J:=af
 simp only[Tv,Fv,Fc,Sc,Av,Ac,aI,aL,aP]at A S;simp(disch:=omega)[-List.map_take,LK,c9,ca 107,x,ca 100,y,Q,z,zb,sE,hJ,hJl,Y,ca 109,A,ca 95,S]at b;exact⟨K,L,b.symm,E,F⟩
def Jm{l:List Tr.Node}(hl:zc 100000 l)(a:Int):∃q b,lq (find l a) = .jg [Nd q,.bool b]/\q.b7.length<=64/\q.data.length<=4096:=by
 unfold lq;cases h:find l a with
 |none=>exact⟨jo,false,rfl,by simp[jo],by simp[jo]⟩
 |some q=>exact⟨q,true,rfl,hl.sm q (fk h).1⟩
abbrev A7:AB:=.var (Ac Az)
abbrev T7(l:List Tr.Node):AB:=.var [.b9 false (l.map Nd),I 0,I 0]
def ac7(l:List Tr.Node)(q:Tr.Node)(r:q.b7.length<=64)(ps:List au)(f:Bool)(i:Nat)(z:i<ps.length)(e0:Env)(h8:e0 8 = .b9 f (ps.map AV.str))(b:e0 10 = .ptr 2 0 0 0)(h:e0 12=I (i:Int)):
  ∃y,(∃v,y=(AX.exit 2,[I v],[A7,T7 l,.var (Nc q)]))/\iter (round (en.cz 245) [13,14] [(.exit 2,[13])] C9 e0 3 []) ([I 0,I 0],[A7,T7 l,.var (Nc q)])=some y :=
 iQ (f:=round (en.cz 245) [13,14] [(.exit 2,[13])] C9 e0 3 []) q.b7.length (λj (v:Int)=>([I v,I (j:Int)],[A7,T7 l,.var (Nc q)])) (λy=>∃v,y=(AX.exit 2,[I v],[A7,T7 l,.var (Nc q)])) (λ_ _=>True)
  (λj v x _=>by
   obtain⟨e,o⟩:∃e,e=q.b7[j]:=⟨_,rfl⟩;obtain⟨p,n⟩:∃p,p=ps[i]:=⟨_,rfl⟩;left
   by_cases c:e.name=p
   .exact⟨e.ino,trivial,by simp(disch:=omega)[round_eq,C9,h8,b,h,<-o,<-n,j9,c]⟩
   .exact⟨v,trivial,by simp(disch:=omega)[round_eq,C9,h8,b,h,<-o,<-n,j9,c]⟩)
  (λv _=>⟨_,⟨v,rfl⟩,by simp(disch:=omega)[round_eq,C9,b]⟩) (aQ _) 0 trivial
def ac6{l:List Tr.Node}(hl:zc 100000 l)(ps:List au)(L:ps.length<=1000){f:Bool}{q:Tr.Node}(x:q.b7.length<=64/\q.data.length<=4096)(e0:Env)(h4:e0 4 = .ptr 0 0 0 0)(h8:e0 8 = .b9 f (ps.map AV.str))(F:e0 9 = .ptr 1 0 0 0)(o:e0 10 = .ptr 2 0 0 0):
  ∃y,((∃q:Tr.Node,(q.b7.length<=64/\q.data.length<=4096)/\y=(AX.exit 0,[],[A7,T7 l,.var (Nc q)]))\/∃(e:Int) (H:AH),y=(AX.ret,[],AB.var (Ac ⟨e,0,0,0,0,[],[]⟩)::H))/\
   iter (round (en.cz 245) [12] [(.exit 0,[]),(.ret,[])] Bz e0 3 []) ([I 0],[A7,T7 l,.var (Nc q)])=some y :=
 iQ (f:=round (en.cz 245) [12] [(.exit 0,[]),(.ret,[])] Bz e0 3 []) ps.length (λi (q:Tr.Node)=>([I (i:Int)],[A7,T7 l,.var (Nc q)]))
  (λy=>(∃q:Tr.Node,(q.b7.length<=64/\q.data.length<=4096)/\y=(AX.exit 0,[],[A7,T7 l,.var (Nc q)]))\/∃(e:Int) (H:AH),y=(AX.ret,[],AB.var (Ac ⟨e,0,0,0,0,[],[]⟩)::H)) (λ_ q=>q.b7.length<=64/\q.data.length<=4096)
  (λi q M x=>by
   have r:=λe=>Uz (n:=245) ah e
   simp only[Av,Ac,aP]at r;generalize h:round (en.cz 245) [12] [(.exit 0,[]),(.ret,[])] Bz e0 3 [] _=res
   by_cases E:q.kind=2
   case neg =>
    simp(disch:=omega)[round_eq,Bz,h4,h8,o,E,ca 48,r]at h
    grind
   simp(disch:=omega)[round_eq,Bz,h8,o,E]at h;have key:=λe0 h8 o A=>ac7 l q x.1 ps f i M e0 h8 o A
   simp only[A7,T7,Nc,Ac,aP,E]at key;generalize G:iter _ _=oo at h;obtain⟨_,⟨v,rfl⟩,rfl⟩:∃y,_/\oo=some y:=by rw[<-G];exact key _ (by simp_all) (by simp_all) (by simp_all)
   have z:=IM (n:=245) ah ⟨false,l,0,0⟩ (by have:=hl.len;simp only;omega) v
   obtain⟨N,b,hg,K⟩:=Jm hl v;rw[hg]at z;simp only[Tv,Nd]at z;cases b with
   |false =>
    simp(disch:=omega)[h4,F,ca 100,z,ca 48,r]at h
    grind
   |true =>
    simp(disch:=omega)[F,o,ca 100,z]at h
    grind)
  (λq x=>⟨_,.inl ⟨q,x,rfl⟩,by simp(disch:=omega)[round_eq,Bz,h8]⟩) (aQ _) q x
def ac5(l:List Tr.Node)(q:Tr.Node)(r:q.b7.length<=64)(e0:Env)(n:e0 10 = .ptr 2 0 0 0):
  ∃y,(∃b:List au,b.length=q.b7.length/\y=(AX.exit 4,[AV.own 3 0 0 b.length],[A7,T7 l,.var (Nc q),.row 0 1 (b.map AV.str)]))/\iter (round (en.cz 245) [17,18] [(.exit 4,[17])] Gx e0 4 [3]) ([.own 3 0 0 0,I 0],[A7,T7 l,.var (Nc q),.row 0 1 []])=some y :=
 iQ (f:=round (en.cz 245) [17,18] [(.exit 4,[17])] Gx e0 4 [3]) q.b7.length (λi (b:List au)=>([.own 3 0 0 b.length,I (i:Int)],[A7,T7 l,.var (Nc q),.row 0 1 (b.map AV.str)]))
  (λy=>∃b:List au,b.length=q.b7.length/\y=(AX.exit 4,[AV.own 3 0 0 b.length],[A7,T7 l,.var (Nc q),.row 0 1 (b.map AV.str)])) (λi b=>b.length=i)
  (λi b v h=>by
   obtain⟨x,o⟩:∃x,x=q.b7[i]:=⟨_,rfl⟩;exact .inl ⟨b++[x.name],by simp[h],by simp(disch:=omega)[round_eq,Gx,n,<-o,h]⟩)
  (λb h=>⟨_,⟨b,h,rfl⟩,by simp(disch:=omega)[round_eq,Gx,n,h]⟩) (aQ _) [] rfl
def s52{n:Nat}(W:245<n){f:FS}{k:Nat}(X:mF k f)(hk:k<=200){o:lX}(T:uy o):∃N,(en.cz n).p 52 [Fv f,Ov o]=some (Av N)/\zM N:=by
 generalize b:(en.cz n).p 52 _=res;rw[pp 52 rfl W rfl,b8,b6]at b;have S:=T.p;have h:=λe=>Uz (n:=245) ah e
 simp only[Av,Ac,aP]at h;obtain⟨a,l,e,hl,A⟩:=aih (n:=245) ah X.s af o.n
 simp only[Sv,Sc]at A
 by_cases K:e=0
 case neg =>
  simp(disch:=omega)[c52,ca 110,A,K,ca 48,h]at b;exact⟨⟨e,0,0,0,0,[],[]⟩,b.symm,j7 ..⟩
 subst K;have x:=UN (n:=245) ah o.path af
 unfold spR at x;cases G:Nm.split o.path with
 |none =>
  rw[G]at x;simp(disch:=omega)[c52,ca 110,A,ca 111,x,ca 48,h]at b;exact⟨⟨60,0,0,0,0,[],[]⟩,b.symm,j7 ..⟩
 |some ps =>
  rw[G]at x;have Q:=vW G;have z:=IM (n:=245) ah ⟨false,l,0,0⟩ (by have:=hl.len;simp only;omega) a
  simp only[Tv]at z;obtain⟨q,Z,hg,P⟩:=Jm hl a;rw[hg]at z;simp only[Nd]at z;simp(disch:=omega)[c52,ca 110,A,ca 111,x,ca 100,z]at b;have key:=λe0 h4 h8 Y i=>ac6 hl ps af (f:=decide (o.path=[47])) P e0 h4 h8 Y i
  simp only[A7,T7,Nc,Ac,aP]at key;generalize E:iter _ _=oo at b;obtain⟨_,⟨v,F,rfl⟩ | ⟨e,H,rfl⟩,rfl⟩:∃y,_/\oo=some y:=by rw[<-E];exact key _ (by simp_all) (by simp_all) (by simp_all) (by simp_all)
  .have L:=λe0 i=>ac5 l v F.1 e0 i
   simp only[A7,T7,Nc,Ac,aP]at L;obtain⟨r,M⟩:=abY (n:=245) ah v af
   simp only[Nd]at M;simp(disch:=omega)at b;generalize E:iter _ _=oo at b;obtain⟨_,⟨O,U,rfl⟩,rfl⟩:∃y,_/\oo=some y:=by rw[<-E];exact L _ (by simp_all)
   simp(disch:=omega)[M]at b;exact⟨⟨0,v.ino,v.kind,v.links,r,O,v.data⟩,b.symm,⟨by simp only;omega,by simp only;omega⟩⟩
  .simp(disch:=omega)at b;exact⟨⟨e,0,0,0,0,[],[]⟩,b.symm,j7 ..⟩
def N6(c:Int)(ks:ay):∀s:Tr.Tree×List Ho×Bool,s.2.2=false->(ks.foldl (gf c) s).2.2=false:=by
 induction ks with
 |nil=>exact λs h=>h
 |cons a ks b =>
  intro s h;refine b _ ?_;unfold gf;simp[h]
set_option maxHeartbeats 1000000 in
def s22{n:Nat}(Y:248<n){f:FS}{k:Nat}(i:mF k f)(hk:k<=200){o:lX}(x:uy o):∃Q S,(en.cz n).p 22 [Fv f,Ov o]=some (.jg [Fv Q,Av S])/\mF (k+1) Q/\zM S:=by
 generalize b:(en.cz n).p 22 _=res;rw[pp 22 rfl Y rfl,b8,b6]at b;have l:=λe=>Uz (n:=248) ah e
 simp only[Av,Ac,aP]at l
 by_cases b1:o.client<0
 .simp(disch:=omega)[Ll,b1,l]at b;exact⟨f,⟨1,0,0,0,0,[],[]⟩,b.symm,i.up,j7 ..⟩
 by_cases q:16<=o.client
 .simp(disch:=omega)[Ll,b1,q,l]at b;exact⟨f,⟨1,0,0,0,0,[],[]⟩,b.symm,i.up,j7 ..⟩
 obtain⟨f1,a1,h1,F,L⟩:=s49 (n:=248) ah i hk x
 obtain⟨f2,a2,h2,E,K⟩:=s50 (n:=248) ah i hk x
 obtain⟨Z,a3,h3,A,H⟩:=s51 (n:=248) ah i hk x
 obtain⟨a4,h4,G⟩:=s52 (n:=248) ah i hk x
 simp only[Fv,Fc,Sc,Ov,Oc,Av,Ac,aI,aL]at h1 h2 h3 h4;have h:(o.kind=2\/o.kind=3\/o.kind=4\/o.kind=5)\/(o.kind=1\/o.kind=6\/o.kind=7\/o.kind=8\/o.kind=13\/o.kind=14)\/(o.kind=9\/o.kind=10\/o.kind=11\/o.kind=12)\/o.kind=15\/o.kind=16\/o.kind=17\/(o.kind<1\/17<o.kind):=af
 rcases h with h | h | h | h | h | h | h
 .rcases h with h | h | h | h <;>
  .simp only[h]at h1;simp(disch:=omega)[Ll,b1,q,h,ca 49,h1]at b;exact⟨f1,a1,b.symm,F,L⟩
 .rcases h with h | h | h | h | h | h <;>
  .simp only[h]at h2;simp(disch:=omega)[Ll,b1,q,h,ca 50,h2]at b;exact⟨f2,a2,b.symm,E,K⟩
 .rcases h with h | h | h | h <;>
  .simp only[h]at h3;simp(disch:=omega)[Ll,b1,q,h,ca 51,h3]at b;exact⟨Z,a3,b.symm,A,H⟩
 .simp only[h]at h4;simp(disch:=omega)[Ll,b1,q,h,h4]at b;exact⟨f,a4,b.symm,i.up,G⟩
 .obtain⟨s',e,M,v⟩:=s53 (n:=248) ah i.s af o.n
  simp only[Sv,Sc]at M
  by_cases O:e=0
  .subst O;simp(disch:=omega)[Ll,b1,q,h,ca 53,M]at b;exact⟨⟨s',f.holds,f.jG⟩,Az,b.symm,⟨v.mono af,i.hs,i.hl,i.qs,i.ql⟩,j7 ..⟩
  .simp(disch:=omega)[Ll,b1,q,h,ca 53,M,O,l]at b;exact⟨f,⟨e,0,0,0,0,[],[]⟩,b.symm,i.up,j7 ..⟩
 .have N:=ahj (n:=248) ah f.s.now (nc i.s.w) f.holds (by have:=i.hl;omega) false o.client
  have hg:=Jl o.client vR (f.s.now,f.holds,false);have hl:=CN o.client vR f.s.now f.holds i.hs;have y:=WF.gone o.client vR f.holds i.s.w;simp only at hg;rw[<-hg]at hl y;generalize X:vR.foldl (gf o.client) (f.s.now,f.holds,false)=r at *
  obtain⟨t,hs,fl⟩:=r;simp only at hl y N;obtain⟨s',P,v⟩:=s55 (n:=248) ah i.s af y
  have z:fl=false:=by
   have:=N6 o.client vR (f.s.now,f.holds,false) rfl;rw[X]at this;exact this
  subst z;simp only[Tv,Sv,Sc]at N P;simp(disch:=omega)[Ll,b1,q,h,ca 54,N,ca 55,P]at b;exact⟨⟨s',hs,f.jG⟩,Az,b.symm,⟨v,hl.1,by have:=hl.2;have:=i.hl;simp only;omega,i.qs,i.ql⟩,j7 ..⟩
 .have n1:¬o.kind=1:=by omega
  have W:¬o.kind=2:=af
  have n3:¬o.kind=3:=af
  have U:¬o.kind=4:=af
  have n5:¬o.kind=5:=af
  have n6:¬o.kind=6:=af
  have n7:¬o.kind=7:=af
  have n8:¬o.kind=8:=af
  have T:¬o.kind=9:=af
  have n10:¬o.kind=10:=af
  have n11:¬o.kind=11:=af
  have n12:¬o.kind=12:=af
  have n13:¬o.kind=13:=af
  have n14:¬o.kind=14:=af
  have n15:¬o.kind=15:=af
  have n16:¬o.kind=16:=af
  have n17:¬o.kind=17:=af
  simp(disch:=omega)[Ll,b1,q,n1,W,n3,U,n5,n6,n7,n8,T,n10,n11,n12,n13,n14,n15,n16,n17,l]at b;exact⟨f,⟨1,0,0,0,0,[],[]⟩,b.symm,i.up,j7 ..⟩
def s21{n:Nat}(i:180<n):∃f,(en.cz n).p 21 []=some (Fv f)/\mF 0 f:=by
 have b:=s47 (n:=180) ah
 have h:(en.cz 180).p 46 [Tv zk]=some (Sv ⟨zk,0,List.replicate zk.nodes.length 0,[],[],1⟩):=by
  have hl:zk.nodes.length<=1000:=ah
  rw[p46 ah,b8,b6]
  simp(disch:=omega)[c46]
 refine⟨⟨⟨zk,0,List.replicate zk.nodes.length 0,[],[],1⟩,[],[]⟩,?_,?_⟩
 .rw[pp 21 rfl i rfl,b8,b6];simp only[Tv,Sv,Sc,aP]at b h;simp(disch:=omega)[c21,ca 47,b,ca 46,h]
 .exact⟨⟨WF.new,ai,ai,ai,ai,ai,ai⟩,by simp[qh],ai,by simp[mE],ai⟩
def l8{l:List lX}(hl:l.length<=50)(v:∀o∈l,uy o)(fl:Bool){g:FS}(hg:mF 0 g)(e0:Env)(h0:e0 0 = .b9 fl (l.map Ov))(h3:e0 3 = .ptr 1 0 0 0):
  ∃y,(∃b,mF l.length b/\y=(AX.exit 0,[],[AB.var nY,.var (Fc b)]))/\iter (round (en.cz 249) [4] [(.exit 0,[])] OO e0 2 []) ([I 0],[.var nY,.var (Fc g)])=some y :=
 iQ (f:=round (en.cz 249) [4] [(.exit 0,[])] OO e0 2 []) l.length (λi (g:FS)=>([I (i:Int)],[AB.var nY,.var (Fc g)])) (λy=>∃b,mF l.length b/\y=(AX.exit 0,[],[AB.var nY,.var (Fc b)])) (λi g=>mF i g)
  (λi g x hg=>by
   obtain⟨o,h⟩:∃o,o=l[i]:=⟨_,rfl⟩;obtain⟨b,a,r,q,-⟩:=s22 (n:=249) ah hg af (v o (by rw[h];exact aN x))
   simp only[Fv,Fc,Sc,Ov,Oc,Av,Ac,aI,aL]at r;exact .inl ⟨b,q,by simp(disch:=omega)[round_eq,OO,h0,h3,<-h,r,nY]⟩)
  (λg hg=>⟨_,⟨g,hg,rfl⟩,by simp(disch:=omega)[round_eq,OO,h0,nY]⟩) (aQ _) g hg
def s8{n:Nat}(r:249<n){l:List lX}(hl:l.length<=50)(q:∀o∈l,uy o)(fl:Bool):∃g,(en.cz n).p 8 [.b9 fl (l.map Ov)]=some (Fv g)/\mF 50 g:=by
 obtain⟨f,h,v⟩:=s21 (n:=249) ah
 have key:=λe0 h0 h3=>l8 hl q fl v e0 h0 h3
 generalize b:(en.cz n).p 8 _=res;rw[p8 r,b8,b6]at b;simp only[Fv,Fc,Sc,aI,aL]at h;simp(disch:=omega)[c8,ca 21,h]at b;simp only[nY,Fc,Sc,aI,aL]at key;generalize i:iter _ _=oo at b;obtain⟨_,⟨g,hg,rfl⟩,rfl⟩:∃y,_/\oo=some y:=by rw[<-i];exact key _ aq aq
 simp(disch:=omega)at b;exact⟨g,b.symm,hg.mono hl⟩
set_option maxHeartbeats 8000000 in
def ait{f0:AV}{k i:Nat}{g:FS}{h:List ze}{ds:List lX}{cl:Nat}{st:ax}{os:List lX}{jR:List nH}{rs sq:ax}{sn:List Bool}{fl:Bool}(W:Ws f0 k (3*i) i (2*i) g h ds cl st os jR rs sq sn)(vo:cl<=8)(hk:k<=60)
  {m:List vS} (hm:m.length<=24) (hox:∀x∈m,uy x.op) (hi:i<m.length) (f:Bool) (bs:au) (f2:Bool) (e0:Env) (h1:e0 1 = .b9 f (m.map Uv)) (h2:e0 2 = .b9 f2 (bs.map B)) (h3:e0 3=I 8) (h4:e0 4 = .ptr 0 0 0 0) (A:e0 15 = .own 2 0 0 3) (P:e0 16 = .own 3 0 0 3) (O:e0 17 = .own 4 0 0 3) (N:e0 18 = .own 5 0 0 3)
  {x:vS} (Y:x=m[i]) {c:Nat} (hcc:c=x.c.toNat%3) (hc:c<3) {s:Nat} (hsc:st[c]? = some s) (hs2:s=0):W9 f0 k (i+1) (round (en.cz 252) [12,13,14,19,20] [(.exit 0,[12,13]),(.ret,[8,10,11])] oT e0 8 [6,7] ([.own 6 0 0 h.length,.own 7 0 0 ds.length,.b9 fl ((mZ rs jR).map Rv),I (cl:Int),I (i:Int)],Pd g h ds st os sq sn)):=by
 have l:=VC x.c;have hlt:=x.c.toNat_lt;rw[<-hcc]at l;have s3:=W.R.s3;have o3:=W.R.o3;have a3:=W.R.a3;have q3:=W.q3;have n3:=W.n3;have r3:=W.r3;have cs:c<st.length:=af
 have co:c<os.length:=af
 have caa:c<jR.length:=af
 have cq:c<sq.length:=af
 have cn:c<sn.length:=af
 have cr:c<rs.length:=af
 have hhl:=W.hl;have Tl:=W.dl;have hs:st[c]=s:=bp ((aD cs).symm.trans hsc);obtain⟨r,hr⟩:∃r,r=rs[c]:=⟨_,rfl⟩;have G:rs[c]? = some r:=by rw[hr];exact aD cr
 obtain⟨a,WU⟩:∃a,a=jR[c]:=⟨_,rfl⟩;have hac:jR[c]? = some a:=by rw[WU];exact aD caa
 obtain⟨o,E⟩:∃o,o=os[c]:=⟨_,rfl⟩;have hoc:os[c]? = some o:=by rw[E];exact aD co
 obtain⟨q,hq⟩:∃q,q=sq[c]:=⟨_,rfl⟩;have hqc:sq[c]? = some q:=by rw[hq];exact aD cq
 obtain⟨b,hb⟩:∃b,b=sn[c]:=⟨_,rfl⟩;have hbc:sn[c]? = some b:=by rw[hb];exact aD cn
 have hrl:=W.ql c r G;have hTl:(mZ rs jR).length<=3:=by unfold mZ;have:=oR rs jR 0;have:=oR rs jR 1;have:=oR rs jR 2;simp;omega
 have z2:bin .and (.int .i64 0) (.int .i64 2)=some (.int .i64 0):=rfl;have z1:bin .and (.int .i64 0) (.int .i64 1)=some (.int .i64 0):=rfl;subst hs2;have y:=hox x (by rw[Y];exact aN hi)
 by_cases c8:cl=8
 .have Wn:=W.mono (j':=3*(i+1)) (d':=i+1) (QB:=2*(i+1)) af af af
  generalize hT:mZ rs jR=T at *
  by_cases hbi:i<bs.length
  .obtain⟨X,F⟩:∃X,X=bs[i]:=⟨_,rfl⟩;have PK:=X.toNat_lt;exact⟨g,h,ds,cl,st,os,jR,rs,sq,sn,fl,Wn,vo,by rw[hT];simp(disch:=omega)[round_eq,oT,h1,h2,h3,A,<-Y,l,hs,jb,nY,<-F,c8]⟩
  .exact⟨g,h,ds,cl,st,os,jR,rs,sq,sn,fl,Wn,vo,by rw[hT];simp(disch:=omega)[round_eq,oT,h1,h2,h3,A,<-Y,l,hs,jb,nY,c8]⟩
 obtain⟨Z,W1⟩:=W.vO hc hsc (o:={x.op with client:=(c:Int)}) ⟨y.p,y.t,y.d⟩ rfl Az G
 have Z:q=r:=bp (hqc.symm.trans Z);subst Z;have hSm:=s13 (n:=252) ah W.R.ok af
 obtain⟨o',U⟩:∃o':lX,o'={x.op with client:=(c:Int)}:=⟨_,rfl⟩
 have ho1:uy o':=by rw[U];exact⟨y.p,y.t,y.d⟩
 have ho2:o'.client=(c:Int):=by rw[U]
 rw[<-U]at W1;obtain⟨g',Q9,Tp,hD3,hD4⟩:=JS (k:=k+(3*i+1)) (W.R.ok.mono af) af ho1
 have hD:=hD4 (n:=168) ah
 obtain⟨a1,hO1,-⟩:=wq (n:=252) (f:=g) (fl:=fl) (o:=o') ah r3 a3 hc G hac af (q:Int) (.inl rfl)
 obtain⟨-,-,W2⟩:=W1.done hc (aK af) (aK af) Q9 Tp hD3 G
 generalize(Dv o' (Fv g)).2=a' at *
 have z:=Fx (n:=252) (fl:=fl) ah r3 a3 hc G hac af ho2 hD
 have Wf:=(W2.fin hc (aK (an cs)) (aK af) Oz).mono (j':=3*(i+1)) (d':=i+1) (QB:=2*(i+1)) af af af
 have Wn:=W2.mono (j':=3*(i+1)) (d':=i+1) (QB:=2*(i+1)) af af af
 generalize hT:mZ rs jR=T at *
 generalize M:mZ (rs.set c (q+1)) (jR.set c a')=T2 at *
 subst U;have H:∀v:AV,((sq.map λ(s:Nat)=>I (s:Int)).set c v)[c]? = some v:=λv=>aK (an cq)
 have hgs:∀v:AV,((st.map λ(s:Nat)=>AV.bool (!decide (s=0))).set c v)[c]? = some v:=λv=>aK (an cs)
 have L:∀v:AV,((sn.map AV.bool).set c v)[c]? = some v:=λv=>aK (an cn)
 have K:∀v:AV,((os.map Ov).set c v)[c]? = some v:=λv=>aK (an co)
 simp only[Fv,Fc,Sc,Ov,Oc,Av,Ac,aI,aL]at hSm hO1 z;push_cast at z
 by_cases hbi:i<bs.length
 .obtain⟨X,F⟩:∃X,X=bs[i]:=⟨_,rfl⟩;have PK:=X.toNat_lt;obtain⟨w2,Q⟩:∃w,bin .and (.int .i64 (X.toNat:Int)) (.int .i64 2)=some (.int .i64 w):=⟨_,rfl⟩;obtain⟨w1,S⟩:∃w,bin .and (.int .i64 (X.toNat:Int)) (.int .i64 1)=some (.int .i64 w):=⟨_,rfl⟩
  by_cases c1:w1=0
  .by_cases c2:w2=2
   .exact⟨g',_,_,_,_,_,_,_,_,_,false,Wf,af,by rw[M];simp(disch:=omega)[round_eq,oT,h1,h2,h3,h4,A,P,O,N,<-Y,l,hs,<-E,<-hq,<-hb,jb,nY,hO1,z,ca 13,hSm,H,L,K,hgs,<-F,Q,S,c1,c2]⟩
   .exact⟨g',_,_,_,_,_,_,_,_,_,false,Wf,af,by rw[M];simp(disch:=omega)[round_eq,oT,h1,h2,h3,h4,A,P,O,N,<-Y,l,hs,<-E,<-hq,<-hb,jb,nY,z,H,L,K,hgs,<-F,Q,S,c1,c2]⟩
  .by_cases c2:w2=2
   .exact⟨g',_,_,_,_,_,_,_,_,_,false,Wn,af,by rw[M];simp(disch:=omega)[round_eq,oT,h1,h2,h3,h4,A,P,O,N,<-Y,l,hs,<-E,<-hq,<-hb,jb,nY,hO1,z,ca 13,hSm,H,L,K,<-F,Q,S,c1,c2]⟩
   .exact⟨g',_,_,_,_,_,_,_,_,_,false,Wn,af,by rw[M];simp(disch:=omega)[round_eq,oT,h1,h2,h3,h4,A,P,O,N,<-Y,l,hs,<-E,<-hq,<-hb,jb,nY,z,H,L,K,<-F,Q,S,c1,c2]⟩
 .exact⟨g',_,_,_,_,_,_,_,_,_,false,Wf,af,by rw[M];simp(disch:=omega)[round_eq,oT,h1,h2,h3,h4,A,P,O,N,<-Y,l,hs,<-E,<-hq,<-hb,jb,nY,z,H,L,K,hgs,z1,z2]⟩
structure X9 where
 g:FS
 h:List ze
 ds:List lX
 cl:Nat
 st:ax
 os:List lX
 jR:List nH
 rs:ax
 sq:ax
 sn:List Bool
 fl:Bool
def l9{A:AV}{k:Nat}(hk:k<=60){m:List vS}(M:m.length<=24)(n:∀x∈m,uy x.op)(f:Bool)(bs:au)(E:Bool)(e0:Env)(h1:e0 1 = .b9 f (m.map Uv))(h2:e0 2 = .b9 E (bs.map B))(h3:e0 3=I 8)(h4:e0 4 = .ptr 0 0 0 0)(v:e0 15 = .own 2 0 0 3)(r:e0 16 = .own 3 0 0 3)(q:e0 17 = .own 4 0 0 3)(o:e0 18 = .own 5 0 0 3)
  {x0:X9} (W0:Ws A k 0 0 0 x0.g x0.h x0.ds x0.cl x0.st x0.os x0.jR x0.rs x0.sq x0.sn) (Z:x0.cl<=8) :
  ∃y,(∃x:X9,Ws A k (3*m.length) m.length (2*m.length) x.g x.h x.ds x.cl x.st x.os x.jR x.rs x.sq x.sn/\x.cl<=8/\y=(AX.exit 0,[AV.own 6 0 0 x.h.length,.own 7 0 0 x.ds.length],Pd x.g x.h x.ds x.st x.os x.sq x.sn))/\
   iter (round (en.cz 252) [12,13,14,19,20] [(.exit 0,[12,13]),(.ret,[8,10,11])] oT e0 8 [6,7]) ([.own 6 0 0 x0.h.length,.own 7 0 0 x0.ds.length,.b9 x0.fl ((mZ x0.rs x0.jR).map Rv),I (x0.cl:Int),I 0],Pd x0.g x0.h x0.ds x0.st x0.os x0.sq x0.sn)=some y :=
 iQ (f:=round (en.cz 252) [12,13,14,19,20] [(.exit 0,[12,13]),(.ret,[8,10,11])] oT e0 8 [6,7]) m.length (λi (x:X9)=>([.own 6 0 0 x.h.length,.own 7 0 0 x.ds.length,.b9 x.fl ((mZ x.rs x.jR).map Rv),I (x.cl:Int),I (i:Int)],Pd x.g x.h x.ds x.st x.os x.sq x.sn))
  (λy=>∃x:X9,Ws A k (3*m.length) m.length (2*m.length) x.g x.h x.ds x.cl x.st x.os x.jR x.rs x.sq x.sn/\x.cl<=8/\y=(AX.exit 0,[AV.own 6 0 0 x.h.length,.own 7 0 0 x.ds.length],Pd x.g x.h x.ds x.st x.os x.sq x.sn))
  (λi x=>Ws A k (3*i) i (2*i) x.g x.h x.ds x.cl x.st x.os x.jR x.rs x.sq x.sn/\x.cl<=8)
  (λi x N ⟨W,b⟩=>by
   obtain⟨g,h,ds,cl,st,os,jR,rs,sq,sn,fl⟩:=x;simp only at W b⊢;have O:m[i].c.toNat%3<3:=gG _ ah
   have s3:=W.R.s3;have cs:m[i].c.toNat%3<st.length:=af
   have l:=aD cs;have U:=W.R.sb _ (aN cs)
   have key:W9 A k (i+1) (round (en.cz 252) [12,13,14,19,20] [(.exit 0,[12,13]),(.ret,[8,10,11])] oT e0 8 [6,7] ([.own 6 0 0 h.length,.own 7 0 0 ds.length,.b9 fl ((mZ rs jR).map Rv),I (cl:Int),I (i:Int)],Pd g h ds st os sq sn)):=by
    rcases(by omega:st[m[i].c.toNat%3]=0\/st[m[i].c.toNat%3]=1\/st[m[i].c.toNat%3]=2)with h0 | h0 | h0
    .exact ait W b hk M n N f bs E e0 h1 h2 h3 h4 v r q o rfl rfl O l h0
    .exact ais W b hk M n N f bs E e0 h1 h2 h3 h4 v r q o rfl rfl O l h0
    .exact air W b hk M n N f bs E e0 h1 h2 h3 h4 v r q o rfl rfl O l h0
   obtain⟨Y,h',Q,S,F,L,T,K,G,H,P,W',z,X⟩:=key;exact .inl ⟨⟨Y,h',Q,S,F,L,T,K,G,H,P⟩,⟨W',z⟩,X⟩)
  (λx ⟨W,b⟩=>⟨_,⟨x,W,b,rfl⟩,by simp(disch:=omega)[round_eq,oT,h1]⟩) (aQ _) x0 ⟨W0,Z⟩
def s9{n:Nat}(H:252<n){g:FS}{k:Nat}(hg:mF k g)(hk:k<=60){m:List vS}(K:m.length<=24)(l:∀x∈m,uy x.op)(f:Bool)(bs:au)(F:Bool):
  ∃x:X9,Ws (Fv g) k (3*m.length) m.length (2*m.length) x.g x.h x.ds x.cl x.st x.os x.jR x.rs x.sq x.sn/\x.cl<=8/\(en.cz n).p 9 [Fv g,.b9 f (m.map Uv),.b9 F (bs.map B),I 8]=some (.jg [.b9 false (x.h.map Po),Fv x.g,.b9 false (x.ds.map Ov),.bool true]):=by
 generalize i:(en.cz n).p 9 _=res;rw[p9 H,b8,b6]at i;simp(disch:=omega)[c9]at i
 have L:Ws (Fv g) k 0 0 0 g [] [] 0 [0,0,0] [Oz,Oz,Oz] [Az,Az,Az] [0,0,0] [0,0,0] [false,false,false]:=⟨UO hg,rfl,rfl,rfl,λc s q r h1 h2 h3=>by
  rcases c with _ | _ | _ | c<;>simp at h1 h2 h3<;>simp[<-h1,<-h2,<-h3],λc s b h1 h2=>by
  rcases c with _ | _ | _ | c<;>simp at h1 h2<;>simp[<-h1],λc r h1=>by
  rcases c with _ | _ | _ | c<;>simp at h1<;>omega,rfl,ai,ai,ai⟩
 have key:=λe0 h1 h2 h3 h4 E A z v=>l9 hk K l f bs F e0 h1 h2 h3 h4 E A z v (x0:=⟨g,[],[],0,[0,0,0],[Oz,Oz,Oz],[Az,Az,Az],[0,0,0],[0,0,0],[false,false,false],false⟩) L ai
 simp only[Pd,bN,aP,Ov,Oc,nY,Fc,Sc,aI,aL,eY,bt,decide_true,eA,mZ,pc]at key;generalize G:iter _ _=oo at i;obtain⟨_,⟨x,W,o,rfl⟩,rfl⟩:∃y,_/\oo=some y:=by rw[<-G];exact key _ aq aq aq aq aq aq aq aq
 refine⟨x,W,o,?_⟩;rw[<-i];simp(disch:=omega)
def KG:∀g,(en.kd g).mono :=
 M9 (b:=λ_ k=>match k with | .z _=>false | _=>true) (p:=λ_ k=>k.mono) (λ_ k h=>by cases k<;>first | trivial | cases h) (λ_=>trivial) [] aj trivial
def k6:(iW.w8 200 en 300 258).p 6 []=some (.bool true):=aj
def s6{n:Nat}(b:174<n):(en.cz n).p 6 []=some (.bool true):=by
 have h:=(zu (N:=200) en KG 300 258).p _ _ _ k6;rw[p6 b];rw[p6 ah]at h
 exact h
def l3{k:Nat}(hk:k<=60){ds:List lX}(P:ds.length<=24)(x:∀o∈ds,uy o){X:AH}(H:X.all gd=true){h:FS}(v:mF k h)(e0:Env)(q:e0 11 = .b9 false (ds.map Ov))(F:e0 13 = .ptr X.length 0 0 0):
  ∃y,(∃g,Fv g=ds.foldl (λst o=>(Dv o st).1) (Fv h)/\y=(AX.exit 0,[],X++[AB.var (Fc g)]))/\iter (round (en.cz 254) [14] [(.exit 0,[])] OQ e0 (X.length+1) []) ([I 0],X++[.var (Fc h)])=some y :=
 iQ (f:=round (en.cz 254) [14] [(.exit 0,[])] OQ e0 (X.length+1) []) ds.length (λi (g:FS)=>([I (i:Int)],X++[AB.var (Fc g)])) (λy=>∃g,Fv g=ds.foldl (λst o=>(Dv o st).1) (Fv h)/\y=(AX.exit 0,[],X++[AB.var (Fc g)]))
  (λi g=>mF (k+i) g/\Fv g=(ds.take i).foldl (λst o=>(Dv o st).1) (Fv h))
  (λi g G ⟨hg,r⟩=>by
   obtain⟨o,b⟩:∃o,o=ds[i]:=⟨_,rfl⟩;have K:=λh0 Y=>(kf H).tail (L:=X.length+1) (R:=[]) af ai h0 Y
   have l:=jr X;obtain⟨O,E,A,N,z⟩:=JS hg af (x o (by rw[b];exact aN G))
   have M:=z (n:=254) ah
   refine .inl ⟨O,⟨A,?_⟩,?_⟩
   .rw[ez,aD G,<-b,fF,<-r];exact E.symm
   .generalize(Dv o (Fv g)).2=Q at *
    simp only[Fv,Fc,Sc,Ov,Oc,Av,Ac,aI,aL]at M;simp(disch:=omega)[round_eq,OQ,q,F,<-b,M,K,l])
  (λg ⟨_,r⟩=>⟨_,⟨g,by rw[aO (aU _)]at r;exact r,rfl⟩,by
   have K:=λh0 Y=>(kf H).tail (L:=X.length+1) (R:=[]) af ai h0 Y
   have l:=jr X;simp(disch:=omega)[round_eq,OQ,q]⟩) (aQ _) h ⟨v,rfl⟩
def WD{o:AV}{k j:Nat}{g:FS}{h:List ze}{cl:Nat}{st:ax}{os:List lX}{jR:List nH}(R:Rs o k j g h cl st os jR)(i:cl<=10)(q:j<=1000):Hok h/\Li.vT (Li.calls Dv h).cs o (λ_=>false):=by
 obtain⟨p,n,-⟩:=R.rn;obtain⟨h1,h2,h3⟩:=n.right;refine⟨⟨h1,by rw[R.cl];exact i,by have:=R.hl;omega,λx b=>by have:=h3 x b;omega,λx b l=>((R.ev x b).2.1 l).2,λx b l=>(R.ev x b).2.2 l⟩,n.tr.lin⟩
def s3{n:Nat}(U:254<n)(l:List lX)(m:List vS)(bs:au)(hl:l.length<=9223372036854775807)(Y:m.length<=9223372036854775807)(f1 N S:Bool):(en.cz n).p 3 [.b9 f1 (l.map Ov),.b9 N (m.map Uv),.b9 S (bs.map B)]=some (.bool true):=by
 have h6:=s6 (n:=254) ah
 obtain⟨b,Q,K⟩:=s7 (n:=254) ah l m hl Y f1 N
 generalize i:(en.cz n).p 3 _=res;rw[p3 U,b8,b6]at i;cases b with
 |true =>
  simp(disch:=omega)[c3,a6,h6,a7,Q]at i;exact i.symm
 |false =>
  obtain⟨A,G,z,F⟩:=K rfl;obtain⟨g,h8,hg⟩:=s8 (n:=254) ah A G f1
  obtain⟨x,W,vo,P⟩:=s9 (n:=254) ah hg af z F N bs S
  have Z:=W.hl;have Tl:=W.dl;obtain⟨L,E⟩:=WD W.R af af
  have M:=s10 (n:=254) ah x.h af L.rk (λy O=>⟨L.c y O,λK=>((W.R.ev y O).2.1 K).1⟩) false
  obtain⟨b11,r,o⟩:=s11 (n:=254) ah L false hg af
  have o:=o.2 E;subst o;have q:=s13 (n:=254) ah W.R.ok af
  have H:=W.fo;simp only[Fv,Fc,Sc,aI,aL]at h8 P r q;simp(disch:=omega)[c3,a6,h6,a7,Q,a8,h8,a9,P,a10,M,ca 11,r]at i;have key:=λe0 r q=>l3 (k:=50) af (by omega:x.ds.length<=24) W.do_ (X:=[.var (Fc g),.var (Fc x.g)]) (by simp[gd,AV.jW]) hg e0 r q
  simp only[Fc,Sc,aI,aL,aR,bt,bV,Nat.reduceAdd]at key;generalize T:iter _ _=oo at i;obtain⟨_,⟨g2,v,rfl⟩,rfl⟩:∃y,_/\oo=some y:=by rw[<-T];exact key _ aq aq
  rw[H]at v;simp only[Fv,Fc,Sc,AV.agg.injEq,aI,aL]at v;rw[v]at i;simp(disch:=omega)[ca 13,q]at i;exact i.symm
open Go.Am Go.Am.Nm Go.Tr Go.Lib Go.Deep
def SH{c:Int}(h:IntKind.u8.min<=c/\c<=IntKind.u8.max):∃b:UInt8,c=(b.toNat:Int):=by
 obtain⟨n,l⟩:=h;have e1:IntKind.u8.min=0:=rfl;have i:IntKind.u8.max=255:=rfl;refine⟨UInt8.ofNat c.toNat,?_⟩;rw[UInt8.toNat_ofNat_of_lt' (show c.toNat<2 ^ 8 by omega)]
 omega
def BK:∀ {l:ay},(∀n∈l,IntKind.u8.min<=n/\n<=IntKind.u8.max)->∃r:au,l.map (AV.int .u8)=r.map B
 | [],_=>⟨[],rfl⟩
 |n::l,h=>by
  obtain⟨b,o⟩:=SH (h n cV);obtain⟨r,h1⟩:=BK (l:=l) λm i=>h m (cC _ i)
  exact⟨b::r,by rw[bN,bN,h1,o]⟩
abbrev Fw:List TD:=[.i .i64,.i .i64,.s,.s,.i .i64,.i .i64,.i .i64,.l false [.i .u8]]
def S3{cs:List AV}(h:EA Fw cs):∃o:lX,AV.agg cs=Ov o/\True:=by
 obtain⟨a,r,rfl,h1,h⟩:=h.cons;obtain⟨b,r,rfl,h2,h⟩:=h.cons;obtain⟨c,r,rfl,h3,h⟩:=h.cons;obtain⟨d,r,rfl,h4,h⟩:=h.cons;obtain⟨e,r,rfl,h5,h⟩:=h.cons;obtain⟨g,r,rfl,h6,h⟩:=h.cons;obtain⟨i,r,rfl,x,h⟩:=h.cons;obtain⟨j,r,rfl,h8,h⟩:=h.cons;have:=h.nil;subst this;obtain⟨a,rfl,_⟩:=h1.int;obtain⟨b,rfl,_⟩:=h2.int;obtain⟨c,rfl,_⟩:=h3.str;obtain⟨d,rfl,_⟩:=h4.str;obtain⟨e,rfl,_⟩:=h5.int;obtain⟨g,rfl,_⟩:=h6.int;obtain⟨i,rfl,_⟩:=x.int;obtain⟨l,rfl,_,v⟩:=h8.ints;obtain⟨q,n⟩:=BK v;rw[n]
 exact⟨⟨a,b,c,d,e,g,i,q⟩,rfl,trivial⟩
def P3{cs:List AV}(h:EA (.i .u8::Fw) cs):∃x:vS,AV.agg cs=Uv x/\True:=by
 obtain⟨u,r,rfl,h0,h⟩:=h.cons;obtain⟨o,b,-⟩:=S3 h;obtain⟨u,rfl,l⟩:=h0.int;obtain⟨u,rfl⟩:=SH l;simp only[Ov,AV.agg.injEq]at b;subst b;exact⟨⟨u,o⟩,rfl,trivial⟩
def ajd(args:List AV)(h:qv [(false,[.l true Fw]),(false,[.l true (.i .u8::Fw)]),(false,[.l false [.i .u8]])] args):(en.cz 257).p 3 args=some (.bool true):=by
 obtain⟨a,r,rfl,h1,h⟩:=h.inv;obtain⟨b,r,rfl,h2,h⟩:=h.inv;obtain⟨c,r,rfl,h3,h⟩:=h.inv;have:=h.ajP;subst this;obtain⟨l,rfl,hl,_⟩:=h1.one.af6 Ov (λ_=>True) (λ_=>S3)
 obtain⟨m,rfl,o,_⟩:=h2.one.af6 Uv (λ_=>True) (λ_=>P3)
 obtain⟨q,rfl,x,v⟩:=h3.one.ints;obtain⟨bs,n⟩:=BK v;rw[n];exact s3 ah l m bs (by simpa[maxLen]using hl) (by simpa[maxLen]using o) false false false
end Go.Proofs.YtghgbehknhmnaaaGreatDoor
