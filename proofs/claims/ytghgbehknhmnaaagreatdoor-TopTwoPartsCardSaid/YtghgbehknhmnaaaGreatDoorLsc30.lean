/- Part of the proof that TopTwoPartsCard holds. -/
import Derived.Test.YtghgbehknhmnaaaGreatDoorRd30i
import Derived.Test.YtghgbehknhmnaaaGreatDoorHi30h
import Derived.KernelRfl
set_option linter.all false
namespace Go.Proofs.YtghgbehknhmnaaaGreatDoor
open Go.Am Go.Tr Go.Am.Nm Go.Lib
def Wh(q:Tr.Node)(M:q.b7.length<=64)(fr:Int)(H:AH)(K:oE H)(h0:H[0]? = some (.var (Nc q)))(e0:Env)(h2:e0 2=I fr)(l:e0 11 = .ptr 0 0 0 0)(L:Nat)(G:L=H.length):
  ∃y,(∃b:Int,-1<=b/\b<q.b7.length/\y=(AX.exit 2,[I b],H))/\iter (round (en.cz 228) [14,15] [(.exit 2,[14])] tP e0 L []) ([I (-1),I 0],H)=some y:=by
 subst G;have F:=(aD.1 h0).1;have h:=(aD.1 h0).2;have n:=K.same
 exact iQ (f:=round (en.cz 228) [14,15] [(.exit 2,[14])] tP e0 H.length []) q.b7.length (λi (b:Int)=>([I b,I (i:Int)],H)) (λy=>∃b:Int,-1<=b/\b<q.b7.length/\y=(AX.exit 2,[I b],H)) (λ_ b=>-1<=b/\b<q.b7.length)
  (λi b O o=>by
   obtain⟨x,r⟩:∃x,x=q.b7[i]:=⟨_,rfl⟩;left
   by_cases v:fr<=x.ek
   case neg=>exact⟨b,o,by simp(disch:=omega)[round_eq,tP,h2,l,h,<-r,v,n]⟩
   by_cases A:b<0
   .exact⟨i,⟨af,af⟩,by simp(disch:=omega)[round_eq,tP,h2,l,h,<-r,v,A,n]⟩
   obtain⟨m,rfl⟩:∃m:Nat,b=(m:Int):=⟨b.toNat,af⟩
   have N:m<q.b7.length:=af
   obtain⟨z,E⟩:∃z,z=q.b7[m]:=⟨_,rfl⟩
   by_cases c3:x.ek<z.ek
   .exact⟨i,⟨af,af⟩,by simp(disch:=omega)[round_eq,tP,h2,l,h,<-r,<-E,v,A,c3,n]⟩
   .exact⟨m,o,by simp(disch:=omega)[round_eq,tP,h2,l,h,<-r,<-E,v,A,c3,n]⟩)
  (λb o=>⟨_,⟨b,o.1,o.2,rfl⟩,by simp(disch:=omega)[round_eq,tP,l,h]⟩) (aT _) (-1) ⟨af,af⟩
def Wg(q:Tr.Node)(E:q.b7.length<=64){M:Nat}(K:1<=M)(N:M<=64)(i:Int)(e0:Env)(_h2:True)(h3:e0 3=I (M:Int))(l:e0 11 = .ptr 0 0 0 0):
  ∃y,(∃(es:List Tr.Ent) (nx e:Int),es.length<=64/\y=(AX.ret,[AV.own 1 0 0 es.length,I nx,I e],[AB.var (Nc q),.row 0 3 (es.map En)]))/\iter (round (en.cz 228) [2,13] [(.ret,[8,9,10])] BJ e0 2 [1]) ([I i,.own 1 0 0 0],[.var (Nc q),.row 0 3 []])=some y :=
 zF (f:=round (en.cz 228) [2,13] [(.ret,[8,9,10])] BJ e0 2 [1]) (λ(x:Int×List Tr.Ent)=>([I x.1,.own 1 0 0 x.2.length],[AB.var (Nc q),.row 0 3 (x.2.map En)]))
  (λy=>∃(es:List Tr.Ent) (nx e:Int),es.length<=64/\y=(AX.ret,[AV.own 1 0 0 es.length,I nx,I e],[AB.var (Nc q),.row 0 3 (es.map En)])) (λx=>x.2.length<=M) (λx=>M-x.2.length)
  (λx o=>by
   obtain⟨fr,es⟩:=x;simp only at o;have key:=λe0 h2 l=>Wh q E fr [.var (Nc q),.row 0 3 (es.map En)] (kf (by simp[gd,AV.jW])) rfl e0 h2 l 2 rfl
   simp only[Nc]at key;generalize h:round (en.cz 228) [2,13] [(.ret,[8,9,10])] BJ e0 2 [1] _=res;simp(disch:=omega)[round_eq,BJ]at h;generalize o:iter _ _=oo at h;obtain⟨_,⟨b,H,G,rfl⟩,rfl⟩:∃y,_/\oo=some y:=by rw[<-o];exact key _ aq (by simp(disch:=omega)[l])
   by_cases v:b<0
   .simp(disch:=omega)[v]at h;exact .inr ⟨_,⟨es,_,_,af,rfl⟩,by rw[<-h]⟩
   by_cases A:es.length=M
   .have F:M-1<es.length:=by omega
    have r:((M:Int)-1)=((M-1:Nat):Int):=af
    obtain⟨z,n⟩:∃z,z=es[M-1]:=⟨_,rfl⟩;simp(disch:=omega)[h3,v,A,r,<-n]at h;exact .inr ⟨_,⟨es,_,_,af,rfl⟩,by rw[<-h,A]⟩
   obtain⟨m,rfl⟩:∃m:Nat,b=(m:Int):=⟨b.toNat,af⟩
   have L:m<q.b7.length:=af
   obtain⟨z,n⟩:∃z,z=q.b7[m]:=⟨_,rfl⟩;simp(disch:=omega)[h3,l,v,<-n]at h;exact .inl ⟨(IntKind.i64.wrap (z.ek+1),es++[z]),ak,ak,by rw[<-h];simp(disch:=omega)⟩)
  (i,[]) (aT _)
def ain{n:Nat}(z:228<n)(t:Tr.Tree)(w:lM t)(d i m:Int):∃(F:Bool) (es:List Tr.Ent) (nx e:Int),(en.cz n).p 102 [Tv t,I d,I i,I m]=some (.jg [.b9 F (es.map En),I nx,I e])/\es.length<=64:=by
 generalize b:(en.cz n).p 102 _=res;rw[pp 102 rfl z rfl,b8,b6]at b
 by_cases h:i<0
 .simp(disch:=omega)[Ls,h]at b;exact⟨false,[],0,1,b.symm,ai⟩
 by_cases l:m<1
 .simp(disch:=omega)[Ls,h,l]at b;exact⟨false,[],0,1,b.symm,ai⟩
 by_cases c3:64<m
 .simp(disch:=omega)[Ls,h,l,c3]at b;exact⟨false,[],0,1,b.symm,ai⟩
 have o:=Kj (n:=228) ah t (nc w) d
 have x:(kD t d).b7.length<=64:=by
  unfold kD;cases A:find t.nodes d with
  |none=>simp[jo]
  |some q =>
   simp only;split
   .exact(jQ w (fk A).1).1
   .simp[jo]
 generalize kD t d=q at *
 generalize jF t d=e at *
 simp only[Tv,Nd]at o
 by_cases c4:e=0
 case neg =>
  simp(disch:=omega)[Ls,h,l,c3,ca 152,o,c4]at b;exact⟨false,[],0,e,b.symm,ai⟩
 subst c4;simp(disch:=omega)[Ls,h,l,c3,ca 152,o]at b;have key:=λe0 h2 h3 r=>Wg q x (M:=m.toNat) af af i e0 h2 h3 r
 rw[show ((m.toNat:Nat):Int)=m by omega]at key
 generalize v:iter _ _=oo at b;obtain⟨_,⟨es,nx,e,E,rfl⟩,rfl⟩:∃y,_/\oo=some y:=by rw[<-v];exact key _ trivial aq aq
 simp(disch:=omega)at b;exact⟨_,es,nx,e,b.symm,af⟩
def ac8(X:AH)(z:oE X)(es:List Tr.Ent)(r:es.length<=64)(F:Bool)(e0:Env)(n:e0 11 = .b9 F (es.map En))(L b:Nat)(E:L=X.length+1)(v:b=X.length):
  ∃y,(∃h:List au,h.length=es.length/\y=(AX.exit 1,[AV.own b 0 0 h.length],X++[AB.row 0 1 (h.map AV.str)]))/\iter (round (en.cz 234) [14,15] [(.exit 1,[14])] Gy e0 L [b]) ([.own b 0 0 0,I 0],X++[.row 0 1 []])=some y:=by
 subst E v;have A:=λh0 Y=>z.tail (L:=X.length+1) (R:=[X.length]) af ai h0 Y
 have o:=jr X
 exact iQ (f:=round (en.cz 234) [14,15] [(.exit 1,[14])] Gy e0 (X.length+1) [X.length]) es.length (λi (h:List au)=>([.own X.length 0 0 h.length,I (i:Int)],X++[AB.row 0 1 (h.map AV.str)]))
  (λy=>∃h:List au,h.length=es.length/\y=(AX.exit 1,[AV.own X.length 0 0 h.length],X++[AB.row 0 1 (h.map AV.str)])) (λi h=>h.length=i)
  (λi h G l=>by
   obtain⟨x,q⟩:∃x,x=es[i]:=⟨_,rfl⟩;exact .inl ⟨h++[x.name],by simp[l],by simp(disch:=omega)[round_eq,Gy,n,<-q,l,A,o]⟩)
  (λh l=>⟨_,⟨h,l,rfl⟩,by simp(disch:=omega)[round_eq,Gy,n,l]⟩) (aT _) [] rfl
def s50{n:Nat}(hn:234<n){f:FS}{k:Nat}(v:mF k f)(hk:k<=200){o:lX}(ho:uy o):∃H K,(en.cz n).p 50 [Fv f,Ov o]=some (.jg [Fv H,Av K])/\mF (k+1) H/\zM K:=by
 generalize b:(en.cz n).p 50 _=res;rw[pp 50 rfl hn rfl,b8,b6]at b;have hop:=ho.p;have A:=λe=>Uz (n:=234) ah e
 simp only[Av,Ac,aN]at A;have x:=s92 (n:=234) ah f.s.now v.s.w o.path af
 generalize mO f.s.now o.path=Y at *
 obtain⟨i,e0⟩:=Y;simp only[Tv]at x
 by_cases G:e0=0
 case neg =>
  simp(disch:=omega)[OP,ca 92,x,G,A]at b;exact⟨f,⟨e0,0,0,0,0,[],[]⟩,b.symm,v.up,j7 ..⟩
 subst G;have z:=pT (n:=234) ah f.s.now (nc v.s.w) i
 have hg:lq (find f.s.now.nodes i) = .jg [Nd (iS f.s.now i),.bool (find f.s.now.nodes i).isSome]:=by
  unfold lq iS;cases find f.s.now.nodes i<;>rfl
 rw[hg]at z
 have hqs:(iS f.s.now i).b7.length<=64/\(iS f.s.now i).data.length<=4096:=by
  unfold iS;cases M:find f.s.now.nodes i with
  |none=>simp[jo]
  |some q=>exact jQ v.s.w (fk M).1
 generalize iS f.s.now i=q at *
 generalize(find f.s.now.nodes i).isSome=bq at *
 simp only[Tv,Nd]at z
 by_cases T:o.kind=1
 .simp(disch:=omega)[OP,ca 92,x,ca 100,z,T]at b;exact⟨f,⟨0,i,q.kind,0,0,[],[]⟩,b.symm,v.up,j7 ..⟩
 by_cases c7:o.kind=7
 .obtain⟨r,W⟩:=abY (n:=234) ah q af
  simp only[Nd]at W;simp(disch:=omega)[OP,ca 92,x,ca 100,z,c7,W]at b;exact⟨f,⟨0,i,q.kind,q.links,r,[],[]⟩,b.symm,v.up,j7 ..⟩
 by_cases c6:o.kind=6
 .obtain⟨fl,es,nx,e,S,O⟩:=ain (n:=234) ah f.s.now v.s.w i o.n o.m
  simp only[Tv]at S
  by_cases E:e=0
  case neg =>
   simp(disch:=omega)[OP,ca 92,x,ca 100,z,c6,ca 102,S,E,A]at b;exact⟨f,⟨e,0,0,0,0,[],[]⟩,b.symm,v.up,j7 ..⟩
  subst E;simp(disch:=omega)[OP,ca 92,x,ca 100,z,c6,ca 102,S]at b;have key:=λe0 h=>ac8 [.var (Fc f),.var nY,.var Dm,.var (Tb f.s.now),.var (Nc q)] (kf (by simp[gd,AV.jW,nY,Dm])) es O fl e0 h 6 5 rfl rfl
  simp only[nY,Dm,Fc,Sc,Nc,Tb,aK,aL]at key;generalize hx:iter _ _=oo at b;obtain⟨_,⟨Z,hns,rfl⟩,rfl⟩:∃y,_/\oo=some y:=by rw[<-hx];exact key _ aq
  simp(disch:=omega)at b;exact⟨f,⟨0,0,0,nx,0,Z,[]⟩,b.symm,v.up,⟨by simp only;omega,ai⟩⟩
 by_cases c8:o.kind=8
 .have F:=aim (n:=234) ah f.s.now (nc v.s.w) f.holds (by have:=v.hl;omega) false o.client o.handle i
  have U:=yN f.s.now f.holds o.client o.handle i;generalize qm f.s.now f.holds o.client o.handle i=r at *
  obtain⟨l,e⟩:=r;simp only[Tv,dx]at F U
  by_cases E:e=0
  .subst E
   rcases U with⟨_,h⟩ | ⟨_,_,_,_,_,h5,h6,h7⟩
   .exact absurd rfl h
   .cases h7;simp(disch:=omega)[OP,ca 92,x,ca 100,z,c8,ca 103,F]at b;exact⟨⟨f.s,uF f.holds ⟨o.client,o.handle,i⟩,f.jG⟩,⟨0,i,0,0,0,[],[]⟩,b.symm,⟨v.s.mono af,FL v.hs h5,by simp only[FM];omega,v.qs,v.ql⟩,j7 ..⟩
  .simp(disch:=omega)[OP,ca 92,x,ca 100,z,c8,ca 103,F,E,A]at b;exact⟨f,⟨e,0,0,0,0,[],[]⟩,b.symm,v.up,j7 ..⟩
 by_cases c13:o.kind=13
 .have F:=ail (n:=234) ah f.s.now v.s.w f.jG (by have:=v.ql;omega) false i o.n o.m
  obtain⟨h1,h2⟩:=IK (t:=f.s.now) v.qs v.ql i o.n o.m;generalize rI f.s.now f.jG i o.n o.m=r at *
  obtain⟨l,e⟩:=r;simp only at h1 h2 F;obtain⟨H,K,X,N,P⟩:=Uy (n:=234) ah v hk v.s.w h1 h2 e (a:=⟨0,i,0,0,0,[],[]⟩) (j7 ..)
  simp only[Tv,Fv,Fc,Sc,Av,Ac,aK,aL,aN,dx]at F X;simp(disch:=omega)[OP,ca 92,x,ca 100,z,c13,ca 104,F,ca 95,X]at b;exact⟨H,K,b.symm,N,P⟩
 obtain⟨s',a,e,Q,L⟩:=aik (n:=234) ah v.s i
 simp only[Sv,Sc]at Q
 by_cases E:e=0
 .subst E;simp(disch:=omega)[OP,ca 92,x,ca 100,z,T,c7,c6,c8,c13,ca 105,Q]at b;exact⟨⟨s',f.holds,f.jG⟩,⟨0,0,0,a,0,[],[]⟩,b.symm,⟨L.mono af,v.hs,v.hl,v.qs,v.ql⟩,j7 ..⟩
 .simp(disch:=omega)[OP,ca 92,x,ca 100,z,T,c7,c6,c8,c13,ca 105,Q,E,A]at b;exact⟨f,⟨e,0,0,0,0,[],[]⟩,b.symm,v.up,j7 ..⟩
def s51{n:Nat}(hn:240<n){f:FS}{k:Nat}(h:mF k f)(hk:k<=200){o:lX}(ho:uy o):∃K L,(en.cz n).p 51 [Fv f,Ov o]=some (.jg [Fv K,Av L])/\mF (k+1) K/\zM L:=by
 generalize b:(en.cz n).p 51 _=res;rw[pp 51 rfl hn rfl,b8,b6]at b;have Tg:=ho.d;have hhl:=h.hl;have v:=λe=>Uz (n:=240) ah e
 simp only[Av,Ac,aN]at v
 by_cases c9:o.kind=9
 .have hC:=abX (n:=240) ah f.s.now (nc h.s.w) f.holds af false o.client o.handle
  have H:=WF.close h.s.w f.holds o.client o.handle;have hll:=r8 f.s.now f.holds o.client o.handle;have vo:=nG h.hs f.s.now o.client o.handle;have O:qh (js f.s.now f.holds o.client o.handle).2.1:=by rw[vo];exact h.hs.filter _
  generalize js f.s.now f.holds o.client o.handle=r at *
  obtain⟨t,l,e⟩:=r;simp only[Tv,dx]at hC H hll O
  by_cases P:e=0
  .subst P;obtain⟨s',A,W⟩:=s55 (n:=240) ah h.s af H
   simp only[Tv,Sv,Sc]at A;simp(disch:=omega)[LK,c9,ca 106,hC,ca 55,A]at b;exact⟨⟨s',l,f.jG⟩,⟨0,0,0,0,0,[],[]⟩,b.symm,⟨W,O,by simp only;omega,h.qs,h.ql⟩,j7 ..⟩
  .simp(disch:=omega)[LK,c9,ca 106,hC,P,v]at b;exact⟨f,⟨e,0,0,0,0,[],[]⟩,b.symm,h.up,j7 ..⟩
 have x:=aij (n:=240) ah f.holds af false o.client o.handle
 generalize FO f.holds o.client o.handle=r at *
 obtain⟨i,e⟩:=r;simp only at x
 by_cases P:e=0
 case neg =>
  simp(disch:=omega)[LK,c9,ca 107,x,P,v]at b;exact⟨f,⟨e,0,0,0,0,[],[]⟩,b.symm,h.up,j7 ..⟩
 subst P;have y:=pT (n:=240) ah f.s.now (nc h.s.w) i
 have hg:lq (find f.s.now.nodes i) = .jg [Nd (iS f.s.now i),.bool (find f.s.now.nodes i).isSome]:=by
  unfold lq iS;cases find f.s.now.nodes i<;>rfl
 rw[hg]at y
 have X:(iS f.s.now i).b7.length<=64/\(iS f.s.now i).data.length<=4096:=by
  unfold iS;cases hfi:find f.s.now.nodes i with
  |none=>simp[jo]
  |some q=>exact jQ h.s.w (fk hfi).1
 generalize iS f.s.now i=q at *
 generalize(find f.s.now.nodes i).isSome=bq at *
 simp only[Tv,Nd]at y;have Tl:=X.2
 by_cases z:o.n<0
 .simp(disch:=omega)[LK,c9,ca 107,x,ca 100,y,z,v]at b;exact⟨f,⟨1,0,0,0,0,[],[]⟩,b.symm,h.up,j7 ..⟩
 obtain⟨N,Q⟩:∃N:Nat,o.n=(N:Int):=⟨o.n.toNat,af⟩
 by_cases zb:o.kind=10
 .by_cases T:o.m<0
  .simp(disch:=omega)[LK,ca 107,x,ca 100,y,z,zb,T,v]at b;exact⟨f,⟨1,0,0,0,0,[],[]⟩,b.symm,h.up,j7 ..⟩
  by_cases G:4096<o.m
  .simp(disch:=omega)[LK,ca 107,x,ca 100,y,z,zb,T,G,v]at b;exact⟨f,⟨1,0,0,0,0,[],[]⟩,b.symm,h.up,j7 ..⟩
  obtain⟨M,hM⟩:∃M:Nat,o.m=(M:Int):=⟨o.m.toNat,af⟩
  rw[hM]at T G;rw[Q]at z;simp(disch:=omega)[LK,ca 107,x,ca 100,y,zb,hM,Q,z,T,G]at b;generalize(min (N:Int) (q.data.length:Int)).toNat=j1 at b;generalize(min (min (N:Int) (q.data.length:Int)+(M:Int)) (q.data.length:Int)).toNat=j2 at b;rw[<-List.map_take,<-List.map_drop]at b;exact⟨f,⟨0,i,0,0,0,[],(q.data.take j2).drop j1⟩,b.symm,h.up,⟨ai,by simp only[bU,bF];omega⟩⟩
 by_cases sE:o.kind=11
 .by_cases G:4096<o.n
  .simp(disch:=omega)[LK,ca 107,x,ca 100,y,z,sE,G,v]at b;exact⟨f,⟨1,0,0,0,0,[],[]⟩,b.symm,h.up,j7 ..⟩
  by_cases d4:4096<o.n+o.data.length
  .simp(disch:=omega)[LK,ca 107,x,ca 100,y,z,sE,G,d4,v]at b;exact⟨f,⟨2,0,0,0,0,[],[]⟩,b.symm,h.up,j7 ..⟩
  obtain⟨U,hL,ak4⟩:=aii (n:=240) ah q.data Tl N o.data af
  have A:=abW (n:=240) ah f.s.now (nc h.s.w) i false U af
  have H:=WF.put h.s.w i U;generalize put f.s.now i U=r at *
  obtain⟨t,e⟩:=r;obtain⟨K,L,S,E,F⟩:=Uy (n:=240) ah h hk H h.qs h.ql e (a:=⟨0,i,0,0,U.length,[],[]⟩) (j7 ..)
  rw[<-Q]at hL;simp only[Tv,Fv,Fc,Sc,Av,Ac,aK,aL,aN]at A S;simp(disch:=omega)[LK,ca 107,x,ca 100,y,z,sE,G,d4,ca 108,hL,ca 109,A,ca 95,S]at b;exact⟨K,L,b.symm,E,F⟩
 rw[Q]at z;obtain⟨J,hJ,hJl⟩:∃J:Nat,min (N:Int) (q.data.length:Int)=J/\J<=q.data.length:=⟨(min (N:Int) (q.data.length:Int)).toNat,af,af⟩
 have A:=abW (n:=240) ah f.s.now (nc h.s.w) i false (q.data.take J) (by rw[bF];omega)
 have H:=WF.put h.s.w i (q.data.take J);generalize put f.s.now i (q.data.take J)=r at *
 obtain⟨t,e⟩:=r;obtain⟨K,L,S,E,F⟩:=Uy (n:=240) ah h hk H h.qs h.ql e (a:=⟨0,i,0,0,J,[],[]⟩) (j7 ..)
 have Y:(q.data.take J).map B=(q.data.map B).take J:=List.map_take;rw[Y]at A;have Z:min J q.data.length=J:=af
 simp only[Tv,Fv,Fc,Sc,Av,Ac,aK,aL,aN]at A S;simp(disch:=omega)[-List.map_take,LK,c9,ca 107,x,ca 100,y,Q,z,zb,sE,hJ,hJl,Z,ca 109,A,ca 95,S]at b;exact⟨K,L,b.symm,E,F⟩
structure Hok(l:List ze):Prop where
 rk:Li.rk (λ_=>false) l
 n:(Li.calls Dv l).cs.length<=10
 ln:l.length<=1000
 c:∀x∈l,x.c<16
 o:∀x∈l,x.vO=true->uy x.op
 a:∀x∈l,x.vO=false->zM x.PT
def QJ(n:Nat)(s:aB):Li.left n s<=n:=by
 unfold Li.left;exact bJ (bz _ _) ai
def af5:∀ {e:Nat},e<=11->An e<=11111111111:=by
 have h:∀e,An e<=An (e+1):=λe=>by
  induction e with
  |zero=>simp[An]
  |succ e b=>simp only[An]at b⊢;omega
 have h2:∀d e,An e<=An (e+d):=λd=>by
  induction d with
  |zero=>intro e;exact aV _
  |succ d b=>intro e;exact bJ (b e) (h _)
 intro e i;have:=h2 (11-e) e;rw[show e+(11-e)=11 by omega]at this
 exact this
def s17{n:Nat}(T:173<n){l:List ze}(hl:Hok l)(f:Bool){g:FS}{k:Nat}(hg:mF k g)(hk:k<=190):∃b v,(en.cz n).p 17 [Fv g,.b9 f (l.map Po)]=some (.jg [v,.bool b])/\(b=true↔Li.vT (Li.calls Dv l).cs (Fv g) λ_=>false):=by
 generalize h:(en.cz n).p 17 _=res;rw[pp 17 rfl T rfl,b8,b6]at h;have hs:=s34 Dv (n:=173) ah l hl.ln hl.rk hl.c f
 have K:=hl.n;have H:=hl.ln;simp(disch:=omega)[c17,ca 34,hs]at h;generalize E:iter _ _=oo at h;obtain⟨_,⟨nd,G,rfl⟩,rfl⟩:∃y,_/\oo=some y:=by rw[<-E];exact adh (Li.calls Dv l).cs af (by simp[gd,AV.jW]) _ aq aq aq aq
 simp(disch:=omega)at h;generalize E:iter _ _=oo at h;obtain⟨_,⟨bf,M,L,rfl⟩,rfl⟩:∃y,_/\oo=some y:=by rw[<-E];exact adf (Li.calls Dv l).cs af (by simp[gd,AV.jW]) (by simp[gd,AV.jW]) _ aq aq aq aq
 simp(disch:=omega)at h;have S:(0:Nat).testBit=λ_=>false:=by funext j;simp
 have Y:Ir.Ok ⟨f,l,nd,bf,k+10,(Li.calls Dv l).cs⟩:=⟨rfl,K,H,G,M,L,hl.o,hl.a,by simp only;omega⟩
 have U:=QJ (Li.calls Dv l).cs.length (0:Nat).testBit
 have X:Tm ⟨f,l,nd,bf,k+10,(Li.calls Dv l).cs⟩ 0 [.var [.b9 f (l.map Po)],.var [.b9 false ((Li.calls Dv l).cs.map Pr)],.var [Un nd],.row 0 1 (bf.map Un),.var [.own 3 0 0 (Li.calls Dv l).cs.length],.mp .u64 [],.var [.mb 5],.var [.b9 true []],.var [.fn (.func 35) [] EN]] 0 [] 9 (λ_=>0) :=
  ⟨ai,rfl,rfl,rfl,rfl,rfl,rfl,rfl,rfl,by simp[oE,ve,uI,AV.jW],ai,ai,ai,.inl ⟨rfl,rfl⟩,ai,ai⟩
 obtain⟨b,H',q',es',P,Z,z,O,-,A,-⟩:=LZ Y 101 0 g k 0 0 _ _ _ _ X (by have:=af5 (e:=Li.left (Li.calls Dv l).cs.length (0:Nat).testBit+1) af;simp only;omega) hg (Nat.two_pow_pos _) (by simp only;omega) (by simp only;omega) (by simp only;omega)
 rw[ow,<-p35 (n:=173) ah]at z
 simp only[Fv,Fc,Sc,Un,EN,aK,aL,eC]at z;have W:=O.len;rw[S]at A;have i:(AV.fn (.func 35) [] [.ptr 2 0 0 0,.ptr 6 0 0 0,.ptr 1 0 0 0,.ptr 4 0 0 0,.ptr 0 0 0 0,.ptr 7 0 0 0,.ptr 8 0 0 0]).sw=true:=rfl;have l7:7<H'.length:=af
 cases b with
 |false =>
  simp(disch:=omega)[oN,i,z]at h;exact⟨false,_,h.symm,A⟩
 |true =>
  rcases O.od with⟨_,q⟩ | ⟨v,r,h9,x,q,F⟩
  .have N:=iT q l7;simp(disch:=omega)[oN,i,z,N]at h;exact⟨true,_,h.symm,A⟩
  .have N:=iT q l7;have Q:=(aD.1 x).1;have go_:=iT x Q;simp(disch:=omega)[oN,i,z,N,go_,F]at h;exact⟨true,_,h.symm,A⟩
def s11{n:Nat}(o:253<n){l:List ze}(hl:Hok l)(f:Bool){g:FS}{k:Nat}(hg:mF k g)(hk:k<=190):∃b,(en.cz n).p 11 [Fv g,.b9 f (l.map Po)]=some (.bool b)/\(b=true↔Li.vT (Li.calls Dv l).cs (Fv g) λ_=>false):=by
 obtain⟨b,v,h,q⟩:=s17 (n:=253) ah hl f hg hk
 generalize i:(en.cz n).p 11 _=res;rw[pp 11 rfl o rfl,b8,b6]at i;simp only[Fv,Fc,Sc,aK,aL]at h;simp(disch:=omega)[sE,ca 17,h]at i;exact⟨b,i.symm,q⟩
def l10(l:List ze)(hl:l.length<=1000)(P:Li.rk (λ_=>false) l)(T:∀x∈l,x.c<16/\(x.vO=true->x.op.client=(x.c:Int)))(f:Bool)(e0:Env)(h3:e0 3 = .ptr 0 0 0 0)(F:e0 10 = .b9 f (l.map Po))(v:e0 11=I (l.length:Int)):
  ∃y,(∃H,y=(AX.exit 0,[],H))/\iter (round (en.cz 0) [12] [(.exit 0,[]),(.ret,[2])] Df e0 1 []) ([I 0],[.var ((List.replicate 16 false).map .bool)])=some y :=
 iQ (f := round (en.cz 0) [12] [(.exit 0, []), (.ret, [2])] Df e0 1 []) l.length (λi (bs : List Bool) => ([I (i : Int)], [AB.var (bs.map .bool)])) (λy => ∃ H, y = (AX.exit 0, [], H))
  (λi bs=>bs.length=16/\∀c (h:c<bs.length),bs[c]=Li.DI (λ_=>false) (l.take i) c)
  (λi bs M ⟨N,O⟩=>by
   obtain⟨K,-⟩:=Li.SV P M;obtain⟨E,n⟩:=T _ (aP M)
   have q:∀c,Li.DI (λ_=>false) (l.take (i+1)) c=Li.up (Li.DI (λ_=>false) (l.take i)) l[i].c l[i].vO c:=λc=>by
    rw[eR,aH M];unfold Li.DI;rw[List.foldl_append];rfl
   obtain⟨x,G⟩:∃x,x=l[i]:=⟨_,rfl⟩;rw[<-G]at K E n q;obtain⟨b,c,o,a⟩:=x;simp only at K E n q;have r:c<bs.length:=af
   have hg:=O c r;rw[K]at hg
   have z:Am.shape 1 false (List.drop c (bs.map AV.bool))=some (.bool (!b)):=by
    rw[cm (an r),dY,hg]
    simp[Am.shape]
   have Q:∀(bs:List Bool) L R H,(bs.map AV.bool).map (kF L R H)=bs.map AV.bool:=λbs L R H=>by rw[e9];rfl
   have A:over (bs.map AV.bool) c [AV.bool b]=(bs.map AV.bool).set c (.bool b):=by
    rw[ec,if_pos (an r)]
    simp[over]
   left;refine⟨bs.set c b,⟨an N,λd S=>?_⟩,?_⟩
   .rw[q]
    by_cases h:d=c
    .subst h;rw[Li.ng];simp
    .rw[Li.mo _ h,List.getElem_set_ne (λe=>h e.symm)]
     exact O d (an S)
   .cases b with
    |true =>
     have n:=n rfl;simp(disch:=omega)[round_eq,Df,h3,F,v,<-G,N,n,z,A];rfl
    |false =>
     simp(disch:=omega)[round_eq,Df,h3,F,v,<-G,N,z,A];rfl)
  (λbs _=>⟨_,⟨_,rfl⟩,by simp(disch:=omega)[round_eq,Df,v];rfl⟩) (aT _) (List.replicate 16 false) ⟨ai,λc h=>by rw[List.getElem_replicate];rfl⟩
def s10{n:Nat}(o:0<n)(l:List ze)(hl:l.length<=64)(i:Li.rk (λ_=>false) l)(q:∀x∈l,x.c<16/\(x.vO=true->x.op.client=(x.c:Int)))(f:Bool):(en.cz n).p 10 [.b9 f (l.map Po)]=some (.bool true):=by
 generalize b:(en.cz n).p 10 _=res;rw[p10 o,b8,b6]at b;simp(disch:=omega)[zb]at b;generalize h:iter _ _=oo at b;obtain⟨_,⟨H,rfl⟩,rfl⟩:∃y,_/\oo=some y:=by rw[<-h];exact l10 l af i q f _ aq aq aq
 simp(disch:=omega)at b;exact b.symm
end Go.Proofs.YtghgbehknhmnaaaGreatDoor
namespace Go.Tr
structure vS where
 c:UInt8
 op:lX
end Go.Tr
namespace Go.Proofs.YtghgbehknhmnaaaGreatDoor
open Go.Am Go.Tr Go.Am.Nm Go.Lib
abbrev Uc(x:vS):List AV:=.int .u8 (x.c.toNat:Int)::Oc x.op
attribute [simp] Uc
@[simp]def Uv(x:vS):AV:=.agg (Uc x)
@[simp]def akH(l:List vS):jw 9 (l.map Uv)=true:=by simp[jw]
@[simp]def akM(l:List lX):jw 8 (l.map Ov)=true:=by simp[jw]
section
variable{n:Nat}
def s20(i:175<n)(o:lX):∃b,(en.cz n).p 20 [Ov o]=some (.bool b)/\(b=false->uy o):=by
 generalize h:(en.cz n).p 20 _=res;rw[pp 20 rfl i rfl,b8,b6]at h
 by_cases q:5000<o.data.length
 .simp(disch:=omega)[c20]at h;exact⟨true,h.symm,ai⟩
 by_cases l:1000<o.path.length
 .simp(disch:=omega)[c20]at h;exact⟨true,h.symm,ai⟩
 by_cases c3:1000<o.to.length
 .simp(disch:=omega)[c20]at h;exact⟨true,h.symm,ai⟩
 .simp(disch:=omega)[c20]at h;exact⟨false,h.symm,λ_=>⟨af,af,af⟩⟩
def l19(l:List lX)(hl:l.length<=1000000)(f:Bool)(e0:Env)(h0:e0 0 = .b9 f (l.map Ov)):
  ∃y,((y=(AX.exit 0,[],[])/\∀o∈l,uy o)\/∃H,y=(AX.ret,[AV.bool true],H))/\iter (round (en.cz 176) [3] [(.exit 0,[]),(.ret,[2])] Dc e0 0 []) ([I 0],[])=some y :=
 iQ (f := round (en.cz 176) [3] [(.exit 0, []), (.ret, [2])] Dc e0 0 []) l.length (λi (_ : Unit) => ([I (i : Int)], [])) (λy => (y = (AX.exit 0, [], []) /\ ∀ o ∈ l, uy o) \/ ∃ H, y = (AX.ret, [AV.bool true], H)) (λi _ => ∀ j (h : j < l.length), j < i -> uy l[j])
  (λi _ G z=>by
   obtain⟨x,r⟩:∃x,x=l[i]:=⟨_,rfl⟩;obtain⟨b,v,F⟩:=s20 (n:=176) ah x
   simp only[Ov,Oc]at v;cases b with
   |true=>exact .inr ⟨_,.inr ⟨_,rfl⟩,by simp(disch:=omega)[round_eq,Dc,h0,<-r,ca 20,v];rfl⟩
   |false=>exact .inl ⟨(),λj q E=>by
     by_cases h:j=i
     .subst h;rw[<-r];exact F rfl
     .exact z j q af,by simp(disch:=omega)[round_eq,Dc,h0,<-r,ca 20,v]⟩)
  (λ_ z=>⟨_,.inl ⟨rfl,λo A=>by
   obtain⟨j,q,rfl⟩:=bp.1 A;exact z j q q⟩,by simp(disch:=omega)[round_eq,Dc,h0]⟩) (aT _) () (λ_ _ h=>absurd h (Nat.not_lt_zero _))
def s19(r:176<n)(l:List lX)(hl:l.length<=9223372036854775807)(f:Bool):∃b,(en.cz n).p 19 [.b9 f (l.map Ov)]=some (.bool b)/\(b=false->l.length<=50/\∀o∈l,uy o):=by
 generalize h:(en.cz n).p 19 _=res;rw[pp 19 rfl r rfl,b8,b6]at h
 by_cases v:50<l.length
 .simp(disch:=omega)[c19]at h;exact⟨true,h.symm,ai⟩
 .simp(disch:=omega)[c19]at h;generalize i:iter _ _=oo at h;obtain⟨_,⟨rfl,q⟩ | ⟨H,rfl⟩,rfl⟩:∃y,_/\oo=some y:=by rw[<-i];exact l19 l af f _ aq
  .simp(disch:=omega)at h;exact⟨false,h.symm,λ_=>⟨af,q⟩⟩
  .simp(disch:=omega)at h;exact⟨true,h.symm,ai⟩
def l7(l:List vS)(hl:l.length<=1000000)(f:Bool)(e0:Env)(h1:e0 1 = .b9 f (l.map Uv)):
  ∃y,((y=(AX.exit 0,[],[])/\∀o∈l,uy o.op)\/∃H,y=(AX.ret,[AV.bool true],H))/\iter (round (en.cz 177) [5] [(.exit 0,[]),(.ret,[4])] Lg e0 0 []) ([I 0],[])=some y :=
 iQ (f := round (en.cz 177) [5] [(.exit 0, []), (.ret, [4])] Lg e0 0 []) l.length (λi (_ : Unit) => ([I (i : Int)], [])) (λy => (y = (AX.exit 0, [], []) /\ ∀ o ∈ l, uy o.op) \/ ∃ H, y = (AX.ret, [AV.bool true], H)) (λi _ => ∀ j (h : j < l.length), j < i -> uy l[j].op)
  (λi _ G z=>by
   obtain⟨x,r⟩:∃x,x=l[i]:=⟨_,rfl⟩;obtain⟨b,v,F⟩:=s20 (n:=177) ah x.op
   simp only[Ov,Oc]at v;cases b with
   |true=>exact .inr ⟨_,.inr ⟨_,rfl⟩,by simp(disch:=omega)[round_eq,Lg,h1,<-r,ca 20,v];rfl⟩
   |false=>exact .inl ⟨(),λj q E=>by
     by_cases h:j=i
     .subst h;rw[<-r];exact F rfl
     .exact z j q af,by simp(disch:=omega)[round_eq,Lg,h1,<-r,ca 20,v]⟩)
  (λ_ z=>⟨_,.inl ⟨rfl,λo A=>by
   obtain⟨j,q,rfl⟩:=bp.1 A;exact z j q q⟩,by simp(disch:=omega)[round_eq,Lg,h1]⟩) (aT _) () (λ_ _ h=>absurd h (Nat.not_lt_zero _))
def s7(z:177<n)(l:List lX)(m:List vS)(hl:l.length<=9223372036854775807)(A:m.length<=9223372036854775807)(f g:Bool):∃b,(en.cz n).p 7 [.b9 f (l.map Ov),.b9 g (m.map Uv)]=some (.bool b)/\(b=false->l.length<=50/\(∀o∈l,uy o)/\m.length<=24/\∀x∈m,uy x.op):=by
 obtain⟨b,i,q⟩:=s19 (n:=177) ah l hl f
 generalize h:(en.cz n).p 7 _=res;rw[p7 z,b8,b6]at h;cases b with
 |true =>
  simp(disch:=omega)[c7,ca 19,i]at h;exact⟨true,h.symm,ai⟩
 |false =>
 by_cases E:24<m.length
 .simp(disch:=omega)[c7,ca 19,i]at h;exact⟨true,h.symm,ai⟩
 .simp(disch:=omega)[c7,ca 19,i]at h;generalize r:iter _ _=oo at h;obtain⟨_,⟨rfl,v⟩ | ⟨H,rfl⟩,rfl⟩:∃y,_/\oo=some y:=by rw[<-r];exact l7 m af g _ aq
  .simp(disch:=omega)at h;exact⟨false,h.symm,λ_=>⟨(q rfl).1,(q rfl).2,af,v⟩⟩
  .simp(disch:=omega)at h;exact⟨true,h.symm,ai⟩
end
def N6(c:Int)(ks:ay):∀s:Tr.Tree×List Ho×Bool,s.2.2=false->(ks.foldl (gf c) s).2.2=false:=by
 induction ks with
 |nil=>exact λs h=>h
 |cons a ks b =>
  intro s h;refine b _ ?_;unfold gf;simp[h]
set_option maxHeartbeats 1000000 in
def s22{n:Nat}(Z:248<n){f:FS}{k:Nat}(i:mF k f)(hk:k<=200){o:lX}(x:uy o):∃Q S,(en.cz n).p 22 [Fv f,Ov o]=some (.jg [Fv Q,Av S])/\mF (k+1) Q/\zM S:=by
 generalize b:(en.cz n).p 22 _=res;rw[pp 22 rfl Z rfl,b8,b6]at b;have l:=λe=>Uz (n:=248) ah e
 simp only[Av,Ac,aN]at l
 by_cases b1:o.client<0
 .simp(disch:=omega)[Ll,b1,l]at b;exact⟨f,⟨1,0,0,0,0,[],[]⟩,b.symm,i.up,j7 ..⟩
 by_cases q:16<=o.client
 .simp(disch:=omega)[Ll,b1,q,l]at b;exact⟨f,⟨1,0,0,0,0,[],[]⟩,b.symm,i.up,j7 ..⟩
 obtain⟨f1,a1,h1,F,L⟩:=s49 (n:=248) ah i hk x
 obtain⟨f2,a2,h2,E,K⟩:=s50 (n:=248) ah i hk x
 obtain⟨f3,a3,h3,A,H⟩:=s51 (n:=248) ah i hk x
 obtain⟨a4,h4,G⟩:=s52 (n:=248) ah i hk x
 simp only[Fv,Fc,Sc,Ov,Oc,Av,Ac,aK,aL]at h1 h2 h3 h4;have h:(o.kind=2\/o.kind=3\/o.kind=4\/o.kind=5)\/(o.kind=1\/o.kind=6\/o.kind=7\/o.kind=8\/o.kind=13\/o.kind=14)\/(o.kind=9\/o.kind=10\/o.kind=11\/o.kind=12)\/o.kind=15\/o.kind=16\/o.kind=17\/(o.kind<1\/17<o.kind):=af
 rcases h with h | h | h | h | h | h | h
 .rcases h with h | h | h | h <;>
  .simp only[h]at h1;simp(disch:=omega)[Ll,b1,q,h,ca 49,h1]at b;exact⟨f1,a1,b.symm,F,L⟩
 .rcases h with h | h | h | h | h | h <;>
  .simp only[h]at h2;simp(disch:=omega)[Ll,b1,q,h,ca 50,h2]at b;exact⟨f2,a2,b.symm,E,K⟩
 .rcases h with h | h | h | h <;>
  .simp only[h]at h3;simp(disch:=omega)[Ll,b1,q,h,ca 51,h3]at b;exact⟨f3,a3,b.symm,A,H⟩
 .simp only[h]at h4;simp(disch:=omega)[Ll,b1,q,h,h4]at b;exact⟨f,a4,b.symm,i.up,G⟩
 .obtain⟨s',e,M,v⟩:=s53 (n:=248) ah i.s af o.n
  simp only[Sv,Sc]at M
  by_cases O:e=0
  .subst O;simp(disch:=omega)[Ll,b1,q,h,ca 53,M]at b;exact⟨⟨s',f.holds,f.jG⟩,Az,b.symm,⟨v.mono af,i.hs,i.hl,i.qs,i.ql⟩,j7 ..⟩
  .simp(disch:=omega)[Ll,b1,q,h,ca 53,M,O,l]at b;exact⟨f,⟨e,0,0,0,0,[],[]⟩,b.symm,i.up,j7 ..⟩
 .have N:=ahj (n:=248) ah f.s.now (nc i.s.w) f.holds (by have:=i.hl;omega) false o.client
  have hg:=Jl o.client vR (f.s.now,f.holds,false);have hl:=CN o.client vR f.s.now f.holds i.hs;have y:=WF.gone o.client vR f.holds i.s.w;simp only at hg;rw[<-hg]at hl y;generalize Y:vR.foldl (gf o.client) (f.s.now,f.holds,false)=r at *
  obtain⟨t,hs,fl⟩:=r;simp only at hl y N;obtain⟨s',P,v⟩:=s55 (n:=248) ah i.s af y
  have z:fl=false:=by
   have:=N6 o.client vR (f.s.now,f.holds,false) rfl;rw[Y]at this;exact this
  subst z;simp only[Tv,Sv,Sc]at N P;simp(disch:=omega)[Ll,b1,q,h,ca 54,N,ca 55,P]at b;exact⟨⟨s',hs,f.jG⟩,Az,b.symm,⟨v,hl.1,by have:=hl.2;have:=i.hl;simp only;omega,i.qs,i.ql⟩,j7 ..⟩
 .have n1:¬o.kind=1:=by omega
  have X:¬o.kind=2:=af
  have W:¬o.kind=3:=af
  have U:¬o.kind=4:=af
  have n5:¬o.kind=5:=af
  have n6:¬o.kind=6:=af
  have n7:¬o.kind=7:=af
  have n8:¬o.kind=8:=af
  have T:¬o.kind=9:=af
  have n10:¬o.kind=10:=af
  have n11:¬o.kind=11:=af
  have n12:¬o.kind=12:=af
  have n13:¬o.kind=13:=af
  have n14:¬o.kind=14:=af
  have n15:¬o.kind=15:=af
  have n16:¬o.kind=16:=af
  have n17:¬o.kind=17:=af
  simp(disch:=omega)[Ll,b1,q,n1,X,W,U,n5,n6,n7,n8,T,n10,n11,n12,n13,n14,n15,n16,n17,l]at b;exact⟨f,⟨1,0,0,0,0,[],[]⟩,b.symm,i.up,j7 ..⟩
def s21{n:Nat}(i:180<n):∃f,(en.cz n).p 21 []=some (Fv f)/\mF 0 f:=by
 have b:=s47 (n:=180) ah
 have h:(en.cz 180).p 46 [Tv zk]=some (Sv ⟨zk,0,List.replicate zk.nodes.length 0,[],[],1⟩):=by
  have hl:zk.nodes.length<=1000:=ah
  rw[p46 ah,b8,b6]
  simp(disch:=omega)[c46]
 refine⟨⟨⟨zk,0,List.replicate zk.nodes.length 0,[],[],1⟩,[],[]⟩,?_,?_⟩
 .rw[pp 21 rfl i rfl,b8,b6];simp only[Tv,Sv,Sc,aN]at b h;simp(disch:=omega)[c21,ca 47,b,ca 46,h]
 .exact⟨⟨WF.new,ai,ai,ai,ai,ai,ai⟩,by simp[qh],ai,by simp[mE],ai⟩
def l8{l:List lX}(hl:l.length<=50)(v:∀o∈l,uy o)(z:Bool){g:FS}(hg:mF 0 g)(e0:Env)(h0:e0 0 = .b9 z (l.map Ov))(h3:e0 3 = .ptr 1 0 0 0):
  ∃y,(∃b,mF l.length b/\y=(AX.exit 0,[],[AB.var nY,.var (Fc b)]))/\iter (round (en.cz 249) [4] [(.exit 0,[])] OO e0 2 []) ([I 0],[.var nY,.var (Fc g)])=some y :=
 iQ (f:=round (en.cz 249) [4] [(.exit 0,[])] OO e0 2 []) l.length (λi (g:FS)=>([I (i:Int)],[AB.var nY,.var (Fc g)])) (λy=>∃b,mF l.length b/\y=(AX.exit 0,[],[AB.var nY,.var (Fc b)])) (λi g=>mF i g)
  (λi g x hg=>by
   obtain⟨o,h⟩:∃o,o=l[i]:=⟨_,rfl⟩;obtain⟨b,a,r,q,-⟩:=s22 (n:=249) ah hg af (v o (by rw[h];exact aP x))
   simp only[Fv,Fc,Sc,Ov,Oc,Av,Ac,aK,aL]at r;exact .inl ⟨b,q,by simp(disch:=omega)[round_eq,OO,h0,h3,<-h,r,nY]⟩)
  (λg hg=>⟨_,⟨g,hg,rfl⟩,by simp(disch:=omega)[round_eq,OO,h0,nY]⟩) (aT _) g hg
def s8{n:Nat}(v:249<n){l:List lX}(hl:l.length<=50)(r:∀o∈l,uy o)(i:Bool):∃g,(en.cz n).p 8 [.b9 i (l.map Ov)]=some (Fv g)/\mF 50 g:=by
 obtain⟨f,h,x⟩:=s21 (n:=249) ah
 have key:=λe0 h0 h3=>l8 hl r i x e0 h0 h3
 generalize b:(en.cz n).p 8 _=res;rw[p8 v,b8,b6]at b;simp only[Fv,Fc,Sc,aK,aL]at h;simp(disch:=omega)[c8,ca 21,h]at b;simp only[nY,Fc,Sc,aK,aL]at key;generalize q:iter _ _=oo at b;obtain⟨_,⟨g,hg,rfl⟩,rfl⟩:∃y,_/\oo=some y:=by rw[<-q];exact key _ aq aq
 simp(disch:=omega)at b;exact⟨g,b.symm,hg.mono hl⟩
def PA(st:ax)(os:List lX)(jR:List nH)(c:Nat):Option (lX×Option nH):=match st[c]? with
 |some 1=>(os[c]?).map λo=>(o,none)
 |some 2=>(os[c]?).bind λo=>(jR[c]?).map λa=>(o,some a)
 |_=>none
def Evo(x:ze):Prop:=x.c<3/\(x.vO=true->x.op.client=(x.c:Int)/\uy x.op)/\(x.vO=false->zM x.PT)
structure Rs(f0:AV)(k i:Nat)(g:FS)(h:List ze)(cl:Nat)(st:ax)(os:List lX)(jR:List nH):Prop where
 ok:mF (k+i) g
 s3:st.length=3
 o3:os.length=3
 a3:jR.length=3
 sb:∀s∈st,s<3
 rn:∃p,Li.Rn Dv f0 h (Fv g) p/\∀c,c<3->p c=PA st os jR c
 hl:h.length<=i
 cl:(Li.calls Dv h).cs.length=cl
 ev:∀x∈h,Evo x
 oo:∀(c s:Nat)(o:lX),st[c]? = some s->os[c]? = some o->s≠0->uy o/\o.client=(c:Int)
 aa:∀(c:Nat)(a:nH),st[c]? = some 2->jR[c]? = some a->zM a
def wO(h:List ze)(x:ze):(Li.calls Dv (h++[x])).cs.length=(Li.calls Dv h).cs.length+if x.vO=true then 1 else 0:=by
 rw[Li.lg,Li.oZ];split<;>simp
section
variable{f0:AV}{k i:Nat}{g:FS}{h:List ze}{cl:Nat}{st:ax}{os:List lX}{jR:List nH}{c:Nat}
def Rs.more(R:Rs f0 k i g h cl st os jR):Rs f0 k (i+1) g h cl st os jR:=⟨R.ok.mono af,R.s3,R.o3,R.a3,R.sb,R.rn,by have:=R.hl;omega,R.cl,R.ev,R.oo,R.aa⟩
def Hl{b:ax}{l:List lX}{n:List nH}{d:Nat}(h1:b[d]? = st[d]?)(h2:l[d]? = os[d]?)(h3:n[d]? = jR[d]?):PA b l n d=PA st os jR d:=by
 unfold PA;rw[h1,h2,h3]
def Rs.vO(R:Rs f0 k i g h cl st os jR)(y:c<3)(hs:st[c]? = some 0){o:lX}(z:uy o)(q:o.client=(c:Int))(a:nH):Rs f0 k (i+1) g (h++[⟨true,c,o,a⟩]) (cl+1) (st.set c 1) (os.set c o) jR:=by
 have s3:=R.s3;have o3:=R.o3;obtain⟨p,A,n⟩:=R.rn;have E:p c=none:=by rw[n c y];unfold PA;rw[hs];rfl
 refine⟨R.ok.mono af,an s3,an o3,R.a3,λs v=>?_,⟨_,A.vO c o a y E,λd F=>?_⟩,by have:=R.hl;simp;omega,by rw[wO,R.cl];rfl,λx l=>?_,λd s o' h1 h2 r=>?_,λd G h1 h2=>?_⟩
 .rcases cZ v with v | rfl
  .exact R.sb s v
  .decide
 .by_cases b : d = c
  .subst b;rw[Li.ng];unfold PA;rw[aR af,aR af]
   rfl
  .rw[Li.mo _ b,n d F];exact(Hl (aI (λe=>b e.symm)) (aI (λe=>b e.symm)) rfl).symm
 .rcases aY.1 l with l | l
  .exact R.ev x l
  .rw[cr.1 l];exact⟨y,λ_=>⟨q,z⟩,λh=>by cases h⟩
 .by_cases b : d = c
  .subst b;rw[aR af]at h2
   cases h2;exact⟨z,q⟩
  .rw[aI (λe=>b e.symm)]at h1 h2
   exact R.oo d s o' h1 h2 r
 .by_cases b : d = c
  .subst b;rw[aR af]at h1
   cases h1
  .rw[aI (λe=>b e.symm)]at h1
   exact R.aa d G h1 h2
def Rs.done(R:Rs f0 k i g h cl st os jR)(E:c<3)(hs:st[c]? = some 1){o:lX}(v:os[c]? = some o){r:FS}(G:(Dv o (Fv g)).1=Fv r)(hg:mF (k+i+1) r)(F:zM (Dv o (Fv g)).2):Rs f0 k (i+1) r h cl (st.set c 2) os (jR.set c (Dv o (Fv g)).2):=by
 have s3:=R.s3;have o3:=R.o3;have a3:=R.a3;obtain⟨p,y,l⟩:=R.rn;have z:p c=some (o,none):=by rw[l c E];unfold PA;rw[hs,v];rfl
 have x:=y.done c o z;rw[G]at x;refine⟨hg,an s3,o3,an a3,λs q=>?_,⟨_,x,λd A=>?_⟩,by have:=R.hl;omega,R.cl,R.ev,λd s o' h1 h2 n=>?_,λd H h1 h2=>?_⟩
 .rcases cZ q with q | rfl
  .exact R.sb s q
  .decide
 .by_cases b : d = c
  .subst b;rw[Li.ng];unfold PA;rw[aR af,aR af,v]
   rfl
  .rw[Li.mo _ b,l d A];exact(Hl (aI (λe=>b e.symm)) rfl (aI (λe=>b e.symm))).symm
 .by_cases b : d = c
  .subst b;exact R.oo d 1 o' hs h2 ah
  .rw[aI (λe=>b e.symm)]at h1
   exact R.oo d s o' h1 h2 n
 .by_cases b : d = c
  .subst b;rw[aR af]at h2
   cases h2;exact F
  .rw[aI (λe=>b e.symm)]at h1 h2
   exact R.aa d H h1 h2
def Rs.fin(R:Rs f0 k i g h cl st os jR)(v:c<3)(hs:st[c]? = some 2){a:nH}(y:jR[c]? = some a)(o':lX):Rs f0 k (i+1) g (h++[⟨false,c,o',a⟩]) cl (st.set c 0) os jR:=by
 have s3:=R.s3;have o3:=R.o3;obtain⟨p,z,n⟩:=R.rn;obtain⟨o,A⟩:∃o,os[c]? = some o:=⟨_,aH af⟩
 have E:p c=some (o,some a):=by rw[n c v];unfold PA;rw[hs,A,y];rfl
 refine⟨R.ok.mono af,an s3,o3,R.a3,λs r=>?_,⟨_,z.fin c o o' a v E,λd F=>?_⟩,by have:=R.hl;simp;omega,by rw[wO,R.cl];rfl,λx l=>?_,λd s o' h1 h2 q=>?_,λd G h1 h2=>?_⟩
 .rcases cZ r with r | rfl
  .exact R.sb s r
  .decide
 .by_cases b : d = c
  .subst b;rw[Li.ng];unfold PA;rw[aR af]
   rfl
  .rw[Li.mo _ b,n d F];exact(Hl (aI (λe=>b e.symm)) rfl rfl).symm
 .rcases aY.1 l with l | l
  .exact R.ev x l
  .rw[cr.1 l];exact⟨v,λh=>by simp at h,λ_=>R.aa c a hs y⟩
 .by_cases b : d = c
  .subst b;rw[aR af]at h1
   cases h1;exact absurd rfl q
  .rw[aI (λe=>b e.symm)]at h1
   exact R.oo d s o' h1 h2 q
 .by_cases b : d = c
  .subst b;rw[aR af]at h1
   cases h1
  .rw[aI (λe=>b e.symm)]at h1
   exact R.aa d G h1 h2
end
@[simp]def akQ(l:List nH):jw 7 (l.map Av)=true:=by simp[jw]
@[simp]theorem abd(h b a3 a4 a5 a6 a7 a8:AV):Am.shape 8 true [h,b,a3,a4,a5,a6,a7,a8]=some (.agg [h,b,a3,a4,a5,a6,a7,a8]):=rfl
def VC(c:UInt8):((c.toNat:Int)).tmod 3=((c.toNat%3:Nat):Int):=by
 rw[eZ af]
 omega
abbrev Ph(X:AH)(g:FS)(h:List ze)(st:ax)(os:List lX)(b:List nH):AH:=X++[.var (Fc g),.var nY,.row 0 1 (st.map λ(s:Nat)=>I (s:Int)),.row 0 8 (os.map Ov),.row 0 7 (b.map Av),.row 0 17 (h.map Po)]
abbrev Rst:=FS×List ze×Nat×ax×List lX×List nH
def l14{X:AH}(hX:X.all gd=true){T:AV}{k:Nat}(hk:k<=120){m:List vS}(hm:m.length<=24)(ho:∀x∈m,uy x.op)(f:Bool)(e0:Env)(h1:e0 1 = .b9 f (m.map Uv))(h2:e0 2=I 5)(h3:e0 3 = .ptr X.length 0 0 0)(S:e0 9 = .own (X.length+2) 0 0 3)(P:e0 10 = .own (X.length+3) 0 0 3)(O:e0 11 = .own (X.length+4) 0 0 3)
  {g0:FS} {z:ax} {A:List lX} {F:List nH} (R0:Rs T k 0 g0 [] 0 z A F) :
  ∃y,(∃g h cl st os b,Rs T k m.length g h cl st os b/\cl<=5/\y=(AX.exit 0,[AV.own (X.length+5) 0 0 h.length],Ph X g h st os b))/\
   iter (round (en.cz 255) [8,12,13] [(.exit 0,[8])] mZ e0 (X.length+6) [X.length+5]) ([.own (X.length+5) 0 0 0,I 0,I 0],Ph X g0 [] z A F)=some y :=
 iQ (f:=round (en.cz 255) [8,12,13] [(.exit 0,[8])] mZ e0 (X.length+6) [X.length+5]) m.length (λi (x:Rst)=>([.own (X.length+5) 0 0 x.2.1.length,I (x.2.2.1:Int),I (i:Int)],Ph X x.1 x.2.1 x.2.2.2.1 x.2.2.2.2.1 x.2.2.2.2.2))
  (λy=>∃g h cl st os b,Rs T k m.length g h cl st os b/\cl<=5/\y=(AX.exit 0,[AV.own (X.length+5) 0 0 h.length],Ph X g h st os b))
  (λi x=>Rs T k i x.1 x.2.1 x.2.2.1 x.2.2.2.1 x.2.2.2.2.1 x.2.2.2.2.2/\x.2.2.1<=5)
  (λi x hi ⟨R,q⟩=>by
   obtain⟨g,h,cl,st,os,b⟩:=x;simp only at R q;obtain⟨x,G⟩:∃x,x=m[i]:=⟨_,rfl⟩;have E:=ho x (by rw[G];exact aP hi)
   have l:=VC x.c;have Q:x.c.toNat%3<3:=fM _ ah
   have hlt:=x.c.toNat_lt;obtain⟨c,W⟩:∃c,c=x.c.toNat%3:=⟨_,rfl⟩;rw[<-W]at l Q;have s3:=R.s3;have o3:=R.o3;have a3:=R.a3;have hhl:=R.hl;have cs:c<st.length:=af
   have co:c<os.length:=af
   have caa:c<b.length:=af
   obtain⟨s,hs⟩:∃s,s=st[c]:=⟨_,rfl⟩;have hs3:=R.sb s (by rw[hs];exact aP cs)
   have v:st[c]? = some s:=by rw[hs];exact aH cs
   have N:=λh0 Y=>(kf hX).tail (L:=X.length+6) (R:=[X.length+5]) af ai h0 Y
   have r:=jr X;left;obtain rfl | rfl | rfl:s=0\/s=1\/s=2:=af
   .by_cases c5:cl=5
    .exact⟨(g,h,cl,st,os,b),⟨R.more,q⟩,by simp(disch:=omega)[round_eq,mZ,Ph,h1,h2,S,<-G,l,<-hs,c5,jb,nY,N,r]⟩
    .exact⟨(g,h++[⟨true,c,{x.op with client:=c},Az⟩],cl+1,st.set c 1,os.set c {x.op with client:=c},b),⟨R.vO Q v (o:={x.op with client:=(c:Int)}) ⟨E.p,E.t,E.d⟩ rfl Az,by simp only;omega⟩,by simp(disch:=omega)[round_eq,mZ,Ph,h1,h2,S,P,<-G,l,<-hs,jb,nY,N,r]⟩
   .obtain⟨o,H⟩:∃o,o=os[c]:=⟨_,rfl⟩;have K:os[c]? = some o:=by rw[H];exact aH co
    obtain⟨U,-⟩:=R.oo c 1 o v K ah
    obtain⟨g',Q9,Tp,hD3,hD4⟩:=JS R.ok af U
    have hD:=hD4 (n:=255) ah
    have R':=R.done Q v K Q9 Tp hD3;generalize(Dv o (Fv g)).2=a' at *
    simp only[Fv,Fc,Sc,Ov,Oc,Av,Ac,aK,aL]at hD;exact⟨(g',h,cl,st.set c 2,os,b.set c a'),⟨R',q⟩,by simp(disch:=omega)[round_eq,mZ,Ph,h1,h3,S,P,O,<-G,l,<-hs,<-H,hD,jb,nY,N,r]⟩
   .obtain⟨a,M⟩:∃a,a=b[c]:=⟨_,rfl⟩;have Z:b[c]? = some a:=by rw[M];exact aH caa
    exact⟨(g,h++[⟨false,c,⟨0,0,[],[],0,0,0,[]⟩,a⟩],cl,st.set c 0,os,b),⟨R.fin Q v Z _,q⟩,by simp(disch:=omega)[round_eq,mZ,Ph,h1,S,O,<-G,l,<-hs,<-M,jb,nY,N,r]⟩)
  (λx ⟨R,q⟩=>⟨_,⟨_,_,_,_,_,_,R,q,rfl⟩,by
   have N:=λh0 Y=>(kf hX).tail (L:=X.length+6) (R:=[X.length+5]) af ai h0 Y
   have r:=jr X;simp(disch:=omega)[round_eq,mZ,Ph,h1,nY]⟩) (aT _) (g0,[],0,z,A,F) ⟨R0,aT _⟩
abbrev Oz:lX:=⟨0,0,[],[],0,0,0,[]⟩
def UO{k:Nat}{g:FS}(hg:mF k g):Rs (Fv g) k 0 g [] 0 [0,0,0] [Oz,Oz,Oz] [Az,Az,Az] :=
 ⟨hg,rfl,rfl,rfl,ai,⟨_,.nil,λc h=>by
  obtain rfl | rfl | rfl:c=0\/c=1\/c=2:=af
  .rfl
  .rfl
  .rfl⟩,aT _,rfl,ai,λc s o h1 h2 b=>by
  rcases c with _ | _ | _ | c<;>simp at h1<;>omega,λc a h1 h2=>by
  rcases c with _ | _ | _ | c<;>simp at h1⟩
def s14{n:Nat}(F:255<n){X:AH}(z:X.all gd=true){g:FS}{k:Nat}(hg:mF k g)(hk:k<=120){m:List vS}(G:m.length<=24)(E:∀x∈m,uy x.op)(f:Bool):
  ∃l h cl st os i,Rs (Fv g) k m.length l h cl st os i/\cl<=5/\eT (en.cz n) 14 [Fv g,.b9 f (m.map Uv),I 5] X=some (.jg [.own (X.length+5) 0 0 h.length,Fv l],X++[.var (Fc l),.var (Fc l),.row 0 1 (st.map λ(s:Nat)=>I (s:Int)),.row 0 8 (os.map Ov),.row 0 7 (i.map Av),.row 0 17 (h.map Po)]):=by
 generalize b:eT (en.cz n) 14 _ X=res;rw[ph 14 rfl F rfl,b6]at b;have H:=λh0 Y=>(kf z).tail (L:=X.length+6) (R:=[X.length+5]) af ai h0 Y
 have o:=jr X;simp(disch:=omega)[c14,H,o]at b;have key:=λe0 h1 h2 h3 K v r=>l14 z hk G E f e0 h1 h2 h3 K v r (UO hg)
 simp only[Ph,bN,aN,Ov,Oc,Av,Ac,nY,Fc,Sc,aK,aL,eC]at key;generalize A:iter _ _=oo at b;obtain⟨_,⟨l,h,cl,st,os,i,R,q,rfl⟩,rfl⟩:∃y,_/\oo=some y:=by rw[<-A];exact key _ aq aq aq aq aq aq
 refine⟨l,h,cl,st,os,i,R,q,?_⟩;rw[<-b];simp(disch:=omega)
section
variable{n:Nat}{rs:ax}{jR:List nH}{c r:Nat}{a:nH}{f:FS}{fl:Bool}{o:lX}
end
section
variable{f0:AV}{k j d nh:Nat}{g:FS}{h:List ze}{ds:List lX}{cl:Nat}{st:ax}{os:List lX}{jR:List nH}{rs sq:ax}{sn:List Bool}{c:Nat}
end
def KG:∀g,(en.kd g).mono :=
 M9 (b:=λ_ k=>match k with | .z _=>false | _=>true) (p:=λ_ k=>k.mono) (λ_ k h=>by cases k<;>first | trivial | cases h) (λ_=>trivial) [] aj trivial
def k6:(iW.w8 200 en 300 258).p 6 []=some (.bool true):=aj
def s6{n:Nat}(b:174<n):(en.cz n).p 6 []=some (.bool true):=by
 have h:=(zu (N:=200) en KG 300 258).p _ _ _ k6;rw[p6 b];rw[p6 ah]at h
 exact h
abbrev adl:=FS×List lX×List ze
abbrev P5(f g:FS)(b:List lX)(h:List ze):AH:=[.var (Fc f),.var (Fc g),.row 0 8 (b.map Ov),.row 0 17 (h.map Po)]
structure Q5(f0:FS)(k i:Nat)(g:FS)(ds:List lX)(h:List ze):Prop where
 ok:mF (k+i) g
 sq:Li.Sq Dv (Fv f0) h (Fv g)
 dl:ds.length=i
 hl:h.length=2*i
 ev:∀x∈h,Evo x
def l5{k:Nat}(hk:k<=100){m:List vS}(hm:m.length<=24)(Z:∀x∈m,uy x.op){l:FS}(K:mF k l)(f:Bool)(e0:Env)(h1:e0 1 = .b9 f (m.map Uv))(T:e0 15 = .ptr 1 0 0 0):
  ∃y,(∃i g b h,i<=5/\Q5 l k i g b h/\y=(AX.exit 0,[AV.own 2 0 0 b.length,AV.own 3 0 0 h.length],P5 l g b h))/\
   iter (round (en.cz 257) [13,14,16] [(.exit 0,[13,14])] akm e0 4 [2,3]) ([.own 2 0 0 0,.own 3 0 0 0,I 0],P5 l l [] [])=some y :=
 iQ (f := round (en.cz 257) [13, 14, 16] [(.exit 0, [13, 14])] akm e0 4 [2, 3]) (min m.length 5) (λi (x : adl) => ([.own 2 0 0 x.2.1.length, .own 3 0 0 x.2.2.length, I (i : Int)], P5 l x.1 x.2.1 x.2.2))
  (λy=>∃i g b h,i<=5/\Q5 l k i g b h/\y=(AX.exit 0,[AV.own 2 0 0 b.length,AV.own 3 0 0 h.length],P5 l g b h))
  (λi x=>Q5 l k i x.1 x.2.1 x.2.2)
  (λi x hi Q=>by
   let⟨g,b,h⟩:=x;simp only at Q;have E:i<m.length:=af
   have H:i<5:=af
   obtain⟨x,W⟩:∃x,x=m[i]:=⟨_,rfl⟩;have r:=Z x (by rw[W];exact aP E)
   have q:=VC x.c;have M:x.c.toNat%3<3:=fM _ ah
   have hlt:=x.c.toNat_lt;obtain⟨c,L⟩:∃c,c=x.c.toNat%3:=⟨_,rfl⟩;rw[<-L]at q M;have G:=Q.dl;have F:=Q.hl;obtain⟨o,v⟩:∃o:lX,o={x.op with client:=(c:Int)}:=⟨_,rfl⟩
   have A:uy o:=by rw[v];exact⟨r.p,r.t,r.d⟩
   let⟨g',S,P,O,N⟩:=JS Q.ok af A
   have Y:=N (n:=257) ah
   have X:=Q.sq.snoc c o Oz Az;rw[S]at X;generalize(Dv o (Fv g)).2=a' at *
   refine .inl ⟨(g',b++[o],h++[⟨true,c,o,Az⟩,⟨false,c,Oz,a'⟩]),⟨P,X,by simp[G],by simp[F];omega,λy z=>?_⟩,?_⟩
   .rcases aY.1 z with z | z
    .exact Q.ev y z
    .simp only[bw,gH,or_false]at z
     rcases z with rfl | rfl
     .exact⟨M,λ_=>⟨(by rw[v]),A⟩,λh=>(by cases h)⟩
     .exact⟨M,λh=>(by cases h),λ_=>O⟩
   .subst v;simp only[Fv,Fc,Sc,Ov,Oc,Av,Ac,aK,aL]at Y;simp(disch:=omega)[round_eq,akm,P5,h1,T,E,H,<-W,q,ca 12,Y,jb,G,F])
  (λx Q=>by
   let⟨g,b,h⟩:=x;refine⟨_,⟨min m.length 5,g,b,h,Nat.min_le_right ..,Q,rfl⟩,?_⟩
   by_cases c1:m.length<5
   .have U:min m.length 5=m.length:=by omega
    rw[U];simp(disch:=omega)[round_eq,akm,P5,h1]
   .have U:min m.length 5=5:=by omega
    rw[U]
    by_cases c3:5<m.length
    .simp(disch:=omega)[round_eq,akm,P5,h1,c3]
    .simp(disch:=omega)[round_eq,akm,P5,h1,c3]) (aT _) (l,[],[]) ⟨K,.nil,rfl,rfl,ai⟩
def chg(h:List ze)(x:Nat)(d:Int):List ze:=match h[x]? with
 |some e=>h.set x {e with PT:={e.PT with ino:=IntKind.i64.wrap (e.PT.ino+d)}}
 |none=>h
def Fx{β:Type}{g:ze->β}(hg:∀(e:ze) a,g {e with PT:=a}=g e)(h:List ze)(x:Nat)(d:Int):(chg h x d).map g=h.map g:=by
 unfold chg;split
 .rename_i e b;rw[fH,hg];obtain⟨hl,rfl⟩:=aD.1 b;rw[<-dY g (h:=by simpa using hl),List.set_getElem_self]
 .rfl
def ZR{h:List ze}{x:Nat}{d:Int}{y:ze}(b:y∈chg h x d):∃e∈h,∃i,y={e with PT:={e.PT with ino:=i}}:=by
 unfold chg at b;split at b
 .rename_i e l
  rcases cZ b with b | rfl
  .exact⟨y,b,y.PT.ino,rfl⟩
  .exact⟨e,bL l,_,rfl⟩
 .exact⟨y,b,y.PT.ino,rfl⟩
def s5{n:Nat}(hn:257<n)(l:List lX)(m r:List vS)(a b:UInt8)(hl:l.length<=9223372036854775807)(hm:m.length<=9223372036854775807)(hr:r.length<=9223372036854775807)(f1 f2 f3:Bool):(en.cz n).p 5 [.b9 f1 (l.map Ov),.b9 f2 (m.map Uv),.b9 f3 (r.map Uv),B a,B b]=some (.bool true):=by
 have h6:=s6 (n:=257) ah
 let⟨b1,h7,hb1⟩:=s7 (n:=257) ah l m hl hm f1 f2
 let⟨b2,K,WS⟩:=s7 (n:=257) ah [] r ai hr false f3
 generalize o:(en.cz n).p 5 _=res;rw[p5 hn,b8,b6]at o;simp only[aN]at K;cases b1 with
 |true =>
  simp(disch:=omega)[c5,a6,h6,a7,h7]at o;exact o.symm
 |false =>
  cases b2 with
  |true =>
   simp(disch:=omega)[c5,a6,h6,a7,h7,K]at o;exact o.symm
  |false =>
   let⟨W,hlo,U,hmo⟩:=hb1 rfl;obtain⟨-,-,P,hro⟩:=WS rfl;let⟨f,h8,hf⟩:=s8 (n:=257) ah W hlo f1
   simp only[Fv,Fc,Sc,aK,aL]at h8;simp(disch:=omega)[c5,a6,h6,a7,h7,K,a8,h8]at o;have key:=λe0 h1 h15=>l5 (k:=50) af U hmo hf f2 e0 h1 h15
   simp only[P5,Fc,Sc,aK,aL,aN]at key;generalize O:iter _ _=oo at o;obtain⟨_,⟨i,g,ds,h,hi5,Q,rfl⟩,rfl⟩:∃y,_/\oo=some y:=by rw[<-O];exact key _ aq aq
   have hX:(P5 f g ds h).all gd=true:=by simp[gd,AV.jW]
   let⟨g',k,cl,st,os,jR,R,vo,F⟩:=s14 (n:=257) ah hX Q.ok af P hro f3
   have Tl:=Q.dl;have hhl:=Q.hl;have hkl:=R.hl;obtain⟨p,hp,-⟩:=R.rn;obtain⟨rk1,-,rk3⟩:=hp.right;obtain⟨-,ek1,ek2⟩:=Q.sq.even;obtain⟨v,A⟩:∃v,v=chg k (a.toNat%k.length) ((b.toNat%2:Nat):Int):=⟨_,rfl⟩;have E:Li.rk (λ_=>false) v:=Li.Gz (by rw[A];exact(Fx (λ_ _=>rfl) ..).symm) rk1
   have kl':v.length=k.length:=by
    have:=congrArg List.length (Fx (g:=λe:ze=>e.c) (λ_ _=>rfl) k (a.toNat%k.length) ((b.toNat%2:Nat):Int))
    rw[<-A]at this
    simpa using this
   have PI:(Li.calls Dv v).cs.length=cl:=by
    rw[<-R.cl,Li.wq,Li.wq,A,Fx (λ_ _=>rfl)]
   have T:∀y∈v,∃e∈k,∃i,y={e with PT:={e.PT with ino:=i}}:=λy z=>ZR (by rw[<-A];exact z)
   have evk:∀y∈v,Evo y:=λy z=>by
    obtain⟨e,he,j,rfl⟩:=T y z;let⟨v1,v2,v3⟩:=R.ev e he;exact⟨v1,v2,λh=>⟨(v3 h).n,(v3 h).d⟩⟩
   have S:∀q:List ze,Li.rk (λ_=>false) q->(Li.calls Dv q).cs.length<=10->q.length<=64->(∀y∈q,Evo y)->Hok q:=λq h1 h2 h3 h4 =>
    ⟨h1,h2,af,λy z=>by have:=(h4 y z).1;omega,λy z Z=>((h4 y z).2.1 Z).2,λy z Z=>(h4 y z).2.2 Z⟩
   have hHk:Hok v:=S v E af af evk
   have M:Li.rk (λ_=>false) (h++v):=(Li.qS ..).2 ⟨ek1,by rw[ek2];exact E⟩
   have hca:=Q.sq.calls.1;have L:∀y∈h++v,Evo y:=λy z=>(aY.1 z).elim (Q.ev y) (evk y)
   have hHa:Hok (h++v):=S _ M (by rw[Li.uB _ _ E];simp;omega) ak L
   obtain⟨x1,e1,j1⟩:=s11 (n:=257) ah hHa false hf af
   obtain⟨x2,e2,j2⟩:=s11 (n:=257) ah hHk false Q.ok af
   have hxx:x1=x2:=ef.2 (j1.trans ((Li.L1 Q.sq E).trans j2.symm));subst hxx;have G:=s10 (n:=257) ah (h++v) ak M (λy z=>⟨by have:=(L y z).1;omega,λZ=>((L y z).2.1 Z).1⟩) false
   simp only[P5,Fv,Fc,Sc,aK,aL,List.map_append,aS,bt,bW,Nat.reduceAdd]at F e1 e2 G
   by_cases c0:k.length=0
   .have hkn:k=[]:=dw.1 c0;have X:v=[]:=dw.1 af
    subst hkn X;simp only[aN,cC,bt,eC]at F e1 e2 G;simp(disch:=omega)[F,Tl,hhl,a10,G,ca 11,e1,e2]at o;exact o.symm
   .have hla:=a.toNat_lt;have hlb:=b.toNat_lt;have O:a.toNat%k.length<k.length:=fM _ af
    obtain⟨x,N⟩:∃x,x=a.toNat%k.length:=⟨_,rfl⟩;rw[<-N]at O A
    have hmx:((a.toNat:Int)).tmod (k.length:Int)=(x:Int):=by
     rw[eZ af,N]
     omega
    have hmb:((b.toNat:Int)).tmod 2=((b.toNat%2:Nat):Int):=by
     rw[eZ af]
     omega
    obtain⟨e,Y⟩:∃e,e=k[x]:=⟨_,rfl⟩
    have hk2:v=k.set x {e with PT:={e.PT with ino:=IntKind.i64.wrap (e.PT.ino+((b.toNat%2:Nat):Int))}}:=by
     rw[A];unfold chg;rw[aH O,<-Y]
    have H:(k.map Po).set x (Po {e with PT:={e.PT with ino:=IntKind.i64.wrap (e.PT.ino+((b.toNat%2:Nat):Int))}})=v.map Po:=by rw[hk2,fH]
    have t1:(v.map Po).take k.length=v.map Po:=aO ak
    have t2:(h.map Po++v.map Po).take (h.length+v.length)=h.map Po++v.map Po:=aO ai
    simp only[Po,Ec,Oc,Ac,aK,aL,Int.natCast_emod,Int.cast_ofNat_Int]at H;simp(disch:=omega)[F,c0,hmx,hmb,O,<-Y,H,t1,t2,a10,G,ca 11,e1,e2]at o;exact o.symm
open Go.Am Go.Am.Nm Go.Tr Go.Lib Go.Deep
def SH{c:Int}(h:IntKind.u8.min<=c/\c<=IntKind.u8.max):∃b:UInt8,c=(b.toNat:Int):=by
 obtain⟨n,l⟩:=h;have e1:IntKind.u8.min=0:=rfl;have i:IntKind.u8.max=255:=rfl;refine⟨UInt8.ofNat c.toNat,?_⟩;rw[UInt8.toNat_ofNat_of_lt' (show c.toNat<2 ^ 8 by omega)]
 omega
def BK:∀ {l:ay},(∀n∈l,IntKind.u8.min<=n/\n<=IntKind.u8.max)->∃r:au,l.map (AV.int .u8)=r.map B
 | [],_=>⟨[],rfl⟩
 |n::l,h=>by
  obtain⟨b,o⟩:=SH (h n cU);obtain⟨r,h1⟩:=BK (l:=l) λm i=>h m (cB _ i)
  exact⟨b::r,by rw[bN,bN,h1,o]⟩
abbrev Fw:List TD:=[.i .i64,.i .i64,.s,.s,.i .i64,.i .i64,.i .i64,.l false [.i .u8]]
def S3{cs:List AV}(h:EA Fw cs):∃o:lX,AV.agg cs=Ov o/\True:=by
 obtain⟨a,r,rfl,h1,h⟩:=h.cons;obtain⟨b,r,rfl,h2,h⟩:=h.cons;obtain⟨c,r,rfl,h3,h⟩:=h.cons;obtain⟨d,r,rfl,h4,h⟩:=h.cons;obtain⟨e,r,rfl,h5,h⟩:=h.cons;obtain⟨g,r,rfl,h6,h⟩:=h.cons;obtain⟨i,r,rfl,x,h⟩:=h.cons;obtain⟨j,r,rfl,h8,h⟩:=h.cons;have:=h.nil;subst this;obtain⟨a,rfl,_⟩:=h1.int;obtain⟨b,rfl,_⟩:=h2.int;obtain⟨c,rfl,_⟩:=h3.str;obtain⟨d,rfl,_⟩:=h4.str;obtain⟨e,rfl,_⟩:=h5.int;obtain⟨g,rfl,_⟩:=h6.int;obtain⟨i,rfl,_⟩:=x.int;obtain⟨l,rfl,_,v⟩:=h8.ints;obtain⟨q,n⟩:=BK v;rw[n]
 exact⟨⟨a,b,c,d,e,g,i,q⟩,rfl,trivial⟩
def P3{cs:List AV}(h:EA (.i .u8::Fw) cs):∃x:vS,AV.agg cs=Uv x/\True:=by
 obtain⟨u,r,rfl,h0,h⟩:=h.cons;obtain⟨o,b,-⟩:=S3 h;obtain⟨u,rfl,l⟩:=h0.int;obtain⟨u,rfl⟩:=SH l;simp only[Ov,AV.agg.injEq]at b;subst b;exact⟨⟨u,o⟩,rfl,trivial⟩
set_option maxRecDepth 100000 in
def adb(args:List AV)(h:qv [(false,[.l true Fw]),(false,[.l true (.i .u8::Fw)]),(false,[.l true (.i .u8::Fw)]),(false,[.i .u8]),(false,[.i .u8])] args):(en.cz 258).p 5 args=some (.bool true):=by
 obtain⟨a,r,rfl,h1,h⟩:=h.inv;obtain⟨b,r,rfl,h2,h⟩:=h.inv;obtain⟨c,r,rfl,h3,h⟩:=h.inv;obtain⟨d,r,rfl,h4,h⟩:=h.inv;obtain⟨e,r,rfl,h5,h⟩:=h.inv;have:=h.ajP;subst this;obtain⟨l,rfl,hl,_⟩:=h1.one.af6 Ov (λ_=>True) (λ_=>S3)
 obtain⟨m,rfl,y,_⟩:=h2.one.af6 Uv (λ_=>True) (λ_=>P3)
 obtain⟨q,rfl,x,_⟩:=h3.one.af6 Uv (λ_=>True) (λ_=>P3)
 obtain⟨u,rfl,o⟩:=h4.one.int;obtain⟨v,rfl,n⟩:=h5.one.int;obtain⟨u,rfl⟩:=SH o;obtain⟨v,rfl⟩:=SH n;exact s5 af l m q u v (by simpa[maxLen]using hl) (by simpa[maxLen]using y) (by simpa[maxLen]using x) false false false
end Go.Proofs.YtghgbehknhmnaaaGreatDoor
