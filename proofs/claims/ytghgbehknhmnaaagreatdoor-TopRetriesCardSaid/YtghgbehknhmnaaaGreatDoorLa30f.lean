/- Part of the proof that TopRetriesCard holds. -/
import Derived.Test.YtghgbehknhmnaaaGreatDoorHi30h
set_option linter.all false
namespace Go.Proofs.YtghgbehknhmnaaaGreatDoor
open Go.Am Go.Tr Go.Am.Nm Go.Lib
structure Hok(l:List ze):Prop where
 rk:Li.rk (λ_=>false) l
 n:(Li.calls Dv l).cs.length<=10
 ln:l.length<=1000
 c:∀x∈l,x.c<16
 o:∀x∈l,x.vO=true->uy x.op
 a:∀x∈l,x.vO=false->zM x.PT
def QJ(n:Nat)(s:aB):Li.left n s<=n:=by
 unfold Li.left;exact bH (bz _ _) ai
def af5:∀ {e:Nat},e<=11->An e<=11111111111:=by
 have h:∀e,An e<=An (e+1):=λe=>by
  induction e with
  |zero=>simp[An]
  |succ e b=>simp only[An]at b⊢;omega
 have h2:∀d e,An e<=An (e+d):=λd=>by
  induction d with
  |zero=>intro e;exact aU _
  |succ d b=>intro e;exact bH (b e) (h _)
 intro e i;have:=h2 (11-e) e;rw[show e+(11-e)=11 by omega]at this
 exact this
def s17{n:Nat}(T:173<n){l:List ze}(hl:Hok l)(f:Bool){g:FS}{k:Nat}(hg:mF k g)(hk:k<=190):∃b v,(en.cz n).p 17 [Fv g,.b9 f (l.map Po)]=some (.jg [v,.bool b])/\(b=true↔Li.vT (Li.calls Dv l).cs (Fv g) λ_=>false):=by
 generalize h:(en.cz n).p 17 _=res;rw[pp 17 rfl T rfl,b8,b6]at h;have hs:=s34 Dv (n:=173) ah l hl.ln hl.rk hl.c f
 have K:=hl.n;have H:=hl.ln;simp(disch:=omega)[c17,ca 34,hs]at h;generalize E:iter _ _=oo at h;obtain⟨_,⟨nd,G,rfl⟩,rfl⟩:∃y,_/\oo=some y:=by rw[<-E];exact adh (Li.calls Dv l).cs af (by simp[gd,AV.jW]) _ aq aq aq aq
 simp(disch:=omega)at h;generalize E:iter _ _=oo at h;obtain⟨_,⟨bf,M,L,rfl⟩,rfl⟩:∃y,_/\oo=some y:=by rw[<-E];exact adf (Li.calls Dv l).cs af (by simp[gd,AV.jW]) (by simp[gd,AV.jW]) _ aq aq aq aq
 simp(disch:=omega)at h;have S:(0:Nat).testBit=λ_=>false:=by funext j;simp
 have Y:Ir.Ok ⟨f,l,nd,bf,k+10,(Li.calls Dv l).cs⟩:=⟨rfl,K,H,G,M,L,hl.o,hl.a,by simp only;omega⟩
 have U:=QJ (Li.calls Dv l).cs.length (0:Nat).testBit
 have X:Tm ⟨f,l,nd,bf,k+10,(Li.calls Dv l).cs⟩ 0 [.var [.b9 f (l.map Po)],.var [.b9 false ((Li.calls Dv l).cs.map Pr)],.var [Un nd],.row 0 1 (bf.map Un),.var [.own 3 0 0 (Li.calls Dv l).cs.length],.mp .u64 [],.var [.mb 5],.var [.b9 true []],.var [.fn (.func 35) [] EN]] 0 [] 9 (λ_=>0) :=
  ⟨ai,rfl,rfl,rfl,rfl,rfl,rfl,rfl,rfl,by simp[oE,ve,uI,AV.jW],ai,ai,ai,.inl ⟨rfl,rfl⟩,ai,ai⟩
 obtain⟨b,H',q',es',P,Z,z,O,-,A,-⟩:=LZ Y 101 0 g k 0 0 _ _ _ _ X (by have:=af5 (e:=Li.left (Li.calls Dv l).cs.length (0:Nat).testBit+1) af;simp only;omega) hg (Nat.two_pow_pos _) (by simp only;omega) (by simp only;omega) (by simp only;omega)
 rw[ow,<-p35 (n:=173) ah]at z
 simp only[Fv,Fc,Sc,Un,EN,aI,aL,eY]at z;have W:=O.len;rw[S]at A;have i:(AV.fn (.func 35) [] [.ptr 2 0 0 0,.ptr 6 0 0 0,.ptr 1 0 0 0,.ptr 4 0 0 0,.ptr 0 0 0 0,.ptr 7 0 0 0,.ptr 8 0 0 0]).sw=true:=rfl;have l7:7<H'.length:=af
 cases b with
 |false =>
  simp(disch:=omega)[oN,i,z]at h;exact⟨false,_,h.symm,A⟩
 |true =>
  rcases O.od with⟨_,q⟩ | ⟨v,r,h9,x,q,F⟩
  .have N:=iT q l7;simp(disch:=omega)[oN,i,z,N]at h;exact⟨true,_,h.symm,A⟩
  .have N:=iT q l7;have Q:=(aA.1 x).1;have go_:=iT x Q;simp(disch:=omega)[oN,i,z,N,go_,F]at h;exact⟨true,_,h.symm,A⟩
def s11{n:Nat}(o:253<n){l:List ze}(hl:Hok l)(f:Bool){g:FS}{k:Nat}(hg:mF k g)(hk:k<=190):∃b,(en.cz n).p 11 [Fv g,.b9 f (l.map Po)]=some (.bool b)/\(b=true↔Li.vT (Li.calls Dv l).cs (Fv g) λ_=>false):=by
 obtain⟨b,v,h,q⟩:=s17 (n:=253) ah hl f hg hk
 generalize i:(en.cz n).p 11 _=res;rw[pp 11 rfl o rfl,b8,b6]at i;simp only[Fv,Fc,Sc,aI,aL]at h;simp(disch:=omega)[sE,ca 17,h]at i;exact⟨b,i.symm,q⟩
def l10(l:List ze)(hl:l.length<=1000)(P:Li.rk (λ_=>false) l)(T:∀x∈l,x.c<16/\(x.vO=true->x.op.client=(x.c:Int)))(f:Bool)(e0:Env)(h3:e0 3 = .ptr 0 0 0 0)(F:e0 10 = .b9 f (l.map Po))(v:e0 11=I (l.length:Int)):
  ∃y,(∃H,y=(AX.exit 0,[],H))/\iter (round (en.cz 0) [12] [(.exit 0,[]),(.ret,[2])] Df e0 1 []) ([I 0],[.var ((List.replicate 16 false).map .bool)])=some y :=
 iQ (f := round (en.cz 0) [12] [(.exit 0, []), (.ret, [2])] Df e0 1 []) l.length (λi (bs : List Bool) => ([I (i : Int)], [AB.var (bs.map .bool)])) (λy => ∃ H, y = (AX.exit 0, [], H))
  (λi bs=>bs.length=16/\∀c (h:c<bs.length),bs[c]=Li.DI (λ_=>false) (l.take i) c)
  (λi bs M ⟨N,O⟩=>by
   obtain⟨K,-⟩:=Li.SV P M;obtain⟨E,n⟩:=T _ (aN M)
   have q:∀c,Li.DI (λ_=>false) (l.take (i+1)) c=Li.up (Li.DI (λ_=>false) (l.take i)) l[i].c l[i].vO c:=λc=>by
    rw[ez,aD M];unfold Li.DI;rw[fF];rfl
   obtain⟨x,G⟩:∃x,x=l[i]:=⟨_,rfl⟩;rw[<-G]at K E n q;obtain⟨b,c,o,a⟩:=x;simp only at K E n q;have r:c<bs.length:=af
   have hg:=O c r;rw[K]at hg
   have z:Am.shape 1 false (List.drop c (bs.map AV.bool))=some (.bool (!b)):=by
    rw[cg (an r),eD,hg]
    simp[Am.shape]
   have Q:∀(bs:List Bool) L R H,(bs.map AV.bool).map (kF L R H)=bs.map AV.bool:=λbs L R H=>by rw[eX];rfl
   have A:over (bs.map AV.bool) c [AV.bool b]=(bs.map AV.bool).set c (.bool b):=by
    rw[ec,if_pos (an r)]
    simp[over]
   left;refine⟨bs.set c b,⟨an N,λd S=>?_⟩,?_⟩
   .rw[q]
    by_cases h:d=c
    .subst h;rw[Li.ng];simp
    .rw[Li.mo _ h,List.getElem_set_ne (λe=>h e.symm)]
     exact O d (an S)
   .cases b with
    |true =>
     have n:=n rfl;simp(disch:=omega)[round_eq,Df,h3,F,v,<-G,N,n,z,A];rfl
    |false =>
     simp(disch:=omega)[round_eq,Df,h3,F,v,<-G,N,z,A];rfl)
  (λbs _=>⟨_,⟨_,rfl⟩,by simp(disch:=omega)[round_eq,Df,v];rfl⟩) (aQ _) (List.replicate 16 false) ⟨ai,λc h=>by rw[List.getElem_replicate];rfl⟩
def s10{n:Nat}(o:0<n)(l:List ze)(hl:l.length<=64)(i:Li.rk (λ_=>false) l)(q:∀x∈l,x.c<16/\(x.vO=true->x.op.client=(x.c:Int)))(f:Bool):(en.cz n).p 10 [.b9 f (l.map Po)]=some (.bool true):=by
 generalize b:(en.cz n).p 10 _=res;rw[p10 o,b8,b6]at b;simp(disch:=omega)[zb]at b;generalize h:iter _ _=oo at b;obtain⟨_,⟨H,rfl⟩,rfl⟩:∃y,_/\oo=some y:=by rw[<-h];exact l10 l af i q f _ aq aq aq
 simp(disch:=omega)at b;exact b.symm
end Go.Proofs.YtghgbehknhmnaaaGreatDoor
namespace Go.Tr
structure vS where
 c:UInt8
 op:lX
end Go.Tr
namespace Go.Proofs.YtghgbehknhmnaaaGreatDoor
open Go.Am Go.Tr Go.Am.Nm Go.Lib
abbrev Uc(x:vS):List AV:=.int .u8 (x.c.toNat:Int)::Oc x.op
attribute [simp] Uc
@[simp]def Uv(x:vS):AV:=.agg (Uc x)
@[simp]def akH(l:List vS):jw 9 (l.map Uv)=true:=by simp[jw]
@[simp]def akM(l:List lX):jw 8 (l.map Ov)=true:=by simp[jw]
section
variable{n:Nat}
def s20(i:175<n)(o:lX):∃b,(en.cz n).p 20 [Ov o]=some (.bool b)/\(b=false->uy o):=by
 generalize h:(en.cz n).p 20 _=res;rw[pp 20 rfl i rfl,b8,b6]at h
 by_cases q:5000<o.data.length
 .simp(disch:=omega)[c20]at h;exact⟨true,h.symm,ai⟩
 by_cases l:1000<o.path.length
 .simp(disch:=omega)[c20]at h;exact⟨true,h.symm,ai⟩
 by_cases c3:1000<o.to.length
 .simp(disch:=omega)[c20]at h;exact⟨true,h.symm,ai⟩
 .simp(disch:=omega)[c20]at h;exact⟨false,h.symm,λ_=>⟨af,af,af⟩⟩
def l19(l:List lX)(hl:l.length<=1000000)(f:Bool)(e0:Env)(h0:e0 0 = .b9 f (l.map Ov)):
  ∃y,((y=(AX.exit 0,[],[])/\∀o∈l,uy o)\/∃H,y=(AX.ret,[AV.bool true],H))/\iter (round (en.cz 176) [3] [(.exit 0,[]),(.ret,[2])] Dc e0 0 []) ([I 0],[])=some y :=
 iQ (f := round (en.cz 176) [3] [(.exit 0, []), (.ret, [2])] Dc e0 0 []) l.length (λi (_ : Unit) => ([I (i : Int)], [])) (λy => (y = (AX.exit 0, [], []) /\ ∀ o ∈ l, uy o) \/ ∃ H, y = (AX.ret, [AV.bool true], H)) (λi _ => ∀ j (h : j < l.length), j < i -> uy l[j])
  (λi _ G z=>by
   obtain⟨x,r⟩:∃x,x=l[i]:=⟨_,rfl⟩;obtain⟨b,v,F⟩:=s20 (n:=176) ah x
   simp only[Ov,Oc]at v;cases b with
   |true=>exact .inr ⟨_,.inr ⟨_,rfl⟩,by simp(disch:=omega)[round_eq,Dc,h0,<-r,ca 20,v];rfl⟩
   |false=>exact .inl ⟨(),λj q E=>by
     by_cases h:j=i
     .subst h;rw[<-r];exact F rfl
     .exact z j q af,by simp(disch:=omega)[round_eq,Dc,h0,<-r,ca 20,v]⟩)
  (λ_ z=>⟨_,.inl ⟨rfl,λo A=>by
   obtain⟨j,q,rfl⟩:=bn.1 A;exact z j q q⟩,by simp(disch:=omega)[round_eq,Dc,h0]⟩) (aQ _) () (λ_ _ h=>absurd h (Nat.not_lt_zero _))
def s19(r:176<n)(l:List lX)(hl:l.length<=9223372036854775807)(f:Bool):∃b,(en.cz n).p 19 [.b9 f (l.map Ov)]=some (.bool b)/\(b=false->l.length<=50/\∀o∈l,uy o):=by
 generalize h:(en.cz n).p 19 _=res;rw[pp 19 rfl r rfl,b8,b6]at h
 by_cases v:50<l.length
 .simp(disch:=omega)[c19]at h;exact⟨true,h.symm,ai⟩
 .simp(disch:=omega)[c19]at h;generalize i:iter _ _=oo at h;obtain⟨_,⟨rfl,q⟩ | ⟨H,rfl⟩,rfl⟩:∃y,_/\oo=some y:=by rw[<-i];exact l19 l af f _ aq
  .simp(disch:=omega)at h;exact⟨false,h.symm,λ_=>⟨af,q⟩⟩
  .simp(disch:=omega)at h;exact⟨true,h.symm,ai⟩
def l7(l:List vS)(hl:l.length<=1000000)(f:Bool)(e0:Env)(h1:e0 1 = .b9 f (l.map Uv)):
  ∃y,((y=(AX.exit 0,[],[])/\∀o∈l,uy o.op)\/∃H,y=(AX.ret,[AV.bool true],H))/\iter (round (en.cz 177) [5] [(.exit 0,[]),(.ret,[4])] Lg e0 0 []) ([I 0],[])=some y :=
 iQ (f := round (en.cz 177) [5] [(.exit 0, []), (.ret, [4])] Lg e0 0 []) l.length (λi (_ : Unit) => ([I (i : Int)], [])) (λy => (y = (AX.exit 0, [], []) /\ ∀ o ∈ l, uy o.op) \/ ∃ H, y = (AX.ret, [AV.bool true], H)) (λi _ => ∀ j (h : j < l.length), j < i -> uy l[j].op)
  (λi _ G z=>by
   obtain⟨x,r⟩:∃x,x=l[i]:=⟨_,rfl⟩;obtain⟨b,v,F⟩:=s20 (n:=177) ah x.op
   simp only[Ov,Oc]at v;cases b with
   |true=>exact .inr ⟨_,.inr ⟨_,rfl⟩,by simp(disch:=omega)[round_eq,Lg,h1,<-r,ca 20,v];rfl⟩
   |false=>exact .inl ⟨(),λj q E=>by
     by_cases h:j=i
     .subst h;rw[<-r];exact F rfl
     .exact z j q af,by simp(disch:=omega)[round_eq,Lg,h1,<-r,ca 20,v]⟩)
  (λ_ z=>⟨_,.inl ⟨rfl,λo A=>by
   obtain⟨j,q,rfl⟩:=bn.1 A;exact z j q q⟩,by simp(disch:=omega)[round_eq,Lg,h1]⟩) (aQ _) () (λ_ _ h=>absurd h (Nat.not_lt_zero _))
def s7(z:177<n)(l:List lX)(m:List vS)(hl:l.length<=9223372036854775807)(A:m.length<=9223372036854775807)(f g:Bool):∃b,(en.cz n).p 7 [.b9 f (l.map Ov),.b9 g (m.map Uv)]=some (.bool b)/\(b=false->l.length<=50/\(∀o∈l,uy o)/\m.length<=24/\∀x∈m,uy x.op):=by
 obtain⟨b,i,q⟩:=s19 (n:=177) ah l hl f
 generalize h:(en.cz n).p 7 _=res;rw[p7 z,b8,b6]at h;cases b with
 |true =>
  simp(disch:=omega)[c7,ca 19,i]at h;exact⟨true,h.symm,ai⟩
 |false =>
 by_cases E:24<m.length
 .simp(disch:=omega)[c7,ca 19,i]at h;exact⟨true,h.symm,ai⟩
 .simp(disch:=omega)[c7,ca 19,i]at h;generalize r:iter _ _=oo at h;obtain⟨_,⟨rfl,v⟩ | ⟨H,rfl⟩,rfl⟩:∃y,_/\oo=some y:=by rw[<-r];exact l7 m af g _ aq
  .simp(disch:=omega)at h;exact⟨false,h.symm,λ_=>⟨(q rfl).1,(q rfl).2,af,v⟩⟩
  .simp(disch:=omega)at h;exact⟨true,h.symm,ai⟩
end
def PA(st:ax)(os:List lX)(jR:List nH)(c:Nat):Option (lX×Option nH):=match st[c]? with
 |some 1=>(os[c]?).map λo=>(o,none)
 |some 2=>(os[c]?).bind λo=>(jR[c]?).map λa=>(o,some a)
 |_=>none
def Evo(x:ze):Prop:=x.c<3/\(x.vO=true->x.op.client=(x.c:Int)/\uy x.op)/\(x.vO=false->zM x.PT)
structure Rs(f0:AV)(k i:Nat)(g:FS)(h:List ze)(cl:Nat)(st:ax)(os:List lX)(jR:List nH):Prop where
 ok:mF (k+i) g
 s3:st.length=3
 o3:os.length=3
 a3:jR.length=3
 sb:∀s∈st,s<3
 rn:∃p,Li.Rn Dv f0 h (Fv g) p/\∀c,c<3->p c=PA st os jR c
 hl:h.length<=i
 cl:(Li.calls Dv h).cs.length=cl
 ev:∀x∈h,Evo x
 oo:∀(c s:Nat)(o:lX),st[c]? = some s->os[c]? = some o->s≠0->uy o/\o.client=(c:Int)
 aa:∀(c:Nat)(a:nH),st[c]? = some 2->jR[c]? = some a->zM a
def wO(h:List ze)(x:ze):(Li.calls Dv (h++[x])).cs.length=(Li.calls Dv h).cs.length+if x.vO=true then 1 else 0:=by
 rw[Li.lg,Li.oZ];split<;>simp
section
variable{f0:AV}{k i:Nat}{g:FS}{h:List ze}{cl:Nat}{st:ax}{os:List lX}{jR:List nH}{c:Nat}
def Hl{b:ax}{l:List lX}{n:List nH}{d:Nat}(h1:b[d]? = st[d]?)(h2:l[d]? = os[d]?)(h3:n[d]? = jR[d]?):PA b l n d=PA st os jR d:=by
 unfold PA;rw[h1,h2,h3]
def Rs.vO(R:Rs f0 k i g h cl st os jR)(y:c<3)(hs:st[c]? = some 0){o:lX}(z:uy o)(q:o.client=(c:Int))(a:nH):Rs f0 k (i+1) g (h++[⟨true,c,o,a⟩]) (cl+1) (st.set c 1) (os.set c o) jR:=by
 have s3:=R.s3;have o3:=R.o3;obtain⟨p,A,n⟩:=R.rn;have E:p c=none:=by rw[n c y];unfold PA;rw[hs];rfl
 refine⟨R.ok.mono af,an s3,an o3,R.a3,λs v=>?_,⟨_,A.vO c o a y E,λd F=>?_⟩,by have:=R.hl;simp;omega,by rw[wO,R.cl];rfl,λx l=>?_,λd s o' h1 h2 r=>?_,λd G h1 h2=>?_⟩
 .rcases dz v with v | rfl
  .exact R.sb s v
  .decide
 .by_cases b : d = c
  .subst b;rw[Li.ng];unfold PA;rw[aK af,aK af]
   rfl
  .rw[Li.mo _ b,n d F];exact(Hl (aH (λe=>b e.symm)) (aH (λe=>b e.symm)) rfl).symm
 .rcases aX.1 l with l | l
  .exact R.ev x l
  .rw[bT.1 l];exact⟨y,λ_=>⟨q,z⟩,λh=>by cases h⟩
 .by_cases b : d = c
  .subst b;rw[aK af]at h2
   cases h2;exact⟨z,q⟩
  .rw[aH (λe=>b e.symm)]at h1 h2
   exact R.oo d s o' h1 h2 r
 .by_cases b : d = c
  .subst b;rw[aK af]at h1
   cases h1
  .rw[aH (λe=>b e.symm)]at h1
   exact R.aa d G h1 h2
def Rs.done(R:Rs f0 k i g h cl st os jR)(E:c<3)(hs:st[c]? = some 1){o:lX}(v:os[c]? = some o){r:FS}(G:(Dv o (Fv g)).1=Fv r)(hg:mF (k+i+1) r)(F:zM (Dv o (Fv g)).2):Rs f0 k (i+1) r h cl (st.set c 2) os (jR.set c (Dv o (Fv g)).2):=by
 have s3:=R.s3;have o3:=R.o3;have a3:=R.a3;obtain⟨p,y,l⟩:=R.rn;have z:p c=some (o,none):=by rw[l c E];unfold PA;rw[hs,v];rfl
 have x:=y.done c o z;rw[G]at x;refine⟨hg,an s3,o3,an a3,λs q=>?_,⟨_,x,λd A=>?_⟩,by have:=R.hl;omega,R.cl,R.ev,λd s o' h1 h2 n=>?_,λd H h1 h2=>?_⟩
 .rcases dz q with q | rfl
  .exact R.sb s q
  .decide
 .by_cases b : d = c
  .subst b;rw[Li.ng];unfold PA;rw[aK af,aK af,v]
   rfl
  .rw[Li.mo _ b,l d A];exact(Hl (aH (λe=>b e.symm)) rfl (aH (λe=>b e.symm))).symm
 .by_cases b : d = c
  .subst b;exact R.oo d 1 o' hs h2 ah
  .rw[aH (λe=>b e.symm)]at h1
   exact R.oo d s o' h1 h2 n
 .by_cases b : d = c
  .subst b;rw[aK af]at h2
   cases h2;exact F
  .rw[aH (λe=>b e.symm)]at h1 h2
   exact R.aa d H h1 h2
def Rs.fin(R:Rs f0 k i g h cl st os jR)(v:c<3)(hs:st[c]? = some 2){a:nH}(y:jR[c]? = some a)(o':lX):Rs f0 k (i+1) g (h++[⟨false,c,o',a⟩]) cl (st.set c 0) os jR:=by
 have s3:=R.s3;have o3:=R.o3;obtain⟨p,z,n⟩:=R.rn;obtain⟨o,A⟩:∃o,os[c]? = some o:=⟨_,aD af⟩
 have E:p c=some (o,some a):=by rw[n c v];unfold PA;rw[hs,A,y];rfl
 refine⟨R.ok.mono af,an s3,o3,R.a3,λs r=>?_,⟨_,z.fin c o o' a v E,λd F=>?_⟩,by have:=R.hl;simp;omega,by rw[wO,R.cl];rfl,λx l=>?_,λd s o' h1 h2 q=>?_,λd G h1 h2=>?_⟩
 .rcases dz r with r | rfl
  .exact R.sb s r
  .decide
 .by_cases b : d = c
  .subst b;rw[Li.ng];unfold PA;rw[aK af]
   rfl
  .rw[Li.mo _ b,n d F];exact(Hl (aH (λe=>b e.symm)) rfl rfl).symm
 .rcases aX.1 l with l | l
  .exact R.ev x l
  .rw[bT.1 l];exact⟨v,λh=>by simp at h,λ_=>R.aa c a hs y⟩
 .by_cases b : d = c
  .subst b;rw[aK af]at h1
   cases h1;exact absurd rfl q
  .rw[aH (λe=>b e.symm)]at h1
   exact R.oo d s o' h1 h2 q
 .by_cases b : d = c
  .subst b;rw[aK af]at h1
   cases h1
  .rw[aH (λe=>b e.symm)]at h1
   exact R.aa d G h1 h2
end
@[simp]def akQ(l:List nH):jw 7 (l.map Av)=true:=by simp[jw]
@[simp]theorem abd(h b a3 a4 a5 a6 a7 a8:AV):Am.shape 8 true [h,b,a3,a4,a5,a6,a7,a8]=some (.agg [h,b,a3,a4,a5,a6,a7,a8]):=rfl
def VC(c:UInt8):((c.toNat:Int)).tmod 3=((c.toNat%3:Nat):Int):=by
 rw[Int.tmod_eq_emod_of_nonneg af]
 omega
abbrev Oz:lX:=⟨0,0,[],[],0,0,0,[]⟩
def UO{k:Nat}{g:FS}(hg:mF k g):Rs (Fv g) k 0 g [] 0 [0,0,0] [Oz,Oz,Oz] [Az,Az,Az] :=
 ⟨hg,rfl,rfl,rfl,ai,⟨_,.nil,λc h=>by
  obtain rfl | rfl | rfl:c=0\/c=1\/c=2:=af
  .rfl
  .rfl
  .rfl⟩,aQ _,rfl,ai,λc s o h1 h2 b=>by
  rcases c with _ | _ | _ | c<;>simp at h1<;>omega,λc a h1 h2=>by
  rcases c with _ | _ | _ | c<;>simp at h1⟩
def pc(rs:ax)(jR:List nH)(c:Nat):List Rec:=match rs[c]?,jR[c]? with
 |some (r+1),some a=>[⟨c,(r+1:Nat),a⟩]
 |_,_=>[]
def mZ(rs:ax)(jR:List nH):List Rec:=pc rs jR 0++pc rs jR 1++pc rs jR 2
variable{jR:List nH}{rs:ax}
def Cx{c d:Nat}(h:c≠d)(s:Nat)(a:nH):pc (rs.set c s) (jR.set c a) d=pc rs jR d:=by
 unfold pc;rw[aH h,aH h]
def MX{c:Nat}(h1:c<rs.length)(h2:c<jR.length)(s:Nat)(a:nH):pc (rs.set c (s+1)) (jR.set c a) c=[⟨c,(s+1:Nat),a⟩]:=by
 unfold pc;rw[aK h1,aK h2]
def Hp{c:Nat}{r:Rec}(h:r∈pc rs jR c):r.c=c:=by
 unfold pc at h;split at h
 .rw[bT.1 h]
 .cases h
def oR(rs:ax)(jR:List nH)(c:Nat):(pc rs jR c).length<=1:=by
 unfold pc;split<;>simp
def SJ(h1:rs.length=3)(h2:jR.length=3){c:Nat}(l:c<3):∃A B,mZ rs jR=A++pc rs jR c++B/\Tsp c A (pc rs jR c) B/\∀s a,mZ (rs.set c (s+1)) (jR.set c a)=A++[(⟨c,(s+1:Nat),a⟩:Rec)]++B:=by
 have i:=oR rs jR 0;have l1:=oR rs jR 1;have l2:=oR rs jR 2;obtain rfl | rfl | rfl:c=0\/c=1\/c=2:=af
 .refine⟨[],pc rs jR 1++pc rs jR 2,by simp[mZ],⟨ai,i,λr b=>Hp b,λr b=>?_,ak⟩,λs a=>?_⟩
  .rcases aX.1 b with b | b<;>(have:=Hp b;omega)
  .unfold mZ;rw[MX af af,Cx ah,Cx ah]
   simp
 .refine⟨pc rs jR 0,pc rs jR 2,by simp[mZ],⟨λr b=>by have:=Hp b;omega,l1,λr b=>Hp b,λr b=>by have:=Hp b;omega,ak⟩,λs a=>?_⟩
  unfold mZ;rw[MX af af,Cx ah,Cx ah]
 .refine⟨pc rs jR 0++pc rs jR 1,[],by simp[mZ],⟨λr b=>?_,l2,λr b=>Hp b,ai,ak⟩,λs a=>?_⟩
  .rcases aX.1 b with b | b<;>(have:=Hp b;omega)
  .unfold mZ;rw[MX af af,Cx ah,Cx ah]
   simp
def MJ{c:Nat}{r:Nat}{a:nH}(h1:rs[c]? = some r)(h2:jR[c]? = some a):(n9 c (pc rs jR c)).s=(r:Int)/\(r≠0->(n9 c (pc rs jR c)).a=a):=by
 unfold pc;rw[h1,h2];cases r with
 |zero=>exact⟨rfl,λh=>absurd rfl h⟩
 |succ r=>exact⟨rfl,λ_=>rfl⟩
section
variable{n:Nat}{rs:ax}{jR:List nH}{c r:Nat}{a:nH}{f:FS}{fl:Bool}{o:lX}
def wq(l:168<n)(h1:rs.length=3)(h2:jR.length=3)(z:c<3)(y:rs[c]? = some r)(E:jR[c]? = some a)(x:r<=1000)(s:Int)(hs:s=(r:Int)\/s=(r:Int)-1):
  ∃v,(en.cz n).p 15 [Fv f,.b9 fl ((mZ rs jR).map Rv),I c,I s,Ov o]=some (.jg [Fv f,.b9 fl ((mZ rs jR).map Rv),Av v])/\(s=(r:Int)->r≠0->v=a):=by
 obtain⟨A,B,F,q,-⟩:=SJ h1 h2 z;obtain⟨e1,G⟩:=MJ y E;rw[F]
 by_cases b:zj c s (n9 c (pc rs jR c)).s=0
 .by_cases i : s = (r : Int)
  .refine⟨_,Mt l q s (by rw[e1];omega) b (by rw[e1];exact i),λ_ h=>G h⟩
  .exfalso;rw[e1]at b;unfold zj at b
   rcases hs with hs | hs
   .exact i hs
   .rw[if_neg af,if_pos af]at b
    cases b
 .refine⟨_,Qi l q s (by rw[e1];omega) b,λh3 h4=>?_⟩
  exfalso;apply b;rw[e1];unfold zj;rw[if_neg af,if_neg af,if_neg af]
def Fx(x:168<n)(h1:rs.length=3)(h2:jR.length=3)(y:c<3)(v:rs[c]? = some r)(z:jR[c]? = some a)(q:r<=1000)(b:o.client=(c:Int)){l:FS}{i:nH}
  (H:(en.cz 168).p 12 [Fv f,Ov o]=some (.jg [Fv l,Av i])) :
  (en.cz n).p 15 [Fv f,.b9 fl ((mZ rs jR).map Rv),I c,I ((r+1:Nat):Int),Ov o]=some (.jg [Fv l,.b9 false ((mZ (rs.set c (r+1)) (jR.set c i)).map Rv),Av i]):=by
 obtain⟨A,B,E,F,G⟩:=SJ h1 h2 y;obtain⟨e1,K⟩:=MJ v z;rw[E,G];refine Qh x F _ (by rw[e1];omega) ?_ (by rw[e1];omega) ?_
 .rw[e1];unfold zj;rw[if_neg af,if_neg af,if_neg af]
 .rw[<-H,<-b]
end
def Rs.mono{f0:AV}{k j:Nat}{g:FS}{h:List ze}{cl:Nat}{st:ax}{os:List lX}(R:Rs f0 k j g h cl st os jR){j':Nat}(b:j<=j'):Rs f0 k j' g h cl st os jR:=⟨R.ok.mono af,R.s3,R.o3,R.a3,R.sb,R.rn,by have:=R.hl;omega,R.cl,R.ev,R.oo,R.aa⟩
structure Ws(f0:AV)(k j d nh:Nat)(g:FS)(h:List ze)(ds:List lX)(cl:Nat)(st:ax)(os:List lX)(jR:List nH)(rs sq:ax)(sn:List Bool):Prop where
 R:Rs f0 k j g h cl st os jR
 r3:rs.length=3
 q3:sq.length=3
 n3:sn.length=3
 sq:∀(c s q r:Nat),st[c]? = some s->sq[c]? = some q->rs[c]? = some r->(s=1->q=r+1)/\(s≠1->q=r)/\(s=2->r≠0)
 sn:∀(c s:Nat)(b:Bool),st[c]? = some s->sn[c]? = some b->(s=1->b=false)/\(s=2->b=true)
 ql:∀(c r:Nat),rs[c]? = some r->r<=d
 fo:ds.foldl (λst o=>(Dv o st).1) f0=Fv g
 do_:∀o∈ds,uy o
 hl:h.length<=nh
 dl:ds.length<=d
section
variable{f0:AV}{k j d nh:Nat}{g:FS}{h:List ze}{ds:List lX}{cl:Nat}{st:ax}{os:List lX}{jR:List nH}{rs sq:ax}{sn:List Bool}{c:Nat}
def Ws.mono(W:Ws f0 k j d nh g h ds cl st os jR rs sq sn){j' d' QB:Nat}(h1:j<=j')(h2:d<=d')(h3:nh<=QB):Ws f0 k j' d' QB g h ds cl st os jR rs sq sn :=
 ⟨W.R.mono h1,W.r3,W.q3,W.n3,W.sq,W.sn,λc r b=>by have:=W.ql c r b;omega,W.fo,W.do_,by have:=W.hl;omega,by have:=W.dl;omega⟩
def Ws.vO(W:Ws f0 k j d nh g h ds cl st os jR rs sq sn)(E:c<3)(hs:st[c]? = some 0){o:lX}(A:uy o)(x:o.client=(c:Int))(a:nH){r:Nat}(y:rs[c]? = some r):sq[c]? = some r/\Ws f0 k (j+1) d (nh+1) g (h++[⟨true,c,o,a⟩]) ds (cl+1) (st.set c 1) (os.set c o) jR rs (sq.set c (r+1)) (sn.set c false):=by
 have s3:=W.R.s3;have q3:=W.q3;have n3:=W.n3;have z:sq[c]? = some r:=by
  have h1:=aD (l:=sq) (i:=c) af
  have:=(W.sq c 0 _ r hs h1 y).2.1 ah
  rw[h1,this]
 refine⟨z,W.R.vO E hs A x a,W.r3,an q3,an n3,λe s q r' h1 h2 h3=>?_,λe s b h1 h2=>?_,W.ql,W.fo,W.do_,by have:=W.hl;simp;omega,W.dl⟩
 .by_cases v : e = c
  .subst v;rw[aK af]at h1 h2
   cases h1;cases h2;rw[y]at h3;cases h3;exact⟨λ_=>rfl,λh=>absurd rfl h,λh=>by cases h⟩
  .rw[aH (λe=>v e.symm)]at h1 h2
   exact W.sq e s q r' h1 h2 h3
 .by_cases v : e = c
  .subst v;rw[aK af]at h1 h2
   cases h1;cases h2;exact⟨λ_=>rfl,λh=>by cases h⟩
  .rw[aH (λe=>v e.symm)]at h1 h2
   exact W.sn e s b h1 h2
def Ws.done(W:Ws f0 k j d nh g h ds cl st os jR rs sq sn)(K:c<3)(hs:st[c]? = some 1){o:lX}(F:os[c]? = some o){z:FS}(G:(Dv o (Fv g)).1=Fv z)(hg:mF (k+j+1) z)(L:zM (Dv o (Fv g)).2){r:Nat}(A:rs[c]? = some r):sq[c]? = some (r+1)/\sn[c]? = some false/\
  Ws f0 k (j+1) (d+1) nh z h (ds++[o]) cl (st.set c 2) os (jR.set c (Dv o (Fv g)).2) (rs.set c (r+1)) sq (sn.set c true):=by
 have s3:=W.R.s3;have q3:=W.q3;have n3:=W.n3;have r3:=W.r3
 have E:sq[c]? = some (r+1):=by
  have h1:=aD (l:=sq) (i:=c) af
  have:=(W.sq c 1 _ r hs h1 A).1 rfl;rw[h1,this]
 have H:sn[c]? = some false:=by
  have h1:=aD (l:=sn) (i:=c) af
  have:=(W.sn c 1 _ hs h1).1 rfl;rw[h1,this]
 refine⟨E,H,W.R.done K hs F G hg L,an r3,q3,an n3,λe s q r' h1 h2 h3=>?_,λe s b h1 h2=>?_,λe r' h1=>?_,?_,λx y=>?_,W.hl,by have:=W.dl;simp;omega⟩
 .by_cases v : e = c
  .subst v;rw[aK af]at h1 h3
   cases h1;cases h3;rw[E]at h2;cases h2;exact⟨λh=>(by cases h),λ_=>rfl,λ_=>af⟩
  .rw[aH (λe=>v e.symm)]at h1 h3
   exact W.sq e s q r' h1 h2 h3
 .by_cases v : e = c
  .subst v;rw[aK af]at h1 h2
   cases h1;cases h2;exact⟨λh=>(by cases h),λ_=>rfl⟩
  .rw[aH (λe=>v e.symm)]at h1 h2
   exact W.sn e s b h1 h2
 .by_cases v : e = c
  .subst v;rw[aK af]at h1
   cases h1;have:=W.ql e r A;omega
  .rw[aH (λe=>v e.symm)]at h1
   have:=W.ql e r' h1;omega
 .rw[fF,W.fo];exact G
 .rcases aX.1 y with y | y
  .exact W.do_ x y
  .rw[bT.1 y];exact(W.R.oo c 1 o hs F ah).1
def Ws.fin(W:Ws f0 k j d nh g h ds cl st os jR rs sq sn)(l:c<3)(hs:st[c]? = some 2){a:nH}(v:jR[c]? = some a)(o':lX):Ws f0 k (j+1) d (nh+1) g (h++[⟨false,c,o',a⟩]) ds cl (st.set c 0) os jR rs sq sn:=by
 have s3:=W.R.s3;have q3:=W.q3;have n3:=W.n3;refine⟨W.R.fin l hs v o',W.r3,W.q3,W.n3,λe s q r' h1 h2 h3=>?_,λe s b h1 h2=>?_,W.ql,W.fo,W.do_,by have:=W.hl;simp;omega,W.dl⟩
 .by_cases i : e = c
  .subst i;rw[aK af]at h1
   cases h1;exact⟨λh=>(by cases h),λ_=>(W.sq e 2 q r' hs h2 h3).2.1 ah,λh=>by cases h⟩
  .rw[aH (λe=>i e.symm)]at h1
   exact W.sq e s q r' h1 h2 h3
 .by_cases i : e = c
  .subst i;rw[aK af]at h1
   cases h1;exact⟨λh=>(by cases h),λh=>by cases h⟩
  .rw[aH (λe=>i e.symm)]at h1
   exact W.sn e s b h1 h2
end
abbrev Pd(g:FS)(h:List ze)(ds:List lX)(st:ax)(os:List lX)(sq:ax)(sn:List Bool):AH :=
 [.var (Fc g),.var nY,.row 0 1 (st.map λ(s:Nat)=>AV.bool (!decide (s=0))),.row 0 1 (sq.map λ(s:Nat)=>I (s:Int)),.row 0 8 (os.map Ov),.row 0 1 (sn.map AV.bool),.row 0 17 (h.map Po),.row 0 8 (ds.map Ov)]
def W9(b:AV)(k i:Nat)(res:Option ((List AV×AH)⊕(AX×List AV×AH))):Prop:=∃(g:FS) (h:List ze) (ds:List lX) (cl:Nat) (st:ax) (os:List lX) (jR:List nH) (rs sq:ax) (sn:List Bool) (fl:Bool),
 Ws b k (3*i) i (2*i) g h ds cl st os jR rs sq sn/\cl<=8/\res=some (.inl ([.own 6 0 0 h.length,.own 7 0 0 ds.length,.b9 fl ((mZ rs jR).map Rv),I (cl:Int),I (i:Int)],Pd g h ds st os sq sn))
set_option maxHeartbeats 8000000 in
def air{f0:AV}{k i:Nat}{g:FS}{h:List ze}{ds:List lX}{cl:Nat}{st:ax}{os:List lX}{jR:List nH}{rs sq:ax}{sn:List Bool}{fl:Bool}(W:Ws f0 k (3*i) i (2*i) g h ds cl st os jR rs sq sn)(F:cl<=8)(hk:k<=60)
  {m:List vS} (hm:m.length<=24) (hox:∀x∈m,uy x.op) (hi:i<m.length) (f:Bool) (bs:au) (f2:Bool) (e0:Env) (h1:e0 1 = .b9 f (m.map Uv)) (h2:e0 2 = .b9 f2 (bs.map B)) (h3:e0 3=I 8) (h4:e0 4 = .ptr 0 0 0 0) (L:e0 15 = .own 2 0 0 3) (K:e0 16 = .own 3 0 0 3) (H:e0 17 = .own 4 0 0 3) (G:e0 18 = .own 5 0 0 3)
  {x:vS} (Y:x=m[i]) {c:Nat} (hcc:c=x.c.toNat%3) (hc:c<3) {s:Nat} (A:st[c]? = some s) (hs2:s=2):W9 f0 k (i+1) (round (en.cz 252) [12,13,14,19,20] [(.exit 0,[12,13]),(.ret,[8,10,11])] oT e0 8 [6,7] ([.own 6 0 0 h.length,.own 7 0 0 ds.length,.b9 fl ((mZ rs jR).map Rv),I (cl:Int),I (i:Int)],Pd g h ds st os sq sn)):=by
 have l:=VC x.c;have hlt:=x.c.toNat_lt;rw[<-hcc]at l;have s3:=W.R.s3;have o3:=W.R.o3;have a3:=W.R.a3;have q3:=W.q3;have n3:=W.n3;have r3:=W.r3;have cs:c<st.length:=af
 have co:c<os.length:=af
 have caa:c<jR.length:=af
 have cq:c<sq.length:=af
 have cn:c<sn.length:=af
 have cr:c<rs.length:=af
 have hhl:=W.hl;have Tl:=W.dl;have hs:st[c]=s:=bp ((aD cs).symm.trans A);obtain⟨r,hr⟩:∃r,r=rs[c]:=⟨_,rfl⟩;have E:rs[c]? = some r:=by rw[hr];exact aD cr
 obtain⟨a,WU⟩:∃a,a=jR[c]:=⟨_,rfl⟩;have Q:jR[c]? = some a:=by rw[WU];exact aD caa
 obtain⟨o,v⟩:∃o,o=os[c]:=⟨_,rfl⟩;have hoc:os[c]? = some o:=by rw[v];exact aD co
 obtain⟨q,X⟩:∃q,q=sq[c]:=⟨_,rfl⟩;have Z:sq[c]? = some q:=by rw[X];exact aD cq
 obtain⟨b,P⟩:∃b,b=sn[c]:=⟨_,rfl⟩;have hbc:sn[c]? = some b:=by rw[P];exact aD cn
 have hrl:=W.ql c r E;have hTl:(mZ rs jR).length<=3:=by unfold mZ;have:=oR rs jR 0;have:=oR rs jR 1;have:=oR rs jR 2;simp;omega
 have z2:bin .and (.int .i64 0) (.int .i64 2)=some (.int .i64 0):=rfl;have z1:bin .and (.int .i64 0) (.int .i64 1)=some (.int .i64 0):=rfl;subst hs2;have hqr:=(W.sq c 2 q r A Z E).2.1 ah
 have PE:=(W.sq c 2 q r A Z E).2.2 rfl;have WR:=(W.sn c 2 b A hbc).2 rfl;subst hqr WR;have hsn:sn.set c true=sn:=by rw[P];exact fK _
 have y:=s13 (n:=252) ah W.R.ok af
 obtain⟨a1,U,-⟩:=wq (n:=252) (f:=g) (fl:=fl) (o:=o) ah r3 a3 hc E Q af ((q:Int)-1) (.inr rfl)
 obtain⟨a2,z,S⟩:=wq (n:=252) (f:=g) (fl:=fl) (o:=o) ah r3 a3 hc E Q af (q:Int) (.inl rfl)
 have S:=S rfl PE;subst S;have Wf:=(W.fin hc A Q Oz).mono (j':=3*(i+1)) (d':=i+1) (QB:=2*(i+1)) af af af
 have Wn:=W.mono (j':=3*(i+1)) (d':=i+1) (QB:=2*(i+1)) af af af
 rw[<-hsn]at Wf Wn;have hst:st.set c 2=st:=by rw[<-hs];exact fK _
 generalize hT:mZ rs jR=T at *
 simp only[Fv,Fc,Sc,Ov,Oc,Av,Ac,aI,aL]at y U z
 by_cases hbi:i<bs.length
 .obtain⟨be,O⟩:∃be,be=bs[i]:=⟨_,rfl⟩;have PK:=be.toNat_lt;obtain⟨w2,M⟩:∃w,bin .and (.int .i64 (be.toNat:Int)) (.int .i64 2)=some (.int .i64 w):=⟨_,rfl⟩;obtain⟨w1,N⟩:∃w,bin .and (.int .i64 (be.toNat:Int)) (.int .i64 1)=some (.int .i64 w):=⟨_,rfl⟩
  by_cases c1:w1=0
  .by_cases c2:w2=2
   .exact⟨g,_,ds,cl,_,os,jR,rs,sq,_,fl,Wf,F,by rw[hT];simp(disch:=omega)[round_eq,oT,h1,h2,h4,L,K,H,G,<-Y,l,hs,<-v,<-X,<-P,jb,nY,U,z,ca 13,y,<-O,M,N,c1,c2]⟩
   .exact⟨g,_,ds,cl,_,os,jR,rs,sq,_,fl,Wf,F,by rw[hT];simp(disch:=omega)[round_eq,oT,h1,h2,h4,L,K,H,G,<-Y,l,hs,<-v,<-X,<-P,jb,nY,z,ca 13,y,<-O,M,N,c1,c2]⟩
  .by_cases c2:w2=2
   .exact⟨g,_,ds,cl,_,os,jR,rs,sq,_,fl,Wn,F,by rw[hT];simp(disch:=omega)[round_eq,oT,h1,h2,h4,L,K,H,G,<-Y,l,hs,<-v,<-X,<-P,jb,nY,U,z,ca 13,y,<-O,M,N,c1,c2]⟩
   .exact⟨g,_,ds,cl,_,os,jR,rs,sq,_,fl,Wn,F,by rw[hT];simp(disch:=omega)[round_eq,oT,h1,h2,h4,L,K,H,G,<-Y,l,hs,<-v,<-X,<-P,jb,nY,z,ca 13,y,<-O,M,N,c1,c2]⟩
 .exact⟨g,_,ds,cl,_,os,jR,rs,sq,_,fl,Wf,F,by rw[hT];simp(disch:=omega)[round_eq,oT,h1,h2,h4,L,K,H,G,<-Y,l,hs,<-v,<-X,<-P,jb,nY,z,ca 13,y,z1,z2]⟩
set_option maxHeartbeats 8000000 in
def ais{f0:AV}{k i:Nat}{g:FS}{h:List ze}{ds:List lX}{cl:Nat}{st:ax}{os:List lX}{jR:List nH}{rs sq:ax}{sn:List Bool}{fl:Bool}(W:Ws f0 k (3*i) i (2*i) g h ds cl st os jR rs sq sn)(F:cl<=8)(hk:k<=60)
  {m:List vS} (hm:m.length<=24) (hox:∀x∈m,uy x.op) (hi:i<m.length) (f:Bool) (bs:au) (f2:Bool) (e0:Env) (h1:e0 1 = .b9 f (m.map Uv)) (h2:e0 2 = .b9 f2 (bs.map B)) (h3:e0 3=I 8) (h4:e0 4 = .ptr 0 0 0 0) (M:e0 15 = .own 2 0 0 3) (L:e0 16 = .own 3 0 0 3) (K:e0 17 = .own 4 0 0 3) (H:e0 18 = .own 5 0 0 3)
  {x:vS} (Y:x=m[i]) {c:Nat} (hcc:c=x.c.toNat%3) (hc:c<3) {s:Nat} (z:st[c]? = some s) (hs2:s=1):W9 f0 k (i+1) (round (en.cz 252) [12,13,14,19,20] [(.exit 0,[12,13]),(.ret,[8,10,11])] oT e0 8 [6,7] ([.own 6 0 0 h.length,.own 7 0 0 ds.length,.b9 fl ((mZ rs jR).map Rv),I (cl:Int),I (i:Int)],Pd g h ds st os sq sn)):=by
 have l:=VC x.c;have hlt:=x.c.toNat_lt;rw[<-hcc]at l;have s3:=W.R.s3;have o3:=W.R.o3;have a3:=W.R.a3;have q3:=W.q3;have n3:=W.n3;have r3:=W.r3;have cs:c<st.length:=af
 have co:c<os.length:=af
 have caa:c<jR.length:=af
 have cq:c<sq.length:=af
 have cn:c<sn.length:=af
 have cr:c<rs.length:=af
 have hhl:=W.hl;have Tl:=W.dl;have hs:st[c]=s:=bp ((aD cs).symm.trans z);obtain⟨r,hr⟩:∃r,r=rs[c]:=⟨_,rfl⟩;have E:rs[c]? = some r:=by rw[hr];exact aD cr
 obtain⟨a,WU⟩:∃a,a=jR[c]:=⟨_,rfl⟩;have hac:jR[c]? = some a:=by rw[WU];exact aD caa
 obtain⟨o,y⟩:∃o,o=os[c]:=⟨_,rfl⟩;have Z:os[c]? = some o:=by rw[y];exact aD co
 obtain⟨q,U⟩:∃q,q=sq[c]:=⟨_,rfl⟩;have hqc:sq[c]? = some q:=by rw[U];exact aD cq
 obtain⟨b,X⟩:∃b,b=sn[c]:=⟨_,rfl⟩;have hbc:sn[c]? = some b:=by rw[X];exact aD cn
 have hrl:=W.ql c r E;have hTl:(mZ rs jR).length<=3:=by unfold mZ;have:=oR rs jR 0;have:=oR rs jR 1;have:=oR rs jR 2;simp;omega
 have z2:bin .and (.int .i64 0) (.int .i64 2)=some (.int .i64 0):=rfl;have z1:bin .and (.int .i64 0) (.int .i64 1)=some (.int .i64 0):=rfl;subst hs2;have hqr:=(W.sq c 1 q r z hqc E).1 rfl;have WR:=(W.sn c 1 b z hbc).1 rfl;subst hqr WR
 have A:(st.map λ(s:Nat)=>AV.bool (!decide (s=0))).set c (AV.bool true)=st.map λ(s:Nat)=>AV.bool (!decide (s=0)):=by
  have e:AV.bool true=(st.map λ(s:Nat)=>AV.bool (!decide (s=0)))[c]'(an cs):=by simp[hs]
  rw[e];exact fK _
 have Q:=s13 (n:=252) ah W.R.ok af
 have ho1:=(W.R.oo c 1 o z Z ah)
 obtain⟨g',Q9,Tp,hD3,hD4⟩:=JS W.R.ok af ho1.1
 have hD:=hD4 (n:=168) ah
 obtain⟨a1,S,-⟩:=wq (n:=252) (f:=g) (fl:=fl) (o:=o) ah r3 a3 hc E hac af (r:Int) (.inl rfl)
 obtain⟨-,-,W2⟩:=W.done hc z Z Q9 Tp hD3 E;generalize(Dv o (Fv g)).2=a' at *
 have v:=Fx (n:=252) (fl:=fl) ah r3 a3 hc E hac af ho1.2 hD
 have Wf:=(W2.fin hc (aK af) (aK af) Oz).mono (j':=3*(i+1)) (d':=i+1) (QB:=2*(i+1)) af af af
 have Wn:=W2.mono (j':=3*(i+1)) (d':=i+1) (QB:=2*(i+1)) af af af
 generalize hT:mZ rs jR=T at *
 generalize G:mZ (rs.set c (r+1)) (jR.set c a')=T2 at *
 simp only[Fv,Fc,Sc,Ov,Oc,Av,Ac,aI,aL]at Q S v;push_cast at v
 by_cases hbi:i<bs.length
 .obtain⟨be,P⟩:∃be,be=bs[i]:=⟨_,rfl⟩;have PK:=be.toNat_lt;obtain⟨w2,N⟩:∃w,bin .and (.int .i64 (be.toNat:Int)) (.int .i64 2)=some (.int .i64 w):=⟨_,rfl⟩;obtain⟨w1,O⟩:∃w,bin .and (.int .i64 (be.toNat:Int)) (.int .i64 1)=some (.int .i64 w):=⟨_,rfl⟩
  by_cases c1:w1=0
  .by_cases c2:w2=2
   .exact⟨g',_,_,cl,_,os,_,_,sq,_,false,Wf,F,by rw[G];simp(disch:=omega)[round_eq,oT,h1,h2,h4,M,L,K,H,<-Y,l,hs,<-y,<-U,<-X,jb,nY,S,v,ca 13,Q,<-P,N,O,c1,c2]⟩
   .exact⟨g',_,_,cl,_,os,_,_,sq,_,false,Wf,F,by rw[G];simp(disch:=omega)[round_eq,oT,h1,h2,h4,M,L,K,H,<-Y,l,hs,<-y,<-U,<-X,jb,nY,v,<-P,N,O,c1,c2]⟩
  .by_cases c2:w2=2
   .exact⟨g',_,_,cl,_,os,_,_,sq,_,false,Wn,F,by rw[G];simp(disch:=omega)[round_eq,oT,h1,h2,h4,M,L,K,H,<-Y,l,hs,<-y,<-U,<-X,jb,nY,S,v,ca 13,Q,A,<-P,N,O,c1,c2]⟩
   .exact⟨g',_,_,cl,_,os,_,_,sq,_,false,Wn,F,by rw[G];simp(disch:=omega)[round_eq,oT,h1,h2,h4,M,L,K,H,<-Y,l,hs,<-y,<-U,<-X,jb,nY,v,A,<-P,N,O,c1,c2]⟩
 .exact⟨g',_,_,cl,_,os,_,_,sq,_,false,Wf,F,by rw[G];simp(disch:=omega)[round_eq,oT,h1,h2,h4,M,L,K,H,<-Y,l,hs,<-y,<-U,<-X,jb,nY,v,z1,z2]⟩
end Go.Proofs.YtghgbehknhmnaaaGreatDoor
