/- Part of the proof that TopTwoPartsCard holds. -/
import Derived.Test.YtghgbehknhmnaaaGreatDoorSh30g
set_option linter.all false
namespace Go.Proofs.YtghgbehknhmnaaaGreatDoor
open Go.Am Go.Tr Go.Am.Nm Go.Lib
theorem Ql(Γ:jE)(D:DF)(args:List AV):Ae Γ D args=@kW _ _ (D.st args) ⟨eval Γ D.body (λ_=>true) AV (λx s=>match x with
  | .exit _=>none
  | .ny p=>D.fin p s
  |_=>(pV s D.res).bind λv=>(nr s.h v).bind λq=>some q.1)⟩:=rfl
def yE:List (Int×AV):=[(1,.fn (.func 60) [] []),(2,.fn (.func 61) [] []),(3,.fn (.func 62) [] []),(4,.fn (.func 63) [] []),(5,.fn (.func 64) [] []),(6,.fn (.func 65) [] []),(7,.fn (.func 66) [] []),(8,.fn (.func 67) [] []),(9,.fn (.func 68) [] []),(10,.fn (.func 69) [] []),(11,.fn (.func 70) [] []),(12,.fn (.func 71) [] []),(13,.fn (.func 72) [] []),(14,.fn (.func 73) [] []),(15,.fn (.func 74) [] []),(16,.fn (.func 75) [] []),(17,.fn (.func 76) [] [])]
def q25(a b c:AB):(en.cz 155).h 25 [] [a,b,c]=some (.mb 3,[a,b,c,.mp .i64 yE]):=by
 have:(en.cz 155).h 25 [] [a,b,c]=kU (en.cz 147) c25 [] [a,b,c]:=iW.oH rfl rfl ah [] _
 rw[this,b6];simp(disch:=omega)[c25,kQ,yE]
def LP{n:Int}(h:n<1\/17<n):rW yE n=false:=by
 unfold rW;rw[cD.2]
 .rfl
 .intro p b;simp only[yE,bw,gH,or_false]at b
  rcases b with rfl | rfl | rfl | rfl | rfl | rfl | rfl | rfl | rfl | rfl | rfl | rfl | rfl | rfl | rfl | rfl | rfl<;>simp<;>omega
def qJ.mono{K m m':Nat}(h:qJ K m)(i:m<=m'):qJ K m':=λb=>h af
def LO{n:Int}(h1:1<=n)(h2:n<=17):∃K,ko yE n .mj = .fn (.func K) [] []/\rW yE n=true/\qJ K 150:=by
 have b:n=1\/n=2\/n=3\/n=4\/n=5\/n=6\/n=7\/n=8\/n=9\/n=10\/n=11\/n=12\/n=13\/n=14\/n=15\/n=16\/n=17:=af
 rcases b with rfl | rfl | rfl | rfl | rfl | rfl | rfl | rfl | rfl | rfl | rfl | rfl | rfl | rfl | rfl | rfl | rfl
 .exact⟨60,rfl,rfl,s60.mono ah⟩
 .exact⟨61,rfl,rfl,s61.mono ah⟩
 .exact⟨62,rfl,rfl,s62.mono ah⟩
 .exact⟨63,rfl,rfl,s63.mono ah⟩
 .exact⟨64,rfl,rfl,s64.mono ah⟩
 .exact⟨65,rfl,rfl,s65.mono ah⟩
 .exact⟨66,rfl,rfl,s66.mono ah⟩
 .exact⟨67,rfl,rfl,s67.mono ah⟩
 .exact⟨68,rfl,rfl,s68.mono ah⟩
 .exact⟨69,rfl,rfl,s69.mono ah⟩
 .exact⟨70,rfl,rfl,s70.mono ah⟩
 .exact⟨71,rfl,rfl,s71.mono ah⟩
 .exact⟨72,rfl,rfl,s72.mono ah⟩
 .exact⟨73,rfl,rfl,s73.mono ah⟩
 .exact⟨74,rfl,rfl,s74.mono ah⟩
 .exact⟨75,rfl,rfl,s75.mono ah⟩
 .exact⟨76,rfl,rfl,s76.mono ah⟩
def s12{n:Nat}(S:155<n){k:Nat}{f:FS}{o:lX}(L:mF k f)(hk:k<=200)(Q:uy o):∃i l,(en.cz n).p 12 [Fv f,Ov o]=some (.jg [Fv i,Av l])/\mF (k+1) i/\zM l:=by
 generalize h:(en.cz n).p 12 _=res;rw[p12 S,Ql]at h;have q:=DD (n:=155) ah (e:=1) ah
 have G:=DC (n:=155) ah 1
 have E:∃i l,some (AV.jg [Fv f,Av ⟨1,0,0,0,0,[],[]⟩])=some (.jg [Fv i,Av l])/\mF (k+1) i/\zM l:=⟨_,_,rfl,L.up,j7 ..⟩
 by_cases O:1<=o.kind/\o.kind<=17
 case neg =>
  have P:=LP (n:=o.kind) af
  simp(disch:=omega)[d12,Ka,Qp,q25,P,q,Bj,nY,Dm]at h;rw[<-h];exact E
 obtain⟨K,A,z,W⟩:=LO O.1 O.2
 by_cases M:0<=o.client
 case neg =>
  simp(disch:=omega)[d12,Ka,Qp,q25,A,z,M,q,Bj,nY,Dm]at h;rw[<-h];exact E
 by_cases c3:o.client<16
 case neg =>
  simp(disch:=omega)[d12,Ka,Qp,q25,A,z,M,c3,q,Bj,nY,Dm]at h;rw[<-h];exact E
 obtain⟨r,H,N,U⟩:=W (n:=155) ah L hk Q (.var (Fc f)) (.var nY) (.var Dm) (.mp .i64 yE) (by simp[gd,AV.jW]) (by simp[gd,AV.jW,nY]) (by simp[gd,AV.jW,Dm]) (by simp[gd,yE,AV.KM])
 simp only[pJ,Wc,Fc,Sc,Oc,Ac,aK,aL,aN,nY,Dm]at N;simp(disch:=omega)[d12,Ka,Qp,q25,A,z,M,c3,G,Bj,nY,Dm,N]at h
 rcases U with⟨rfl,i,l,x,y,X,Z,Y,rfl,F⟩ | ⟨⟨e,rfl⟩,Y,rfl⟩
 .rcases F with⟨rfl,rfl⟩ | ⟨rfl,b,es,rfl,h1,h2,h3⟩ | ⟨rfl,b,v,rfl,h1⟩
  .simp(disch:=omega)[nY,Dm,yK]at h;exact⟨i,l,h.symm,x,y⟩
  .have T:=(aD.1 h1).1;have hg:=(aD.1 h1).2;simp(disch:=omega)[nY,Dm,yK,hg,h2,h3]at h;exact⟨i,l,h.symm,x,y⟩
  .have T:=(aD.1 h1).1;have hg:=(aD.1 h1).2;simp(disch:=omega)[nY,Dm,yK,hg]at h;exact⟨i,l,h.symm,x,y⟩
 .simp(disch:=omega)[nY,Dm]at h;exact⟨f,⟨e,0,0,0,0,[],[]⟩,h.symm,L.up,j7 ..⟩
section
variable{n:Nat}
def Uz(b:181<n)(e:Int):(en.cz n).p 48 [I e]=some (Av ⟨e,0,0,0,0,[],[]⟩):=by
 rw[pp 48 rfl b rfl,b8,b6];simp(disch:=omega)[c48]
def abY(b:227<n)(q:Tr.Node)(h:q.b7.length<=1000/\q.data.length<=1000000):∃r,(en.cz n).p 101 [Nd q]=some (I r):=by
 rw[pp 101 rfl b rfl,b8,b6]
 by_cases c:q.kind=2
 .exact⟨_,by simp(disch:=omega)[YL,c];rfl⟩
 .exact⟨_,by simp(disch:=omega)[YL,c];rfl⟩
def Km{s:au}(h:iN s=true):s.length<=1000000:=by
 unfold iN at h;simp at h;omega
def Nx{p nm up:au}(i:p.length<=1000000)(h:AM p=some (nm,up)):nm.length<=1000000/\up.length<=1000000:=by
 unfold AM at h;cases hs:Nm.split p with
 |none=>rw[hs]at h;cases h
 |some l =>
  rw[hs]at h;have q:=D8 hs i;obtain⟨-,-,b⟩:=rE hs
  by_cases h0:l=[]
  .simp[h0]at h
  .simp only[if_neg h0,bn,Prod.mk.injEq]at h;obtain⟨rfl,rfl⟩:=h;refine⟨?_,?_⟩
   .have o:l.getLast?.getD []∈l:=by
     rw[List.getLast?_eq_some_getLast h0];exact List.getLast_mem h0
    have:=aM.1 b _ o;have r:=Km this;omega
   .by_cases h1:l.dropLast=[]
    .rw[h1];simp[jn]
    .rw[<-yP h1,List.dropLast_eq_take];exact q.take _
def s93(q:192<n)(t:Tr.Tree)(w:lM t)(p:au)(l:p.length<=1000000):∃d s e,(en.cz n).p 93 [Tv t,.str p]=some (.jg [I d,.str s,I e])/\s.length<=1000000:=by
 have h:=ah1 (n:=192) ah p l
 generalize b:(en.cz n).p 93 _=res;rw[pp 93 rfl q rfl,b8,b6]at b;unfold CE at h;cases hl:AM p with
 |none =>
  rw[hl]at h;simp(disch:=omega)[c93,ca 145,h]at b;exact⟨0,[],60,b.symm,ai⟩
 |some x =>
  obtain⟨nm,up⟩:=x;rw[hl]at h;have i:=Nx l hl;have o:=s92 (n:=192) ah t w up af
  simp only[Tv]at o h;simp(disch:=omega)[c93,ca 145,h,ca 92,o]at b;exact⟨_,nm,_,b.symm,i.1⟩
def ajp(l:List Ho)(hl:l.length<=1000)(i:Int)(e0:Env)(h0:e0 0 = .b9 false (l.map Hv))(h1:e0 1=I i):
  ∃y,(y=(AX.exit 0,[],[])\/y=(AX.ret,[AV.bool true],[]))/\iter (round (en.cz 207) [5] [(.exit 0,[]),(.ret,[4])] xX e0 0 []) ([I 0],[])=some y :=
 iQ (f:=round (en.cz 207) [5] [(.exit 0,[]),(.ret,[4])] xX e0 0 []) l.length (λi (_:Unit)=>([I (i:Int)],[])) (λy=>y=(AX.exit 0,[],[])\/y=(AX.ret,[AV.bool true],[])) (λ_ _=>True)
  (λj _ h _=>by
   obtain⟨x,b⟩:∃x,x=l[j]:=⟨_,rfl⟩
   by_cases c:x.ino=i
   .exact .inr ⟨_,.inr rfl,by simp(disch:=omega)[round_eq,xX,h0,h1,<-b,c]⟩
   .exact .inl ⟨(),trivial,by simp(disch:=omega)[round_eq,xX,h0,h1,<-b,c]⟩)
  (λ_ _=>⟨_,.inl rfl,by simp(disch:=omega)[round_eq,xX,h0]⟩) (aT _) () trivial
def ahC(q:207<n)(l:List Ho)(hl:l.length<=1000)(i:Int):∃b,(en.cz n).p 229 [.b9 false (l.map Hv),I i]=some (.bool b):=by
 generalize h:(en.cz n).p 229 _=res;rw[pp 229 rfl q rfl,b8,b6]at h;simp(disch:=omega)[afk]at h;generalize o:iter _ _=oo at h;obtain⟨_,rfl | rfl,rfl⟩:∃y,_/\oo=some y:=by rw[<-o];exact ajp l hl i _ aq aq
 .simp(disch:=omega)at h;exact⟨false,h.symm⟩
 .simp(disch:=omega)at h;exact⟨true,h.symm⟩
def ajg(t:Tr.Tree)(w:lM t)(l:List Qu)(hl:l.length<=1000)(i:Int)(e0:Env)(h1:e0 1 = .b9 false (l.map Qv))(h3:e0 3 = .iV (Tb t)):
  ∃y,(y=(AX.exit 0,[],[])\/∃r H,y=(AX.ret,[I r],H))/\iter (round (en.cz 209) [7,8] [(.exit 0,[]),(.ret,[6])] tF e0 0 []) ([I i,I 0],[])=some y :=
 iQ (f:=round (en.cz 209) [7,8] [(.exit 0,[]),(.ret,[6])] tF e0 0 []) (t.nodes.length+1) (λj (i:Int)=>([I i,I (j:Int)],[])) (λy=>y=(AX.exit 0,[],[])\/∃r H,y=(AX.ret,[I r],H)) (λ_ _=>True)
  (λj i G _=>by
   have E:=nc w;have x:=E.len;have h:=abI (n:=209) ah l hl false i
   have b:=pT (n:=209) ah t E i
   unfold lq at b;simp only[Tv]at b;generalize F:GA l i=z at *
   by_cases o:0<=z
   .exact .inr ⟨_,.inr ⟨i,_,rfl⟩,by simp(disch:=omega)[round_eq,tF,h1,h3,ca 164,h,o];rfl⟩
   by_cases v:i=1
   .subst v;exact .inr ⟨_,.inr ⟨0,_,rfl⟩,by simp(disch:=omega)[round_eq,tF,h1,h3,ca 164,h,o];rfl⟩
   cases A:find t.nodes i with
   |none =>
    simp only[A,bS,Nd,jo,aN]at b;exact .inl ⟨0,trivial,by simp(disch:=omega)[round_eq,tF,h1,h3,ca 164,h,o,v,ca 100,b]⟩
   |some q =>
    simp only[A,bC,Nd]at b;exact .inl ⟨q.up,trivial,by simp(disch:=omega)[round_eq,tF,h1,h3,ca 164,h,o,v,ca 100,b]⟩)
  (λ_ _=>⟨_,.inl rfl,by simp(disch:=omega)[round_eq,tF,h3]⟩) (aT _) i trivial
def ahn(o:209<n)(t:Tr.Tree)(w:lM t)(l:List Qu)(hl:l.length<=1000)(i:Int):∃r,(en.cz n).p 273 [Tv t,.b9 false (l.map Qv),I i]=some (I r):=by
 generalize b:(en.cz n).p 273 _=res;rw[pp 273 rfl o rfl,b8,b6]at b;simp(disch:=omega)[aeZ]at b;generalize h:iter _ _=oo at b;obtain⟨_,rfl | ⟨r,H,rfl⟩,rfl⟩:∃y,_/\oo=some y:=by rw[<-h];exact ajg t w l hl i _ aq aq
 .simp(disch:=omega)at b;exact⟨0,b.symm⟩
 .simp(disch:=omega)at b;exact⟨r,b.symm⟩
end
end Go.Proofs.YtghgbehknhmnaaaGreatDoor
namespace Go.Tr
structure Rec where
 c:Int
 s:Int
 a:nH
end Go.Tr
namespace Go.Proofs.YtghgbehknhmnaaaGreatDoor
open Go.Am Go.Tr Go.Am.Nm Go.Lib
abbrev Rc(r:Rec):List AV:=.int .i64 r.c :: .int .i64 r.s::Ac r.a
attribute [simp] Rc
@[simp]def Rv(r:Rec):AV:=.agg (Rc r)
@[simp]def agi(a b c d e f g h i j:AV)(l:List AV):Am.shape 9 true (a::b::c::d::e::f::g::h::i::j::l)=some (.agg [a,b,c,d,e,f,g,h,i]):=by simp[Am.shape]
@[simp]def akI(l:List Rec):jw 9 (l.map Rv)=true:=by simp[jw]
section
variable{n:Nat}
end
section
variable{n:Nat}{c:Int}{A M B:List Rec}{f:FS}{fl:Bool}{o:lX}
end
abbrev ze:=Li.Ev lX nH
abbrev Ec(x:ze):List AV:=.int .i64 (if x.vO=true then 1 else 2) :: .int .i64 (x.c:Int)::(Oc x.op++Ac x.PT)
attribute [simp] Ec
@[simp]def Po(x:ze):AV:=.agg (Ec x)
@[simp]def abe(y x a3 a4 a5 a6 a7 a8 a9 b1 v r q o i h b z:AV)(l:List AV):Am.shape 17 true (y::x::a3::a4::a5::a6::a7::a8::a9::b1::v::r::q::o::i::h::b::z::l)=some (.agg [y,x,a3,a4,a5,a6,a7,a8,a9,b1,v,r,q,o,i,h,b]):=by simp[Am.shape]
@[simp]def akv(l:List ze):jw 17 (l.map Po)=true:=by simp[jw]
def KZ{α:Type}{a b:List α}{p:α->α->Bool}(i:∀x y,p x y=true↔x=y):(decide (a.length=b.length)&&(a.zip b).all λx=>p x.1 x.2)=true↔a=b:=by
 induction a generalizing b with
 |nil=>cases b<;>simp
 |cons x a h =>
  cases b with
  |nil=>simp
  |cons y b =>
   have:=h (b:=b);simp only[aF,decide_eq_true_eq]at this;simp only[aS,dZ,bV,aF,decide_eq_true_eq,gG,i,dM];rw[<-this]
   constructor
   .rintro⟨h1,h2,h3⟩;exact⟨h2,h1,h3⟩
   .rintro⟨h1,h2,h3⟩;exact⟨h2,h1,h3⟩
def agb{x y:UInt8}(h:(x.toNat:Int)=(y.toNat:Int)):x=y:=ga.1 af
section
variable{n:Nat}
def s87(i:160<n){a b:au}(q:a.length<=1000000)(l:b.length<=1000000):(en.cz n).p 87 [.b9 false (a.map B),.b9 false (b.map B)]=some (.bool (decide (a=b))):=by
 rw[pp 87 rfl i rfl];refine(eqG (z:=1) (agg:=false) (o:=.bin .neq (.t 19) (.t 23)) (F:=B) (λ_=>rfl) (λ_=>rfl) (λx y=>decide (x=y)) (λx y e h h1 h2=>?_) q l false false).trans ?_
 .by_cases c : x = y
  .simp(disch:=omega)[h1,h2,c]
  .have r:¬(x.toNat:Int)=(y.toNat:Int):=λh=>c (agb h)
   simp(disch:=omega)[h1,h2,c,r]
 .congr 2
  have:=KZ (a:=a) (b:=b) (p:=λx y=>decide (x=y)) ai
  by_cases c:a=b
  .rw[this.2 c];simp[c]
  .simp only[c,decide_false];exact Bool.eq_false_iff.2 λh=>c (this.1 h)
def s38(q:161<n){x y:nH}(o:zM x)(l:zM y):∃r,(en.cz n).p 38 [Av x,Av y]=some (.bool r)/\(r=true↔x=y):=by
 have h1:=s86 (n:=161) ah x.names y.names false false (by have:=o.n;omega) (by have:=l.n;omega)
 have h2:=s87 (n:=161) ah (a:=x.data) (b:=y.data) (by have:=o.d;omega) (by have:=l.d;omega)
 obtain⟨x1,x2,x3,x4,x5,x6,x7⟩:=x;obtain⟨y1,y2,y3,y4,y5,y6,y7⟩:=y;simp only at h1 h2;refine⟨decide (x1=y1/\x2=y2/\x3=y3/\x4=y4/\x5=y5/\x6=y6/\x7=y7),?_,ai⟩
 rw[p38 q,b8,b6]
 by_cases h:x1=y1
 .by_cases i : x2 = y2
  .by_cases c3 : x3 = y3
   .by_cases c4 : x4 = y4
    .by_cases c5 : x5 = y5
     .by_cases c6:x6=y6
      .subst c6;simp(disch:=omega)[RS,ca 86,h1,ca 87,h2,h,i,c3,c4,c5]
      .simp(disch:=omega)[RS,ca 86,h1,h,i,c3,c4,c5,c6]
     .simp(disch:=omega)[RS,h,i,c3,c4,c5]
    .simp(disch:=omega)[RS,h,i,c3,c4]
   .simp(disch:=omega)[RS,h,i,c3]
  .simp(disch:=omega)[RS,h,i]
 .simp(disch:=omega)[RS,h]
end
def KD(es:List (Int×AV))(k:Int)(v:AV)(j:Int)(d:AV):ko (kQ es k v) j d=if k=j then v else ko es j d:=by
 induction es with
 |nil =>
  unfold kQ ko
  by_cases h:k=j<;>simp[h]
 |cons p es b =>
  unfold kQ;unfold ko at b⊢
  by_cases h1:p.1=k
  .rw[if_pos h1]
   by_cases h:k=j
   .simp[h]
   .have:¬p.1=j:=λe=>h (h1.symm.trans e)
    simp[h,this]
  .rw[if_neg h1,eL,eL]
   by_cases h2:p.1=j
   .have:¬k=j:=λe=>h1 (h2.trans e.symm)
    simp[h2,this]
   .simp only[h2,decide_false];exact b
def Mi.norm{es:List (Int×AV)}(h:Mi es)(L:Nat)(R:ax)(H:AH):es.map (λp=>(p.1,kL L R H p.2))=es:=by
 conv=>rhs;rw[<-fA es]
 refine dU λp l=>?_
 obtain⟨v,i⟩:=h p l;obtain⟨a,b⟩:=p;simp only at i;subst i;rfl
abbrev JT:=Li.Ca AV nH
@[simp]def Pr(c:JT):AV:=.agg [.int .i64 (c.b:Int),.int .i64 (c.e.elim (-1) λe=>(e.1:Int))]
@[simp]def akL(l:List JT):jw 2 (l.map Pr)=true:=by simp[jw]
@[simp]theorem Zn(v r a3 a4 a5 a6 a7 a8 a9 b1 q o n l i h b:AV):Am.shape 17 true [v,r,a3,a4,a5,a6,a7,a8,a9,b1,q,o,n,l,i,h,b]=some (.agg [v,r,a3,a4,a5,a6,a7,a8,a9,b1,q,o,n,l,i,h,b]):=rfl
variable(D:lX->AV->AV×nH)
def l34(l:List ze)(hl:l.length<=1000)(S:Li.rk (λ_=>false) l)(U:∀x∈l,x.c<16)(f:Bool)(e0:Env)(h8:e0 8 = .b9 f (l.map Po))(Q:e0 9=I (l.length:Int))(h4:e0 4 = .mb 0):
  ∃y,(∃M,y=(AX.exit 0,[AV.own 1 0 0 (Li.calls D l).cs.length],[AB.mp .i64 M,.row 0 2 ((Li.calls D l).cs.map Pr)]))/\iter (round (en.cz 172) [3,10] [(.exit 0,[3])] Db e0 2 [1]) ([.own 1 0 0 0,I 0],[.mp .i64 [],.row 0 2 []])=some y :=
 iQ (f := round (en.cz 172) [3, 10] [(.exit 0, [3])] Db e0 2 [1]) l.length (λi (M : List (Int × AV)) => ([.own 1 0 0 (Li.calls D (l.take i)).cs.length, I (i : Int)], [AB.mp .i64 M, .row 0 2 ((Li.calls D (l.take i)).cs.map Pr)])) (λy => ∃ M, y = (AX.exit 0, [AV.own 1 0 0 (Li.calls D l).cs.length], [AB.mp .i64 M, .row 0 2 ((Li.calls D l).cs.map Pr)]))
  (λi M=>Mi M/\∀c:Nat,ko M c (I 0)=I ((Li.calls D (l.take i)).last c:Int))
  (λi M N ⟨F,G⟩=>by
   obtain⟨L,K⟩:=Li.SV S N;have W:=Li.Ib (D:=D) N;have E:=(Li.Bv (D:=D) (l.take i)).2;rw[bF]at E;have hk:(Li.calls D (l.take i)).k=i:=by rw[Li.sg,bF];omega
   have z:=Li.Ic (D:=D) K;rw[W];have q:=U _ (aP N);obtain⟨x,H⟩:∃x,x=l[i]:=⟨_,rfl⟩;rw[<-H]at L q⊢;generalize Li.calls D (l.take i)=C at *
   obtain⟨k,cs,la⟩:=C;simp only at hk z E G;subst hk;obtain⟨b,c,o,a⟩:=x;simp only at L q;have Y:=F.j8;cases b with
   |true =>
    have r:=F.put (n:=(c:Int)) (v:=(cs.length:Int));have X:=r.j8;have O:=r.norm 2 [1];left;refine⟨kQ M (c:Int) (I (cs.length:Int)),⟨r,λd=>?_⟩,?_⟩
    .rw[KD];simp only[Li.oZ,if_true]
     by_cases h:d=c
     .rw[h,if_pos rfl,Li.ng]
     .rw[if_neg af,Li.mo _ h];exact G d
    .simp only[Li.oZ,if_true];simp(disch:=omega)[round_eq,Db,h8,Q,h4,<-H,O]
   |false =>
    have A:=z c (an L)
    have P:=G c;have O:=F.norm 2 [1];left;refine⟨M,⟨F,λd=>by simpa[Li.oZ]using G d⟩,?_⟩
    simp only[Li.oZ,aZ,if_false,List.length_modify];rw[Li.rR (aH A),fH];simp(disch:=omega)[round_eq,Db,h8,Q,h4,<-H,P,A,O])
  (λM _=>⟨_,⟨M,rfl⟩,by
   have e:l.take l.length=l:=aO (aV _);rw[e];simp(disch:=omega)[round_eq,Db,Q]⟩) (aT _) [] ⟨(λp T=>by cases T),λc=>rfl⟩
def s34{n:Nat}(q:172<n)(l:List ze)(hl:l.length<=1000)(i:Li.rk (λ_=>false) l)(r:∀x∈l,x.c<16)(f:Bool):(en.cz n).p 34 [.b9 f (l.map Po)]=some (.b9 false ((Li.calls D l).cs.map Pr)):=by
 generalize b:(en.cz n).p 34 _=res;rw[pp 34 rfl q rfl,b8,b6]at b;simp(disch:=omega)[c34]at b;generalize h:iter _ _=o at b;obtain⟨_,⟨M,rfl⟩,rfl⟩:∃y,_/\o=some y:=by rw[<-h];exact l34 D l hl i r f _ aq aq aq
 simp(disch:=omega)at b;exact b.symm
def It{m:Nat}(h:m<18446744073709551616):IntKind.u64.wrap (m:Int)=m:=by
 have:((m:Int))%18446744073709551616=m:=af
 have h1:IntKind.u64.signed=false:=rfl;have h2:IntKind.u64.bits=64:=rfl;simp[IntKind.wrap,h1,h2];omega
def ZU{m:Nat}(h:m<18446744073709551616):(BitVec.ofInt 64 (m:Int)).toNat=m:=by
 rw[BitVec.toNat_ofInt];have:(2:Nat) ^ 64=18446744073709551616:=rfl;rw[this];omega
def Er{i:Nat}(h:i<64):bin .shl (.int .u64 1) (.int .i64 (i:Int))=some (.int .u64 ((2 ^ i:Nat):Int)):=by
 have l:2 ^ i<18446744073709551616:=(Nat.pow_lt_pow_iff_right (by decide:1<2)).2 h
 have b:=It l;have n:min i 64=i:=af
 have:¬(i:Int)<0:=af
 simp only[bin,this,if_false,fE];rw[show IntKind.u64.bits=64 from rfl,n,Int.one_mul,show ((2:Int) ^ i)=((2 ^ i:Nat):Int) by simp,b]
def Ik{m k:Nat}(b:m<18446744073709551616)(hk:k<18446744073709551616):bin .or (.int .u64 (m:Int)) (.int .u64 (k:Int))=some (.int .u64 ((m ||| k:Nat):Int)):=by
 have h:m ||| k<2 ^ 64:=gE b hk;simp only[bin,mA,if_true];rw[show IntKind.u64.bits=64 from rfl,BitVec.toNat_or,ZU b,ZU hk,It h]
def JM{m k:Nat}(b:m<18446744073709551616)(hk:k<18446744073709551616):bin .and (.int .u64 (m:Int)) (.int .u64 (k:Int))=some (.int .u64 ((m &&& k:Nat):Int)):=by
 have h:m &&& k<18446744073709551616:=fu Nat.and_le_left b;simp only[bin,mA,if_true];rw[show IntKind.u64.bits=64 from rfl,BitVec.toNat_and,ZU b,ZU hk,It h]
def Sm{m i:Nat}(h:i<64):bin .shr (.int .u64 (m:Int)) (.int .i64 (i:Int))=some (.int .u64 ((m >>> i:Nat):Int)):=by
 have b:min i 64=i:=af
 have:¬(i:Int)<0:=af
 simp only[bin,this,if_false,fE];rw[show IntKind.u64.bits=64 from rfl,b,Nat.shiftRight_eq_div_pow,show ((2:Int) ^ i)=((2 ^ i:Nat):Int) by simp]
 rw[Int.fdiv_eq_ediv_of_nonneg _ (show (0:Int)<=((2 ^ i:Nat):Int)from Int.natCast_nonneg _)]
 simp
def Sr{m k:Nat}(b:m<18446744073709551616)(hk:k<18446744073709551616):∃r:Nat,bin .andNot (.int .u64 (m:Int)) (.int .u64 (k:Int))=some (.int .u64 (r:Int))/\(r=0↔∀j,m.testBit j=true->k.testBit j=true):=by
 refine⟨(BitVec.ofInt 64 (m:Int) &&& ~~~ (BitVec.ofInt 64 (k:Int))).toNat,?_,?_⟩
 .simp only[bin,mA,if_true];rw[show IntKind.u64.bits=64 from rfl,It (BitVec.isLt _)]
 .have i:∀j,(BitVec.ofInt 64 (m:Int) &&& ~~~ (BitVec.ofInt 64 (k:Int))).toNat.testBit j=(m.testBit j && !k.testBit j):=λj=>by
   rw[BitVec.toNat_and,gU,ZU b,<-BitVec.getLsbD,BitVec.getLsbD_not,BitVec.getLsbD,ZU hk]
   by_cases l:j<64
   .simp[l]
   .have:m.testBit j=false:=Nat.testBit_lt_two_pow (bu (show m<2 ^ 64 from b) (eY ah af))
    simp[this]
  constructor
  .intro h j h1;have:=i j;rw[h,h1]at this
   simpa using this
  .intro h;apply iH;intro j;rw[i j];cases h1:m.testBit j with
   |false=>simp
   |true=>simp[h j h1]
def JL(m i j:Nat):(m ||| 2 ^ i).testBit j=(m.testBit j||decide (i=j)):=by
 rw[gw,Nat.testBit_two_pow]
def Sl(m i:Nat):((m >>> i) &&& 1=1)↔m.testBit i=true:=by
 rw[Nat.testBit,Nat.and_comm];have:1 &&& m >>> i=(m >>> i)%2:=Nat.one_and_eq_mod_two _;rw[this]
 constructor<;>intro h
 .simp[h]
 .have:=gB (m >>> i)
  rcases this with h0 | h0
  .rw[h0]at h;simp at h
  .exact h0
def Ss{m i:Nat}(l:m<18446744073709551616):bin .and (.int .u64 ((m:Int) >>> i)) (.int .u64 1)=some (.int .u64 (if m.testBit i=true then 1 else 0)):=by
 have h:=JM (m:=m >>> i) (k:=1) (by have:=Nat.shiftRight_le m i;omega) ah
 have e:bin .and (.int .u64 ((m:Int) >>> i)) (.int .u64 1)=bin .and (.int .u64 ((m >>> i:Nat):Int)) (.int .u64 ((1:Nat):Int)):=rfl;rw[e,h];have h1:=Sl m i;have h2:(m >>> i) &&& 1=(m >>> i)%2:=Nat.and_one_is_mod _;cases b:m.testBit i with
 |true=>rw[h1.2 b];rfl
 |false =>
  have:(m >>> i) &&& 1=0:=by
   rcases gB (m >>> i)with h0 | h0
   .rw[h2,h0]
   .exact absurd (h1.1 (by rw[h2,h0])) (by rw[b];simp)
  rw[this];rfl
structure BR(n m:Nat)(s:aB):Prop where
 lt:m<2 ^ n
 bit:∀j,m.testBit j=(decide (j<n)&&s j)
def BR.zero(s:aB):BR 0 0 s:=⟨ai,λj=>ai⟩
def xl{n:Nat}(b:n<=60):2 ^ n<=1152921504606846976:=bJ (eY ah b) ah
def BR.u{n m:Nat}{s:aB}(h:BR n m s)(b:n<=60):m<18446744073709551616:=by
 have:=h.lt;have:=xl b;omega
def BR.yes{n m:Nat}{s:aB}(h:BR n m s)(hs:s n=true):BR (n+1) (m ||| 2 ^ n) s:=by
 refine⟨gE (bu h.lt (eY ah af)) (iI ah af),λj=>?_⟩
 rw[JL,h.bit]
 by_cases h1:j<n
 .have:j<n+1:=by omega
  simp[h1,this];omega
 .by_cases h2 : n = j
  .subst h2;simp[hs]
  .have:¬j<n+1:=by omega
   simp[h1,h2,this]
def BR.no{n m:Nat}{s:aB}(h:BR n m s)(hs:s n=false):BR (n+1) m s:=by
 refine⟨bu h.lt (eY ah af),λj=>?_⟩
 rw[h.bit]
 by_cases h1:j<n
 .have:j<n+1:=by omega
  simp[h1,this]
 .by_cases h2 : n = j
  .subst h2;simp[hs]
  .have:¬j<n+1:=by omega
   simp[h1,this]
def Gj(cs:List JT)(j:Nat):Bool:=(cs[j]?).elim false λd=>d.e.isSome
def preB(cs:List JT)(b:Nat)(j:Nat):Bool:=(cs[j]?).elim false λd=>d.e.elim false λe=>decide (e.1<b)
variable{A C:AB}
def adh(cs:List JT)(M:cs.length<=60)(H:gd A=true)(e0:Env)(h6:e0 6 = .ptr 1 0 0 0)(N:e0 7 = .ptr 2 0 0 0)(v:e0 20 = .b9 false (cs.map Pr))(h:e0 21=I (cs.length:Int)):
  ∃y,(∃m,BR cs.length m (Gj cs)/\y=(AX.exit 0,[],[A,AB.var [.b9 false (cs.map Pr)],.var [.int .u64 (m:Int)]]))/\iter (round (en.cz 173) [22] [(.exit 0,[])] De e0 3 []) ([I 0],[A,.var [.b9 false (cs.map Pr)],.var [.int .u64 0]])=some y :=
 iQ (f:=round (en.cz 173) [22] [(.exit 0,[])] De e0 3 []) cs.length (λi (m:Nat)=>([I (i:Int)],[A,AB.var [.b9 false (cs.map Pr)],.var [.int .u64 (m:Int)]])) (λy=>∃m,BR cs.length m (Gj cs)/\y=(AX.exit 0,[],[A,AB.var [.b9 false (cs.map Pr)],.var [.int .u64 (m:Int)]])) (λi m=>BR i m (Gj cs))
  (λi m L q=>by
   have G:=lZ H;have K:=q.u af
   have E:=Er (i:=i) af
   have l:=Ik K (show 2 ^ i<18446744073709551616 by have:=xl (n:=i) af;omega)
   rw[show ((2 ^ i:Nat):Int)=(2:Int) ^ i by simp]at l
   have F:Gj cs i=(cs[i]).e.isSome:=by simp[Gj,L]
   obtain⟨x,z⟩:∃x,x=cs[i]:=⟨_,rfl⟩;rw[<-z]at F;obtain⟨r,b,o⟩:=x;left;cases o with
   |none=>exact⟨m,q.no F,by simp(disch:=omega)[round_eq,De,v,h,<-z,G]⟩
   |some o=>exact⟨m ||| 2 ^ i,q.yes F,by simp(disch:=omega)[round_eq,De,N,v,h,<-z,G,E,l]⟩)
  (λm q=>⟨_,⟨m,q,rfl⟩,by
   have G:=lZ H;simp(disch:=omega)[round_eq,De,h]⟩) (aT _) 0 (BR.zero _)
def adg(cs:List JT)(Y:cs.length<=60)(T:gd A=true)(S:gd C=true)(i:Nat)(X:i<cs.length)(ci:JT)(Z:cs[i]=ci)(bf:ax)(hbf:bf.length=cs.length)(h0:bf[i]=0)(e0:Env)(h6:e0 6 = .ptr 1 0 0 0)(Q:e0 10 = .ptr 4 0 0 0)(P:e0 11=I (i:Int))(F:e0 12 = .ptr 5 0 0 0)(z:e0 45 = .b9 false (cs.map Pr))(l:e0 46=I (cs.length:Int)):
  ∃y,(∃m,BR cs.length m (preB cs ci.b)/\y=(AX.exit 4,[],[A,AB.var [.b9 false (cs.map Pr)],C,.row 0 1 ((bf.set i m).map λ(m:Nat)=>AV.int .u64 (m:Int)),.var [.own 3 0 0 cs.length],.var (Pr ci).cells]))/\
   iter (round (en.cz 173) [47] [(.exit 4,[])] BC e0 6 []) ([I 0],[A,.var [.b9 false (cs.map Pr)],C,.row 0 1 (bf.map λ(m:Nat)=>AV.int .u64 (m:Int)),.var [.own 3 0 0 cs.length],.var (Pr ci).cells])=some y:=by
 have O:bf.set i 0=bf:=by rw[<-h0];simp
 have:=iQ (f:=round (en.cz 173) [47] [(.exit 4,[])] BC e0 6 []) cs.length (λj (m:Nat)=>([I (j:Int)],[A,AB.var [.b9 false (cs.map Pr)],C,.row 0 1 ((bf.set i m).map λ(m:Nat)=>AV.int .u64 (m:Int)),.var [.own 3 0 0 cs.length],.var (Pr ci).cells])) (λy=>∃m,BR cs.length m (preB cs ci.b)/\y=(AX.exit 4,[],[A,AB.var [.b9 false (cs.map Pr)],C,.row 0 1 ((bf.set i m).map λ(m:Nat)=>AV.int .u64 (m:Int)),.var [.own 3 0 0 cs.length],.var (Pr ci).cells])) (λj m=>BR j m (preB cs ci.b))
  (λj m W q=>by
   have K:=lZ T;have h:=lZ S;have U:=q.u af
   have L:=Er (i:=j) af
   have E:=Ik U (show 2 ^ j<18446744073709551616 by have:=xl (n:=j) af;omega)
   rw[show ((2 ^ j:Nat):Int)=(2:Int) ^ j by simp]at E
   have hs:=q.lt;have H:preB cs ci.b j=(cs[j]).e.elim false λe=>decide (e.1<ci.b):=by simp[preB,W]
   obtain⟨x,G⟩:∃x,x=cs[j]:=⟨_,rfl⟩;rw[<-G]at H;obtain⟨r,b,o⟩:=x;have M:i<bf.length:=af
   have N:∀v:AV,((bf.map λ(m:Nat)=>AV.int .u64 (m:Int)).set i v)[i]? = some v:=λv=>aR (an M)
   left;cases o with
   |none=>exact⟨m,q.no H,by simp(disch:=omega)[round_eq,BC,z,l,<-G,K,h]⟩
   |some o =>
    by_cases c:o.1<ci.b
    .exact⟨m ||| 2 ^ j,q.yes (by simpa[c]using H),by simp(disch:=omega)[round_eq,BC,Q,P,F,z,l,<-G,K,h,X,L,E,N]⟩
    .exact⟨m,q.no (by simpa[c]using H),by simp(disch:=omega)[round_eq,BC,F,z,l,<-G,K,h]⟩)
  (λm q=>⟨_,⟨m,q,rfl⟩,by
   have K:=lZ T;have h:=lZ S;simp(disch:=omega)[round_eq,BC,l]⟩) (aT _) 0 (BR.zero _)
 simp only[O]at this;exact this
abbrev Un(m:Nat):AV:=.int .u64 (m:Int)
def adf(cs:List JT)(L:cs.length<=60)(O:gd A=true)(N:gd C=true)(e0:Env)(h6:e0 6 = .ptr 1 0 0 0)(Q:e0 10 = .ptr 4 0 0 0)(P:e0 38 = .b9 false (cs.map Pr))(z:e0 39=I (cs.length:Int)):
  ∃y,(∃bf:ax,bf.length=cs.length/\(∀(k:Nat)(c:JT),cs[k]? = some c->∃m,bf[k]? = some m/\BR cs.length m (preB cs c.b))/\y=(AX.exit 2,[],[A,AB.var [.b9 false (cs.map Pr)],C,.row 0 1 (bf.map Un),.var [.own 3 0 0 cs.length]]))/\
   iter (round (en.cz 173) [40] [(.exit 2,[])] Dd e0 5 []) ([I 0],[A,.var [.b9 false (cs.map Pr)],C,.row 0 1 (List.replicate cs.length (.int .u64 0)),.var [.own 3 0 0 cs.length]])=some y:=by
 have := iQ (f := round (en.cz 173) [40] [(.exit 2, [])] Dd e0 5 []) cs.length (λi (bf : ax) => ([I (i : Int)], [A, AB.var [.b9 false (cs.map Pr)], C, .row 0 1 (bf.map Un), .var [.own 3 0 0 cs.length]])) (λy => ∃ bf : ax, bf.length = cs.length /\ (∀ (k : Nat) (c : JT), cs[k]? = some c -> ∃ m, bf[k]? = some m /\ BR cs.length m (preB cs c.b)) /\ y = (AX.exit 2, [], [A, AB.var [.b9 false (cs.map Pr)], C, .row 0 1 (bf.map Un), .var [.own 3 0 0 cs.length]]))
  (λi bf=>bf.length=cs.length/\(∀(k:Nat)(c:JT),k<i->cs[k]? = some c->∃m,bf[k]? = some m/\BR cs.length m (preB cs c.b))/\∀k,i<=k->k<cs.length->bf[k]? = some 0)
  (λi bf K ⟨E,G,F⟩=>by
   have M:=lZ O;have q:=lZ N;obtain⟨ci,n⟩:∃ci,ci=cs[i]:=⟨_,rfl⟩;have x:i<bf.length:=af
   have h0:bf[i]=0:=by
    have:=F i (aV _) K;rw[aH x]at this;exact bB this
   generalize l:round (en.cz 173) [40] [(.exit 2,[])] Dd e0 5 [] _=res;simp(disch:=omega)[round_eq,Dd,h6,P,z,<-n,M,q]at l;generalize S:iter _ _=o at l;obtain⟨_,⟨m,T,rfl⟩,rfl⟩:∃y,_/\o=some y:=by rw[<-S];exact adg cs L O N i K ci n.symm bf E h0 _ (by simp(disch:=omega)[h6]) (by simp(disch:=omega)[Q]) aq aq aq aq
   simp(disch:=omega)[M,q]at l;refine .inl ⟨bf.set i m,⟨by simp[E],λk c hk r=>?_,λk hk H=>?_⟩,by rw[<-l];simp(disch:=omega)⟩
   .by_cases v : k = i
    .subst v;rw[aH K,<-n]at r;cases r;exact⟨m,aR x,T⟩
    .rw[aI (λe=>v e.symm)]
     exact G k c af r
   .rw[aI af]
    exact F k af H)
  (λbf ⟨E,G,F⟩=>⟨_,⟨bf,E,λk c r=>G k c (aD.1 r).1 r,rfl⟩,by
   have M:=lZ O;have q:=lZ N;simp(disch:=omega)[round_eq,Dd,z]⟩) (aT _) (List.replicate cs.length 0) ⟨ai,λk c h=>af,λk _ hk=>by simp[hk]⟩
 rw[List.map_replicate]at this;exact this
open Classical in
noncomputable def Dv(o:lX)(f:AV):AV×nH:=if h:∃r:AV×nH,Ae (en.cz 155) d12 [f,Ov o]=some (.jg [r.1,Av r.2])then h.choose else(f,Az)
def Pg(k:Nat)(st:AV):Prop:=∃g,st=Fv g/\mF k g
def Pg.mono{k m:Nat}{st:AV}(h:Pg k st)(b:k<=m):Pg m st:=by
 obtain⟨g,h1,h2⟩:=h;exact⟨g,h1,h2.mono b⟩
def JS{k:Nat}{f:FS}(F:mF k f)(hk:k<=200){o:lX}(E:uy o):
  ∃h,(Dv o (Fv f)).1=Fv h/\mF (k+1) h/\zM (Dv o (Fv f)).2/\∀ {n:Nat},155<n->(en.cz n).p 12 [Fv f,Ov o]=some (.jg [Fv h,Av (Dv o (Fv f)).2]):=by
 obtain⟨h,K,h1,h2,h3⟩:=s12 (n:=156) ah F hk E
 have y:=λ{n:Nat}(b:155<n)=>p12 b [Fv f,Ov o]
 rw[y ah]at h1
 have hex:∃r:AV×nH,Ae (en.cz 155) d12 [Fv f,Ov o]=some (.jg [r.1,Av r.2]):=⟨(Fv h,K),h1⟩
 have A:Ae (en.cz 155) d12 [Fv f,Ov o]=some (.jg [(Dv o (Fv f)).1,Av (Dv o (Fv f)).2]):=by
  unfold Dv;rw[dif_pos hex];exact hex.choose_spec
 generalize Dv o (Fv f)=r at *
 obtain⟨st,a⟩:=r;have z:=h1.symm.trans A;simp only[bn,AV.jg.injEq,dM,and_true]at z;obtain⟨x,i⟩:=z;simp only[Av,AV.agg.injEq,Ac,dM,AV.b9.injEq,and_true,true_and]at i;obtain⟨-,-,-,-,-,b,v⟩:=i;have b:=congrArg List.length b;have v:=congrArg List.length v;rw[cv,cv]at b v;have l:zM a:=⟨by have:=h3.n;omega,by have:=h3.d;omega⟩
 subst x;refine⟨h,rfl,h2,l,λb=>?_⟩
 rw[y b];exact A
abbrev EN:List AV:=[.ptr 2 0 0 0,.ptr 6 0 0 0,.ptr 1 0 0 0,.ptr 4 0 0 0,.ptr 0 0 0 0,.ptr 7 0 0 0,.ptr 8 0 0 0]
structure Ir where
 f:Bool
 l:List ze
 nd:Nat
 bf:ax
 K:Nat
 cs:List JT
structure Ir.Ok(G:Ir):Prop where
 cs:G.cs=(Li.calls Dv G.l).cs
 n:G.cs.length<=10
 l:G.l.length<=1000
 nd:BR G.cs.length G.nd (Gj G.cs)
 bl:G.bf.length=G.cs.length
 bf:∀(k:Nat)(c:JT),G.cs[k]? = some c->∃m,G.bf[k]? = some m/\BR G.cs.length m (preB G.cs c.b)
 o:∀x∈G.l,x.vO=true->uy x.op
 a:∀x∈G.l,x.vO=false->zM x.PT
 k:G.K<=200
def Y0(G:Ir)(key:Int)(st:AV):Prop:=∀m:Nat,key=(m:Int)->¬Li.vT G.cs st m.testBit
structure Lst(G:Ir)(H:AH)(p:Int×AV)(b:Nat)(w:Nat)(oP:List FS):Prop where
 v:p.2 = .own b w 0 oP.length
 r:H[b]? = some (.row w 10 (oP.map Fv))
 b:9<=b
 d:∀g∈oP,mF G.K g/\Y0 G p.1 (Fv g)
def Odr(H:AH)(q:Nat)(b:Nat):Prop:=(q=0/\H[7]? = some (.var [.b9 true []]))\/∃(v:Nat) (r:ay),9<=b/\H[b]? = some (.row v 1 (r.map I))/\H[7]? = some (.var [.own b v 0 q])/\q<=r.length
structure Tm(G:Ir)(c:Nat)(H:AH)(q:Nat)(es:List (Int×AV))(ob:Nat)(bk:Int->Nat):Prop where
 len:9<=H.length
 h0:H[0]? = some (.var [.b9 G.f (G.l.map Po)])
 h1:H[1]? = some (.var [.b9 false (G.cs.map Pr)])
 h2:H[2]? = some (.var [Un G.nd])
 h3:H[3]? = some (.row 0 1 (G.bf.map Un))
 h4:H[4]? = some (.var [.own 3 0 0 G.cs.length])
 h5:H[5]? = some (.mp .u64 es)
 h6:H[6]? = some (.var [.mb 5])
 h8:H[8]? = some (.var [.fn (.func 35) [] EN])
 st:oE H
 ks:(es.map Prod.fst).Nodup
 ls:∀p∈es,∃w oP,Lst G H p (bk p.1) w oP/\oP.length<=c
 inj:∀p∈es,∀p'∈es,bk p.1=bk p'.1->p.1=p'.1
 od:Odr H q ob
 o9:9<=ob
 ob:∀p∈es,bk p.1≠ob
variable{H i:AH}
def Lst.keep{G:Ir}{p:Int×AV}{b w:Nat}{oP:List FS}(h:Lst G H p b w oP)(hk:∀A,H[b]? = some A->i[b]? = some A):Lst G i p b w oP:=⟨h.v,hk _ h.r,h.b,h.d⟩
def Odr.keep{q b:Nat}(h:Odr H q b)(l:∀A,H[7]? = some A->i[7]? = some A)(n:∀A,H[b]? = some A->i[b]? = some A):Odr i q b:=by
 rcases h with⟨h1,h2⟩ | ⟨v,r,h1,h2,h3,h4⟩
 .exact .inl ⟨h1,l _ h2⟩
 .exact .inr ⟨v,r,h1,n _ h2,l _ h3,h4⟩
section
variable{G:Ir}{c:Nat}{H:AH}{q:Nat}{es:List (Int×AV)}{ob:Nat}{bk:Int->Nat}
def Tm.app(T:Tm G c H q es ob bk){Y:AH}(n:Y.all gd=true):Tm G c (H++Y) q es ob bk:=by
 have hl:=T.len
 have g:∀ {j:Nat} {A:AB},H[j]? = some A->(H++Y)[j]? = some A:=λ{j A} b=>by
  rw[aJ (aD.1 b).1];exact b
 exact⟨ak,g T.h0,g T.h1,g T.h2,g T.h3,g T.h4,g T.h5,g T.h6,g T.h8,tZ T.st n,T.ks,λp i=>by
  obtain⟨w,oP,h,l⟩:=T.ls p i;exact⟨w,oP,h.keep λA=>g,l⟩,T.inj,T.od.keep (λA=>g) (λA=>g),T.o9,T.ob⟩
def Tm.mono(T:Tm G c H q es ob bk){b:Nat}(n:c<=b):Tm G b H q es ob bk:=⟨T.len,T.h0,T.h1,T.h2,T.h3,T.h4,T.h5,T.h6,T.h8,T.st,T.ks,λp i=>by
 obtain⟨w,oP,h,l⟩:=T.ls p i;exact⟨w,oP,h,af⟩,T.inj,T.od,T.o9,T.ob⟩
def Tm.ord(T:Tm G c H q es ob bk){n:AH}(hl:9<=n.length)(hs:oE n)(l:∀(j:Nat) A,j≠7->j≠ob->H[j]? = some A->n[j]? = some A){r i:Nat}(z:9<=i)(o:∀p∈es,bk p.1≠i)(y:Odr n r i):Tm G c n r es i bk:=by
 have h:=T.o9
 exact⟨hl,l _ _ ah af T.h0,l _ _ ah af T.h1,l _ _ ah af T.h2,l _ _ ah af T.h3,l _ _ ah af T.h4,l _ _ ah af T.h5,l _ _ ah af T.h6,l _ _ ah af T.h8,hs,T.ks,λp v=>by
  obtain⟨w,oP,h,x⟩:=T.ls p v;have:=h.b;exact⟨w,oP,h.keep λA=>l _ A af (T.ob p v),x⟩,T.inj,y,z,o⟩
def zz{es:List (Int×AV)}(hk:(es.map Prod.fst).Nodup){k:Int}{v:AV}{p:Int×AV}(b:p∈kQ es k v):p=(k,v)\/(p∈es/\p.1≠k):=by
 induction es with
 |nil=>exact .inl (cr.1 b)
 |cons x es i =>
  rw[bN,dR]at hk;unfold kQ at b
  by_cases h:x.1=k
  .rw[if_pos h]at b
   rcases bw.1 b with rfl | b
   .left;rw[<-h]
   .refine .inr ⟨by simp[b],λe=>hk.1 ?_⟩
    rw[h,<-e];exact List.mem_map_of_mem b
  .rw[if_neg h]at b
   rcases bw.1 b with rfl | b
   .exact .inr ⟨ai,h⟩
   .rcases i hk.2 b with h' | ⟨h1,h2⟩
    .exact .inl h'
    .exact .inr ⟨by simp[h1],h2⟩
def UT{es:List (Int×AV)}(hk:(es.map Prod.fst).Nodup)(k:Int)(v:AV):((kQ es k v).map Prod.fst).Nodup:=by
 induction es with
 |nil=>simp[kQ]
 |cons x es i =>
  have o:=hk;rw[bN,dR]at hk;unfold kQ
  by_cases h:x.1=k
  .rw[if_pos h,bN,dR];rw[h]at hk;exact hk
  .rw[if_neg h,bN,dR];refine⟨λn=>?_,i hk.2⟩
   obtain⟨p,l,b⟩:=cQ.1 n
   rcases zz hk.2 l with rfl | ⟨h1,_⟩
   .exact h b.symm
   .exact hk.1 (by rw[<-b];exact List.mem_map_of_mem h1)
def Tm.los(T:Tm G c H q es ob bk){o:AH}(hl:9<=o.length)(hs:oE o){b':Nat}(i:∀(j:Nat) A,j≠5->j≠b'->H[j]? = some A->o[j]? = some A)(L:9<=b')(r:b'≠ob){key:Int}(y:∀p∈es,p.1≠key->bk p.1≠b'){v':AV}{w:Nat}{oP:List FS}(h5:o[5]? = some (.mp .u64 (kQ es key v')))(K:Lst G o (key,v') b' w oP)(E:oP.length<=c+1):
  ∃z,Tm G (c+1) o q (kQ es key v') ob z:=by
 have F:=T.o9;have l:∀p∈kQ es key v',p=(key,v')\/(p∈es/\p.1≠key):=λp n=>zz T.ks n
 refine⟨λk=>if k=key then b' else bk k,hl,i _ _ ah af T.h0,i _ _ ah af T.h1,i _ _ ah af T.h2,i _ _ ah af T.h3,i _ _ ah af T.h4,h5,i _ _ ah af T.h6,i _ _ ah af T.h8,hs,UT T.ks _ _,λp n=>?_,λp n v x=>?_,T.od.keep (λA=>i 7 A ah af) (λA=>i ob A af λe=>r e.symm),F,λp n=>?_⟩
 .rcases l p n with rfl | ⟨h1,h2⟩
  .simp only[if_true];exact⟨w,oP,K,E⟩
  .simp only[if_neg h2];obtain⟨w,oP,h,E⟩:=T.ls p h1;have:=h.b;exact⟨w,oP,h.keep λA=>i _ A af (y p h1 h2),af⟩
 .rcases l p n with rfl | ⟨h1,h2⟩<;>rcases l v x with rfl | ⟨h3,h4⟩
  .simp
  .simp only[if_true,if_neg h4];exact λe=>absurd e.symm (y v h3 h4)
  .simp only[if_true,if_neg h2];exact λe=>absurd e (y p h1 h2)
  .simp only[if_neg h2,if_neg h4];exact T.inj p h1 v h3
 .rcases l p n with rfl | ⟨h1,h2⟩
  .simp only[if_true];exact r
  .simp only[if_neg h2];exact T.ob p h1
end
variable{X Y:AH}{b n v:Nat}
def US{α:Type}{z w:Nat}{cs:α->List AV}(o:∀x,(cs x).length=z){l:List α}(n:X[b]? = some (.row w z (l.map λx=>.agg (cs x)))):Rd X z (.own b w 0 l.length) cs l:=by
 have r:=(aD.1 n).1;have i:=(aD.1 n).2;refine⟨aq,λk h=>⟨.ptr b w k 0,?_,?_⟩⟩
 .simp(disch:=omega)[i,h]
 .simp(disch:=omega)[i,o]
open Classical in
noncomputable def SO(g x:FS):Bool:=decide ((en.cz 154).p 18 [Fv g,Fv x]=some (.bool true))
def s37(v:154<n){g x:FS}{k:Nat}(hg:mF k g)(l:mF k x)(hk:k<=400)(i:X[b]? = some (.var (Fc g))):eT (en.cz n) 37 [Fv x,.ptr b 0 0 0] X=some (.bool (SO g x),X):=by
 obtain⟨r,h1,-⟩:=s18 (n:=154) ah hg l hk
 have o:SO g x=r:=by
  unfold SO;rw[h1];cases r<;>simp
 rw[o,ph 37 rfl v rfl,b6];have y:=(aD.1 i).1;have h:=(aD.1 i).2;simp only[Fv,Fc,Sc,aK,aL]at h1;simp(disch:=omega)[c37,h,ca 18,h1]
def Uj{g x:FS}{k:Nat}(hg:mF k g)(b:mF k x)(hk:k<=400)(h:SO g x=true):Fv g=Fv x:=by
 obtain⟨r,h1,h2⟩:=s18 (n:=154) ah hg b hk
 unfold SO at h;rw[h1]at h;simp only[bn,AV.bool.injEq,decide_eq_true_eq]at h;exact h2 h
def s36(r:158<n){g:FS}{k:Nat}(hg:mF k g)(hk:k<=400)(A:oE X)(v:X[b]? = some (.var (Fc g))){i:AV}{oP:List FS}(hs:∀x∈oP,mF k x)(hl:oP.length<=1000000000000)(o:Rd X 10 i Fc oP):
  ∃Z,Z.all gd=true/\eT (en.cz n) 36 [i,.fn (.func 37) [] [.ptr b 0 0 0]] X=some (.bool (oP.any (SO g)),X++Z):=by
 obtain⟨Z,y,h⟩:=GB (Γ:=en.cz 157) (z:=10) (cs:=Fc) (λ_=>rfl) hl A o 37 [] [.ptr b 0 0 0] (SO g) λx l=>⟨[],rfl,by rw[cC];exact s37 ah hg (hs x l) hk v⟩
 have h1:eT (en.cz 158) 85 [i,.fn (.func 37) [] [.ptr b 0 0 0]] X=_:=(p85 ah _ _).trans h
 exact⟨Z,y,(ph 36 rfl r rfl _ _).trans (cfG h1)⟩
def pQ(i:oE X)(k:Nat){A:AB}(l:ve X.length A=true):oE (X.set k A):=by
 unfold oE at i⊢;rw[dG];rw[aM]at i⊢;intro b h
 rcases cZ h with h | rfl
 .exact i b h
 .exact l
section
variable{G:Ir}{c:Nat}{H:AH}{q:Nat}{es:List (Int×AV)}{ob:Nat}{bk:Int->Nat}
def Tm.bkl(T:Tm G c H q es ob bk){p:Int×AV}(b:p∈es):bk p.1<H.length:=by
 obtain⟨w,oP,h,-⟩:=T.ls p b;exact(aD.1 h.r).1
def Tm.S2(T:Tm G c H q es ob bk)(i:Y.all gd=true)(x:Int):Tm G c (H.set 7 (.var [.own (H.length+Y.length) 0 0 1])++(Y++[.row 0 1 [I x]])) 1 es (H.length+Y.length) bk:=by
 have hl:=T.len
 have hs:oE (H.set 7 (.var [.own (H.length+Y.length) 0 0 1])++(Y++[.row 0 1 [I x]])):=by
  rw[<-ep _ _ af]
  refine pQ (tZ T.st (by rw[cq,i];rfl)) 7 ?_
  simp[ve,uI]
 refine T.ord ak hs (λj A l _ b=>?_) af (λp h=>by have:=T.bkl h;omega) (.inr ⟨0,[x],af,?_,?_,ai⟩)
 .rw[aJ (by simpa using(aD.1 b).1),aI (λe=>l e.symm)]
  exact b
 .rw[aQ ai]
  simp
 .rw[aJ ak,aR af]
def Tm.S0(T:Tm G c H q es ob bk){r:ay}(l:H[ob]? = some (.row v 1 (r.map I)))(z:q<=r.length)(o:Y.all gd=true)(x:Int):Tm G c ((H.set ob (.row (v+1) 1 ((r.map I).take q++[I x]))++Y).set 7 (.var [.own ob (v+1) 0 (q+1)])) (q+1) es ob bk:=by
 have hl:=T.len;have i:=T.o9;have b:=(aD.1 l).1;refine T.ord ak (pQ (tZ (pQ T.st ob rfl) o) 7 ?_) (λj A y n h=>?_) i T.ob (.inr ⟨v+1,r.take q++[x],i,?_,?_,?_⟩)
 .simp[ve,uI];omega
 .rw[aI (λe=>y e.symm),aJ (by simpa using(aD.1 h).1),aI (λe=>n e.symm)]
  exact h
 .rw[aI af,aJ (an b),aR b]
  simp
 .rw[aR ak]
 .simp;omega
def Tm.pop(T:Tm G c H (q+1) es ob bk){r:ay}(h:H[ob]? = some (.row v 1 (r.map I)))(o:q+1<=r.length):Tm G c (H.set 7 (.var [.own ob v 0 q])) q es ob bk:=by
 have hl:=T.len;have i:=T.o9;have b:=(aD.1 h).1;refine T.ord (an hl) (pQ T.st 7 ?_) (λj A n x l=>?_) i T.ob (.inr ⟨v,r,i,?_,?_,af⟩)
 .simp[ve,uI,b]
 .rw[aI (λe=>n e.symm)]
  exact l
 .rw[aI af]
  exact h
 .rw[aR af]
end
end Go.Proofs.YtghgbehknhmnaaaGreatDoor
