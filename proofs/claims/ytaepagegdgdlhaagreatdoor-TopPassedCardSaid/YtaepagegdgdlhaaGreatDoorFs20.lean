/- Part of the proof that TopPassedCard holds. -/
import Derived.Test.YtaepagegdgdlhaaGreatDoorFj20
import Derived.KernelRfl
set_option linter.all false
namespace Go.Proofs.YtaepagegdgdlhaaGreatDoor.X
open Go.Am Go.Am.Nm Go.Lib Go.Cr
def aoY{n:Nat}(hn:133<n)(G:AH)(cl:Cl G.length G)(jN:ay)(lu:List au)(f g:Bool)(hl:jN.length=lu.length)(hg:jN.length<=1000000)(bi id nx:Int)(m:Nat)(l1 l2 cs:List AV)(e0:Env)
  (h2:e0 2 = .jB g (lu.map AV.str)) (h3:e0 3 = .ptr G.length 0 0 0) (h11:e0 11 = .ptr (G.length+2) 0 0 0) (h46:e0 46 = .jB f (jN.map I)) (h47:e0 47 = .int .i64 jN.length) :
  iter (round (jJ.jG n) [12,48] [(.exit 0,[12])] HV e0 (G.length+5) [G.length+4]) ([.own (G.length+4) 0 0 0,.int .i64 0],G++[.var [I bi,I nx,.own (G.length+3) 1 0 m],.var [.int .i64 0,.int .i64 0,.jB true []],.var [I id,.jB false l1,.jB false l2],.row 1 5 cs,.row 0 5 []]) =
   some (.exit 0,[.own (G.length+4) 0 0 jN.length],G++[.var [I bi,I nx,.own (G.length+3) 1 0 m],.var [.int .i64 0,.int .i64 0,.jB true []],.var [I id,.jB false l1,.jB false l2],.row 1 5 cs,.row 0 5 (((jN.zip lu).map λx=>yq bi x.1 id x.2).map Mv)]):=by
 have hz:(jN.zip lu).length=jN.length:=by simp[hl]
 have hnt:=λh0 Y=>qt (G:=G) rfl cl (G.length+5) [G.length+4] aa (λr hr=>by simp only[aM]at hr;omega) h0 Y
 have uv:=lN G
 have:=jU (f:=round (jJ.jG n) [12,48] [(.exit 0,[12])] HV e0 (G.length+5) [G.length+4]) (λi (s:List Mg)=>([.own (G.length+4) 0 0 s.length,.int .i64 (i:Int)],G++[.var [I bi,I nx,.own (G.length+3) 1 0 m],.var [.int .i64 0,.int .i64 0,.jB true []],.var [I id,.jB false l1,.jB false l2],.row 1 5 cs,.row 0 5 (s.map Mv)])) (jN.zip lu)
  (λs x=>s++[yq bi x.1 id x.2]) (λs=>(.exit 0,[.own (G.length+4) 0 0 s.length],G++[.var [I bi,I nx,.own (G.length+3) 1 0 m],.var [.int .i64 0,.int .i64 0,.jB true []],.var [I id,.jB false l1,.jB false l2],.row 1 5 cs,.row 0 5 (s.map Mv)])) (λi s=>s.length=i)
  (λi hi s hs=>by
   have hi':i<jN.length:=aa
   have hi2:i<lu.length:=aa
   refine⟨by simp[hs],?_⟩
   rw[iQ];obtain⟨x,hx⟩:∃x,x=jN[i]:=⟨_,rfl⟩;obtain⟨y,hy⟩:∃y,y=lu[i]:=⟨_,rfl⟩;have OP:=s70 (n:=n) hn bi x id y;simp only[Mv]at OP;rw[<-hx,<-hy];simp(disch:=omega)[round_eq,H6,h2,h3,h11,h46,h47,<-hx,<-hy,OP,hs,Mv,hnt,uv])
  (λs hs=>by
   simp(disch:=omega)[round_eq,H6,h47,hs,hz]) [] rfl
 rw[qK]at this
 simpa[hl]using this
def anN{n:Nat}(hn:134<n)(G:AH)(cl:Cl G.length G)(b:Bo)(jN:ay)(lu:List au)(f g:Bool)(hg:jN.length<=1000000)(hp:lu.length<=1000000)(hc:b.cases.length<=1000000)
  (hi:0<=b.id/\b.id<8) (hx:0<=b.next) (hm:sM jH b jN lu=0) :
  ∃B0 B1 B2:AB,(rQ (G.length+5) B0=true/\rQ (G.length+5) B1=true/\rQ (G.length+5) B2=true)/\(jJ.jG n).h 29 [Bv b,.jB f (jN.map I),.jB g (lu.map AV.str)] G=some (.kT [.agg [I b.id,I (b.next+1),.own (G.length+3) 1 0 (b.cases.length+1)],I (nX jH b jN lu).2.1,.own (G.length+4) 0 0 jN.length,I 0],
   G++[B0,B1,B2,.row 1 5 ((nX jH b jN lu).1.cases.map Cv),.row 0 5 ((nX jH b jN lu).2.2.1.map Mv)]):=by
 have TY:=s66 (n:=134) af b jN lu f g hg hp hc
 have Qs:=λa h=>q67 (n:=134) af a h
 have h41:=λa h=>q68 (n:=134) af a h
 have YO:=λa h=>p69 (n:=134) af a h
 obtain⟨bi,bn,bf,bc⟩:=b;simp only[Bv]at TY hi hx hc⊢;unfold nX;rw[if_pos hm];rw[hm]at TY;obtain⟨q1,q2,qo3,qo4,qo5,qo6⟩:=zL hm;simp only at qo5 qo6;have Ti:(bn+1)*8+bi=8*(bn+1)+bi:=aa
 have ez:(jN.zip lu).length=jN.length:=by simp[q2]
 have hnt:=λh0 Y=>qt (G:=G) rfl cl (G.length+5) [G.length+4] aa (λr hr=>by simp only[aM]at hr;omega) h0 Y
 have uv:=lN G;have hl:=λe0 p2 p3 p11 p46 p47=>aoY (n:=134) af G cl jN lu f g q2 hg bi (8*(bn+1)+bi) (bn+1) (bc.length+1) (jN.map I) (lu.map AV.str) ((bc++[(⟨⟨8*(bn+1)+bi,false,jN,false,lu⟩,false,true,[]⟩:Ca)]).map Cv) e0 p2 p3 p11 p46 p47
 refine⟨.var [I bi,I (bn+1),.own (G.length+3) 1 0 (bc.length+1)],.var [I bi,I (bn+1),.own (G.length+3) 1 0 (bc.length+1)],.var [I (8*(bn+1)+bi),.jB false (jN.map I),.jB false (lu.map AV.str)],⟨by simp[rQ,tV,AV.lT,AV.kZ],by simp[rQ,tV,AV.lT,AV.kZ],by simp[rQ,tV,AV.lT,AV.kZ]⟩,?_⟩
 rw[show (jJ.jG n).h 29 [.agg [I bi,I bn,.jB bf (bc.map Cv)],.jB f (jN.map I),.jB g (lu.map AV.str)] G=rE (jJ.jG 134) c29 [.agg [I bi,I bn,.jB bf (bc.map Cv)],.jB f (jN.map I),.jB g (lu.map AV.str)] G from k8.NM rfl rfl hn _ _,jy]
 simp only[cZ,bF,bQ,Cv]at hl⊢;simp(disch:=omega)[c29,ca 66,TY,Qs,h41,YO,szC,szS,hnt,uv,Ti];rw[hl _ aq aq aq aq aq]
 simp(disch:=omega)
end Go.Proofs.YtaepagegdgdlhaaGreatDoor.X
namespace Go.Proofs.YtaepagegdgdlhaaGreatDoor.F
open Go.Am Go.Am.Nm Go.Tr Go.Lib
open T (lG Bt Tv Nd En I B okB vN mB)
open R
open Y (jK lU mI cnt qA pat kD pU)
def ajP{Γ:kP}(jN:ay)(hg:jN.length<=4)(KR:∀g∈jN,0<=g/\g<4)(path:au)(gf:Bool)(G:AH)(cl:X.Cl G.length G)(e0:Env)(h2:e0 2 = .jB gf (jN.map I))(h3:e0 3 = .str path):
  iter (round Γ [14,15] [(.exit 0,[14]),(.ret,[12])] Rw e0 (G.length+1) [G.length]) ([.own G.length 0 0 0,.int .i64 0],G++[.row 0 1 []])=some (.exit 0,[.own G.length 0 0 jN.length],G++[.row 0 1 ((jN.map λ_=>path).map AV.str)]):=by
 have hnt:=λh0 Y=>X.qt (G:=G) rfl cl (G.length+1) [G.length] aa (λr hr=>by simp only[aM]at hr;omega) h0 Y
 have uv:=lN G
 have:=jU (f:=round Γ [14,15] [(.exit 0,[14]),(.ret,[12])] Rw e0 (G.length+1) [G.length]) (λi (s:List au)=>([.own G.length 0 0 s.length,.int .i64 (i:Int)],G++[.row 0 1 (s.map AV.str)])) jN (λs _=>s++[path]) (λs=>(.exit 0,[.own G.length 0 0 s.length],G++[.row 0 1 (s.map AV.str)])) (λi s=>s.length=i)
  (λi hi s hs=>by
   let⟨a1,a2⟩:=KR _ (aS hi);obtain⟨x,hx⟩:∃x,x=jN[i]:=⟨_,rfl⟩;rw[<-hx]at a1 a2;refine⟨by simp[hs],?_⟩
   have c1:¬x<0:=aa
   have c2:¬3<x:=aa
   simp(disch:=omega)[round_eq,RO,h2,h3,<-hx,c1,c2,hnt,uv])
  (λs hs=>by simp(disch:=omega)[round_eq,RO,h2,hs]) [] rfl
 have hf:∀(l:ay)(s:List au),l.foldl (λs _=>s++[path]) s=s++l.map λ_=>path:=by
  intro l
  induction l with
  |nil=>intro s;simp
  |cons x l ih=>intro s;rw[aT,ih];simp
 rw[hf,bB]at this
 simpa using this
open Go.Am Go.Am.Nm Go.Tr Go.Lib
open T (lG Bt Tv Nd En I B okB vN mB)
open R
open Y (jK lU mI cnt qA pat kD pU)
open Cr (Wd De Pt Ac Inv dn rd pL nj NH mV)
def anx{PS:List au}{w:Wd}(Hi:Inv X.jH X.kr PS w){g:Nat}(hg:g<4):∃(p:Pt) (hp:g<w.ps.length) (dd:Bool×ay) (hd:g<w.did.length),w.ps[g]=p/\w.ps[g]? = some p/\w.did[g]=dd/\dd.2=dn w g/\p.ready.length<=w.jE.length/\dd.2.length<=w.jE.length:=by
 have h1:g<w.ps.length:=by rw[Hi.lp];exact hg
 have h2:g<w.did.length:=by rw[Hi.ld];exact hg
 have hr:=X.Eu Hi g;have e1:w.ps[g]? = some w.ps[g]:=aG h1;have e2:w.did[g]? = some w.did[g]:=aG h2;have e3:=Hi.dq g _ e2;refine⟨w.ps[g],h1,w.did[g],h2,rfl,e1,rfl,e3,?_,?_⟩
 .rw[<-Cr.vV e1];exact hr.1
 .rw[e3];exact hr.2
def ajO{N:Nat}(hN:155<N){PS:List au}{w:Wd}(Hi:Inv X.jH X.kr PS w)(vu:w.jE.length<=1000000){d:De}(hd:d∈w.jE){path:au}(hpa:∀p∈d.lu,p=path)(hp:X.jH path=true)(hc:X.kr path path=true){G:AH}{b u:aA}(H:X.WH G b u w)(N0:Nat)(hN0:N0<G.length)(hG:G[N0] = .var (X.WC b u w))
  (e0:Env) (q2:e0 2 = .jB false (d.jN.map I)) (q3:e0 3 = .str path) (DT:e0 13 = .ptr N0 0 0 0) (KN:e0 17=I d.id) (q22:e0 22=I (pL w d:Nat)) :
  iter (round (jJ.jG N) [23] [(.exit 4,[]),(.ret,[12])] Rt e0 G.length []) ([.int .i64 0],G)=some (.exit 4,[],G):=by
 have hno:=λh0=>X.zH G.length [] h0 (aN _) G 0 H.cl (λr hr=>by cases hr)
 have zW:=H.lt 1 af
 have r1:=(aF.1 H.r1).2;have hb4:=H.lt 4 af
 have r4:=(aF.1 H.r4).2;have Jf:=X.OT (Hi.de d hd);simp only[X.WC]at hG
 by_cases hz:pL w d=0
 .rw[hz]at q22;rw[iter_eq]
  by_cases hl:0<d.jN.length
  .simp(disch:=omega)[round_eq,FF,q2,q22,hl]
  .have hl':d.jN.length=0:=by omega
   simp(disch:=omega)[round_eq,FF,q2,hl']
 .have OD:0<pL w d:=by omega
  obtain⟨g0,hg0⟩:∃g0,d.id∈dn w g0:=by
   apply cT;intro h;exact hz ((Cr.Fe Hi hd).2 λg hg=>h ⟨g,hg⟩)
  exact jU (f:=round (jJ.jG N) [23] [(.exit 4,[]),(.ret,[12])] Rt e0 G.length []) (λi (_:Unit)=>([.int .i64 (i:Int)],G)) d.jN (λs _=>s) (λ_=>(.exit 4,[],G)) (λ_ _=>True)
   (λj hj s _=>by
    refine⟨trivial,?_⟩;have hgm:=aS hj;have h4:=(Hi.de d hd).le _ hgm;obtain⟨g,hg⟩:∃g:Nat,d.jN[j]=(g:Int):=⟨(d.jN[j]).toNat,aa⟩
    rw[hg]at hgm h4;have hg4:g<4:=aa
    let⟨p,wz,dd,aad,ep,ep',ed,edn,hr1,hr2⟩:=anx Hi hg4;have vu:=Cr.O5 Hi hd hg0 hpa hp hc hgm ep';have Bw:=s33 (n:=N) aa dd.2 dd.1 d.id aa
    have WN:=X.s34 (n:=N) aa p path aa
    rw[edn]at Bw
    by_cases c:d.id∈dn w g
    .rw[decide_eq_true c]at Bw;rw[<-edn]at Bw;simp(disch:=omega)[round_eq,FF,q2,DT,KN,q22,OD,hG,hg,r4,aad,ed,X.dv,Bw,hno]
    .have hlk:nj X.jH X.kr p path=true:=vu.resolve_left c;rw[decide_eq_false c]at Bw;rw[<-edn]at Bw;rw[hlk]at WN;simp only[X.Pv]at WN;simp(disch:=omega)[round_eq,FF,q2,q3,DT,KN,q22,OD,hG,hg,r1,r4,wz,ep,aad,ed,X.dv,Bw,X.Pv,WN,hno])
   (λs _=>by
    simp(disch:=omega)[round_eq,FF,q2]) () trivial
open Go.Am Go.Am.Nm Go.Tr Go.Lib
open T (lG Bt Tv Nd En I B okB vN mB)
open R
open Y (jK lU mI cnt qA pat kD pU)
open Cr (Wd De Pt Ac Inv dn rd pL nj NH mV)
structure FOK(f:R.Fd):Prop where
 fl:f.fl=false
 ps:f.ps.length<=1000000
 ls:f.ls.length<=1000
 le:∀x∈f.ls,x.2.length<=1000/\∀q∈x.2,q.jF.length<=1000
def uV(w:Wd)(d:De)(g:Nat):Bool:=decide (d.id∈dn w g)
def Eh(w:Wd)(d:De)(f n:R.Fd):(CK (uV w d) f n).2=pL w d:=by
 unfold CK;rw[Eg];unfold pL uV;simp only[decide_eq_true_eq]
def PE(w:Wd):Option Ac->Wd
 |some x=>NH X.jH X.kr w x
 |none=>mV X.jH X.kr 6 w
abbrev tY(G:AH)(f n:R.Fd)(W:List AV)(m:R.Fd)(X5:AB):AH:=[.var [.jB f.fp (f.ps.map Sh.D),.jB f.fl (f.ls.map Lv),.int .i64 f.next,.int .i64 f.jC],.var [.jB n.fp (n.ps.map Sh.D),.jB n.fl (n.ls.map Lv),.int .i64 n.next,.int .i64 n.jC],.var W,.var (Yz G m),.var (Yz G m),X5,.var (Yz G m)]
set_option maxHeartbeats 4000000 in
def abI{N:Nat}(hN:155<N){PS:List au}{w':Wd}(Hi':Inv X.jH X.kr PS w')(vu:w'.jE.length<=1000000){d:De}(hd:d∈w'.jE){path:au}(hpa:∀p∈d.lu,p=path)(hp:X.jH path=true)(hc:X.kr path path=true)(f n:R.Fd)(hf:FOK f)(hn:FOK n)
  (m0:pL w' d=0->vn (uV w' d) f n=f) (m1:pL w' d=d.jN.length->vn (uV w' d) f n=n)
  {P:AH} {k:Nat} (hk:k<P.length) (cl:X.Cl P.length P) (w:Wd) (h2:AH) (b2 u2:aA) (H2:X.WH h2 b2 u2 w') (F2:X.Fw (X.Hd P k w) (λj=>P.length+j) h2 b2) (i:Nat) (acts:List Ac) (fa:Bool) (hil:i<=acts.length) (hal:acts.length<=60) (hend:i=acts.length->pL w' d=0\/pL w' d=d.jN.length)
  (sV:(∃x,i<acts.length/\acts[i]? = some x/\jM (jJ.jG N) 31 [.agg (X.WC (λj=>P.length+j) (λ_=>0) w),X.Xv x] (X.Hd P k w)=some (.agg (X.WC b2 u2 w'),h2))\/(i=acts.length/\jM (jJ.jG N) 30 [.agg (X.WC (λj=>P.length+j) (λ_=>0) w),I 6] (X.Hd P k w)=some (.agg (X.WC b2 u2 w'),h2)))
  (e0:Env) (q2:e0 2 = .jB false (d.jN.map I)) (q3:e0 3 = .str path) (q5:e0 5 = .jB fa (acts.map X.Xv)) (q6:e0 6 = .kE [.jB f.fp (f.ps.map Sh.D),.jB f.fl (f.ls.map Lv),I f.next,I f.jC]) (q7:e0 7 = .kE [.jB n.fp (n.ps.map Sh.D),.jB n.fl (n.ls.map Lv),I n.next,I n.jC]) (DT:e0 13 = .ptr k 0 0 0) (KN:e0 17=I d.id) :
  lD (jJ.jG N) P.length [(13,0,3),(13,1,3),(13,2,5),(13,3,3),(13,4,1)] [20] [(.exit 2,[]),(.ret,[12])] HX e0 (P.length+5) [P.length,P.length+1,P.length+2,P.length+3,P.length+4] ([I i],X.Hd P k w)=some (.inl ([I (i+1)],X.Hd P k w')):=by
 let⟨k1,k2⟩:=X.aga hk F2;have gb:=X.tv P k w hk;let⟨g1,g2⟩:=aF.1 gb
 have hbk:∀j,j<5->k≠b2 j:=λj hj=>by
  have:=F2.new j hj;rw[X.l9]at this;omega
 have H3:X.WH (h2.set k (.var (X.WC b2 u2 w'))) b2 u2 w':=H2.other k _ hbk (X.mP H2.lt)
 have GA:=s32 (N:=N) aa _ b2 u2 w' H3 Hi'.ld (uV w' d) d.id (λg hg=>by
  have e2:w'.did[g]? = some w'.did[g]:=aG hg;have e3:=Hi'.dq g _ e2;have hr:=X.Eu Hi' g;exact⟨by rw[e3];omega,by rw[e3];rfl⟩) f n hf.ls hn.ls
 rw[Eh]at GA;have Jf:=X.OT (Hi'.de d hd);obtain⟨G,hG⟩:∃G,G=h2.set k (.var (X.WC b2 u2 w')):=⟨_,rfl⟩;have hGl:G.length=h2.length:=by rw[hG];simp
 have oZ:=H3.cl;rw[<-hG]at GA H3 oZ;have hGk:G[k]? = some (.var (X.WC b2 u2 w')):=by rw[hG];exact aZ k1
 have hst:=λT hT e he=>X.aih hk cl H2 F2 T hT e 13 he [20]
 rw[<-hG]at hst;have hkG:k<G.length:=aa
 have Jo:=(aF.1 hGk).2;have hne:0<d.jN.length:=dX.2 (Hi'.de d hd).ne;have akA:¬d.jN.length=0:=aa
 have YK:=hf.fl;have hnf:=hn.fl
 have hcY:∀(m:R.Fd)(X5:AB),X5 = .row 0 2 (m.ls.map Lv)\/X5 = .qa 0 2 (m.ls.map Lv)->X.Cl (G.length+7) (tY G f n (X.WC b2 u2 w') m X5):=λm X5 h5=>by
  have hw:=X.mP (u:=u2) (w:=w') H3.lt;have hw':X.rQ (G.length+7) (.var (X.WC b2 u2 w'))=true:=X.mP λj hj=>by have:=H3.lt j hj;omega
  have hm:X.rQ (G.length+7) (.var (Yz G m))=true:=by simp[X.rQ,X.tV,AV.lT,AV.kZ]
  unfold X.Cl;simp only[bH,dh,hw',hm,dN,eP]
  rcases h5 with rfl | rfl<;>simp[X.rQ,X.tV,AV.lT,AV.kZ]
 have hin:=λ(m:R.Fd)(X5:AB) h5=>ajO hN Hi' vu hd hpa hp hc (H3.app (by rw[aL];exact hcY m X5 h5)) k (by rw[aL];omega) (by rw[gD hkG];exact Jo)
 have aek:=λ(m:R.Fd)(X5:AB) h5=>hst (tY G f n (X.WC b2 u2 w') m X5) (by rw[<-hGl];exact hcY m X5 h5)
 have aer:∀(m:R.Fd)(X5:AB),X5 = .row 0 2 (m.ls.map Lv)\/X5 = .qa 0 2 (m.ls.map Lv)->∀e:Env,head (G++tY G f n (X.WC b2 u2 w') m X5).length [] [23] ⟨e,G++tY G f n (X.WC b2 u2 w') m X5⟩=(sR (G++tY G f n (X.WC b2 u2 w') m X5).length [] (G++tY G f n (X.WC b2 u2 w') m X5) e [23],G++tY G f n (X.WC b2 u2 w') m X5):=λm X5 h5 e=>by
  rw[head_eq,br (aN _),X.zH (G++tY G f n (X.WC b2 u2 w') m X5).length [] _ (aN _) (G++tY G f n (X.WC b2 u2 w') m X5) 0 (H3.app (by rw[aL];exact hcY m X5 h5)).cl (λr hr=>by cases hr)]
 rcases(by omega:pL w' d=0\/pL w' d≠0/\pL w' d=d.jN.length\/pL w' d≠0/\pL w' d≠d.jN.length)with z | ⟨z0,z⟩ | ⟨z0,z⟩
 .rw[m0 z]at GA;have h10:=s10 (n:=N) aa f hf.ps hf.ls hf.le f.fp false
  have hin:=hin f _ (.inr rfl);have hst:=aek f _ (.inr rfl);have YI:=aer f _ (.inr rfl);rw[z]at GA hin;simp only[tY,Yz,Fv,X.WC,X.Xv,X.Xc,X.X8,ct,YK,hnf,aL,aQ,bq,bE,Nat.reduceAdd,cW]at GA h10 hin hst g2 sV Jo k2 hG YI
  rcases sV with⟨x,hi,hx,hca⟩ | ⟨hi,hca⟩
  .have hx':acts[i]=x:=by rw[aG hi]at hx;exact cu hx
   simp(disch:=omega)[-kO,-head_eq,jV,CE,q2,q5,q6,q7,DT,KN,hx',X.Xv,X.Xc,X.X8,g2,k2,hca,<-hG,Jo,GA,a10,h10,YK,hnf,YI];rw[hin _ (by simp(disch:=omega)[q2]) (by simp(disch:=omega)[q3]) (by simp(disch:=omega)[DT]) (by simp(disch:=omega)[KN]) rfl]
   simp(disch:=omega)[-kO,-head_eq];refine X.Bp (hst _ (by simp(disch:=omega)[DT])) λh'=>?_
   simp(disch:=omega)
  .subst hi;simp(disch:=omega)[-kO,-head_eq,jV,CE,q2,q5,q6,q7,DT,KN,g2,k2,hca,<-hG,Jo,GA,a10,h10,YK,hnf,YI];rw[hin _ (by simp(disch:=omega)[q2]) (by simp(disch:=omega)[q3]) (by simp(disch:=omega)[DT]) (by simp(disch:=omega)[KN]) rfl]
   simp(disch:=omega)[-kO,-head_eq];refine X.Bp (hst _ (by simp(disch:=omega)[DT])) λh'=>?_
   simp(disch:=omega)
 .rw[m1 z]at GA;have h10:=s10 (n:=N) aa n hn.ps hn.ls hn.le n.fp false
  have hin:=hin n _ (.inr rfl);have hst:=aek n _ (.inr rfl);have YI:=aer n _ (.inr rfl);rw[z]at GA hin;simp only[tY,Yz,Fv,X.WC,X.Xv,X.Xc,X.X8,ct,YK,hnf,aL,aQ,bq,bE,Nat.reduceAdd]at GA h10 hin hst g2 sV Jo k2 hG YI
  rcases sV with⟨x,hi,hx,hca⟩ | ⟨hi,hca⟩
  .have hx':acts[i]=x:=by rw[aG hi]at hx;exact cu hx
   simp(disch:=omega)[-kO,-head_eq,jV,CE,q2,q5,q6,q7,DT,KN,hx',X.Xv,X.Xc,X.X8,g2,k2,hca,<-hG,Jo,GA,a10,h10,YK,hnf,akA,YI];rw[hin _ (by simp(disch:=omega)[q2]) (by simp(disch:=omega)[q3]) (by simp(disch:=omega)[DT]) (by simp(disch:=omega)[KN]) rfl]
   simp(disch:=omega)[-kO,-head_eq];refine X.Bp (hst _ (by simp(disch:=omega)[DT])) λh'=>?_
   simp(disch:=omega)
  .subst hi;simp(disch:=omega)[-kO,-head_eq,jV,CE,q2,q5,q6,q7,DT,KN,g2,k2,hca,<-hG,Jo,GA,a10,h10,YK,hnf,akA,YI];rw[hin _ (by simp(disch:=omega)[q2]) (by simp(disch:=omega)[q3]) (by simp(disch:=omega)[DT]) (by simp(disch:=omega)[KN]) rfl]
   simp(disch:=omega)[-kO,-head_eq];refine X.Bp (hst _ (by simp(disch:=omega)[DT])) λh'=>?_
   simp(disch:=omega)
 .have hin:=hin (vn (uV w' d) f n) _ (.inl rfl);have hst:=aek (vn (uV w' d) f n) _ (.inl rfl);have YI:=aer (vn (uV w' d) f n) _ (.inl rfl);generalize vn (uV w' d) f n=m at *
  have h10:True:=trivial;simp only[tY,Yz,Fv,X.WC,X.Xv,X.Xc,X.X8,ct,YK,hnf,aL,aQ,bq,bE,Nat.reduceAdd]at GA h10 hin hst g2 sV Jo k2 hG YI
  rcases sV with⟨x,hi,hx,hca⟩ | ⟨hi,hca⟩
  .have hx':acts[i]=x:=by rw[aG hi]at hx;exact cu hx
   simp(disch:=omega)[-kO,-head_eq,jV,CE,q2,q5,q6,q7,DT,KN,hx',X.Xv,X.Xc,X.X8,g2,k2,hca,<-hG,Jo,GA,YK,hnf,YI,z0];rw[hin _ (by simp(disch:=omega)[q2]) (by simp(disch:=omega)[q3]) (by simp(disch:=omega)[DT]) (by simp(disch:=omega)[KN]) rfl]
   simp(disch:=omega)[-kO,-head_eq];refine X.Bp (hst _ (by simp(disch:=omega)[DT])) λh'=>?_
   simp(disch:=omega)
  .rcases hend hi with h | h
   .exact absurd h z0
   .exact absurd h z
open Go.Am Go.Am.Nm Go.Tr Go.Lib
open T (lG Bt Tv Nd En I B okB vN mB)
open R
open Y (jK lU mI cnt qA pat kD pU)
open Cr (Wd De Pt Ac Inv dn rd pL nj NH mV)
def BK{s:au}(h:X.jH s=true):X.kr s s=true:=by
 have:Sh.jO s=true:=by
  unfold X.jH at h;unfold Sh.jO;exact h
 unfold X.kr;rw[Y.FT this];rfl
abbrev TP(path:au):List au:=path::X.PSN
def U9(path:au)(k:Nat):Cr.vW k∈TP path:=bt _ (X.SB k)
def Nt{path:au}(h:X.jH path=true):∀p∈TP path,X.kr p p=true:=by
 intro p hp
 rcases aP.1 hp with rfl | hp
 .exact BK h
 .exact(by decide:∀p∈X.PSN,X.kr p p=true) p hp
def RV(path:au):(TP path).length<=9:=by simp[TP,X.PSN]
def afm{d:De}{w:Wd}(h:d∈w.jE)(x:Ac):d∈(NH X.jH X.kr w x).jE:=by
 have Tq:∀(w:Wd)(m:Cr.Mg),(Cr.v7 X.jH X.kr w m).jE=w.jE:=λw m=>by
  unfold Cr.v7;split
  .rfl
  .split
   .unfold Cr.rm Cr.kf Cr.ng Cr.oQ Cr.kf;split<;>rfl
   .rfl
 unfold NH;split
 .repeat' split
  .unfold Cr.qO;split
   .exact h
   .unfold Cr.qF Cr.kf;dsimp only;split
    .exact cB _ h
    .exact h
  .exact h
  .exact h
  .exact h
  .exact h
  .exact h
  .exact h
  .exact h
  .unfold Cr.mL;split
   .exact h
   .rw[Tq];split
    .exact h
    .exact h
 .exact h
def Uq(w:Wd)(acts:List Ac):Wd:=(acts.map some++[none]).foldl PE w
set_option maxHeartbeats 1000000 in
def ajN{N:Nat}(hN:155<N){d:De}{path:au}(hpa:∀p∈d.lu,p=path)(hp:X.jH path=true)(f n:R.Fd)(hf:FOK f)(hn:FOK n)
  (hm:∀s,Inv X.jH X.kr (TP path) s->d∈s.jE->(pL s d=0->vn (uV s d) f n=f)/\(pL s d=d.jN.length->vn (uV s d) f n=n))
  {P:AH} {k:Nat} (hk:k<P.length) (cl:X.Cl P.length P) (w:Wd) (Hi:Inv X.jH X.kr (TP path) w) (hd:d∈w.jE) (vu:w.jE.length<=1) (acts:List Ac) (fa:Bool) (hal:acts.length<=60) (hax:∀x∈acts,X.XOK x)
  (e0:Env) (q2:e0 2 = .jB false (d.jN.map I)) (q3:e0 3 = .str path) (q5:e0 5 = .jB fa (acts.map X.Xv)) (q6:e0 6 = .kE [.jB f.fp (f.ps.map Sh.D),.jB f.fl (f.ls.map Lv),I f.next,I f.jC]) (q7:e0 7 = .kE [.jB n.fp (n.ps.map Sh.D),.jB n.fl (n.ls.map Lv),I n.next,I n.jC]) (DT:e0 13 = .ptr k 0 0 0) (KN:e0 17=I d.id) :
  iter (lD (jJ.jG N) P.length [(13,0,3),(13,1,3),(13,2,5),(13,3,3),(13,4,1)] [20] [(.exit 2,[]),(.ret,[12])] HX e0 (P.length+5) [P.length,P.length+1,P.length+2,P.length+3,P.length+4]) ([.int .i64 0],X.Hd P k w)=some (.exit 2,[],X.Hd P k (Uq w acts)):=by
 exact jU (f:=lD (jJ.jG N) P.length [(13,0,3),(13,1,3),(13,2,5),(13,3,3),(13,4,1)] [20] [(.exit 2,[]),(.ret,[12])] HX e0 (P.length+5) [P.length,P.length+1,P.length+2,P.length+3,P.length+4]) (λi (s:Wd)=>([.int .i64 (i:Int)],X.Hd P k s)) (acts.map some++[none]) PE (λs=>(.exit 2,[],X.Hd P k s)) (λi s=>Inv X.jH X.kr (TP path) s/\d∈s.jE/\s.jE.length<=i+1)
  (λi hi s hs=>by
   let⟨Hs,hds,ap2⟩:=hs;have hil:i<=acts.length:=by simp at hi;omega
   have H0:=X.F7 (P:=P) (k:=k) s hk cl
   by_cases hia:i<acts.length
   .obtain⟨x,hx⟩:∃x,x=acts[i]:=⟨_,rfl⟩
    have eo:(acts.map some++[none])[i]=some x:=by
     rw[gD (an hia),gw,hx]
    rw[eo];have vY:X.XOK x:=hax x (by rw[hx];exact aS hia)
    have Hs':Inv X.jH X.kr (TP path) (NH X.jH X.kr s x):=Hs.do (U9 path) x
    have OK:=afm hds x;have aad:=X.afn Hs x;refine⟨⟨Hs',OK,by simp only[PE];omega⟩,?_⟩
    let⟨h2,b2,u2,e31,H2,F2⟩:=X.s31 (n:=N) aa Hs aa x vY _ _ _ H0
    let⟨m0,m1⟩:=hm _ Hs' OK;exact abI hN Hs' aa OK hpa hp (BK hp) f n hf hn m0 m1 hk cl s h2 b2 u2 H2 F2 i acts fa hil hal (λe=>aa) (.inl ⟨x,hia,by rw[hx];exact aG hia,e31⟩) e0 q2 q3 q5 q6 q7 DT KN
   .have hie:i=acts.length:=by omega
    have eo:(acts.map some++[none])[i]=none:=by
     rw[iG aj]
     simp[hie]
    rw[eo];have Hs':Inv X.jH X.kr (TP path) (mV X.jH X.kr 6 s):=Hs.calm 6;have hce:=Cr.MS Hs aa (Nt hp) (RV path)
    have OK:d∈(mV X.jH X.kr 6 s).jE:=by rw[hce.2.2.2.1];exact hds
    have aad:(mV X.jH X.kr 6 s).jE.length<=i+1:=by rw[hce.2.2.2.1];exact ap2
    refine⟨⟨Hs',OK,by simp only[PE];omega⟩,?_⟩
    let⟨h2,b2,u2,e30,H2,F2⟩:=X.s30 (n:=N) aa Hs aa 6 af _ _ _ H0
    let⟨m0,m1⟩:=hm _ Hs' OK;exact abI hN Hs' aa OK hpa hp (BK hp) f n hf hn m0 m1 hk cl s h2 b2 u2 H2 F2 i acts fa hil hal (λ_=>Cr.XD Hs aa (Nt hp) (RV path) hds) (.inr ⟨hie,e30⟩) e0 q2 q3 q5 q6 q7 DT KN)
  (λs hs=>by
   have hl:(acts.map some++[none]).length=acts.length+1:=ah
   have hlt:¬(acts.length+1<=acts.length):=aa
   simp only[hl];simp(disch:=omega)[-kO,-head_eq,jV,CE,q5]) w ⟨Hi,hd,aa⟩
open Go.Am Go.Am.Nm Go.Tr Go.Lib
open T (lG Bt Tv Nd En I B okB vN mB)
open R
open Y (jK lU mI cnt qA pat kD pU)
open Cr (Wd De Pt Ac Inv dn rd pL nj NH mV)
def MK{Γ:kP}{V:aB}{ρ:Type}{t k:Nat}{P h:AH}{w:Wd}{e:Env}{keep:ax}{wr:aC}{outs:List (AX×ax)}{c:AC}{k0:AX->St->Option ρ}{r:AX×List AV×AH}{ks:List AV}
  (hl:P.length=h.length) (hk:k<P.length) (cl:X.Cl P.length P) (hf:jX [(t,0,3),(t,1,3),(t,2,5),(t,3,3),(t,4,1)] ⟨e,h⟩=⟨e,X.Hd P k w⟩)
  (hks:sR (P.length+5) [P.length,P.length+1,P.length+2,P.length+3,P.length+4] (X.Hd P k w) e keep=ks)
  (hx:iter (lD Γ P.length [(t,0,3),(t,1,3),(t,2,5),(t,3,3),(t,4,1)] keep outs c ((mj [P.length,P.length+1,P.length+2,P.length+3,P.length+4] e).rj wr) (P.length+5) [P.length,P.length+1,P.length+2,P.length+3,P.length+4]) (ks,X.Hd P k w)=some r) :
  eval Γ (.oR [(t,0,3),(t,1,3),(t,2,5),(t,3,3),(t,4,1)] keep wr [] outs c) V ρ k0 ⟨e,h⟩=mR ((mj [P.length,P.length+1,P.length+2,P.length+3,P.length+4] e).rj wr) k0 r outs:=by
 rw[xu];simp only[jI,rowsOf,dh,if_true,dz,<-hl,hf,X.KZ,head_eq,hks,X.l9,X.Df,X.Dg w hk cl,hx,X4]
def bI:Nat->Nat
 |0=>2
 |1=>3
 |2=>11
 |3=>13
 |_=>4
def HP(k:Nat)(jN:ay)(path:au):De:=⟨8+k,false,jN,false,jN.map λ_=>path⟩
def boW(k:Nat)(jN:ay)(path:au):Cr.Bo:=⟨k,1,false,[⟨HP k jN path,false,true,[]⟩]⟩
def Yx(k:Nat)(jN:ay)(path:au):List Cr.Mg:=(jN.zip (jN.map λ_=>path)).map λx=>Cr.yq k x.1 (8+k) x.2
def wdW(k:Nat)(jN:ay)(path:au):Wd:={Cr.kQ with bs:=Cr.kQ.bs.set k (boW k jN path),jQ:=Yx k jN path,jE:=[HP k jN path]}
def start_eq{k:Nat}{jN:ay}{path:au}(hmay:Cr.sM X.jH ⟨k,0,true,[]⟩ jN (jN.map λ_=>path)=0):Cr.nX X.jH ⟨k,0,true,[]⟩ jN (jN.map λ_=>path)=(boW k jN path,8+(k:Int),Yx k jN path,0):=by
 unfold Cr.nX;rw[if_pos hmay];simp[boW,Yx,HP]
def acs{k:Nat}(hk:k<4){jN:ay}{path:au}(hmay:Cr.sM X.jH ⟨k,0,true,[]⟩ jN (jN.map λ_=>path)=0)(hg:jN.length<=4)(hu:jN.Pairwise (· < ·))(KR:∀g∈jN,0<=g/\g<4):Inv X.jH X.kr (TP path) (wdW k jN path):=by
 have hb:Cr.kQ.bs[k]? = some ⟨k,0,true,[]⟩:=by
  match k,hk with
  |0,_=>rfl
  |1,_=>rfl
  |2,_=>rfl
  |3,_=>rfl
 have H:=(Inv.fresh (jO:=X.jH) (jD:=X.kr) (PS:=TP path)).start hb hu KR (lu:=jN.map λ_=>path) λp hp=>by
  obtain⟨_,_,rfl⟩:=bx.1 hp;exact bu
 have e:Cr.qF X.jH Cr.kQ k ⟨k,0,true,[]⟩ jN (jN.map λ_=>path)=wdW k jN path:=by
  unfold Cr.qF;rw[start_eq hmay,if_pos hmay];have:(Yx k jN path).length<=200:=by simp[Yx];omega
  have e1:Cr.lV [] (Yx k jN path)=Yx k jN path:=by
   unfold Cr.lV;rw[bB,br (an this)]
  unfold Cr.kf wdW;show ({bs:=_,ps:=_,jQ:=Cr.lV [] (Yx k jN path),jE:=_,did:=_}:Wd)=_;rw[e1];rfl
 rw[<-e];exact H
def hW(k:Nat)(jN:ay)(path:au)(B0 B1 B2:AB):AH :=
 [.var [.own 2 0 0 4,.own 3 0 0 4,.jB true [],.jB true [],.own 4 0 0 4],.var [.own 2 0 0 4,.own 3 0 0 4,.jB true [],.jB true [],.own 4 0 0 4],.row 0 3 ((Cr.kQ.bs.map X.Bv).set k (.agg [.int .i64 k,.int .i64 1,.jB false ((boW k jN path).cases.map X.Cv)])),.row 0 3 (Cr.kQ.ps.map X.Pv),.row 0 1 (Cr.kQ.did.map X.dv),.var [.own 2 0 0 4,.own 3 0 0 4,.own 11 0 0 jN.length,.own 13 0 0 1,.own 4 0 0 4],
  .qa 0 1 ((jN.map λ_=>path).map AV.str),B0,B1,B2,.qa 1 5 ((boW k jN path).cases.map X.Cv),.row 0 5 ((Yx k jN path).map X.Mv),.var [X.I k,X.I 1,.own 10 1 0 1],.row 0 3 [.agg [.int .i64 (8+k),.jB false (jN.map I),.jB false ((jN.map λ_=>path).map AV.str)]]]
def ak2(k:Nat)(jN:ay)(path:au)(B0 B1 B2:AB)(h0:X.rQ 12 B0=true)(h1:X.rQ 12 B1=true)(h2:X.rQ 12 B2=true):X.WH (hW k jN path B0 B1 B2) bI (λ_=>0) (wdW k jN path):=by
 have m0:∀ {B:AB},X.rQ 12 B=true->X.rQ 14 B=true:=λ{B} h=>by
  have:=X.Cl.mono (n:=12) (m:=14) (h:=[B]) (by unfold X.Cl;simpa using h) aa
  unfold X.Cl at this
  simpa using this
 refine X.WH.of (λj hj=>?_) (λi j hi hj hne=>?_) ?_
 .match j,hj with
  |0,_ =>
   show some (AB.row 0 3 _)=some (.row 0 3 ((Cr.kQ.bs.set k (boW k jN path)).map X.Bv));rw[dK];rfl
  |1,_=>rfl
  |2,_=>rfl
  |3,_=>rfl
  |4,_=>rfl
 .match i,hi with
  |0,_=>match j,hj with
   |0,_=>exact absurd rfl hne
   |1,_=>decide
   |2,_=>decide
   |3,_=>decide
   |4,_=>decide
  |1,_=>match j,hj with
   |0,_=>decide
   |1,_=>exact absurd rfl hne
   |2,_=>decide
   |3,_=>decide
   |4,_=>decide
  |2,_=>match j,hj with
   |0,_=>decide
   |1,_=>decide
   |2,_=>exact absurd rfl hne
   |3,_=>decide
   |4,_=>decide
  |3,_=>match j,hj with
   |0,_=>decide
   |1,_=>decide
   |2,_=>decide
   |3,_=>exact absurd rfl hne
   |4,_=>decide
  |4,_=>match j,hj with
   |0,_=>decide
   |1,_=>decide
   |2,_=>decide
   |3,_=>decide
   |4,_=>exact absurd rfl hne
 .unfold X.Cl hW;simp only[aQ,bq,bE,Nat.reduceAdd,bH,dh,m0 h0,m0 h1,m0 h2];rfl
set_option maxHeartbeats 4000000 in
def s11{N:Nat}(hN:156<N)(f n:R.Fd)(hf:FOK f)(hn:FOK n)(jN:ay)(hg:jN.length<=4)(hu:jN.Pairwise (· < ·))(KR:∀g∈jN,0<=g/\g<4)(path:au)(hp:X.jH path=true)(fa:Bool)(who:Nat)(hw:who<256)(acts:List Cr.Ac)(hal:acts.length<=60)(hax:∀x∈acts,X.XOK x)
  (hm:∀k s,Inv X.jH X.kr (TP path) s->HP k jN path∈s.jE->(pL s (HP k jN path)=0->vn (uV s (HP k jN path)) f n=f)/\(pL s (HP k jN path)=jN.length->vn (uV s (HP k jN path)) f n=n)) (hmay:Cr.sM X.jH ⟨((who%4:Nat):Int),0,true,[]⟩ jN (jN.map λ_=>path)=0):(jJ.jG N).p 11 [Fv f,Fv n,.jB false (jN.map I),.str path,.int .u8 who,.jB fa (acts.map X.Xv)]=some (.bool true):=by
 rw[p11 hN,jA,jy];have YP:=X.s28 (n:=156) af [] rfl
 simp only[X.OV,bq,bB,bE]at YP;have Jc:(who:Int).tmod 4=((who%4:Nat):Int):=rfl;have hk:who%4<4:=dP _ af
 have hbk:Cr.kQ.bs[who%4]'(by exact hk)=⟨((who%4:Nat):Int),0,true,[]⟩:=by
  generalize who%4=k at hk
  match k,hk with
  |0,_=>rfl
  |1,_=>rfl
  |2,_=>rfl
  |3,_=>rfl
 have yU:Cr.kQ.bs.length=4:=rfl;generalize who%4=k at *
 have cl6:X.Cl (List.length ([.var [.own 2 0 0 4,.own 3 0 0 4,.jB true [],.jB true [],.own 4 0 0 4],.var [.own 2 0 0 4,.own 3 0 0 4,.jB true [],.jB true [],.own 4 0 0 4],.row 0 3 (Cr.kQ.bs.map X.Bv),.row 0 3 (Cr.kQ.ps.map X.Pv),.row 0 1 (Cr.kQ.did.map X.dv),.var [.own 2 0 0 4,.own 3 0 0 4,.jB true [],.jB true [],.own 4 0 0 4]]:AH)) [.var [.own 2 0 0 4,.own 3 0 0 4,.jB true [],.jB true [],.own 4 0 0 4],.var [.own 2 0 0 4,.own 3 0 0 4,.jB true [],.jB true [],.own 4 0 0 4],.row 0 3 (Cr.kQ.bs.map X.Bv),.row 0 3 (Cr.kQ.ps.map X.Pv),.row 0 1 (Cr.kQ.did.map X.dv),.var [.own 2 0 0 4,.own 3 0 0 4,.jB true [],.jB true [],.own 4 0 0 4]]:=rfl
 have h1:=ajP (Γ:=jJ.jG 156) jN hg KR path false _ cl6
 have hst:=X.anN (n:=156) af [.var [.own 2 0 0 4,.own 3 0 0 4,.jB true [],.jB true [],.own 4 0 0 4],.var [.own 2 0 0 4,.own 3 0 0 4,.jB true [],.jB true [],.own 4 0 0 4],.row 0 3 (Cr.kQ.bs.map X.Bv),.row 0 3 (Cr.kQ.ps.map X.Pv),.row 0 1 (Cr.kQ.did.map X.dv),.var [.own 2 0 0 4,.own 3 0 0 4,.jB true [],.jB true [],.own 4 0 0 4],.qa 0 1 ((jN.map λ_=>path).map AV.str)] (by rfl) ⟨(k:Int),0,true,[]⟩ jN (jN.map λ_=>path) false false aa aj ah aj ah hmay
 obtain⟨B0,B1,B2,⟨hB0,hB1,hB2⟩,hst⟩:=hst;have hse:=start_eq hmay;rw[hse]at hst;have HI:=acs hk hmay hg hu KR;simp only[bK,bB,aQ,bq,bE,Nat.reduceAdd,X.Bv,bQ]at h1 hst;obtain⟨lu,Z6⟩:∃lu,lu=jN.map λ_=>path:=⟨_,rfl⟩
 rw[<-Z6]at hst hmay;have wz:lu.length=jN.length:=by rw[Z6];simp
 simp only[<-Z6]at h1;obtain⟨bs,hbs⟩:∃bs,bs=Cr.kQ.bs:=⟨_,rfl⟩;simp only[<-hbs]at YP h1 hst hbk yU;simp(disch:=omega)[-xu,yj,YP];rw[h1 _ aq aq]
 have hkb:k<bs.length:=aa
 have hc1:(boW k jN path).cases.length=1:=rfl;have ht1:((boW k jN path).cases.map X.Cv).take 1=(boW k jN path).cases.map X.Cv:=rfl;simp(disch:=omega)[-xu,Jc,hbk,hst,X.Bv,hc1,ht1];have HW:=ak2 k jN path B0 B1 B2 hB0 hB1 hB2
 obtain⟨P,l0,cl,fr,_,_⟩:=X.C7 13 5 (hW k jN path B0 B1 B2) bI (λ_=>0) (wdW k jN path) HW (by
  show some (AB.var _)=some (.var _);simp[X.WC,bI,wdW,Yx,Cr.kQ])
 have hPl:P.length=14:=l0;have hk5:5<P.length:=by rw[l0];exact(by decide:5<14)
 have hl:=λe0 q2 q3 q5 q6 q7 DT KN=>ajN (N:=156) af (d:=HP k jN path) (path:=path) (λp hp=>by
  obtain⟨_,_,rfl⟩:=bx.1 hp;rfl) hp f n hf hn (hm k) hk5 cl (wdW k jN path) HI bu (aN _) acts fa hal hax e0 q2 q3 q5 q6 q7 DT KN
 have e0:=λ(V:aB)(ρ:Type)(e:Env) k0 he hks hx=>MK (Γ:=jJ.jG 156) (V:=V) (ρ:=ρ) (t:=13) (k0:=k0) (keep:=[20]) (wr:=[(12,12),(20,24),(80,176)]) (outs:=[(.exit 2,[]),(.ret,[12])]) (c:=HX) (ks:=[.int .i64 0]) (e:=e) (r:=(.exit 2,[],X.Hd P 5 (Uq (wdW k jN path) acts))) l0 hk5 cl (fr e he) hks hx
 simp only[hW,<-hbs,<-Z6]at e0;rw[e0 _ _ _ _ aq aq (hl _ (by simp(disch:=omega)[HP]) aq aq aq aq (by simp(disch:=omega)[hPl]) (by simp(disch:=omega)[HP]))]
 simp(disch:=omega)
open Go.Am Go.Am.Nm Go.Tr Go.Lib
open T (lG Bt Tv Nd En I B okB vN mB)
open R
open Y (jK lU mI cnt qA pat kD pU)
open Cr (Wd De Pt Ac Inv dn rd pL nj NH mV)
def mT(a b:Int):ay:=[0,1,2,3].filter λx=>decide (x=a)||decide (x=b)
theorem Jq{a b:Int}(ha:0<=a/\a<=3)(hb:0<=b/\b<=3):Cr.yD (mT a b)=true/\mT a b≠[]/\(mT a b).length<=4/\(mT a b).Pairwise (· < ·)/\∀g∈mT a b,0<=g/\g<4:=by
 have key:∀a b:Fin 4,Cr.yD (mT a.val b.val)=true/\mT a.val b.val≠[]/\(mT a.val b.val).length<=4/\(mT a.val b.val).Pairwise (· < ·)/\∀g∈mT a.val b.val,0<=g/\g<4:=af
 have:=key ⟨a.toNat,aa⟩ ⟨b.toNat,aa⟩
 simp only[iq ha.1,iq hb.1]at this;exact this
theorem WV{a b x:Int}(hx:x=a\/x=b)(h:0<=x/\x<=3):x∈mT a b:=by
 unfold mT;rw[cg];refine⟨?_,by rcases hx with h | h<;>simp[h]⟩
 have:x=0\/x=1\/x=2\/x=3:=aa
 rcases this with h | h | h | h<;>simp[h]
theorem WW{k:Nat}{a b:Int}(ha:0<=a/\a<=3)(hb:0<=b/\b<=3){path:au}(hp:X.jH path=true):Cr.sM X.jH ⟨k,0,true,[]⟩ (mT a b) ((mT a b).map λ_=>path)=0:=by
 let⟨h1,h2,h3,h4,h5⟩:=Jq ha hb;unfold Cr.sM;rw[if_neg (by simp[h2]),if_neg (by simp[h1]),if_neg (by simp[hp])]
 simp
section
variable{l:List Sh.P}{t:Tr.Tree}(h:Md l t){s:au}{g:Int}(he:(kD l s g).2=0)(hn:∀p∈l,p.gr<=3)(hg:0<=g/\g<=3)
include h he hn
omit he in
theorem EG:∀q∈t.nodes,0<=mM l t q/\mM l t q<4:=λq hq=>by
 let⟨k,hk,e1,e2,e3,e4⟩:=EH h.rp h.w hq (h.all q hq);have:=hn _ (aS hk);exact⟨e3,by rw[e2];omega⟩
omit hn in
theorem Kz:Sh.jO s=true/\mI l s<l.length/\mI l s=cnt l s/\(kD l s g).1=pU l (cnt l s) g:=by
 rcases Y.sL l s g with⟨h1,_⟩ | ⟨_,h2,h3,h4,h5,h6⟩
 .exact absurd he h1
 .let⟨q1,q2⟩:=Y.qT h4;have:=Y.ZG h.rp q1;rw[q2]at this;exact⟨h3,aa,this,h6⟩
omit hn in
theorem WX{q:Tr.Node}(hq:q∈t.nodes):mM (kD l s g).1 t q=mM l t q\/(mM l t q=((l[mI l s]?).elim 0 λp=>p.gr)/\mM (kD l s g).1 t q=g):=by
 let⟨h1,h2,h3,h4⟩:=Kz h he;have hp:=(h.move s g).2 q hq;unfold mM;rw[hp,h4,Y.PG aa]
 let⟨k,hk,e1,_⟩:=EH h.rp h.w hq (h.all q hq);rw[e1,eG]
 by_cases c:k=cnt l s
 .right;rw[if_pos c,c,h3];rw[aG aa]
  exact⟨rfl,rfl⟩
 .left;rw[if_neg c]
include hg
theorem LM:∀p∈(kD l s g).1,p.gr<=3:=by
 let⟨h1,h2,h3,h4⟩:=Kz h he;intro p hp;rw[h4]at hp;obtain⟨j,hj,rfl⟩:=dW hp;have:=Y.PG (l:=l) (i:=cnt l s) aa g j
 rw[aG hj]at this
 by_cases c:j=cnt l s
 .rw[if_pos c]at this;rw[cu this];exact hg.2
 .rw[if_neg c]at this;exact hn _ (aR this.symm)
theorem VB(fp rB:Bool)(path:au)(k:Nat)(w:Wd)(Hi:Inv X.jH X.kr (TP path) w){a:Int}(ha:a=((l[mI l s]?).elim 0 λp=>p.gr))(hd:HP k (mT a g) path∈w.jE):
  (pL w (HP k (mT a g) path)=0->vn (uV w (HP k (mT a g) path)) (j6 fp l t) (j6 rB (kD l s g).1 t)=j6 fp l t)/\
  (pL w (HP k (mT a g) path)=(mT a g).length->vn (uV w (HP k (mT a g) path)) (j6 fp l t) (j6 rB (kD l s g).1 t)=j6 rB (kD l s g).1 t):=by
 have n1:=EG h hn;have n2:=EG (h.move s g).1 (LM h he hn hg);have hm:=λ{q}(hq:q∈t.nodes)=>WX (q:=q) h he hq
 let⟨_,h2,_,_⟩:=Kz h he;have ha3:0<=a/\a<=3:=by
  have e:a=(l[mI l s]).gr:=by rw[ha,aG h2];rfl
  have h4:=h.rp.gr _ (aS h2);have h5:=hn _ (aS h2);omega
 rw[<-ha]at hm;have e1:(j6 fp l t).ls=lg (mM l t) t.nodes [0,1,2,3]:=Cf λq hq=>(n1 q hq).2
 have e2:(j6 rB (kD l s g).1 t).ls=lg (mM (kD l s g).1 t) t.nodes [0,1,2,3]:=Cf λq hq=>(n2 q hq).2
 have eL:(CK (uV w (HP k (mT a g) path)) (j6 fp l t) (j6 rB (kD l s g).1 t)).1=CL (uV w (HP k (mT a g) path)) (j6 fp l t).ls (j6 rB (kD l s g).1 t).ls [0,1,2,3]:=by
  unfold CK;rw[Eg,bB]
 constructor
 .intro hz;have hno:=(Cr.Fe Hi hd).1 hz
  have e3:CL (uV w (HP k (mT a g) path)) (j6 fp l t).ls (j6 rB (kD l s g).1 t).ls [0,1,2,3]=(j6 fp l t).ls:=by
   rw[e1];exact VC (λj _=>decide_eq_false (hno j)) _ af _
  unfold vn;rw[Eh,hz,eL,e3];rfl
 .intro hz;have hall:=(Cr.MP Hi hd).1 hz
  have hpos:(mT a g).length≠0:=by
   have:=(Jq ha3 hg).2.1
   simpa using this
  have e3:CL (uV w (HP k (mT a g) path)) (j6 fp l t).ls (j6 rB (kD l s g).1 t).ls [0,1,2,3]=(j6 rB (kD l s g).1 t).ls:=by
   rw[e1,e2];refine LN af λj hj hjd=>?_
   have nd:∀x:Int,x=a\/x=g->0<=x/\x<=3->(j:Int)≠x:=λx hx h3 e=>by
    have:=hall x (WV hx h3);rw[<-e,eG]at this;unfold uV at hjd;rw[decide_eq_true this]at hjd;cases hjd
   exact Vd (nd a (.inl rfl) ha3) (nd g (.inr rfl) hg) λq hq=>hm hq
  unfold vn;rw[Eh,hz,eL,e3,if_neg hpos];rfl
end
theorem fok{l:List Sh.P}{t:Tr.Tree}(h:Md l t)(fp:Bool):FOK (j6 fp l t) where
 fl:=rfl
 ps:=by have:=h.rp.le;show l.length<=1000000;omega
 ls:=(h.ZP fp).len
 le x hx:=by
  refine⟨((h.ZP fp).ls x hx).1,λq hq=>?_⟩
  obtain⟨g,_,rfl,_⟩:=w8 hx;exact(rz h.w.bg aa).jF q (cg.1 hq).1
end Go.Proofs.YtaepagegdgdlhaaGreatDoor.F
namespace Go.Proofs.YtaepagegdgdlhaaGreatDoor
open Go.Am
def NL{Γ Γ':kP}(L:kP.LeA Γ Γ')(a:List AV)(h:AH)(r:AV×AH)(e:Dp Γ a h=some r):Dp Γ' a h=some r:=by
 unfold Dp at e⊢;split at e
 .exact Go.Am.bind_mono e (λ_ hx=>L.call hx) λ_ h=>h
 .cases e
def SL:∀g,(jJ.kd g).mono :=
 Vn (b:=λ_ k=>match k with | .z _=>false | _=>true) (p:=λ_ k=>k.mono) (λ_ k h=>by cases k<;>first | trivial | cases h) (λ_=>trivial) [38] ai ⟨λL=>NL L,trivial⟩
def k4:(k8.Gk 200 jJ 300 232).p 4 []=some (.bool true):=ai
def s4{n:Nat}(hn:168<n):(jJ.jG n).p 4 []=some (.bool true):=by
 have h:=(Iq (N:=200) jJ SL 300 232).p _ _ _ k4;rw[p4 hn];rw[p4 af]at h
 exact h
end Go.Proofs.YtaepagegdgdlhaaGreatDoor
namespace Go.Proofs.YtaepagegdgdlhaaGreatDoor.F
open Go.Am Go.Am.Nm Go.Tr Go.Lib Go.Deep
open T (lG Bt Tv Nd En I B okB vN mB)
open R
open Y (jK lU mI cnt qA pat kD pU)
open Cr (Ac)
def aoX{Γ:kP}(n:R.Fd)(f:R.Fd)(at_:Nat)(p:Sh.P)(hp:f.ps[at_]? = some p)(to t4:Nat)(hto:to<256)(ht4:(to:Int).tmod 4=(t4:Int))(e0:Env)(h3:e0 3 = .int .u8 to)(WS:e0 14 = .ptr 0 0 0 0)(WQ:e0 18=I at_):
  iter (round Γ [20,21] [(.exit 0,[20])] aaT e0 3 [2]) ([.own 2 0 0 0,.int .i64 0],[.var [.jB f.fp (f.ps.map Sh.D),.jB f.fl (f.ls.map Lv),I f.next,I f.jC],.var [.jB n.fp (n.ps.map Sh.D),.jB n.fl (n.ls.map Lv),I n.next,I n.jC],.row 0 1 []])=some (.exit 0,[.own 2 0 0 (mT p.gr (t4:Int)).length],[.var [.jB f.fp (f.ps.map Sh.D),.jB f.fl (f.ls.map Lv),I f.next,I f.jC],.var [.jB n.fp (n.ps.map Sh.D),.jB n.fl (n.ls.map Lv),I n.next,I n.jC],.row 0 1 ((mT p.gr (t4:Int)).map I)]):=by
 let⟨hl,hp'⟩:=aF.1 hp
 have:=jU (f:=round Γ [20,21] [(.exit 0,[20])] aaT e0 3 [2]) (λi (s:ay)=>([.own 2 0 0 s.length,.int .i64 (i:Int)],[.var [.jB f.fp (f.ps.map Sh.D),.jB f.fl (f.ls.map Lv),I f.next,I f.jC],.var [.jB n.fp (n.ps.map Sh.D),.jB n.fl (n.ls.map Lv),I n.next,I n.jC],.row 0 1 (s.map I)])) ([0,1,2,3]:ay) (λs x=>if (decide (x=p.gr)||decide (x=(t4:Int)))=true then s++[x]else s) (λs=>(.exit 0,[.own 2 0 0 s.length],[.var [.jB f.fp (f.ps.map Sh.D),.jB f.fl (f.ls.map Lv),I f.next,I f.jC],.var [.jB n.fp (n.ps.map Sh.D),.jB n.fl (n.ls.map Lv),I n.next,I n.jC],.row 0 1 (s.map I)])) (λi s=>s.length<=i)
  (λi hi s hs=>by
   have hi:i<4:=hi
   have ei:([0,1,2,3]:ay)[i]=(i:Int):=by
    match i,hi with
    |0,_=>rfl
    |1,_=>rfl
    |2,_=>rfl
    |3,_=>rfl
   rw[ei];refine⟨by
    split
    .rw[aL,dM];omega
    .omega,?_⟩
   by_cases c1:(i:Int)=p.gr
   .simp(disch:=omega)[round_eq,TI,WS,WQ,hp',c1]
   .by_cases c2:i=t4
    .simp(disch:=omega)[round_eq,TI,h3,WS,WQ,hp',c2,ht4]
    .simp(disch:=omega)[round_eq,TI,h3,WS,WQ,hp',c1,ht4])
  (λs hs=>by simp[round_eq,TI]) [] (aN _)
 rw[T.fold_filter,bB]at this;exact this
def lp3(g to who:Nat)(hg:g<256)(hto:to<256)(aee:who<256)(L:List Pk)(f fa:Bool)(path:au)(acts:List Ac)(hax:∀x∈acts,X.XOK x):(jJ.jG 232).p 3 [.int .u8 g,.jB f (L.map YU),.str path,.int .u8 to,.int .u8 who,.jB fa (acts.map X.Xv)]=some (.bool true):=by
 rw[p3 af,jA,jy]
 have h4:=s4 (n:=231) af
 have h5:=s5 (n:=231) af L f
 cases KR:Mx L with
 |true =>
  rw[KR]at h5;simp(disch:=omega)[c3,a4,h4,a5,h5]
 |false =>
  rw[KR]at h5;let⟨hL,hLs⟩:=WZ KR
  by_cases cp:1000<path.length
  .simp(disch:=omega)[c3,a4,h4,a5,h5]
  .by_cases cac : 60 < acts.length
   .simp(disch:=omega)[c3,a4,h4,a5,h5]
   .have hg4:(g:Int).tmod 4=((g%4:Nat):Int):=rfl;have ht4:(to:Int).tmod 4=((to%4:Nat):Int):=rfl;have htl:to%4<4:=dP _ af
    have Jf:g%4<4:=dP _ af
    generalize g%4=g4 at *
    generalize to%4=t4 at *
    let⟨fp,l,t,h6,m⟩:=s6 (n:=231) af g4 aa L hLs hL f
    have h7:=s7 (n:=231) af (j6 fp l t) (by have:=m.rp.le;show l.length<=1000000;omega)
    have hps:(j6 fp l t).ps=l:=rfl;rw[hps]at h7;cases hn:l.all λp=>decide (p.gr<=3)with
    |false =>
     rw[hn]at h7;generalize j6 fp l t=F at *
     simp only[Fv]at *
     simp(disch:=omega)[c3,a4,h4,a5,h5,hg4,a6,h6,a7,h7]
    |true =>
     rw[hn]at h7;have hn3:∀p∈l,p.gr<=3:=λp hp=>by simpa using aO.1 hn p hp
     let⟨rB,h8⟩:=s8 (n:=231) af m fp path aa (t4:Int)
     have h9:=Y.s9 (n:=231) af l (by have:=m.rp.le;omega) fp path m.rp.KF
     have ff:=fok m fp
     by_cases ce:(kD l path (t4:Int)).2=0
     .let⟨o1,o2,_,_⟩:=Kz m ce;have asT:=m.rp.gr _ (aS o2);have asU:=hn3 _ (aS o2);obtain⟨a,ha⟩:∃a,a=(l[mI l path]).gr:=⟨_,rfl⟩;have ha':a=((l[mI l path]?).elim 0 λp=>p.gr):=by rw[aG o2,ha];rfl
      have hp':X.jH path=true:=by
       unfold Sh.jO at o1;unfold X.jH;exact o1
      let⟨g1,g2,g3,g5,g6⟩:=Jq (a:=a) (b:=(t4:Int)) aa aa
      have h11:=s11 (N:=231) af (j6 fp l t) (j6 rB (kD l path (t4:Int)).1 t) ff (fok (m.move path t4).1 rB) (mT a t4) g3 g5 g6 path hp' fa who aee acts aa hax (λk s Hi hd=>VB m ce hn3 aa fp rB path k s Hi ha' hd) (WW aa aa hp')
      rw[if_pos ce,ce]at h8;rw[if_pos o1]at h9;have h3:=λe0 q3 q14 q18=>aoX (Γ:=jJ.jG 231) (j6 rB (kD l path (t4:Int)).1 t) (j6 fp l t) (mI l path) (l[mI l path]) (by rw[hps];exact aG o2) to t4 hto ht4 e0 q3 q14 q18
      rw[<-ha]at h3;have hfp:(j6 fp l t).fp=fp:=rfl;generalize j6 rB (kD l path (t4:Int)).1 t=N at *
      generalize j6 fp l t=F at *
      generalize mT a (t4:Int)=jN at *
      generalize mI l path=at_ at *
      subst hps hfp;simp only[Fv]at *
      simp(disch:=omega)[c3,a4,h4,a5,h5,hg4,a6,h6,a7,h7,ht4,a8,h8,a9,h9];rw[h3 _ aq aq aq]
      simp(disch:=omega)[ca 11,h11]
     .have h10:=s10 (n:=231) af (j6 fp l t) ff.ps ff.ls ff.le fp false
      rw[if_neg ce]at h8;have hfl:(j6 fp l t).fl=false:=rfl;have hfp:(j6 fp l t).fp=fp:=rfl;generalize kD l path (t4:Int)=r at *
      generalize j6 fp l t=F at *
      subst hps hfp;simp only[Fv,hfl]at *
      cases hpp:Sh.jO path with
      |true =>
       rw[hpp]at h9;simp(disch:=omega)[c3,a4,h4,a5,h5,hg4,a6,h6,a7,h7,ht4,a8,h8,a9,h9,ce,a10,h10]
      |false =>
       rw[hpp]at h9;simp(disch:=omega)[c3,a4,h4,a5,h5,hg4,a6,h6,a7,h7,ht4,a8,h8,a9,h9,ce,a10,h10]
open Go.Am Go.Am.Nm Go.Tr Go.Lib Go.Deep
open T (lG Bt Tv Nd En I B okB vN mB)
open R
open Cr (Ac)
def wG{c:Int}(h:IntKind.u8.min<=c/\c<=IntKind.u8.max):∃b:UInt8,c=(b.toNat:Int):=by
 let⟨c1,c2⟩:=h;have e1:IntKind.u8.min=0:=rfl;have e2:IntKind.u8.max=255:=rfl;refine⟨UInt8.ofNat c.toNat,?_⟩;rw[UInt8.toNat_ofNat_of_lt' (show c.toNat<2 ^ 8 by omega)]
 omega
def MZ:∀ {l:ay},(∀n∈l,IntKind.u8.min<=n/\n<=IntKind.u8.max)->∃r:au,l.map (AV.int .u8)=r.map B
 | [],_=>⟨[],rfl⟩
 |n::l,h=>by
  let⟨b,hb⟩:=wG (h n bu);let⟨r,h1⟩:=MZ (l:=l) λm hm=>h m (bt _ hm)
  exact⟨b::r,by rw[bF,bF,h1,hb]⟩
def agl{cs:List AV}(h:KK [.i .u8,.i .u8,.i .u8,.i .u8,.i .u8,.i .u8] cs):∃x:Ac,AV.agg cs=X.Xv x/\X.XOK x:=by
 obtain⟨a,r,rfl,h1,h⟩:=h.cons;obtain⟨b,r,rfl,h2,h⟩:=h.cons;obtain⟨c,r,rfl,h3,h⟩:=h.cons;obtain⟨d,r,rfl,h4,h⟩:=h.cons;obtain⟨e,r,rfl,h5,h⟩:=h.cons;obtain⟨g,r,rfl,h6,h⟩:=h.cons;have:=h.nil;subst this;obtain⟨a,rfl,k1⟩:=h1.int;obtain⟨b,rfl,k2⟩:=h2.int;obtain⟨c,rfl,k3⟩:=h3.int;obtain⟨d,rfl,k4⟩:=h4.int;obtain⟨e,rfl,k5⟩:=h5.int;obtain⟨g,rfl,k6⟩:=h6.int;obtain⟨a,rfl⟩:=wG k1;obtain⟨b,rfl⟩:=wG k2;obtain⟨c,rfl⟩:=wG k3;obtain⟨d,rfl⟩:=wG k4;obtain⟨e,rfl⟩:=wG k5;obtain⟨g,rfl⟩:=wG k6
 exact⟨⟨a.toNat,b.toNat,c.toNat,d.toNat,e.toNat,g.toNat⟩,rfl,⟨a.toNat_lt,b.toNat_lt,c.toNat_lt,d.toNat_lt,e.toNat_lt,g.toNat_lt⟩⟩
def Y5{cs:List AV}(h:KK [.i .u8,.i .i64,.i .i64,.s,.s,.i .i64,.i .i64,.i .i64,.l false [.i .u8],.s,.i .i64] cs):∃s:Pk,AV.agg cs=YU s/\True:=by
 obtain⟨a,r,rfl,h1,h⟩:=h.cons;obtain⟨b,r,rfl,h2,h⟩:=h.cons;obtain⟨c,r,rfl,h3,h⟩:=h.cons;obtain⟨d,r,rfl,h4,h⟩:=h.cons;obtain⟨e,r,rfl,h5,h⟩:=h.cons;obtain⟨g,r,rfl,h6,h⟩:=h.cons;obtain⟨i,r,rfl,h7,h⟩:=h.cons;obtain⟨j,r,rfl,h8,h⟩:=h.cons;obtain⟨k,r,rfl,h9,h⟩:=h.cons;obtain⟨m,r,rfl,h10,h⟩:=h.cons;obtain⟨n,r,rfl,h11,h⟩:=h.cons;have:=h.nil;subst this;obtain⟨a,rfl,k1⟩:=h1.int;obtain⟨a,rfl⟩:=wG k1;obtain⟨b,rfl,_⟩:=h2.int;obtain⟨c,rfl,_⟩:=h3.int;obtain⟨d,rfl,_⟩:=h4.str;obtain⟨e,rfl,_⟩:=h5.str
 obtain⟨g,rfl,_⟩:=h6.int;obtain⟨i,rfl,_⟩:=h7.int;obtain⟨j,rfl,_⟩:=h8.int;obtain⟨f,l,rfl,_,hb⟩:=h9.ints;obtain⟨m,rfl,_⟩:=h10.str;obtain⟨n,rfl,_⟩:=h11.int;let⟨q,hq⟩:=MZ hb;rw[hq];exact⟨⟨a,⟨b,c,d,e,g,i,j,f,q⟩,m,n⟩,rfl,trivial⟩
def adO(args:List AV)(h:tZ [(false,[.i .u8]),(false,[.l true [.i .u8,.i .i64,.i .i64,.s,.s,.i .i64,.i .i64,.i .i64,.l false [.i .u8],.s,.i .i64]]),(false,[.s]),(false,[.i .u8]),(false,[.i .u8]),(false,[.l true [.i .u8,.i .u8,.i .u8,.i .u8,.i .u8,.i .u8]])] args):rV (jJ.jG 231) c3 args=some (.bool true):=by
 obtain⟨a,r,rfl,h1,h⟩:=h.inv;obtain⟨b,r,rfl,h2,h⟩:=h.inv;obtain⟨c,r,rfl,h3,h⟩:=h.inv;obtain⟨d,r,rfl,h4,h⟩:=h.inv;obtain⟨e,r,rfl,h5,h⟩:=h.inv;obtain⟨g,r,rfl,h6,h⟩:=h.inv;have:=h.apw;subst this;obtain⟨a,rfl,k1⟩:=h1.one.int;obtain⟨a,rfl⟩:=wG k1;obtain⟨f,L,rfl,_,_⟩:=h2.one.amC YU (λ_=>True) (λ_=>Y5)
 obtain⟨c,rfl,_⟩:=h3.one.str;obtain⟨d,rfl,k4⟩:=h4.one.int;obtain⟨d,rfl⟩:=wG k4;obtain⟨e,rfl,k5⟩:=h5.one.int;obtain⟨e,rfl⟩:=wG k5;obtain⟨fa,l,rfl,_,hx⟩:=h6.one.amC X.Xv X.XOK (λ_=>agl)
 rw[<-p3 (n:=232) af]
 exact lp3 _ _ _ a.toNat_lt d.toNat_lt e.toNat_lt L f fa c l hx
end Go.Proofs.YtaepagegdgdlhaaGreatDoor.F
namespace Go.Proofs.YtaepagegdgdlhaaGreatDoor
def adO(args:List Go.Am.AV)(h:Go.Am.tZ [(false,[.i .u8]),(false,[.l true [.i .u8,.i .i64,.i .i64,.s,.s,.i .i64,.i .i64,.i .i64,.l false [.i .u8],.s,.i .i64]]),(false,[.s]),(false,[.i .u8]),(false,[.i .u8]),(false,[.l true [.i .u8,.i .u8,.i .u8,.i .u8,.i .u8,.i .u8]])] args):Go.Am.rV (jJ.jG 231) c3 args=some (.bool true):=F.adO args h
end Go.Proofs.YtaepagegdgdlhaaGreatDoor
