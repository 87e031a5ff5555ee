/- Part of the proof that TopPassedCard holds. -/
import Derived.Test.YtaepagegdgdlhaaGreatDoorWg20
set_option linter.all false
namespace Go.Proofs.YtaepagegdgdlhaaGreatDoor.X
open Go.Am Go.Am.Nm Go.Lib Go.Cr
def WH.wv{h:AH}{b u:aA}{w:Wd}(H:WH h b u w)(j v:Nat)(hj:j<5)(w':Wd)(hs:∀i,i<5->i≠j->yf w' i=yf w i):WH (h.set (b j) (.row v (Az j) (yf w' j))) b (λi=>if i=j then v else u i) w':=by
 refine WH.of (λi hi=>?_) H.ne ?_
 .by_cases e:i=j
  .subst e;rw[aZ (H.lt i hi),if_pos rfl]
  .rw[aJ (H.ne j i hj hi (Ne.symm e)),if_neg e,hs i hi e];exact H.r i hi
 .rw[bL];exact H.cl.set _ rfl
def M5(x:Ac):∀(l:ax)(s:ay×List au×Nat),(l.foldl (BR x) s).1.length<=s.1.length+l.length/\(l.foldl (BR x) s).2.1.length<=s.2.1.length+l.length
 | [],s=>⟨aN _,aN _⟩
 |g::l,s=>by
  rw[aT];have:=M5 x l (BR x s g)
  have h1:(BR x s g).1.length<=s.1.length+1/\(BR x s g).2.1.length<=s.2.1.length+1:=by
   unfold BR;split<;>simp
  simp only[aQ];omega
def M6(x:Ac):(yl x).1.length<=4/\(yl x).2.1.length<=4:=by
 have:=M5 x [0,1,2,3] ([],[],x.to%15+1)
 simpa[yl]using this
set_option maxHeartbeats 2000000 in
def s75{n:Nat}(hn:148<n)(w:Wd)(x:Ac)(hx:XOK x)(h:AH)(b u:aA)(H:WH h b u w)(hw:w.jQ.length<=200)(bo:Bo)(yU:x.who%4<w.bs.length)(Gy:bo=w.bs[x.who%4])(hbc:bo.cases.length<=1000000)(Cm:0<=bo.id/\bo.id<8)(hbn:0<=bo.next)(vu:w.jE.length<=1000000):
  ∃h' b' u',jM (jJ.jG n) 75 [.agg (WC b u w),Xv x] h=some (.agg (WC b' u' (qO jH w x)),h')/\WH h' b' u' (qO jH w x)/\Fw h b h' b':=by
 rw[ph 75 rfl hn rfl,jy];have hl:=H.lt;have hb0:=hl 0 af
 have zW:=hl 1 af
 have xl:=hl 2 af
 have Gz:=hl 3 af
 have hb4:=hl 4 af
 have r0:=(aF.1 H.r0).2;have r3:=(aF.1 H.r3).2;have Gc:((x.who:Int)).tmod 4=((x.who%4:Nat):Int):=Dr _ 4;have afb:((x.to:Int)).tmod 15=((x.to%15:Nat):Int):=Dr _ 15;have YQ:x.to%15<15:=dP _ af
 have aqa:qO jH w x=qF jH w (x.who%4) bo (yl x).1 (yl x).2.1:=by
  unfold qO;rw[aG yU,<-Gy]
 rw[aqa];have aee:=hx.who;have hto:=hx.to
 have cl3:Cl (h++[AB.var (WC b u w),.var [.int .u8 x.op,.int .u8 x.who,.int .u8 x.to,.int .u8 x.a0,.int .u8 x.a1,.int .u8 x.a2],.var [.jB true [],.jB true [],.jB true [],.jB true [],.jB true []]]).length (h++[AB.var (WC b u w),.var [.int .u8 x.op,.int .u8 x.who,.int .u8 x.to,.int .u8 x.a0,.int .u8 x.a1,.int .u8 x.a2],.var [.jB true [],.jB true [],.jB true [],.jB true [],.jB true []]]):=by
  refine(H.cl.mono ah).app ?_
  simp only[Cl,bH,dh,dN,aH];refine⟨mP λj hj=>by have:=hl j hj;simp;omega,?_,?_⟩<;>simp[rQ,tV,AV.lT,AV.kZ]
 have Bx:=l75 (n:=148) af x hx _ cl3 (h.length+1) ah ah
 rw[show (h++[AB.var (WC b u w),.var [.int .u8 x.op,.int .u8 x.who,.int .u8 x.to,.int .u8 x.a0,.int .u8 x.a1,.int .u8 x.a2],.var [.jB true [],.jB true [],.jB true [],.jB true [],.jB true []]]).length=h.length+3 by simp]at Bx
 simp only[cF,bK,bB,cz,Nat.reduceAdd,WC]at Bx;obtain⟨k,hk⟩:∃k,k=x.who%4:=⟨_,rfl⟩;simp only[<-hk]at yU Gy Gc⊢;obtain⟨q,hq⟩:∃q,q=x.to%15:=⟨_,rfl⟩;rw[<-hq]at afb YQ Bx;obtain⟨gl,Jf⟩:∃gl,gl=(yl x).1:=⟨_,rfl⟩;obtain⟨gp,hgp⟩:∃gp,gp=(yl x).2.1:=⟨_,rfl⟩;rw[<-Jf,<-hgp]at Bx⊢;have asW:gl.length<=4:=by rw[Jf];exact(M6 x).1
 have asV:gp.length<=4:=by rw[hgp];exact(M6 x).2
 have h12:=s29 (n:=148) af bo gl gp false false aa aa hbc Cm hbn
 obtain⟨st,hst⟩:∃st,st=nX jH bo gl gp:=⟨_,rfl⟩;rw[<-hst]at h12;obtain⟨fo,hfo⟩:∃fo,fo=decide (sM jH bo gl gp≠0):=⟨_,rfl⟩;rw[<-hfo]at h12;have hnt:=λh0 Y=>qt (G:=h) rfl H.cl (h.length+5) [h.length+3,h.length+4] aa (λr hr=>by simp at hr;omega) h0 Y
 have uv:=lN h;have hq:∀i,i<h.length->¬i=h.length+3/\¬i=h.length+4/\i<h.length+5:=λi hi=>⟨aa,aa,aa⟩
 push_cast at Bx;simp only[Bv]at h12;have n03:¬b 0=b 3:=H.ne 0 3 af af af
 have akn:st.2.2.2=sM jH bo gl gp:=by
  rw[hst];unfold nX
  by_cases c:sM jH bo gl gp=0
  .rw[if_pos c,c]
  .rw[if_neg c]
 have hml:st.2.2.1.length<=1000000:=by
  rw[hst];unfold nX
  by_cases c:sM jH bo gl gp=0
  .rw[if_pos c];simp;omega
  .rw[if_neg c];simp
 obtain⟨Z,hZ⟩:∃Z:AB,Z = .var [AV.jB true [],AV.jB true [],AV.jB true [],AV.jB true [],AV.jB true []]:=⟨_,rfl⟩
 by_cases c0:st.2.2.2=0
 .obtain⟨d,hd⟩:∃d,d=(⟨st.2.1,false,gl,false,gp⟩:De):=⟨_,rfl⟩;obtain⟨W,hW⟩:∃W:Wd,W={w with bs:=w.bs.set k st.1,jE:=w.jE++[d]}:=⟨_,rfl⟩
  have hsw:qF jH w k bo gl gp=kf W st.2.2.1:=by
   unfold qF;rw[<-hst,if_pos (by rw[<-akn];exact c0),hW,hd]
  rw[hsw]
  obtain⟨T,hT⟩:∃T:AH,T=[AB.var [AV.own (b 0) (u 0) 0 w.bs.length,AV.own (b 1) (u 1) 0 w.ps.length,AV.own (b 2) (u 2) 0 w.jQ.length,AV.own (b 3) (u 3+1) 0 (w.jE.length+1),AV.own (b 4) (u 4) 0 w.did.length],
   AB.var [.int .u8 x.op,.int .u8 x.who,.int .u8 x.to,.int .u8 x.a0,.int .u8 x.a1,.int .u8 x.a2],Z,AB.qa 0 1 (gl.map I),AB.qa 0 1 (gp.map AV.str),AB.var [I st.1.id,I st.1.next,AV.jB st.1.fc (st.1.cases.map Cv)]]:=⟨_,rfl⟩
  have HA:WH ((h.set (b 0) (.row (u 0) 3 ((w.bs.map Bv).set k (Bv st.1)))).set (b 3) (.row (u 3+1) 3 (w.jE.map Dv++[Dv d]))++T) b (λj=>if j=3 then u 3+1 else u j) W:=by
   have h1:=(H.wv 0 (u 0) af {w with bs:=w.bs.set k st.1} (λi hi hne=>by
    match i,hi with
    |0,_=>exact absurd rfl hne
    |1,_=>rfl
    |2,_=>rfl
    |3,_=>rfl
    |4,_=>rfl)).wv 3 (u 3+1) af W (λi hi hne=>by
    rw[hW]
    match i,hi with
    |0,_=>rfl
    |1,_=>rfl
    |2,_=>rfl
    |3,_=>exact absurd rfl hne
    |4,_=>rfl)
   have e:(λi=>if i=3 then u 3+1 else if i=0 then u 0 else u i)=(λj=>if j=3 then u 3+1 else u j):=by
    funext i
    by_cases e:i=0
    .subst e;rfl
    .simp[e]
   rw[e]at h1;have e2:(yf W 3)=w.jE.map Dv++[Dv d]:=by rw[hW];simp[yf]
   have Jv:yf {w with bs:=w.bs.set k st.1} 0=(w.bs.map Bv).set k (Bv st.1):=by simp[yf,dK]
   rw[e2,Jv]at h1;refine h1.app ?_
   have hlen:∀j,j<5->b j<(((h.set (b 0) (.row (u 0) 3 ((w.bs.map Bv).set k (Bv st.1)))).set (b 3) (.row (u 3+1) 3 (w.jE.map Dv++[Dv d])))++T).length:=λj hj=>by
    have:=hl j hj;simp;omega
   rw[hT,hZ];rw[hT,hZ]at hlen;simp only[Cl,bH,dh,dN,aH];refine⟨?_,?_,?_,rfl,rfl,?_⟩
   .simp only[rQ,bH,dh,tV,dN,aH,decide_eq_true_eq];exact⟨hlen 0 af,hlen 1 af,hlen 2 af,hlen 3 af,hlen 4 af⟩
   all_goals simp[rQ,tV,AV.lT,AV.kZ]
  let⟨h2,b2,u2,Jy,H2,F2⟩:=s71 (n:=148) af W st.2.2.1 fo _ _ _ HA (by rw[hW];exact hw) hml
  have hres:∃hlt:h.length+2<h2.length,h2[h.length+2]=Z:=by
   have:=F2.old (h.length+2) (by simp[hT]) λj hj=>by have:=hl j hj;omega
   rw[aV ah]at this
   simp only[bL,hT,eN,bG,bz]at this;exact aF.1 this
  let⟨p2,hp2⟩:=hres;rw[hZ]at hp2;refine⟨h2.set (h.length+2) (.var (WC b2 u2 (kf W st.2.2.1))),b2,u2,?_,?_,?_⟩
  .have hWl:W.bs.length=w.bs.length/\W.ps.length=w.ps.length/\W.jQ.length=w.jQ.length/\W.jE.length=w.jE.length+1/\W.did.length=w.did.length:=by rw[hW];simp
   simp only[WC,hWl,if_true,show ¬(0:Nat)=3 from by decide,show ¬(1:Nat)=3 from by decide,show ¬(2:Nat)=3 from by decide,show ¬(4:Nat)=3 from by decide,if_false,hT,hZ,Bv,hd,Dv]at Jy
   simp(disch:=omega)[c75,WC,Xv,Xc,X8,afb,hnt,uv,hq _ hb0,hq _ zW,hq _ xl,hq _ Gz,hq _ hb4];rw[Bx _ aq]
   simp(disch:=omega)[Gc,Bz,vB,r0,r3,pz,yU,<-Gy,Bv,ca 29,h12,c0,Jy,dsp,dgg,afe,hp2]
   done
  .exact H2.other _ _ (λj hj=>by
    rcases F2.new j hj with e | e
    .rw[e];have:=hl j hj;omega
    .simp[hT]at e;omega) (mP H2.lt)
  .have F1:Fz h.length h b ((h.set (b 0) (.row (u 0) 3 ((w.bs.map Bv).set k (Bv st.1)))).set (b 3) (.row (u 3+1) 3 (w.jE.map Dv++[Dv d]))++T) b:=((Fz.Gl h.length h b 0 af _).trans (Fz.Gl h.length _ b 3 af _)).trans (Fz.app b ah T)
   exact((F1.trans (F2.z (N:=h.length) ah)).trans (Fz.DC h.length h2 b2 (h.length+2) aa _)).w
 .obtain⟨W,hW⟩:∃W:Wd,W={w with bs:=w.bs.set k st.1}:=⟨_,rfl⟩
  have hsw:qF jH w k bo gl gp=kf W st.2.2.1:=by
   unfold qF;rw[<-hst,if_neg (by rw[<-akn];exact c0),hW]
  rw[hsw]
  obtain⟨T,hT⟩:∃T:AH,T=[AB.var [AV.own (b 0) (u 0) 0 w.bs.length,AV.own (b 1) (u 1) 0 w.ps.length,AV.own (b 2) (u 2) 0 w.jQ.length,AV.own (b 3) (u 3) 0 w.jE.length,AV.own (b 4) (u 4) 0 w.did.length],
   AB.var [.int .u8 x.op,.int .u8 x.who,.int .u8 x.to,.int .u8 x.a0,.int .u8 x.a1,.int .u8 x.a2],Z,AB.qa 0 1 (gl.map I),AB.qa 0 1 (gp.map AV.str),AB.var [I st.1.id,I st.1.next,AV.jB st.1.fc (st.1.cases.map Cv)]]:=⟨_,rfl⟩
  have HA:WH (h.set (b 0) (.row (u 0) 3 ((w.bs.map Bv).set k (Bv st.1)))++T) b u W:=by
   have h1:=H.wv 0 (u 0) af W (λi hi hne=>by
    rw[hW]
    match i,hi with
    |0,_=>exact absurd rfl hne
    |1,_=>rfl
    |2,_=>rfl
    |3,_=>rfl
    |4,_=>rfl)
   have e:(λi=>if i=0 then u 0 else u i)=u:=by
    funext i
    by_cases e:i=0
    .subst e;rfl
    .simp[e]
   rw[e]at h1;have Jv:yf W 0=(w.bs.map Bv).set k (Bv st.1):=by rw[hW];simp[yf,dK]
   rw[Jv]at h1;refine h1.app ?_
   have hlen:∀j,j<5->b j<((h.set (b 0) (.row (u 0) 3 ((w.bs.map Bv).set k (Bv st.1))))++T).length:=λj hj=>by
    have:=hl j hj;simp;omega
   rw[hT,hZ];rw[hT,hZ]at hlen;simp only[Cl,bH,dh,dN,aH];refine⟨?_,?_,?_,rfl,rfl,?_⟩
   .simp only[rQ,bH,dh,tV,dN,aH,decide_eq_true_eq];exact⟨hlen 0 af,hlen 1 af,hlen 2 af,hlen 3 af,hlen 4 af⟩
   all_goals simp[rQ,tV,AV.lT,AV.kZ]
  let⟨h2,b2,u2,Jy,H2,F2⟩:=s71 (n:=148) af W st.2.2.1 fo _ _ _ HA (by rw[hW];exact hw) hml
  have hres:∃hlt:h.length+2<h2.length,h2[h.length+2]=Z:=by
   have:=F2.old (h.length+2) (by simp[hT]) λj hj=>by have:=hl j hj;omega
   rw[aV ah]at this
   simp only[bL,hT,eN,bG,bz]at this;exact aF.1 this
  let⟨p2,hp2⟩:=hres;rw[hZ]at hp2;refine⟨h2.set (h.length+2) (.var (WC b2 u2 (kf W st.2.2.1))),b2,u2,?_,?_,?_⟩
  .have hWl:W.bs.length=w.bs.length/\W.ps.length=w.ps.length/\W.jQ.length=w.jQ.length/\W.jE.length=w.jE.length/\W.did.length=w.did.length:=by rw[hW];simp
   simp only[WC,hWl,hT,hZ,Bv]at Jy;simp(disch:=omega)[c75,WC,Xv,Xc,X8,afb,hnt,uv,hq _ hb0,hq _ zW,hq _ xl,hq _ Gz,hq _ hb4];rw[Bx _ aq]
   simp(disch:=omega)[Gc,vB,r0,pz,yU,<-Gy,Bv,ca 29,h12,c0,Jy,hp2]
   done
  .exact H2.other _ _ (λj hj=>by
    rcases F2.new j hj with e | e
    .rw[e];have:=hl j hj;omega
    .simp[hT]at e;omega) (mP H2.lt)
  .have F1:Fz h.length h b (h.set (b 0) (.row (u 0) 3 ((w.bs.map Bv).set k (Bv st.1)))++T) b:=(Fz.Gl h.length h b 0 af _).trans (Fz.app b ah T)
   exact((F1.trans (F2.z (N:=h.length) ah)).trans (Fz.DC h.length h2 b2 (h.length+2) aa _)).w
open Go.Am Go.Am.Nm Go.Lib Go.Cr
section
variable{PS:List au}{w:Wd}
def OT{d:De}(h:TT jH PS d):d.jN.length<=4:=by
 have:=qb (A:=d.jN) (B:=[0,1,2,3]) (qX h.up) λx hx=>by
  have:=h.le x hx;have h4:x=0\/x=1\/x=2\/x=3:=aa
  rcases h4 with e | e | e | e<;>simp[e]
 simpa using this
def I5(H:Inv jH kr PS w){k:Nat}{b:Bo}(hb:w.bs[k]? = some b):∀c∈b.cases,c.de.jN.length=c.de.lu.length/\c.de.jN.length<=4/\c.heard.length<=4/\c.heard.Pairwise (· < ·):=λc hc=>by
 have C:=H.ca k c (by rw[tT hb];exact hc)
 have D:=H.de c.de C.de;have:=OT D;have:=C.lt;exact⟨D.len,aa,aa,C.up⟩
def I6(H:Inv jH kr PS w){k:Nat}{b:Bo}(hb:w.bs[k]? = some b):OkB b:=by
 have:=(H.bi k b hb).2.2;refine⟨aa,λc hc=>?_⟩
 let⟨h1,h2,h3,h4⟩:=I5 H hb c hc;exact⟨⟨aa,aa,aa⟩,h4⟩
def I7(H:Inv jH kr PS w){k:Nat}{b:Bo}(hb:w.bs[k]? = some b):OkA b:=by
 have:=(H.bi k b hb).2.2;refine⟨aa,λc hc=>?_⟩
 let⟨h1,h2,h3,h4⟩:=I5 H hb c hc;exact⟨h1,aa,aa⟩
def Eu(H:Inv jH kr PS w)(k:Nat):(rd w k).length<=w.jE.length/\(dn w k).length<=w.jE.length:=by
 have P:=H.pt k
 have h1:=qb P.nd (B:=w.jE.map λd=>d.id) λx hx=>by
  obtain⟨r,hr,rfl⟩:=bx.1 hx;let⟨d,hd,e,_⟩:=P.re r hr;exact bx.2 ⟨d,hd,e⟩
 have h2:=qb P.dd (B:=w.jE.map λd=>d.id) λx hx=>by
  let⟨⟨d,hd,e,_⟩,_⟩:=P.di x hx;exact bx.2 ⟨d,hd,e⟩
 simp only[cV]at h1 h2;exact⟨h1,h2⟩
def aam(H:Inv jH kr PS w){m:Mg}(hm:qw w m):0<=m.to/\m.to<4:=by
 let⟨d,hd,_,hm⟩:=hm;have hb:=(H.id d hd).2.1;have hg:=(H.de d hd).le
 rcases hm with hm | hm | hm | hm | hm | hm | hm
 .exact hg _ (dO hm.2.2).1
 .have:=hm.2.1;omega
 .have:=hm.2.1;omega
 .exact hg _ hm.2.2.1
 .have:=hm.2.1;omega
 .exact hg _ hm.2.2.1
 .have:=hm.2.1;omega
def s74{n:Nat}(hn:145<n)(Hi:Inv jH kr PS w)(vu:w.jE.length<=1000000)(i:Nat)(hi:i<w.jQ.length)(t:Bool)(h:AH)(b u:aA)(H:WH h b u w):
  ∃h' b' u',jM (jJ.jG n) 74 [.agg (WC b u w),.int .i64 i,.bool t] h=some (.agg (WC b' u' (mL jH kr w i t)),h')/\WH h' b' u' (mL jH kr w i t)/\Fw h b h' b':=by
 have hg:=Hi.ms _ (aS hi);obtain⟨m,hm⟩:∃m,m=w.jQ[i]:=⟨_,rfl⟩;rw[<-hm]at hg;have ht:=aam Hi hg;obtain⟨k,hk⟩:∃k:Nat,m.to=(k:Int):=⟨m.to.toNat,aa⟩
 have Jc:k<4:=aa
 have hkb:k<w.bs.length:=by rw[Hi.lb];exact Jc
 have hkp:k<w.ps.length:=by rw[Hi.lp];exact Jc
 have OI:k<w.did.length:=by rw[Hi.ld];exact Jc
 have gb:=aG hkb;have gp:=aG hkp;have gd:=aG OI;have hr:=Eu Hi k;rw[vV gp,HO gp]at hr;have Br:=Hi.dq k _ gd;rw[HO gp]at Br;have hne:¬(m.to<0\/4<=m.to):=aa
 have hto:m.to.toNat=k:=by rw[hk];simp
 have hw:=Hi.wi
 have eq:mL jH kr w i t=rm jH kr (oQ (if t=true then w else tN w i) k w.bs[k] m) k w.ps[k] w.did[k] m:=by
  unfold mL;rw[aG hi,<-hm];cases t<;>simp only[v7,if_neg hne,hto,aU,if_false,if_true,tN,gb,gp,gd]
 rw[eq];cases t with
 |false =>
  simp only[aU,if_false];exact ain hn w i h b u H hi hw m hm k hk Jc _ hkb rfl _ hkp rfl (I6 Hi gb) aa aa _ OI rfl (by rw[Br];omega)
 |true =>
  simp only[if_true];exact aim hn w i h b u H hi hw m hm k hk Jc _ hkb rfl _ hkp rfl (I6 Hi gb) aa aa _ OI rfl (by rw[Br];omega)
end
variable{h1 h2:AH}{b1 b2:aA}
def aeO{h:AH}{b:aA}(F1:Fz h.length h b h1 b1){u2:aA}{W:Wd}(H2:WH h2 b2 u2 W)(F2:Fw h1 b1 h2 b2)(q:Nat)(hq:h.length<=q)(hq1:q<h1.length)(hqb:∀j,j<5->q≠b1 j):
  WH (h2.set q (.var (WC b2 u2 W))) b2 u2 W/\Fw h b (h2.set q (.var (WC b2 u2 W))) b2 :=
 ⟨H2.other _ _ (λj hj=>by
  rcases F2.new j hj with e | e
  .rw[e];exact hqb j hj
  .omega) (mP H2.lt),((F1.trans (F2.z (N:=h.length) F1.le)).trans (Fz.DC h.length h2 b2 q hq _)).w⟩
def Fw.keep(F2:Fw h1 b1 h2 b2){q:Nat}{B:AB}(hB:h1[q]? = some B)(hqb:∀j,j<5->q≠b1 j):∃hlt:q<h2.length,h2[q]=B:=by
 have:=F2.old q (aF.1 hB).1 hqb;rw[hB]at this;exact aF.1 this
open Go.Am Go.Am.Nm Go.Lib Go.Cr
def Sf(w:Wd)(k:Nat)(b:Bo)(g:ay)(p:List au):(qF jH w k b g p).jE.length<=w.jE.length+1:=by
 unfold qF kf;simp only;split<;>simp
set_option maxHeartbeats 4000000 in
def s31{n:Nat}(hn:152<n){PS:List au}{w:Wd}(Hi:Inv jH kr PS w)(vu:w.jE.length<=1000000)(x:Ac)(hx:XOK x)(h:AH)(b u:aA)(H:WH h b u w):
  ∃h' b' u',jM (jJ.jG n) 31 [.agg (WC b u w),Xv x] h=some (.agg (WC b' u' (NH jH kr w x)),h')/\WH h' b' u' (NH jH kr w x)/\Fw h b h' b':=by
 rw[ph 31 rfl hn rfl,jy];have hl:=H.lt;have hb0:=hl 0 af
 have zW:=hl 1 af
 have xl:=hl 2 af
 have Gz:=hl 3 af
 have hb4:=hl 4 af
 have r0:=(aF.1 H.r0).2;have r1:=(aF.1 H.r1).2;have r2:=(aF.1 H.r2).2;have aee:=hx.who;have hto:=hx.to;have hop:=hx.op;have Gc:((x.who:Int)).tmod 4=((x.who%4:Nat):Int):=Dr _ 4;have TZ:((x.op:Int)).tmod 16=((x.op%16:Nat):Int):=Dr _ 16;have Jc:x.who%4<4:=dP _ af
 have yU:x.who%4<w.bs.length:=by rw[Hi.lb];exact Jc
 have wz:x.who%4<w.ps.length:=by rw[Hi.lp];exact Jc
 have gb:=aG yU;have gp:=aG wz;obtain⟨bo,Gy⟩:∃bo,bo=w.bs[x.who%4]:=⟨_,rfl⟩;obtain⟨pt,hpt⟩:∃pt,pt=w.ps[x.who%4]:=⟨_,rfl⟩;rw[<-Gy]at gb;rw[<-hpt]at gp;have Cm:=Hi.bi _ _ gb;have hr:=Eu Hi (x.who%4);rw[vV gp,HO gp]at hr;have hw:=Hi.wi;have nq:∀j,j<5->h.length≠b j/\h.length+1≠b j:=λj hj=>by have:=hl j hj;omega
 obtain⟨Z,hZ⟩:∃Z:AB,Z = .var [AV.jB true [],AV.jB true [],AV.jB true [],AV.jB true [],AV.jB true []]:=⟨_,rfl⟩;have clZ:∀n,rQ n Z=true:=λn=>by rw[hZ];simp[rQ,tV,AV.lT,AV.kZ]
 have agj:∀(V:List AV),rQ (h.length+2) (.var V)=true->WH (h++[.var V,Z]) b u w:=λV hV=>H.app (by
  simp only[aL,aQ,bq,Cl,bH,dh,hV,clZ,fU])
 have hWC:rQ (h.length+2) (.var (WC b u w))=true:=mP λj hj=>by have:=hl j hj;omega
 have H2:=agj _ hWC;have fz2:∀V:List AV,Fz h.length h b (h++[.var V,Z]) b:=λV=>Fz.app b (aN _) _
 unfold NH;rw[gb,gp];simp only
 -- a deed begins
 have X6:x.op%16<=2->∃h2 b2 u2,∃hlt:h.length+1<h2.length,jM (jJ.jG 152) 75 [.agg (WC b u w),Xv x] (h++[.var (WC b u w),Z])=some (.agg (WC b2 u2 (qO jH w x)),h2)/\h2[h.length+1]=Z/\WH (h2.set (h.length+1) (.var (WC b2 u2 (qO jH w x)))) b2 u2 (qO jH w x)/\Fw h b (h2.set (h.length+1) (.var (WC b2 u2 (qO jH w x)))) b2:=λ_=>by
  let⟨h2,b2,u2,e,Hb,Fb⟩:=s75 (n:=152) af w x hx _ b u H2 hw bo yU Gy (by have:=Cm.2.2;omega) (by rw[Cm.1];omega) Cm.2.1 vu
  let⟨p,hp⟩:=Fb.keep (q:=h.length+1) (B:=Z) ah λj hj=>(nq j hj).2
  let⟨f1,f2⟩:=aeO (fz2 _) Hb Fb (h.length+1) aa ah λj hj=>(nq j hj).2
  exact⟨h2,b2,u2,p,e,hp,f1,f2⟩
 -- messages are sent
 have Uy:∀(W:Wd)(V:List AV)(G T:AH)(b1 u1:aA)(l:List Mg)(f:Bool),W.jQ.length<=200->l.length<=1000000->WH (G++(.var V::Z::T)) b1 u1 W->G.length=h.length->Fz h.length h b (G++(.var V::Z::T)) b1->(∀j,j<5->h.length+1≠b1 j)->∃h2 b2 u2,∃hlt:h.length+1<h2.length,jM (jJ.jG 152) 71 [.agg (WC b1 u1 W),.jB f (l.map Mv)] (G++(.var V::Z::T))=some (.agg (WC b2 u2 (kf W l)),h2)/\h2[h.length+1]=Z/\WH (h2.set (h.length+1) (.var (WC b2 u2 (kf W l)))) b2 u2 (kf W l)/\Fw h b (h2.set (h.length+1) (.var (WC b2 u2 (kf W l)))) b2:=λW V G T b1 u1 l f hW tQ HW hG FW hne=>by
  let⟨h2,b2,u2,e,Hb,Fb⟩:=s71 (n:=152) af W l f _ b1 u1 HW hW tQ
  let⟨p,hp⟩:=Fb.keep (q:=h.length+1) (B:=Z) (by rw[<-hG];simp) hne
  let⟨f1,f2⟩:=aeO FW Hb Fb (h.length+1) aa aj hne
  exact⟨h2,b2,u2,p,e,hp,f1,f2⟩
 obtain⟨o,ho⟩:∃o,o=x.op%16:=⟨_,rfl⟩;obtain⟨k,hk⟩:∃k,k=x.who%4:=⟨_,rfl⟩;have asJ:o<16:=aa
 simp only[<-ho]at X6 TZ⊢;simp only[<-hk]at Gc yU wz Gy hpt gb gp⊢;subst hZ
 by_cases c2:o<=2
 .rw[if_pos c2];let⟨h2,b2,u2,p,e,hp,f1,f2⟩:=X6 c2;refine⟨_,b2,u2,?_,f1,f2⟩;simp only[WC,Xv,Xc,X8]at e;have yF:o=0\/o=1\/o=2:=by omega
  rcases yF with rfl | rfl | rfl
  .simp(disch:=omega)[Rk,WC,Xv,Xc,X8,Gc,TZ,e,hp]
   done
  .simp(disch:=omega)[Rk,WC,Xv,Xc,X8,Gc,TZ,e,hp]
   done
  .simp(disch:=omega)[Rk,WC,Xv,Xc,X8,Gc,TZ,e,hp]
   done
 .rw[if_neg c2]
  by_cases yF:o=3
  .rw[if_pos yF];have KU:=s72 (n:=152) af bo (I7 Hi gb)
   have hal:(lR bo).length<=1000000:=by
    let⟨q1,q2⟩:=I7 Hi gb;have:=Ad (pM bo) 1000 bo.cases λc h=>zi bo c (q2 c h).2.1
    unfold lR;omega
   let⟨h2,b2,u2,p,e,hp,f1,f2⟩:=Uy w (WC b u w) h [] b u (lR bo) false hw hal H2 rfl (fz2 _) λj hj=>(nq j hj).2
   refine⟨_,b2,u2,?_,f1,f2⟩;simp only[WC]at e;subst yF;simp only[Bv]at KU;simp(disch:=omega)[Rk,WC,Xv,Xc,X8,Gc,TZ,pz,r0,yU,<-Gy,Bv,KU,e,hp]
   done
  .rw[if_neg yF]
   by_cases QU:o=4
   .rw[if_pos QU];have Ta:=s73 (n:=152) af pt aa
    let⟨h2,b2,u2,p,e,hp,f1,f2⟩:=Uy w (WC b u w) h [] b u (uo pt) false hw (by unfold uo;simp;omega) H2 rfl (fz2 _) λj hj=>(nq j hj).2
    refine⟨_,b2,u2,?_,f1,f2⟩;simp only[WC]at e;subst QU;simp only[Pv]at Ta;simp(disch:=omega)[Rk,WC,Xv,Xc,X8,Gc,TZ,pz,r1,wz,<-hpt,Pv,Ta,e,hp]
    done
   .rw[if_neg QU]
    by_cases Ts:o=5
    .rw[if_pos Ts];subst Ts;cases hcs:bo.cases with
     |nil =>
      refine⟨_,b,u,?_,agj _ hWC |>.other (h.length+1) (.var (WC b u w)) (λj hj=>(nq j hj).2) (by rw[aL];exact mP λj hj=>by have:=hl j hj;simp;omega),((fz2 (WC b u w)).trans (Fz.DC h.length _ b (h.length+1) aa _)).w⟩
      simp(disch:=omega)[Rk,WC,Xv,Xc,X8,Gc,TZ,pz,r0,yU,<-Gy,Bv,hcs]
      done
     |cons c l =>
      simp only;unfold Qw;let⟨fo,GA⟩:=s76 (n:=152) af bo c.de.id (I6 Hi gb)
      obtain⟨gv,hgv⟩:∃gv,gv=Co bo c.de.id:=⟨_,rfl⟩;have Jf:gv.2.length<=1000000:=by
       rw[hgv];unfold Co;split
       .simp
       .rename_i y hy;have:=(I5 Hi gb y (aR hy)).2.1;split<;>simp[tu]<;>omega
      rw[<-hgv]at GA⊢
      have H0:=H.wv 0 (u 0) af {w with bs:=w.bs.set k gv.1} (λi hi hne=>by
       match i,hi with
       |0,_=>exact absurd rfl hne
       |1,_=>rfl
       |2,_=>rfl
       |3,_=>rfl
       |4,_=>rfl)
      have eu:(λi=>if i=0 then u 0 else u i)=u:=by
       funext i
       by_cases e:i=0
       .subst e;rfl
       .simp[e]
      have eb:yf {w with bs:=w.bs.set k gv.1} 0=(w.bs.map Bv).set k (Bv gv.1):=by simp[yf,dK]
      rw[eu,eb,show Az 0=3 from rfl]at H0
      have H3:=H0.app (Y:=(.var (WC b u w) :: .var [AV.jB true [],AV.jB true [],AV.jB true [],AV.jB true [],AV.jB true []]::[.var [I gv.1.id,I gv.1.next,.jB gv.1.fc (gv.1.cases.map Cv)]])) (by
       simp only[aL,bL,aQ,bq,Cl,bH,dh,dN,aH];exact⟨mP λj hj=>by have:=hl j hj;omega,clZ _,by simp[rQ,tV,AV.lT,AV.kZ]⟩)
      let⟨h2,b2,u2,p,e,hp,f1,f2⟩:=Uy {w with bs:=w.bs.set k gv.1} (WC b u w) _ [.var [I gv.1.id,I gv.1.next,.jB gv.1.fc (gv.1.cases.map Cv)]] b u gv.2 fo hw Jf H3 ah ((Fz.Gl h.length h b 0 af _).trans (Fz.app b ah _)) λj hj=>(nq j hj).2
      refine⟨_,b2,u2,?_,f1,f2⟩;simp only[WC,Bv,bL]at e;simp only[Bv,hcs,bF,Cv]at GA;have oZ:0<bo.cases.length:=by rw[hcs];simp
      simp(disch:=omega)[Rk,WC,Xv,Xc,X8,Gc,TZ,vB,pz,r0,yU,<-Gy,Bv,hcs,Cv,GA,e,hp]
      done
    .rw[if_neg Ts]
     by_cases co6:o=6
     .rw[if_pos co6];subst co6;have h24:=s77 (n:=152) af bo (by have:=Cm.2.2;omega)
      have H0:=H.wv 0 (u 0) af {w with bs:=w.bs.set k (CC bo)} (λi hi hne=>by
       match i,hi with
       |0,_=>exact absurd rfl hne
       |1,_=>rfl
       |2,_=>rfl
       |3,_=>rfl
       |4,_=>rfl)
      have eu:(λi=>if i=0 then u 0 else u i)=u:=by
       funext i
       by_cases e:i=0
       .subst e;rfl
       .simp[e]
      have eb:yf {w with bs:=w.bs.set k (CC bo)} 0=(w.bs.map Bv).set k (Bv (CC bo)):=by simp[yf,dK]
      rw[eu,eb,show Az 0=3 from rfl]at H0
      have H3:=H0.app (Y:=[.var (WC b u w),.var (WC b u w)]) (by
       simp only[aL,bL,aQ,bq,Cl,bH,dh,hWC,fU])
      refine⟨_,b,u,?_,H3,((Fz.Gl h.length h b 0 af _).trans (Fz.app b ah _)).w⟩
      simp only[Bv]at h24;simp(disch:=omega)[Rk,WC,Xv,Xc,X8,Gc,TZ,vB,AA,pz,r0,yU,<-Gy,Bv,h24]
      done
     .rw[if_neg co6];have n0:¬o=0:=by omega
      have n1:¬o=1:=aa
      have n2:¬o=2:=aa
      by_cases cw:w.jQ.length=0
      .rw[if_pos cw];refine⟨_,b,u,?_,agj _ hWC |>.other (h.length+1) (.var (WC b u w)) (λj hj=>(nq j hj).2) (by rw[aL];exact mP λj hj=>by have:=hl j hj;simp;omega),((fz2 (WC b u w)).trans (Fz.DC h.length _ b (h.length+1) aa _)).w⟩
       simp(disch:=omega)[Rk,WC,Xv,Xc,X8,Gc,TZ,n0,cw]
       done
      .rw[if_neg cw];have ei:((x.to:Int)+256*(x.who:Int)).tmod (w.jQ.length:Int)=(((x.to+256*x.who)%w.jQ.length:Nat):Int):=Dr (x.to+256*x.who) w.jQ.length;have hil:(x.to+256*x.who)%w.jQ.length<w.jQ.length:=dP _ aa
       obtain⟨i,hi⟩:∃i,i=(x.to+256*x.who)%w.jQ.length:=⟨_,rfl⟩;rw[<-hi]at ei hil⊢
       by_cases YS:o=7
       .rw[if_pos YS];subst YS;obtain⟨rest,xk⟩:∃rest,rest=w.jQ.take i++w.jQ.drop (i+1):=⟨_,rfl⟩;have t3:List.take i (List.take i (w.jQ.map Mv))=List.take i (w.jQ.map Mv):=by rw[gq,jw]
        have t4:List.take (w.jQ.length-(i+1)) (List.drop (i+1) (w.jQ.map Mv))=List.drop (i+1) (w.jQ.map Mv):=br ah
        have t5:List.take i (w.jQ.map Mv)++List.drop (i+1) (w.jQ.map Mv)=rest.map Mv:=by rw[xk,cZ,fT,ia]
        have t6:i+(w.jQ.length-(i+1))=rest.length:=by rw[xk];simp;omega
        have z1:kK 5 (List.take i (w.jQ.map Mv))=true:=by rw[<-fT];exact szM _
        have z2:kK 5 (List.drop (i+1) (w.jQ.map Mv))=true:=by rw[<-ia];exact szM _
        unfold tN;rw[<-xk]
        have ak3:rQ (h.length+3) (.var [.own (b 0) (u 0) 0 w.bs.length,.own (b 1) (u 1) 0 w.ps.length,.own (h.length+2) 1 0 rest.length,.own (b 3) (u 3) 0 w.jE.length,.own (b 4) (u 4) 0 w.did.length])=true:=by
         simp only[rQ,bH,dh,tV,dN,aH,decide_eq_true_eq];refine⟨?_,?_,?_,?_,?_⟩<;>omega
        have H3:=(H.app (Y:=[.var [.own (b 0) (u 0) 0 w.bs.length,.own (b 1) (u 1) 0 w.ps.length,.own (h.length+2) 1 0 rest.length,.own (b 3) (u 3) 0 w.jE.length,.own (b 4) (u 4) 0 w.did.length],.var [.own (b 0) (u 0) 0 w.bs.length,.own (b 1) (u 1) 0 w.ps.length,.own (h.length+2) 1 0 rest.length,.own (b 3) (u 3) 0 w.jE.length,.own (b 4) (u 4) 0 w.did.length],.row 1 5 (rest.map Mv)]) (by
         simp only[aL,aQ,bq,Cl,bH,dh,dN,aH];exact⟨ak3,ak3,rfl⟩)).jQ (h.length+2) 1 rest (by rw[aV aa];simp) λj hj _=>by have:=hl j hj;omega
        refine⟨_,_,_,?_,H3,((Fz.app (N:=h.length) b (aN _) _).trans (Fz.mv h.length _ b 2 (h.length+2) aa)).w⟩
        simp only[WC,if_true,show ¬(0:Nat)=2 from by decide,show ¬(1:Nat)=2 from by decide,show ¬(3:Nat)=2 from by decide,show ¬(4:Nat)=2 from by decide,if_false]
        simp(disch:=omega)[Rk,Xv,Xc,X8,Gc,TZ,ei,pz,r2,cw,t3,t4,t5,t6,z1,z2]
        done
       .rw[if_neg YS];let⟨h2,b2,u2,e,Hb,Fb⟩:=s74 (n:=152) af Hi vu i hil (decide (o=8)) _ b u H2
        let⟨p,hp⟩:=Fb.keep (q:=h.length+1) (B:=.var [AV.jB true [],AV.jB true [],AV.jB true [],AV.jB true [],AV.jB true []]) ah λj hj=>(nq j hj).2
        let⟨f1,f2⟩:=aeO (fz2 _) Hb Fb (h.length+1) aa ah λj hj=>(nq j hj).2
        refine⟨_,b2,u2,?_,f1,f2⟩;have d8:decide ((o:Int)=8)=decide (o=8):=by rw[decide_eq_decide];omega
        simp only[WC]at e;simp(disch:=omega)[Rk,WC,Xv,Xc,X8,Gc,TZ,ei,d8,n0,cw,e,hp]
        done
open Go.Am Go.Am.Nm Go.Lib Go.Cr
def T2(i:Nat):List Bo:=(List.range i).map λk:Nat=>⟨(k:Int),0,true,[]⟩
def TU(i:Nat):List Pt:=(List.range i).map λk:Nat=>⟨(k:Int),true,[],true,[]⟩
def T1(i:Nat):List (Bool×ay):=List.replicate i (true,[])
def XX(i:Nat):T2 (i+1)=T2 i++[⟨(i:Int),0,true,[]⟩]:=by simp[T2,eY]
def U3(i:Nat):TU (i+1)=TU i++[⟨(i:Int),true,[],true,[]⟩]:=by simp[TU,eY]
def Xz(i:Nat):T1 (i+1)=T1 i++[(true,[])]:=by simp[T1,jk]
def aa5(i:Nat):(T2 i).length=i:=by simp[T2]
def Zv(i:Nat):(TU i).length=i:=by simp[TU]
def aaF(i:Nat):(T1 i).length=i:=by simp[T1]
variable{n τ:Nat}
def DS{s:St}{t o sz v:Nat}(h:r6 s t o=some (.own τ v 0 n)):tD τ s (t,o,sz)=s:=by
 unfold tD;rw[h];simp only[if_true]
def Sx{s:St}{t o0 o1 o2 z0 z1 z2 v0 v1 v2 n0 n1 n2:Nat}(h0:r6 s t o0=some (.own τ v0 0 n0))(h1:r6 s t o1=some (.own (τ+1) v1 0 n1))(h2:r6 s t o2=some (.own (τ+2) v2 0 n2)):kO τ [(t,o0,z0),(t,o1,z1),(t,o2,z2)] s=s:=by
 simp only[kO];rw[DS h0,DS h1,DS h2]
set_option maxHeartbeats 1000000 in
def l28(hn:128<=n)(h:AH)(cl:Cl h.length h)(e0:Env)(q1:e0 1 = .ptr (h.length+1) 0 0 0):
  iter (lD (jJ.jG n) (h.length+2) [(1,0,3),(1,1,3),(1,4,1)] [2] [(.exit 0,[])] Rp e0 (h.length+5) [h.length+2,h.length+3,h.length+4]) ([.int .i64 0],h++[.var [.jB true [],.jB true [],.jB true [],.jB true [],.jB true []],.var [.own (h.length+2) 0 0 0,.own (h.length+3) 0 0 0,.jB true [],.jB true [],.own (h.length+4) 0 0 0],.row 0 3 [],.row 0 3 [],.row 0 1 []]) =
   some (.exit 0,[],h++[.var [.jB true [],.jB true [],.jB true [],.jB true [],.jB true []],.var [.own (h.length+2) 0 0 4,.own (h.length+3) 0 0 4,.jB true [],.jB true [],.own (h.length+4) 0 0 4],.row 0 3 ((T2 4).map Bv),.row 0 3 ((TU 4).map Pv),.row 0 1 ((T1 4).map dv)]):=by
 have hnt:=λh0 Y=>qt (G:=h) rfl cl (h.length+5) [h.length+2,h.length+3,h.length+4] aa (λr hr=>by simp at hr;omega) h0 Y
 have uv:=lN h
 exact jU (f:=lD (jJ.jG n) (h.length+2) [(1,0,3),(1,1,3),(1,4,1)] [2] [(.exit 0,[])] Rp e0 (h.length+5) [h.length+2,h.length+3,h.length+4])
  (λi (s:Nat)=>([.int .i64 (i:Int)],h++[.var [.jB true [],.jB true [],.jB true [],.jB true [],.jB true []],.var [.own (h.length+2) 0 0 i,.own (h.length+3) 0 0 i,.jB true [],.jB true [],.own (h.length+4) 0 0 i],.row 0 3 ((T2 i).map Bv),.row 0 3 ((TU i).map Pv),.row 0 1 ((T1 i).map dv)])) [0,1,2,3]
  (λs _=>s) (λ_=>(.exit 0,[],h++[.var [.jB true [],.jB true [],.jB true [],.jB true [],.jB true []],.var [.own (h.length+2) 0 0 4,.own (h.length+3) 0 0 4,.jB true [],.jB true [],.own (h.length+4) 0 0 4],.row 0 3 ((T2 4).map Bv),.row 0 3 ((TU 4).map Pv),.row 0 1 ((T1 4).map dv)])) (λ_ _=>True)
  (λi hi s _=>by
   have hi4:i<4:=hi;refine⟨trivial,?_⟩;have h11:=s64 (n:=n) aa (i:Int)
   have h36:=s65 (n:=n) aa (i:Int)
   simp only[Bv,Pv,bQ]at h11 h36;have l1:=aa5 i;have l2:=Zv i;have lo3:=aaF i;have a1:h.length+2+1=h.length+3:=rfl;have a2:h.length+3+1=h.length+4:=rfl;have z1:kK 3 ((T2 i).map Bv)=true:=by simp[kK,Bv]
   have z2:kK 3 ((TU i).map Pv)=true:=by simp[kK,Pv]
   have z3:kK 1 ((T1 i).map dv)=true:=by simp[kK,dv,AV.cells]
   have t1:List.take i ((T2 i).map Bv)=(T2 i).map Bv:=br (by simp[l1])
   have t2:List.take i ((TU i).map Pv)=(TU i).map Pv:=br (by simp[l2])
   have t3:List.take i ((T1 i).map dv)=(T1 i).map dv:=br (by simp[lo3])
   simp[-kO,-head_eq,jV,RL,q1,h11,h36,l1,l2,lo3,t1,t2,t3,XX,U3,Xz,Bv,Pv,dv];rw[Sx (v0:=1) (v1:=1) (v2:=1) (n0:=i+1) (n1:=i+1) (n2:=i+1) (by simp[q1]) (by simp[q1]) (by simp(disch:=omega)[q1])]
   simp(disch:=omega)[hnt,uv]
   done)
  (λs _=>by
   simp[-kO,-head_eq,jV,RL]
   done) 0 trivial
def OV(m:Nat):AH:=[.var [.own (m+2) 0 0 4,.own (m+3) 0 0 4,.jB true [],.jB true [],.own (m+4) 0 0 4],.var [.own (m+2) 0 0 4,.own (m+3) 0 0 4,.jB true [],.jB true [],.own (m+4) 0 0 4],.row 0 3 (kQ.bs.map Bv),.row 0 3 (kQ.ps.map Pv),.row 0 1 (kQ.did.map dv)]
def s28(hn:128<n)(h:AH)(cl:Cl h.length h):jM (jJ.jG n) 28 [] h=some (.agg [.own (h.length+2) 0 0 4,.own (h.length+3) 0 0 4,.jB true [],.jB true [],.own (h.length+4) 0 0 4],h++OV h.length):=by
 rw[ph 28 rfl hn rfl,jy];have hnt:=λh0 Y=>qt (G:=h) rfl cl (h.length+5) [h.length+2,h.length+3,h.length+4] aa (λr hr=>by simp at hr;omega) h0 Y
 have uv:=lN h;have Jp:=l28 (n:=128) af h cl
 have e1:T2 4=kQ.bs:=rfl;have e2:TU 4=kQ.ps:=rfl;have Jv:T1 4=kQ.did:=rfl;rw[e1,e2,Jv]at Jp;have a1:h.length+2+1=h.length+3:=rfl;have a2:h.length+3+1=h.length+4:=rfl;have c1:¬h.length=h.length+2+1:=aa
 have c2:¬h.length=h.length+2+1+1:=aa
 unfold OV;simp[c28,a1,a2,hnt,uv];rw[Jp _ aq]
 simp[c1,c2]
 done
open Go.Am Go.Am.Nm Go.Lib Go.Cr
def aih{P:AH}{k:Nat}(hk:k<P.length)(hP:Cl P.length P){s s':Wd}{h2:AH}{b2 u2:aA}(H2:WH h2 b2 u2 s')(F2:Fw (Hd P k s) (λj=>P.length+j) h2 b2)(T:AH)(hT:Cl (h2.length+T.length) T)(e:Env)(t:Nat)(he:e t = .ptr k 0 0 0)(keep:ax):
  ∃h',head (P.length+5) [P.length,P.length+1,P.length+2,P.length+3,P.length+4] keep (kO P.length [(t,0,3),(t,1,3),(t,2,5),(t,3,3),(t,4,1)] ⟨e,h2.set k (.var (WC b2 u2 s'))++T⟩)=(sR (P.length+5) [P.length,P.length+1,P.length+2,P.length+3,P.length+4] h' e keep,Hd P k s'):=by
 have hlen:=F2.le;rw[l9]at hlen
 have hbn:∀j,j<5->b2 j=P.length+j\/P.length+5<=b2 j:=λj hj=>by
  have:=F2.new j hj
  rwa [l9]at this
 have H3:WH (h2.set k (.var (WC b2 u2 s'))++T) b2 u2 s':=(H2.other k _ (λj hj=>by have:=hbn j hj;omega) (mP H2.lt)).app (by rw[aL,bL];exact hT)
 refine abP e t k P.length he P rfl hk hP _ b2 u2 s' H3 ?_ (λj hj=>?_) hbn (λi hi hne=>?_) keep
 .rw[aK aj,aZ aa]
 .have h1:nV (Hd P k s) (P.length+j):=⟨_,xJ P k s j hj,rfl⟩;let⟨C,q1,q2⟩:=F2.row _ (by rw[l9];omega) h1
  refine⟨C,?_,q2⟩;rw[aK aj,aJ aa]
  exact q1
 .rw[aK aj,aJ (Ne.symm hne),F2.old i (by rw[l9];omega) (λj _=>aa),uq P k s i hi hne]
def Bp{L:Nat}{R keep:ax}{S:St}{e:Env}{H:AH}{ks:List AV}(h:∃h',head L R keep S=(sR L R h' e keep,H))(hk:∀h',sR L R h' e keep=ks):head L R keep S=(ks,H):=by
 let⟨h',hh⟩:=h;rw[hh,hk]
def aga{P:AH}{k:Nat}(hk:k<P.length){s:Wd}{h2:AH}{b2:aA}(F2:Fw (Hd P k s) (λj=>P.length+j) h2 b2):∃hlt:k<h2.length,h2[k] = .var (WC (λj=>P.length+j) (λ_=>0) s) :=
 F2.keep (tv P k s hk) λj _=>aa
def PSN:List au:=(List.range 8).map vW
def SB(k:Nat):vW k∈PSN:=by
 unfold PSN;rw[bx];refine⟨k%8,by rw[eT];omega,?_⟩
 unfold vW;rw[Nat.mod_mod]
def afn{PS:List au}{w:Wd}(Hi:Inv jH kr PS w)(x:Ac):(NH jH kr w x).jE.length<=w.jE.length+1:=by
 have Tq:∀(w:Wd)(m:Mg),(v7 jH kr w m).jE=w.jE:=λw m=>by
  unfold v7;split
  .rfl
  .split
   .unfold rm kf ng oQ kf;split<;>rfl
   .rfl
 unfold NH;split
 .repeat' split
  .unfold qO;split
   .omega
   .exact Sf _ _ _ _ _
  .exact fH _
  .exact fH _
  .exact fH _
  .exact fH _
  .exact fH _
  .exact fH _
  .exact fH _
  .unfold mL;split
   .omega
   .rw[Tq];split
    .omega
    .exact fH _
 .omega
open Go.Am Go.Am.Nm Go.Lib Go.Cr
def Ab(t k j:Nat)(hj:j<5)(h:AH)(b u:aA)(w:Wd)(H:WH h b u w)(hc:h[k]? = some (.var (WC b u w))):
  ∃h':AH,(∀e:Env,e t = .ptr k 0 0 0->qk ⟨e,h⟩ (t,j,Az j)=⟨e,h'⟩)/\WH h' (λi=>if i=j then h.length else b i) (λi=>if i=j then 0 else u i) w/\h'[k]? = some (.var (WC (λi=>if i=j then h.length else b i) (λi=>if i=j then 0 else u i) w))/\h'.length=h.length+1/\
   (∀i,i<h.length->i≠k->i≠b j->h'[i]? = h[i]?)/\∀i,nV h i->nV h' i:=by
 have yS:k<h.length:=(aF.1 hc).1;have yU:=H.lt j hj
 have hkb:∀i,i<5->b i≠k:=λi hi e=>by
  have:=H.r i hi;rw[e,hc]at this;cases this
 refine⟨(h.set (b j) (AB.row (u j+1) (Az j) [])++[AB.row 0 (Az j) (yf w j)]).set k (AB.var (WC (λi=>if i=j then h.length else b i) (λi=>if i=j then 0 else u i) w)),λe he=>?_,WH.of (λi hi=>?_) (λi i' hi hi' hne=>?_) ?_,?_,ah,λi hi hne hnb=>?_,λi hr=>?_⟩
 .have hg:r6 ⟨e,h⟩ t j=some (.own (b j) (u j) 0 (yf w j).length):=by
   simp only[r6,he,hc,KG hj]
  simp only[qk,hg,H.r j hj,and_self,if_true]
  have h1:(h.set (b j) (AB.row (u j+1) (Az j) [])++[AB.row 0 (Az j) (yf w j)])[k]? = some (.var (WC b u w)):=by
   rw[aK (an yS),aJ (hkb j hj),hc]
  simp only[AE,he,h1,Ym hj]
 .by_cases e2 : i = j
  .subst e2;simp only[if_true];rw[aJ aa,aV ah]
   simp
  .simp only[if_neg e2];have:=H.lt i hi;rw[aJ (Ne.symm (hkb i hi)),aK (an this),aJ (H.ne j i hj hi (Ne.symm e2)),H.r i hi]
 .by_cases e2 : i = j
  .subst e2;simp only[if_true,if_neg (Ne.symm hne)];have:=H.lt i' hi';omega
  .simp only[if_neg e2]
   by_cases Jv:i'=j
   .simp only[if_pos Jv];have:=H.lt i hi;omega
   .simp only[if_neg Jv];exact H.ne i i' hi hi' hne
 .simp only[bL,aL,aQ,bq,bE];have hn:h.length<=h.length+1:=by omega
  refine((((H.cl.set _ (B:=.row (u j+1) (Az j) []) rfl).mono hn).app (B:=[AB.row 0 (Az j) (yf w j)]) rfl)).set _ (mP λi hi=>?_)
  by_cases e2:i=j
  .simp only[if_pos e2];omega
  .simp only[if_neg e2];have:=H.lt i hi;omega
 .rw[aZ aj]
 .rw[aJ (Ne.symm hne),aK (an hi),aJ (Ne.symm hnb)]
 .have hik:i≠k:=λe=>by
   let⟨C,q1,q2⟩:=hr;rw[e,hc]at q1;cases q1;cases q2
  let⟨C,q1,q2⟩:=(hr.set (k:=b j) (B:=.row (u j+1) (Az j) []) rfl).app [AB.row 0 (Az j) (yf w j)];exact⟨C,by rw[aJ (Ne.symm hik)];exact q1,q2⟩
variable{h:AH}{b:aA}
def Yn{b' u u':aA}{w:Wd}(hb:∀j,j<5->b j=b' j)(hu:∀j,j<5->u j=u' j):WC b u w=WC b' u' w:=by
 unfold WC;rw[hb 0 af,hb 1 af,hb 2 af,hb 3 af,hb 4 af,hu 0 af,hu 1 af,hu 2 af,hu 3 af,hu 4 af]
def amF{L k:Nat}{w:Wd}(hl:h.length=L+5)(hk:k<L)(H:WH h (λj=>L+j) (λ_=>0) w)(hc:h[k]? = some (.var (WC (λj=>L+j) (λ_=>0) w))):h=Hd (h.take L) k w:=by
 have hP:(h.take L).length=L:=aj
 apply dr;intro i
 by_cases hi:i<L
 .by_cases e:i=k
  .subst e;rw[hc,tv _ _ _ aa,hP]
  .rw[uq _ _ _ i aa e,fu hi]
 .by_cases h5 : i < L + 5
  .obtain⟨j,rfl⟩:∃j,i=L+j:=⟨i-L,aa⟩
   have:=xJ (h.take L) k w j aa
   rw[hP]at this;rw[this,H.r j aa]
  .rw[b9 aa,b9 (by rw[l9,hP];omega)]
def Cl.take{n:Nat}(H:Cl n h)(k:Nat):Cl n (h.take k):=by
 unfold Cl at H⊢;rw[aO]at H⊢;exact λB hB=>H B (cm hB)
def C7(t k:Nat)(h:AH)(b u:aA)(w:Wd)(H:WH h b u w)(hc:h[k]? = some (.var (WC b u w))):
  ∃P:AH,P.length=h.length/\Cl P.length P/\(∀e:Env,e t = .ptr k 0 0 0->jX [(t,0,3),(t,1,3),(t,2,5),(t,3,3),(t,4,1)] ⟨e,h⟩=⟨e,Hd P k w⟩)/\(∀i,i<h.length->i≠k->(∀j,j<5->i≠b j)->P[i]? = h[i]?)/\(∀i,i<h.length->nV h i->nV P i):=by
 have yS:k<h.length:=(aF.1 hc).1;have hl:=H.lt;let⟨h0,a0,H0,c0,l0,o0,r0⟩:=Ab t k 0 af h b u w H hc
 let⟨h1,a1,H1,c1,l1,o1,r1⟩:=Ab t k 1 af _ _ _ w H0 c0
 let⟨h2,a2,H2,c2,l2,o2,r2⟩:=Ab t k 2 af _ _ _ w H1 c1
 let⟨h3,Yi,H3,yF,lo3,o3,r3⟩:=Ab t k 3 af _ _ _ w H2 c2
 let⟨h4,Yh,H4,QU,lo4,o4,r4⟩:=Ab t k 4 af _ _ _ w H3 yF
 have eb:∀j,j<5->(if j=4 then h3.length else if j=3 then h2.length else if j=2 then h1.length else if j=1 then h0.length else if j=0 then h.length else b j)=h.length+j:=λj hj=>by
  match j,hj with
  |0,_=>rfl
  |1,_=>exact l0
  |2,_=>show h1.length=_;omega
  |3,_=>show h2.length=_;omega
  |4,_=>show h3.length=_;omega
 have eu:∀j,j<5->(if j=4 then 0 else if j=3 then 0 else if j=2 then 0 else if j=1 then 0 else if j=0 then 0 else u j)=0:=λj hj=>by
  match j,hj with
  |0,_=>rfl
  |1,_=>rfl
  |2,_=>rfl
  |3,_=>rfl
  |4,_=>rfl
 have H5:WH h4 (λj=>h.length+j) (λ_=>0) w:=WH.of (λj hj=>by
  have:=H4.r j hj;simp only[eb j hj,eu j hj]at this;exact this) (λi j _ _ h=>aa) H4.cl
 have Ts:h4[k]? = some (.var (WC (λj=>h.length+j) (λ_=>0) w)):=by
  rw[QU,Yn eb eu]
 have hd:=amF (L:=h.length) aa yS H5 Ts
 have qy:∀i,i≠k->((h4.take h.length).set k .gone)[i]? = (h4.take h.length)[i]? := λi hi=>aJ (Ne.symm hi)
 have old:∀i,i<h.length->i≠k->(∀j,j<5->i≠b j)->((h4.take h.length).set k .gone)[i]? = h[i]? := λi hi hne hnb=>by
  rw[qy i hne,fu hi,o4 i aa hne (hnb 4 af),o3 i aa hne (hnb 3 af),o2 i aa hne (hnb 2 af),o1 i aa hne (hnb 1 af),o0 i aa hne (hnb 0 af)]
 have row:∀i,i<h.length->nV h i->nV ((h4.take h.length).set k .gone) i:=λi hi hr=>by
  have hik:i≠k:=λe=>by
   let⟨C,q1,q2⟩:=hr;rw[e,hc]at q1;cases q1;cases q2
  let⟨C,q1,q2⟩:=r4 _ (r3 _ (r2 _ (r1 _ (r0 _ hr))));exact⟨C,by rw[qy i hik,fu hi];exact q1,q2⟩
 have hlen:((h4.take h.length).set k .gone).length=h.length:=aj
 refine⟨(h4.take h.length).set k .gone,hlen,?_,λe he=>?_,old,row⟩
 .rw[hlen];unfold Cl;rw[aO];intro B hB;let⟨i,hi,e⟩:=dW hB;rw[hlen]at hi;have eB:((h4.take h.length).set k .gone)[i]? = some B:=by rw[aG aa,e]
  by_cases hik:i=k
  .subst hik;rw[aZ aj]at eB
   cases eB;rfl
  .by_cases hib : ∃ j, j < 5 /\ i = b j
   .obtain⟨j,hj,rfl⟩:=hib;let⟨C,q1,q2⟩:=row _ hi ⟨_,H.r j hj,rfl⟩;rw[q1]at eB;cases eB;cases B with
    |row v sz es=>rfl
    |_=>cases q2
   .rw[old i hi hik λj hj e=>hib ⟨j,hj,e⟩]at eB
    exact aO.1 H.cl B (aR eB)
 .have:Hd ((h4.take h.length).set k .gone) k w=Hd (h4.take h.length) k w:=by
   unfold Hd;rw[List.set_set,bL]
  rw[this,<-hd];simp only[jX];rw[show qk ⟨e,h⟩ (t,0,3)=⟨e,h0⟩from a0 e he,show qk ⟨e,h0⟩ (t,1,3)=⟨e,h1⟩from a1 e he,show qk ⟨e,h1⟩ (t,2,5)=⟨e,h2⟩from a2 e he,show qk ⟨e,h2⟩ (t,3,3)=⟨e,h3⟩from Yi e he,show qk ⟨e,h3⟩ (t,4,1)=⟨e,h4⟩from Yh e he]
def Dg{P:AH}{k:Nat}(w:Wd)(hk:k<P.length)(oZ:Cl P.length P):j5 (P.length+5) [P.length,P.length+1,P.length+2,P.length+3,P.length+4] (Hd P k w) 0 (Hd P k w)=Hd P k w:=by
 apply dr;intro i;rw[sj,bE]
 by_cases h1:i<P.length
 .have hni:[P.length,P.length+1,P.length+2,P.length+3,P.length+4].contains i=false:=by
   rw[gP];intro hh;simp at hh;omega
  by_cases h2:i=k
  .subst h2;rw[tv P i w hk];simp only[bJ,kL,bp,AB.var.injEq];have r:∀j,j<5->(Hd P i w)[P.length+j]? = some (.row 0 (Az j) (yf w j)):=λj hj=>xJ P i w j hj
   have r0:=r 0 af
   simp only[ct]at r0;simp[WC,j9,r0,r 1 af,r 2 af,r 3 af,r 4 af]
  .rw[uq P k w i h1 h2];cases hB:P[i]? with
   |none=>rfl
   |some B=>rw[bJ,LL (n:=P.length) aa (λr hr=>by simp at hr;omega) (aO.1 oZ B (aR hB)) hni]
 .by_cases h5 : i < P.length + 5
  .obtain⟨j,rfl⟩:∃j,i=P.length+j:=⟨i-P.length,aa⟩
   rw[xJ P k w j aa]
   have Mo:[P.length,P.length+1,P.length+2,P.length+3,P.length+4].contains (P.length+j)=true:=by
    simp;omega
   simp only[bJ,kL,Mo,if_true]
  .rw[b9 (by rw[l9];omega)]
   rfl
structure Fk(P:AH)(k:Nat)(h:AH)(b:aA):Prop where
 le:P.length+5<=h.length
 old:∀i,i<P.length->i≠k->h[i]? = P[i]?
 row:∀j,j<5->nV h (P.length+j)
 new:∀j,j<5->b j=P.length+j\/P.length+5<=b j
def Fk.start(P:AH)(k:Nat)(w:Wd):Fk P k (Hd P k w) (λj=>P.length+j) :=
 ⟨by rw[l9];exact aN _,λi hi hne=>uq P k w i hi hne,λj hj=>⟨_,xJ P k w j hj,rfl⟩,λ_ _=>.inl rfl⟩
def Fk.call{P:AH}{k:Nat}{h2:AH}{b2:aA}(F:Fk P k h b)(G:Fw h b h2 b2):Fk P k h2 b2 :=
 ⟨cQ F.le G.le,λi hi hne=>(G.old i (by have:=F.le;omega) λj hj=>by
  rcases F.new j hj with e | e<;>omega).trans (F.old i hi hne),λj hj=>G.row _ (by have:=F.le;omega) (F.row j hj),λj hj=>by
  rcases G.new j hj with e | e
  .rw[e];exact F.new j hj
  .exact .inr (cQ F.le e)⟩
def Fk.DC{P:AH}{k:Nat}(F:Fk P k h b)(hk:k<P.length)(B:AB):Fk P k (h.set k B) b :=
 ⟨by rw[bL];exact F.le,λi hi hne=>by rw[aJ (Ne.symm hne)];exact F.old i hi hne,λj hj=>by
  let⟨C,q1,q2⟩:=F.row j hj;exact⟨C,by rw[aJ aa];exact q1,q2⟩,F.new⟩
def Fk.app{P:AH}{k:Nat}(F:Fk P k h b)(T:AH):Fk P k (h++T) b :=
 ⟨by rw[aL];have:=F.le;omega,λi hi hne=>by rw[aK (by have:=F.le;omega)];exact F.old i hi hne,λj hj=>(F.row j hj).app T,F.new⟩
def Fk.ne{P:AH}{k:Nat}(F:Fk P k h b)(hk:k<P.length):∀j,j<5->k≠b j:=λj hj=>by
 rcases F.new j hj with e | e<;>omega
def Fk.head{P:AH}{k:Nat}{h:AH}{b u:aA}{w:Wd}(F:Fk P k h b)(hk:k<P.length)(hP:Cl P.length P)(H:WH h b u w)(hc:h[k]? = some (.var (WC b u w)))(e:Env)(t:Nat)(he:e t = .ptr k 0 0 0)(keep:ax)(ks:List AV)(hks:∀h',sR (P.length+5) [P.length,P.length+1,P.length+2,P.length+3,P.length+4] h' e keep=ks):
  head (P.length+5) [P.length,P.length+1,P.length+2,P.length+3,P.length+4] keep (kO P.length [(t,0,3),(t,1,3),(t,2,5),(t,3,3),(t,4,1)] ⟨e,h⟩)=(ks,Hd P k w) :=
 Bp (abP e t k P.length he P rfl hk hP h b u w H hc F.row F.new F.old keep) hks
end Go.Proofs.YtaepagegdgdlhaaGreatDoor.X
