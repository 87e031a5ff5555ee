/- Part of the proof that TopPassedCard holds. -/
import Derived.Test.YtaepagegdgdlhaaGreatDoorRo20
set_option linter.all false
namespace Go.Proofs.YtaepagegdgdlhaaGreatDoor.F
open Go.Am Go.Am.Nm Go.Tr Go.Lib
open T (lG Bt Tv Nd En I B okB vN mB)
open R
open Y (jK lU mI cnt qA)
def Iw(m:List (Int×Int))(k v:Int):mN (m.map λp=>(p.1,I p.2)) k (I v)=(zz m k v).map λp=>(p.1,I p.2):=by
 induction m with
 |nil=>rfl
 |cons p m ih =>
  simp only[bF,mN,zz];split
  .rfl
  .rw[ih];rfl
def w9(m:List (Int×Int))(k:Int):mz (m.map λp=>(p.1,I p.2)) k (I 0)=I (uh m k):=by
 unfold mz uh;rw[gN];show Option.elim (Option.map _ (m.find? λp=>decide (p.1=k))) _ _=_
 cases m.find? λp=>decide (p.1=k)<;>rfl
def Jk(m:List (Int×Int))(k:Int):vw (m.map λp=>(p.1,I p.2)) k=qz m k:=by
 unfold vw qz;rw[gN];show Option.isSome (Option.map _ (m.find? λp=>decide (p.1=k)))=_
 cases m.find? λp=>decide (p.1=k)<;>rfl
abbrev vZ:AB:=.var [.jB true [],.jB true [],.int .i64 0,.int .i64 0]
abbrev ZJ(m:List (Int×Int)):AB:=.mp (m.map λp=>(p.1,I p.2))
abbrev vE(e:Tr.Ent):AB:=.var [.str e.name,.int .i64 e.ino,.int .i64 e.jC]
abbrev vTr(t:Tr.Tree):AB:=.var [.jB t.fn (t.nodes.map Nd),.int .i64 t.next,.int .i64 t.jC]
abbrev OY:AV:=.fn (.func 102) [] [.ptr 1 0 0 0,.ptr 3 0 0 0,.ptr 7 0 0 0,.ptr 5 0 0 0,.ptr 6 0 0 0,.ptr 8 0 0 0]
abbrev hs(t:Tr.Tree)(rs:List (au×Int))(s:HS)(X:AH):AH :=
 vZ::vTr t::ZJ s.m :: .var [.nQ 2] :: .mps (rs.map λp=>(p.1,I p.2)) :: .var [.nQ 4] :: .var [.int .i64 s.met] :: .var [.bool s.wh] :: .var [OY]::X
def IV(n:Nat)(h:AH):j9 (n+9) [] h OY=OY:=by
 simp[j9,OY,AV.lT,AV.kZ]
def Ic(P:AV)(X:AH)(A:List au):Prop:=∀(b0 b1 b2 b3 b4 b5 b6 b7 b8:AB)(Y:AH),elems (b0::b1::b2::b3::b4::b5::b6::b7::b8::(X++Y)) P=some (A.map AV.str)
structure En1(e0:Env)(t:Tr.Tree)(p:Tr.Node)(i:Int)(P:AV):Prop where
 h0:e0 0=I i
 h1:e0 1=P
 h2:e0 2 = .ptr 1 0 0 0
 h3:e0 3 = .ptr 3 0 0 0
 h4:e0 4 = .ptr 7 0 0 0
 h5:e0 5 = .ptr 5 0 0 0
 h6:e0 6 = .ptr 6 0 0 0
 h7:e0 7 = .ptr 8 0 0 0
 YP:e0 28 = .jB p.fe (p.jF.map En)
 h29:e0 29=I p.jF.length
def SK{n:Nat}(hn:86<=n)(Γ:kP)(hΓ:∀args,Γ.p 103 args=(jJ.jG n).p 103 args)(t:Tr.Tree)(w:Dd t)(rs:List (au×Int))(s:HS)(X:AH)(hX:X.all lE=true)(p:Tr.Node)(wz:p.jF.length<=1000)(i:Int)(P:AV)(k:Nat)(hk:k<p.jF.length)(e:Tr.Ent)(he:e=p.jF[k])(c:Tr.Node)(hc:find t.nodes e.ino=some c)(oV:c.kind=1)(e0:Env)(E:En1 e0 t p i P):
  round Γ [30] [(.exit 0,[])] BO e0 (X.length+9) [] ([I k],hs t rs s X)=some (.inl ([I (k+1)],hs t rs ⟨zz s.m e.ino (uh s.m i),s.met,s.wh&&(!qz s.m e.ino||decide (uh s.m e.ino=uh s.m i))⟩ X)):=by
 let⟨h0,h1,h2,h3,h4,h5,h6,h7,YP,h29⟩:=E;have hG:=T.ac2 (n:=n) aa t w.wf.oe (by have:=w.wf.len;omega) e.ino
 rw[hc,<-hΓ]at hG;simp only[Tv,Nd,mB,bw]at hG;have hca:∀args h,jM Γ 103 args h=vC (kY h args) Γ 103 args h:=λ_ _=>mG _ _ _ _
 have hfn:=λh=>IV X.length h
 unfold OY at hfn;unfold hs ZJ;simp(disch:=omega)[round_eq,BX,h0,h2,h3,h4,YP,h29,<-he,hca,hG,oV,Iw,w9,Jk,kH _ _ X _ hX,hfn]
abbrev ptD:List AV:=[.ptr 1 0 0 0,.ptr 3 0 0 0,.ptr 7 0 0 0,.ptr 5 0 0 0,.ptr 6 0 0 0,.ptr 8 0 0 0]
def PL(rs:List (au×Int))(A:List au):Option Int:=(rs.find? λp=>decide (p.1=jn A)).map λp=>p.2
def UJ{rs:List (au×Int)}{A:List au}(h:PL rs A=none):vw (rs.map λp=>(p.1,I p.2)) (jn A)=false:=by
 unfold PL at h;unfold vw;rw[gN];show Option.isSome (Option.map _ (rs.find? λp=>decide (p.1=jn A)))=_
 cases hq:rs.find? λp=>decide (p.1=jn A)with
 |none=>rfl
 |some x=>rw[hq]at h;cases h
def UI{rs:List (au×Int)}{A:List au}{a:Int}(h:PL rs A=some a):vw (rs.map λp=>(p.1,I p.2)) (jn A)=true/\mz (rs.map λp=>(p.1,I p.2)) (jn A) (.int .i64 0)=I a:=by
 unfold PL at h;unfold vw mz;rw[gN];show Option.isSome (Option.map _ (rs.find? λp=>decide (p.1=jn A)))=_/\Option.elim (Option.map _ (rs.find? λp=>decide (p.1=jn A))) _ _=_
 cases hq:rs.find? λp=>decide (p.1=jn A)with
 |none=>rw[hq]at h;cases h
 |some x =>
  rw[hq]at h;simp only[bJ,bp]at h;rw[<-h];exact⟨rfl,rfl⟩
def VN{n:Nat}(hn:86<=n)(Γ:kP)(hΓ:∀g args,g≠102->Γ.p g args=(jJ.jG n).p g args)(hH:∀args h,jM Γ 68 args h=mO 1 16 args h)(t:Tr.Tree)(w:Dd t)(rs:List (au×Int))(s:HS)(X:AH)(hX:X.all lE=true)(p:Tr.Node)(wz:p.jF.length<=1000)(i:Int)(P:AV)(A:List au)(hP:Ic P X A)(hπ:A.length<=12)(k:Nat)(hk:k<p.jF.length)(e:Tr.Ent)(he:e=p.jF[k])(hF:Fits (A++[e.name]))(c:Tr.Node)(hc:find t.nodes e.ino=some c)(oV:c.kind=2)(go:HS->HS)(R0:AV)
  (yB:∀s',∃Y,jM Γ 102 ([I e.ino,.own (X.length+11) 1 0 (A.length+1)]++ptD) (hs t rs s' (X++[vE e,vN c,.qa 1 1 ((A++[e.name]).map AV.str)]))=some (R0,hs t rs (go s') (X++[vE e,vN c,.qa 1 1 ((A++[e.name]).map AV.str)]++[Y])))
  (e0:Env) (E:En1 e0 t p i P) :
  round Γ [30] [(.exit 0,[])] BO e0 (X.length+9) [] ([I k],hs t rs s X)=some (.inl ([I (k+1)],hs t rs (go (Jl (PL rs) i A s e)) X)):=by
 let⟨h0,h1,h2,h3,h4,h5,h6,h7,YP,h29⟩:=E;have hG:=T.ac2 (n:=n) aa t w.wf.oe (by have:=w.wf.len;omega) e.ino
 rw[hc,<-hΓ 103 _ af]at hG
 have hJ:=λg=>s47 (n:=n) aa (A++[e.name]) g hF
 simp only[<-hΓ 47 _ af,cZ,bF,bQ]at hJ
 simp only[Tv,Nd,mB,bw]at hG;have hca:∀args h,jM Γ 103 args h=vC (kY h args) Γ 103 args h:=λ_ _=>mG _ _ _ _
 have hfn:=λh=>IV X.length h
 unfold OY at hfn;unfold hs ZJ;let⟨Y,yB⟩:=yB (Jl (PL rs) i A s e);unfold Ic at hP;unfold Jl at yB⊢;simp only[cF,bK,bB,cZ,bF,bQ,vE,vN,oV]at yB;rw[show X.length+11=X.length+2+1+1+1+1+1+1+1+1+1 from rfl]at yB
 cases hr:PL rs (A++[e.name])with
 |none =>
  have hm:=UJ hr;rw[hr]at yB;simp only[hs,ZJ]at yB;simp(disch:=omega)[round_eq,BX,h0,h1,h2,h3,h5,h7,YP,h29,<-he,hca,hG,oV,Iw,w9,Jk,hP,hH,mO,hJ,kH _ _ X _ hX,lN,hfn,hm,yB]
 |some a =>
  let⟨hm,hlk⟩:=UI hr;rw[hr]at yB;simp only[hs,ZJ]at yB;simp(disch:=omega)[round_eq,BX,h0,h1,h2,h3,h5,h6,h7,YP,h29,<-he,hca,hG,oV,Iw,w9,Jk,hP,hH,mO,hJ,kH _ _ X _ hX,lN,hfn,hm,hlk,yB]
def U8(X:AH)(a b:AB)(l:List AV):∀(b0 b1 b2 b3 b4 b5 b6 b7 b8:AB)(Y:AH),elems (b0::b1::b2::b3::b4::b5::b6::b7::b8::(X++[a,b,.qa 1 1 l]++Y)) (.own (X.length+11) 1 0 l.length)=some l:=by
 intro b0 b1 b2 b3 b4 b5 b6 b7 b8 Y
 have:(b0::b1::b2::b3::b4::b5::b6::b7::b8::(X++[a,b,AB.qa 1 1 l]++Y))[X.length+11]? = some (.qa 1 1 l):=by
  rw[show X.length+11=(X.length+2)+9 from rfl]
  simp only[bG,cF];rw[MA aa,eN]
  rfl
 simp only[elems,this];simp
def abV{t:Tr.Tree}(w:Dd t)(rs:List (au×Int)):∀(k:Nat)(i:Int)(P:AV)(d:Nat)(s:HS)(X:AH)(p:Tr.Node),k+d=13->find t.nodes i=some p->p.kind=2->wj t i d->Ic P X (nv t i)->X.all lE=true->
  rE (qH (jJ.jG 86) 102 BP k) BP ([I i,P]++ptD) (hs t rs s X)=some (.kT [],hs t rs (hdn t (PL rs) (k+1) i (nv t i) s) (X++[vN p]))
 |0,i,P,d,s,X,p,OI,hp,hk,hd,hP,hX=>by
  let⟨d',h1,h2⟩:=w.EZ hp hk;have:=hd.inj h1;omega
 |k+1,i,P,d,s,X,p,OI,hp,hk,hd,hP,hX=>by
  have hEn:=(w.wf.dir _ _ hp hk).2;have Hu:(X++[vN p]).all lE=true:=by simp[hX,lE,AV.kZ]
  let⟨p1,p2,p3⟩:=DZ w hp hk;have hΓ:∀g args,g≠102->(qH (jJ.jG 86) 102 BP (k+1)).p g args=(jJ.jG 86).p g args:=λg args hg=>ac5 hg args (k+1)
  have hH:∀args h,jM (qH (jJ.jG 86) 102 BP (k+1)) 68 args h=mO 1 16 args h:=λargs h =>
   (oO (λa=>by rw[hΓ 68 _ af];exact k8.ua rfl _ _)).trans ((ac6 af args h (k+1)).trans (q68 af args h))
  have hP':Ic P (X++[vN p]) (nv t i):=λb0 b1 b2 b3 b4 b5 b6 b7 b8 Y=>by rw[cF];exact hP b0 b1 b2 b3 b4 b5 b6 b7 b8 _
  have hL:∀e0:Env,En1 e0 t p i P->iter (round (qH (jJ.jG 86) 102 BP (k+1)) [30] [(.exit 0,[])] BO e0 ((X++[vN p]).length+9) []) ([.int .i64 0],hs t rs s (X++[vN p]))=some (.exit 0,[],hs t rs (hdn t (PL rs) (k+1+1) i (nv t i) s) (X++[vN p])):=λe0 E=>by
   have := jU (f := round (qH (jJ.jG 86) 102 BP (k + 1)) [30] [(.exit 0, [])] BO e0 ((X ++ [vN p]).length + 9) []) (λj (s : HS) => ([I j], hs t rs s (X ++ [vN p]))) p.jF (hE t (PL rs) (hdn t (PL rs) (k + 1)) i (nv t i)) (λs => (.exit 0, [], hs t rs s (X ++ [vN p]))) (λ_ _ => True)
    (λj hj s _=>by
     refine⟨trivial,?_⟩;have hem:=aS hj;obtain⟨e,he⟩:∃e,e=p.jF[j]:=⟨_,rfl⟩;rw[<-he]at hem⊢;let⟨⟨c,hc⟩,_,_⟩:=tf w hp hem
     rcases w.wf.kind _ _ hc with oV | oV
     .have:=SK (n:=86) (aN _) _ (λargs=>hΓ 103 args af) t w rs s (X++[vN p]) Hu p (by have:=hEn.len;omega) i P j hj e he c hc oV e0 E
      rw[this];unfold hE;rw[mh hc,if_pos oV];simp
     .have hpe:=Iy w hp hem hc oV;let⟨q1,q2,q3⟩:=DZ w hc oV;rw[hpe]at q3
      have hdc:wj t e.ino (d+1):=by
       have F9:=(Ai w (i:=i) ⟨e,by rw[mh hp];exact hem,rfl⟩ hc oV)
       exact .up hc oV F9.2 (by rw[F9.1];exact hd)
      have hPc:Ic (.own ((X++[vN p]).length+11) 1 0 ((nv t i).length+1)) ((X++[vN p])++[vE e,vN c,.qa 1 1 ((nv t i++[e.name]).map AV.str)]) (nv t e.ino):=by
       have:=U8 (X++[vN p]) (vE e) (vN c) ((nv t i++[e.name]).map AV.str);simp only[cV,aL,aQ,bq,bE]at this;rw[hpe];unfold Ic
       simpa using this
      have:=VN (n:=86) (aN _) _ hΓ hH t w rs s (X++[vN p]) Hu p (by have:=hEn.len;omega) i P (nv t i) hP' p1 j hj e he q3 c hc oV (hdn t (PL rs) (k+1) e.ino (nv t i++[e.name])) (.kT []) (λs'=>by
       refine⟨vN c,?_⟩;rw[Sw];have:=abV w rs k e.ino _ (d+1) s' _ c aa hc oV hdc hPc (by simp[hX,lE,AV.kZ])
       rw[this,hpe]) e0 E
      rw[this];unfold hE;rw[mh hc,if_neg aa]
      simp)
    (λs _=>by
     let⟨h0,h1,h2,h3,h4,h5,h6,h7,YP,h29⟩:=E;simp[round_eq,BX,h29]) s trivial
   rw[Mm,mh hp];exact this
  have hG:=T.ac2 (n:=86) af t w.wf.oe (by have:=w.wf.len;omega) i
  rw[hp,<-hΓ 103 _ af]at hG
  simp only[Tv,Nd,mB,bw]at hG;have hca:∀args h,jM (qH (jJ.jG 86) 102 BP (k+1)) 103 args h=vC (kY h args) (qH (jJ.jG 86) 102 BP (k+1)) 103 args h:=λ_ _=>mG _ _ _ _
  have hfn:=λh=>IV (X.length+1) h
  have hnX:=λL h i=>kH L h (X++[vN p]) i Hu
  have hc1:∀n h,((λp:Int×AV=>(p.1,j9 n [] h p.2))∘λp:Int×Int=>(p.1,I p.2))=λp=>(p.1,I p.2):=λ_ _=>rfl
  have yC:∀n h,((λp:au×AV=>(p.1,j9 n [] h p.2))∘λp:au×Int=>(p.1,I p.2))=λp=>(p.1,I p.2):=λ_ _=>rfl
  have e8:(X++[vN p]).length+9=X.length+1+1+1+1+1+1+1+1+1+1:=ah
  rw[e8]at hL;rw[show X.length+1+9=X.length+1+1+1+1+1+1+1+1+1+1 from rfl]at hfn
  simp only[hs,ZJ]at hL;generalize qH (jJ.jG 86) 102 BP (k+1)=Γ at *
  rw[jy];unfold OY at hfn;unfold hs ZJ;simp[BP,hca,hG,lN,hfn,hc1,yC,hnX];rw[hL _ ⟨ah,ah,ah,ah,ah,ah,ah,ah,ah,ah⟩]
  simp
open Go.Am Go.Am.Nm Go.Tr Go.Lib
open T (lG Bt Tv Nd En I B okB vN mB)
open R
open Y (jK lU mI cnt qA pat)
def Zj(l:List Sh.P)(k:Nat):List (au×Int):=(List.range k).map λi=>(pat l i,(i:Int))
def Yw(l:List Sh.P):List (au×Int):=Zj l l.length
def LG{l:List Sh.P}(h:jK l){i j:Nat}(hi:i<l.length)(hj:j<l.length)(e:pat l i=pat l j):i=j:=by
 rcases fZ i j with h1 | h1 | h1
 .have:=h.inc i j h1 hj;rw[e,Kp.kU]at this;cases this
 .exact h1
 .have:=h.inc j i h1 hi;rw[e,Kp.kU]at this;cases this
def rt_eq{l:List Sh.P}(h:jK l):PL (Yw l)=UK l:=by
 funext C
 unfold PL UK;cases hq:(Yw l).find? λp=>decide (p.1=jn C)with
 |none =>
  rw[dy]at hq;cases hf:qA l (jn C)with
  |false=>rfl
  |true =>
   exfalso;let⟨h1,h2⟩:=Y.qT hf;have:=hq (pat l (cnt l (jn C)),((cnt l (jn C):Nat):Int)) (by unfold Yw Zj;exact bx.2 ⟨_,eT.2 h1,rfl⟩)
   simp[h2]at this
 |some x =>
  have h1:=dx hq;have h2:x.1=jn C:=by simpa using ek hq
  unfold Yw Zj at h1;obtain⟨i,hi,rfl⟩:=bx.1 h1;have hi:=eT.1 hi;have hf:=Xb h hi h2;let⟨h3,h4⟩:=Y.qT hf;rw[if_pos hf,LG h hi h3 (h2.trans h4.symm)];rfl
def PW{A:Type}[DecidableEq A]:∀(es:List (A×AV))(k:A)(v:AV),(∀p∈es,p.1≠k)->mN es k v=es++[(k,v)]
 | [],k,v,_=>rfl
 |p::es,k,v,h=>by
  rw[mN,if_neg (h p bu),PW es k v λq hq=>h q (bt _ hq)];rfl
abbrev mpS(r:List (au×Int)):AB:=.mps (r.map λp=>(p.1,I p.2))
abbrev h0(t:Tr.Tree)(r:List (au×Int)):AH:=[vZ,vTr t,.mp [(1,.int .i64 0)],.var [.nQ 2],mpS r,.var [.nQ 4]]
def ajH{Γ:kP}(t:Tr.Tree)(l:List Sh.P)(hr:jK l)(f:Bool)(e0:Env)(Jp:e0 16 = .jB f (l.map Sh.D))(Bx:e0 17=I l.length)(h7:e0 7 = .ptr 5 0 0 0):
  iter (round Γ [18] [(.exit 0,[])] Rg e0 6 []) ([.int .i64 0],h0 t [])=some (.exit 0,[],h0 t (Yw l)):=by
 have := jU (f := round Γ [18] [(.exit 0, [])] Rg e0 6 []) (λk (_ : Unit) => ([.int .i64 (k : Int)], h0 t (Zj l k))) (List.range l.length) (λs _ => s) (λ_ => (.exit 0, [], h0 t (Yw l))) (λ_ _ => True)
  (λk hk s _=>by
   refine⟨trivial,?_⟩;have hk':k<l.length:=by simpa using hk
   have hl:=hr.le;obtain⟨x,hx⟩:∃x,x=l[k]:=⟨_,rfl⟩;have hp:pat l k=x.pa:=by rw[hx];exact Y.mE hk'
   have hput:mN ((Zj l k).map λp=>(p.1,I p.2)) x.pa (.int .i64 (k:Int))=(Zj l (k+1)).map λp=>(p.1,I p.2):=by
    rw[PW]
    .unfold Zj;rw[eY];simp[hp]
    .intro p hm;obtain⟨q,hq,rfl⟩:=bx.1 hm;unfold Zj at hq;obtain⟨i,hi,rfl⟩:=bx.1 hq;have hi:=eT.1 hi;intro e;have:=LG hr (show i<l.length by omega) hk' (e.trans hp.symm)
     omega
   have yC:∀n h,((λp:au×AV=>(p.1,j9 n [] h p.2))∘λp:au×Int=>(p.1,I p.2))=λp=>(p.1,I p.2):=λ_ _=>rfl
   unfold h0 mpS;simp(disch:=omega)[round_eq,RH,Jp,Bx,h7,<-hx,hput,yC])
  (λs _=>by
   simp only[dU];unfold h0;simp(disch:=omega)[round_eq,RH,Bx,Yw]) () trivial
 simpa[Zj]using this
def s43{n:Nat}(hn:114<n){t:Tr.Tree}(w:Dd t)(l:List Sh.P)(hr:jK l)(f:Bool):∃(b:Bool) (p:Tr.Node),jM (jJ.jG n) 43 [.jB f (l.map Sh.D),Tv t] [vZ]=some (.kT [.nQ 2,.bool b],hs t (Yw l) (hdn t (UK l) 14 1 [] ⟨[(1,0)],1,true⟩) [vN p]):=by
 let⟨r,hrt,hrk,_⟩:=w.wf.root;have hg:=abV w (Yw l) 13 1 (.jB true []) 0 ⟨[(1,0)],1,true⟩ [] r aa hrt hrk .root (λ_ _ _ _ _ _ _ _ _ _=>by rw[sE];rfl) rfl
 rw[<-aoN (n:=114) af,sE,rt_eq hr]at hg
 generalize hdn t (UK l) 14 1 [] ⟨[(1,0)],1,true⟩=s at *
 have h1:=ajH (Γ:=jJ.jG 114) t l hr f;have hl:=hr.le;have hnl:=w.wf.len;refine⟨s.wh&&(decide (s.met=l.length)&&decide ((s.m.length:Int)=t.nodes.length)),r,?_⟩;rw[ph 43 rfl hn rfl,jy];simp only[hs,ZJ,h0,mpS,ptD,bK,bB,bQ,bF]at hg h1;simp(disch:=omega)[c43,mN];rw[h1 _ aq aq aq]
 have hcell:OY.cells=[OY]:=rfl;have hok:OY.tF=true:=rfl;unfold OY at hcell hok hg;simp(disch:=omega)[hcell,hok,over,hg];rw[Bool.and_assoc]
open Go.Am Go.Am.Nm Go.Tr Go.Lib
open T (lG Bt Tv Nd En I B okB vN mB)
open R
open Y (jK lU mI cnt qA pat)
def qB(A:Nat->AB):AH:=(List.range 8).map A
@[simp]def Zh(A:Nat->AB):(qB A).length=8:=by simp[qB]
def PJ(A:Nat->AB){g:Nat}(h:g<8):(qB A)[g]? = some (A g):=by simp[qB,h]
def Zg(A:Nat->AB)(g:Nat)(a:AB):(qB A).set g a=qB λj=>if j=g then a else A j:=by
 apply iP
 .simp
 .intro k h1 h2;simp only[qB,List.getElem_set,gw,bZ]
  by_cases h:k=g
  .simp[h]
  .simp[h,Ne.symm h]
def rF(ks:ax)(a:Nat->AV):List (Int×AV):=ks.map λ(j:Nat)=>((j:Int),a j)
def Ee(ks:ax)(a:Nat->AV)(g:Nat):((rF ks a).find? λp=>decide (p.1=(g:Int)))=if g∈ks then some ((g:Int),a g)else none:=by
 unfold rF;rw[gN];show Option.map _ (ks.find? λ(j:Nat)=>decide ((j:Int)=(g:Int)))=_
 by_cases h:g∈ks
 .rw[if_pos h];cases hq:ks.find? λ(j:Nat)=>decide ((j:Int)=(g:Int))with
  |none =>
   rw[dy]at hq;exact absurd (hq g h) ah
  |some x =>
   have:x=g:=by have:=ek hq;simp at this;omega
   rw[this];rfl
 .rw[if_neg h];cases hq:ks.find? λ(j:Nat)=>decide ((j:Int)=(g:Int))with
  |none=>rfl
  |some x =>
   have h1:=dx hq;have:x=g:=by have:=ek hq;simp at this;omega
   exact absurd (this▸h1) h
def wX(ks:ax)(a:Nat->AV)(g:Nat)(z:AV):mz (rF ks a) (g:Int) z=if g∈ks then a g else z:=by
 unfold mz;rw[Ee];split<;>rfl
def IW(ks:ax)(a:Nat->AV)(g:Nat)(x:AV)(hn:ks.Nodup):mN (rF ks a) (g:Int) x=rF (if g∈ks then ks else ks++[g]) λj=>if j=g then x else a j:=by
 induction ks with
 |nil=>simp[rF,mN]
 |cons k ks ih =>
  rw[dg]at hn;have ih:=ih hn.2;have e:rF (k::ks) a=((k:Int),a k)::rF ks a:=rfl;rw[e,mN]
  by_cases h:k=g
  .subst h;have hne:∀j∈ks,j≠k:=λj hj e=>hn.1 (e▸hj)
   simp only[if_true,aP,true_or];show _=((k:Int),if k=k then x else a k)::(rF ks λj=>if j=k then x else a j)
   rw[if_pos rfl]
   congr 1
   unfold rF;apply cS;intro j hj;show ((j:Int),a j)=((j:Int),if j=k then x else a j)
   rw[if_neg (hne j hj)]
  .have hk:¬((k:Int)=(g:Int)):=by omega
   have YJ:¬g=k:=λe=>h e.symm
   rw[if_neg hk,ih]
   by_cases hg:g∈ks
   .simp only[hg,if_true,aP,YJ,or_true];show _=((k:Int),if k=g then x else a k)::_
    rw[if_neg h];rfl
   .simp only[hg,if_false,aP,YJ,or_self];show _=((k:Int),if k=g then x else a k)::_
    rw[if_neg h];rfl
abbrev hQ(t:Tr.Tree)(l:List Sh.P)(s:HS)(p:Tr.Node):AH :=
 [vZ,vTr t,ZJ s.m,.var [.nQ 2],.mps ((Yw l).map λp=>(p.1,I p.2)),.var [.nQ 4],.var [.int .i64 s.met],.var [.bool s.wh],.var [OY],vN p]
def SC(n:aA)(v:aA)(j:Nat):AV:=.own (j+11) (v j) 0 (n j)
def Sv(r:Nat->List Tr.Node)(v:aA)(j:Nat):AB:=.row (v j) 6 ((r j).map Nd)
abbrev KE:aD:=[(7,0,6),(7,1,6),(7,2,6),(7,3,6),(7,4,6),(7,5,6),(7,6,6),(7,7,6)]
abbrev R8:ax:=[11,12,13,14,15,16,17,18]
def NT(r:Nat->List Tr.Node)(g:Nat)(x:Tr.Node):Nat->List Tr.Node:=λj=>if j=g then r j++[x]else r j
def oH(L:Nat)(R:ax)(h0:AH):∀(A B:AH)(i:Nat),j5 L R h0 i (A++B)=j5 L R h0 i A++j5 L R h0 (i+A.length) B
 | [],B,i=>by simp[j5]
 |a::A,B,i=>by
  simp only[bK,j5,oH L R h0 A B (i+1),aQ];rw[show i+1+A.length=i+(A.length+1) by omega]
def UT{s:St}{t m τ j:Nat}{es:List (Int×AV)}(ht:s.e t = .nQ m)(hm:s.h[m]? = some (.mp es))(hj:∀y,(es.find? λp=>decide (p.1=(j:Int))).map (λp=>p.2)=some y->∃v n,y = .own τ v 0 n)(z:Nat):tD τ s (t,j,z)=s:=by
 unfold tD r6;simp only[ht,hm];cases h:(es.find? λp=>decide (p.1=(j:Int))).map λp=>p.2 with
 |none=>rfl
 |some y =>
  obtain⟨v,n,rfl⟩:=hj y h;simp
def Lq:∀(a b:aD)(τ:Nat)(s:St),kO τ (a++b) s=kO (τ+a.length) b (kO τ a s)
 | [],b,τ,s=>rfl
 |p::a,b,τ,s=>by
  simp only[bK,kO,aQ];rw[Lq a b,show τ+1+a.length=τ+(a.length+1) by omega]
def adK(j k:Nat):aD:=(List.range' j k).map λi=>(7,i,6)
def xQ{s:St}{m:Nat}{ks:ax}{a:Nat->AV}(ht:s.e 7 = .nQ m)(hm:s.h[m]? = some (.mp (rF ks a))):∀(k j:Nat),(∀i,j<=i->i<j+k->i∈ks->∃v n,a i = .own (i+11) v 0 n)->kO (j+11) (adK j k) s=s
 |0,j,_=>rfl
 |k+1,j,h=>by
  have e:adK j (k+1)=(7,j,6)::adK (j+1) k:=rfl
  rw[e,kO,UT ht hm (j:=j) (λy hy=>by
   rw[Ee]at hy;split at hy
   .rename_i hk;let⟨v,n,e⟩:=h j (aN _) aa hk
    simp only[bJ,bp]at hy;exact⟨v,n,by rw[<-hy,e]⟩
   .cases hy) 6]
  have:=xQ ht hm k (j+1) λi h1 h2=>h i aa aa
  rwa [show j+1+11=j+11+1 by omega]at this
open Go.Am Go.Am.Nm Go.Tr Go.Lib
open T (lG Bt Tv Nd En I B okB vN mB)
open R
open Y (jK lU mI cnt qA pat kD)
def I8(x:Tr.Node):List Tr.Node->List Tr.Node
 | []=>[x]
 |y::l=>if x.ino<=y.ino then x::y::l else y::I8 x l
def L8(x:Tr.Node):∀l:List Tr.Node,Gv 0 (Nd x) (l.map Nd)=(I8 x l).map Nd
 | []=>rfl
 |y::l=>by
  rw[bF,Gv,I8];have e:∀z:Tr.Node,(Bc 0 (Nd z)).getD 0=z.ino:=λ_=>rfl
  rw[e,e];split
  .rfl
  .rw[L8 x l];rfl
def Bi(x:Tr.Node):∀l:List Tr.Node,(I8 x l).Perm (x::l)
 | []=>.refl _
 |y::l=>by
  rw[I8];split
  .exact .refl _
  .exact((Bi x l).cons y).trans (.swap x y l)
def L7(x:Tr.Node):∀l:List Tr.Node,qQ l->(∀y∈l,y.ino≠x.ino)->qQ (I8 x l)
 | [],_,_=>by simp[I8,qQ]
 |y::l,h,hn=>by
  unfold qQ at h⊢;rw[bh]at h;have hxy:=hn y bu;rw[I8];split
  .rw[bh];refine⟨λz hz=>?_,bh.2 h⟩
   rcases aP.1 hz with rfl | hz
   .omega
   .have:=h.1 z hz;omega
  .rw[bh];refine⟨λz hz=>?_,L7 x l h.2 λy hy=>hn y (bt _ hy)⟩
   rcases aP.1 ((Bi x l).subset hz)with rfl | hz
   .omega
   .exact h.1 z hz
def DB:∀m:List Tr.Node,(m.map Tr.Node.ino).Nodup->∃b,sv 0 (m.map Nd)=b.map Nd/\b.Perm m/\qQ b
 | [],_=>⟨[],rfl,.refl _,.nil⟩
 |x::m,h=>by
  rw[bF,dg]at h;let⟨b,h1,h2,h3⟩:=DB m h.2;refine⟨I8 x b,?_,(Bi x b).trans (h2.cons x),L7 x b h3 λy hy e=>h.1 (bx.2 ⟨y,h2.subset hy,e⟩)⟩
  show Gv 0 (Nd x) (sv 0 (m.map Nd))=_;rw[h1,L8]
def zo{l:List Tr.Node}(h:qQ l):(l.map Tr.Node.ino).Nodup:=by
 unfold List.Nodup;rw[iK];exact h.imp λh=>aa
def Uw{m l:List Tr.Node}(hp:m.Perm l)(hs:qQ l):sv 0 (m.map Nd)=l.map Nd:=by
 let⟨b,h1,h2,h3⟩:=DB m ((hp.map _).nodup_iff.2 (zo hs));rw[h1,GR (h2.trans hp) h3 hs]
def VP(m:List Tr.Node):((m.map Nd).all λx=>(Bc 0 x).isSome)=true:=by simp[Bc,AV.cells]
def keys_map(m:List Tr.Node):((m.map Nd).map λx=>(Bc 0 x).getD 0)=m.map Tr.Node.ino:=by
 rw[gL];rfl
def l37{Γ:kP}(f:R.Fd)(hl:f.ls.length<=1000)(hll:(n9 f.ls).length<=1000000)(e0:Env)(h3:e0 3 = .ptr 1 0 0 0)(h12:e0 12 = .jB f.fl (f.ls.map Lv))(Tc:e0 13=I f.ls.length):
  iter (lD Γ 2 [(3,0,6)] [14] [(.exit 0,[])] Rh e0 3 [2]) ([.int .i64 0],[.var [.jB true [],.int .i64 0,.int .i64 0],.var [.own 2 0 0 0,.int .i64 f.next,.int .i64 f.jC],.row 0 6 []]) =
   some (.exit 0,[],[.var [.jB true [],.int .i64 0,.int .i64 0],.var [.own 2 0 0 (n9 f.ls).length,.int .i64 f.next,.int .i64 f.jC],.row 0 6 ((n9 f.ls).map Nd)]):=by
 have hal:∀ls:List Ar,ls.foldl (λ(a:List Tr.Node) x=>a++x.2) []=n9 ls:=by
  have:∀(ls:List Ar)(a:List Tr.Node),ls.foldl (λ(a:List Tr.Node) x=>a++x.2) a=a++n9 ls:=by
   intro ls
   induction ls with
   |nil=>intro a;simp[n9]
   |cons x ls ih=>intro a;rw[aT,ih,n9,cF]
  intro ls;rw[this,bB]
 have hle:∀(ls:List Ar)(k:Nat),(n9 (ls.take k)).length<=(n9 ls).length:=by
  intro ls
  induction ls with
  |nil=>intro k;simp[n9]
  |cons x ls ih =>
   intro k;cases k with
   |zero=>simp[n9]
   |succ k=>simp only[iu,n9,aL];have:=ih k;omega
 have uv:∀(ls:List Ar)(k:Nat)(h:k<ls.length),n9 (ls.take (k+1))=n9 (ls.take k)++ls[k].2:=by
  intro ls
  induction ls with
  |nil=>intro k h;simp at h
  |cons x ls ih =>
   intro k h;cases k with
   |zero=>simp[n9]
   |succ k=>simp only[iu,n9,iT];rw[ih k (an h),cF]
 have:=jU (f:=lD Γ 2 [(3,0,6)] [14] [(.exit 0,[])] Rh e0 3 [2]) (λk (a:List Tr.Node)=>([.int .i64 (k:Int)],[.var [.jB true [],.int .i64 0,.int .i64 0],.var [.own 2 0 0 a.length,.int .i64 f.next,.int .i64 f.jC],.row 0 6 (a.map Nd)])) f.ls (λa x=>a++x.2) (λa=>(.exit 0,[],[.var [.jB true [],.int .i64 0,.int .i64 0],.var [.own 2 0 0 a.length,.int .i64 f.next,.int .i64 f.jC],.row 0 6 (a.map Nd)])) (λk a=>a=n9 (f.ls.take k))
  (λk hk a ha=>by
   have h1:=hle f.ls (k+1);rw[uv _ _ hk,<-ha]at h1;refine⟨by rw[uv _ _ hk,<-ha],?_⟩
   obtain⟨x,hx⟩:∃x,x=f.ls[k]:=⟨_,rfl⟩;rw[<-hx]at h1⊢;rw[aL]at h1;simp(disch:=omega)[jV,RI,h3,h12,Tc,<-hx])
  (λa ha=>by simp(disch:=omega)[jV,RI,Tc]) [] (by simp[n9])
 rw[hal]at this
 simpa using this
variable{n:Nat}
def s37(hn:158<n)(f:R.Fd)(l:List Tr.Node)(h:agq f l):(jJ.jG n).p 37 [Fv f]=some (Tv ⟨false,l,f.next,f.jC⟩):=by
 rw[pp 37 rfl hn rfl,jA,jy];have hlen:(n9 f.ls).length=l.length:=h.perm.length_eq;have hll:=h.ll;have h1:=l37 (Γ:=jJ.jG 158) f h.len aa
 have C5:((n9 f.ls).map Tr.Node.ino).Nodup:=(h.perm.map _).nodup_iff.2 (zo h.oe);have hso:=Uw h.perm h.oe;have hka:=VP (n9 f.ls);have hkm:=keys_map (n9 f.ls)
 have akr:jM (jJ.jG 158) 89 [.own 2 0 0 (n9 f.ls).length,.fn (.func 90) [] []] [.var [.jB true [],.int .i64 0,.int .i64 0],.var [.own 2 0 0 (n9 f.ls).length,.int .i64 f.next,.int .i64 f.jC],.row 0 6 ((n9 f.ls).map Nd)]=some (.kT [],[.var [.jB true [],.int .i64 0,.int .i64 0],.var [.own 2 0 0 (n9 f.ls).length,.int .i64 f.next,.int .i64 f.jC],.row 0 6 (l.map Nd)]):=by
  rw[p89 af]
  unfold GS;simp only[bG,bz];rw[if_pos ⟨trivial,trivial,ah,trivial,aa,af,hka,by rw[hkm];exact C5⟩,hso]
  rfl
 rw[hlen]at h1 akr;simp[c37];rw[h1 _ rfl rfl rfl];simp[akr]
def whole'(hn:158<n){l:List Sh.P}{t:Tr.Tree}(h:Md l t)(fp:Bool):(jJ.jG n).p 37 [Fv (j6 fp l t)]=some (Tv (ff t)):=s37 hn _ _ (h.ZP fp)
def s7(hn:227<n)(f:R.Fd)(hl:f.ps.length<=1000000):(jJ.jG n).p 7 [Fv f]=some (.bool (f.ps.all λp=>decide (p.gr<=3))):=by
 rw[p7 hn,jA,jy]
 have h:∀e0:Env,e0 1 = .kE [.jB f.fp (f.ps.map Sh.D),.jB f.fl (f.ls.map Lv),I f.next,I f.jC]->iter (round (jJ.jG 227) [3] [(.exit 0,[]),(.ret,[2])] aaR e0 0 []) ([.int .i64 0],[])=some (if f.ps.all (λp=>decide (p.gr<=3))=true then(.exit 0,[],[])else(.ret,[.bool false],[])):=λe0 h1 =>
  qm (f:=round (jJ.jG 227) [3] [(.exit 0,[]),(.ret,[2])] aaR e0 0 []) (λi=>([.int .i64 i],[])) f.ps (λp=>decide (p.gr<=3)) _ _
   (λi hi=>by
    obtain⟨x,hx⟩:∃x,x=f.ps[i]:=⟨_,rfl⟩
    by_cases c:3<x.gr
    .have c':¬x.gr<=3:=by omega
     simp(disch:=omega)[round_eq,X7,h1,<-hx,c,c']
    .have c':x.gr<=3:=by omega
     simp(disch:=omega)[round_eq,X7,h1,<-hx,c,c'])
   (by simp(disch:=omega)[round_eq,X7,h1])
 simp(disch:=omega)[c7];rw[h _ rfl];cases f.ps.all λp=>decide (p.gr<=3)<;>simp(disch:=omega)
def s33(hn:153<n)(l:ay)(f:Bool)(x:Int)(hl:l.length<=1000000):(jJ.jG n).p 33 [.jB f (l.map I),I x]=some (.bool (decide (x∈l))):=by
 rw[pp 33 rfl hn rfl,jA,jy]
 have h:∀e0:Env,e0 0 = .jB f (l.map I)->e0 1=I x->iter (round (jJ.jG 153) [5] [(.exit 0,[]),(.ret,[4])] Ri e0 0 []) ([.int .i64 0],[])=some (if l.all (λy=>!decide (y=x))=true then(.exit 0,[],[])else(.ret,[.bool true],[])):=λe0 h0 h1 =>
  qm (f:=round (jJ.jG 153) [5] [(.exit 0,[]),(.ret,[4])] Ri e0 0 []) (λi=>([.int .i64 i],[])) l (λy=>!decide (y=x)) _ _
   (λi hi=>by
    obtain⟨y,hy⟩:∃y,y=l[i]:=⟨_,rfl⟩
    by_cases c:y=x
    .simp(disch:=omega)[round_eq,Ng,h0,h1,<-hy,c]
    .simp(disch:=omega)[round_eq,Ng,h0,h1,<-hy,c])
   (by simp[round_eq,Ng,h0])
 have hm:∀l:ay,(l.all λy=>!decide (y=x)) = !decide (x∈l):=by
  intro l
  induction l with
  |nil=>rfl
  |cons y l ih =>
   rw[bH,ih]
   by_cases c:y=x
   .simp[c]
   .have c':¬x=y:=λe=>c e.symm
    simp[c,c']
 rw[hm]at h;simp[c33];rw[h _ rfl rfl]
 by_cases c:x∈l<;>simp[c]
abbrev Lz:AV:=.agg [I 0,.jB true []]
def s78(hn:154<n)(f:R.Fd)(hl:f.ls.length<=1000000)(g:Int):(jJ.jG n).p 78 [Fv f,I g]=some (match uN f.ls g with
  |some x=>.kT [Lv x,.bool true]
  |none=>.kT [Lz,.bool false]):=by
 rw[pp 78 rfl hn rfl,jA,jy]
 have h:∀e0:Env,e0 1=I g->e0 2 = .kE [.jB f.fp (f.ps.map Sh.D),.jB f.fl (f.ls.map Lv),I f.next,I f.jC]->e0 4 = .ptr 0 0 0 0->iter (round (jJ.jG 154) [6] [(.exit 0,[]),(.ret,[5])] QZ e0 1 []) ([.int .i64 0],[.var [.int .i64 0,.jB true []]])=some ((f.ls.find? λx=>decide (x.1=g)).elim (.exit 0,[],[.var [.int .i64 0,.jB true []]]) (λx=>(.ret,[.bool true],[.var [I x.1,.jB false (x.2.map Nd)]]))):=λe0 h1 h2 h4 =>
  qS (f:=round (jJ.jG 154) [6] [(.exit 0,[]),(.ret,[5])] QZ e0 1 []) (λi=>([.int .i64 i],[.var [.int .i64 0,.jB true []]])) f.ls (λx=>decide (x.1=g)) (λ_ x=>(.ret,[.bool true],[.var [I x.1,.jB false (x.2.map Nd)]])) _
   (λi hi=>by
    obtain⟨x,hx⟩:∃x,x=f.ls[i]:=⟨_,rfl⟩;rw[<-hx]
    by_cases c:x.1=g
    .simp(disch:=omega)[round_eq,M8,h1,h2,h4,<-hx,c]
    .simp(disch:=omega)[round_eq,M8,h1,h2,<-hx,c])
   (by simp[round_eq,M8,h2])
 unfold uN;simp[c78];rw[h _ rfl rfl rfl];cases f.ls.find? λx=>decide (x.1=g)<;>simp
end Go.Proofs.YtaepagegdgdlhaaGreatDoor.F
