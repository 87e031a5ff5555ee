/- Part of the proof that TopPassedCard holds. -/
import Derived.Test.YtaepagegdgdlhaaGreatDoorRf20
set_option linter.all false
namespace Go.Proofs.YtaepagegdgdlhaaGreatDoor.R
open Go.Am Go.Am.Nm Go.Tr Go.Lib
open T (lG Bt Tv Nd En I B okB vN mB)
def pk(last:Int)(s:Option Tr.Node)(x:Tr.Node):Option Tr.Node:=if last<x.ino/\(s.elim true λy=>decide (x.ino<y.ino))=true then some x else s
def XV(s:Option Tr.Node):Int:=s.elim 0 Tr.Node.ino
def aby(last:Int):∀(l:List Tr.Node)(s:Option Tr.Node),(∀y,s=some y->last<y.ino)->(∀y,l.foldl (pk last) s=some y->last<y.ino/\(y∈l\/s=some y)/\(∀x∈l,last<x.ino->y.ino<=x.ino)/\∀z,s=some z->y.ino<=z.ino)/\(l.foldl (pk last) s=none->s=none/\∀x∈l,¬last<x.ino)
 | [],s,h=>⟨λy hy=>⟨h y hy,.inr hy,λx hx=>by (cases hx),λz hz=>by rw[eW]at hy;rw[hy]at hz;cases hz;exact fG _⟩,λhy=>⟨hy,λx hx=>by cases hx⟩⟩
 |x::l,s,h=>by
  rw[aT];have hs':∀y,pk last s x=some y->last<y.ino:=by
   intro y hy;unfold pk at hy;split at hy
   .rename_i hc;cases hy;exact hc.1
   .exact h y hy
  let⟨h1,h2⟩:=aby last l (pk last s x) hs';refine⟨λy hy=>?_,λhy=>?_⟩
  .let⟨a1,a2,a3,a4⟩:=h1 y hy
   have hle:(last<x.ino->y.ino<=x.ino)/\(∀z,s=some z->y.ino<=z.ino)/\(pk last s x=some y->y=x\/s=some y):=by
    unfold pk at a4⊢
    by_cases hc:last<x.ino/\(s.elim true λy=>decide (x.ino<y.ino))=true
    .rw[if_pos hc]at a4⊢;have:=a4 x rfl;refine⟨λ_=>this,λz hz=>?_,λe=>.inl (cu e).symm⟩
     rw[hz]at hc;simp only[bw,decide_eq_true_eq]at hc;omega
    .rw[if_neg hc]at a4⊢;refine⟨λhx=>?_,a4,λe=>.inr e⟩
     cases hs:s with
     |none=>rw[hs]at hc;exact absurd ⟨hx,rfl⟩ hc
     |some z =>
      have:=a4 z hs;rw[hs]at hc;simp only[bw,decide_eq_true_eq]at hc;omega
   refine⟨a1,?_,λz hz hlt=>?_,hle.2.1⟩
   .rcases a2 with a2 | a2
    .exact .inl (bt _ a2)
    .rcases hle.2.2 a2 with rfl | e
     .exact .inl bu
     .exact .inr e
   .rcases aP.1 hz with rfl | hz
    .exact hle.1 hlt
    .exact a3 z hz hlt
  .let⟨a1,a2⟩:=h2 hy;unfold pk at a1;split at a1
   .cases a1
   .rename_i hc;refine⟨a1,λz hz=>?_⟩
    rcases aP.1 hz with rfl | hz
    .intro hlt;exact hc ⟨hlt,by rw[a1];rfl⟩
    .exact a2 z hz
def El{α:Type}(g:α->Tr.Node->α):∀(f:List Ar)(s:α),f.foldl (λs x=>x.2.foldl g s) s=(n9 f).foldl g s
 | [],s=>rfl
 |x::f,s=>by rw[aT,El g f,n9,dV]
def xe(l:List Tr.Node)(k:Nat):Int:=if k=0 then 0 else(l[k-1]?).elim 0 Tr.Node.ino
def PZ{l m:List Tr.Node}(hs:qQ l)(hp:m.Perm l)(h0:∀n∈l,0<n.ino){k:Nat}(hk:k<=l.length):m.foldl (pk (xe l k)) none=l[k]? := by
 let⟨h1,h2⟩:=aby (xe l k) m none (λy hy=>by cases hy)
 have hlt:∀j (hj:j<l.length),xe l k<l[j].ino↔k<=j:=by
  intro j hj;unfold xe;split
  .rename_i hk0;have:=h0 _ (aS hj);omega
  .rw[aG aa]
   simp only[bw];have Z5:=bY.1 hs
   constructor
   .intro h;refine jr.1 λhjk=>?_
    rcases cG j (k-1)with h' | h'
    .have:=Z5 j (k-1) hj aa h'
     omega
    .have:j=k-1:=by omega
     subst this;omega
   .intro h;exact Z5 (k-1) j aa hj aa
 cases hr:m.foldl (pk (xe l k)) none with
 |none =>
  let⟨_,h3⟩:=h2 hr
  symm
  rw[iH];refine jr.1 λyS=>?_
  exact h3 l[k] (hp.mem_iff.2 (aS yS)) ((hlt k yS).2 (aN _))
 |some y =>
  let⟨a1,a2,a3,_⟩:=h1 y hr
  rcases a2 with a2 | a2
  .let⟨j,hj,e⟩:=cI.1 (hp.mem_iff.1 a2);subst e;have hkj:=(hlt j hj).1 a1;have yS:k<l.length:=by omega
   have:=a3 l[k] (hp.mem_iff.2 (aS yS)) ((hlt k yS).2 (aN _));have hjk:j=k:=by
    rcases cG k j with h | h
    .have:=bY.1 hs k j yS hj h;omega
    .omega
   subst hjk;rw[aG hj]
  .cases a2
open Go.Am Go.Am.Nm Go.Tr Go.Lib
open T (lG Bt Tv Nd En I B okB vN mB)
abbrev hW(o:List Tr.Node)(nx ck:Int)(s:Option Tr.Node):AH:=[.var [.jB true [],.int .i64 0,.int .i64 0],.var [.own 2 0 0 o.length,.int .i64 nx,.int .i64 ck],.row 0 6 (o.map Nd),vN (s.getD mq)]
def adX{Γ:kP}(f:Fd)(i:Nat)(hi:i<f.ls.length)(hl:f.ls.length<=1000)(x:Ar)(hx:x=f.ls[i])(hxl:x.2.length<=1000)(h0:∀q∈x.2,0<q.ino)(last:Int)(o:List Tr.Node)(s:Option Tr.Node)(hs:∀y,s=some y->0<y.ino)(e0:Env)(h1:e0 1 = .kE [.jB f.fp (f.ps.map Sh.D),.jB f.fl (f.ls.map Lv),I f.next,I f.jC])(h7:e0 7=I i)(h4:e0 4=I last)(h6:e0 6 = .ptr 3 0 0 0):
  iter (round Γ [5,8] [(.exit 4,[5])] Ki e0 4 []) ([I (XV s),.int .i64 0],hW o f.next f.jC s)=some (.exit 4,[I (XV (x.2.foldl (pk last) s))],hW o f.next f.jC (x.2.foldl (pk last) s)):=by
 have := jU (f := round Γ [5, 8] [(.exit 4, [5])] Ki e0 4 []) (λk (s : Option Tr.Node) => ([I (XV s), .int .i64 (k : Int)], hW o f.next f.jC s)) x.2 (pk last) (λs => (.exit 4, [I (XV s)], hW o f.next f.jC s)) (λ_ s => ∀ y, s = some y -> 0 < y.ino)
  (λk hk s hs=>by
   have hq0:=h0 _ (aS hk);obtain⟨q,hq⟩:∃q,q=x.2[k]:=⟨_,rfl⟩;rw[<-hq]at hq0⊢;have hI:∀y,pk last s q=some y->0<y.ino:=by
    intro y hy;unfold pk at hy;split at hy
    .cases hy;exact hq0
    .exact hs y hy
   refine⟨hI,?_⟩;unfold pk XV hW
   by_cases c1:last<q.ino
   .cases s with
    |none =>
     simp only[c1,cK,and_self,if_true,bw,bO,gY];simp(disch:=omega)[round_eq,zg,h1,h7,<-hx,h4,h6,<-hq,c1,mq]
    |some y =>
     have hy0:=hs y rfl;have hy1:¬y.ino=0:=aa
     by_cases c2:q.ino<y.ino
     .rw[if_pos ⟨c1,an c2⟩]
      simp(disch:=omega)[round_eq,zg,h1,h7,<-hx,h4,h6,<-hq,c1,c2,hy1]
     .rw[if_neg (λh=>c2 (an h.2))]
      simp(disch:=omega)[round_eq,zg,h1,h7,<-hx,h4,<-hq,c1,c2,hy1]
   .rw[if_neg (λh=>c1 h.1)]
    simp(disch:=omega)[round_eq,zg,h1,h7,<-hx,h4,<-hq,c1])
  (λs hs=>by simp(disch:=omega)[round_eq,zg,h1,h7,<-hx]) s hs
 simpa using this
def VM{Γ:kP}(f:Fd)(hl:f.ls.length<=1000)(hls:∀x∈f.ls,x.2.length<=1000/\∀q∈x.2,0<q.ino)(last:Int)(o:List Tr.Node)(e0:Env)(h1:e0 1 = .kE [.jB f.fp (f.ps.map Sh.D),.jB f.fl (f.ls.map Lv),I f.next,I f.jC])(h4:e0 4=I last)(h6:e0 6 = .ptr 3 0 0 0):
  iter (round Γ [5,7] [(.exit 2,[5])] Kh e0 4 []) ([.int .i64 0,.int .i64 0],hW o f.next f.jC none)=some (.exit 2,[I (XV ((n9 f.ls).foldl (pk last) none))],hW o f.next f.jC ((n9 f.ls).foldl (pk last) none)):=by
 have := jU (f := round Γ [5, 7] [(.exit 2, [5])] Kh e0 4 []) (λk (s : Option Tr.Node) => ([I (XV s), .int .i64 (k : Int)], hW o f.next f.jC s)) f.ls (λs x => x.2.foldl (pk last) s) (λs => (.exit 2, [I (XV s)], hW o f.next f.jC s)) (λ_ s => ∀ y, s = some y -> 0 < y.ino)
  (λk hk s hs=>by
   let⟨a1,a2⟩:=hls _ (aS hk);obtain⟨x,hx⟩:∃x,x=f.ls[k]:=⟨_,rfl⟩;rw[<-hx]at a1 a2⊢;have h:=adX (Γ:=Γ) f k hk hl x hx a1 a2 last o s hs
   have hI:∀y,x.2.foldl (pk last) s=some y->0<y.ino:=by
    have:∀(l:List Tr.Node)(s:Option Tr.Node),(∀q∈l,0<q.ino)->(∀y,s=some y->0<y.ino)->∀y,l.foldl (pk last) s=some y->0<y.ino:=by
     intro l
     induction l with
     |nil=>intro s _ h;exact h
     |cons q l ih =>
      intro s hq h;rw[aT];refine ih _ (λx hx=>hq x (bt _ hx)) ?_
      intro y hy;unfold pk at hy;split at hy
      .cases hy;exact hq q bu
      .exact h y hy
    exact this x.2 s a2 hs
   refine⟨hI,?_⟩;generalize x.2.foldl (pk last) s=s' at *
   unfold hW at h⊢;simp(disch:=omega)[round_eq,Kv,h1];rw[h _ (by simp(disch:=omega)[h1]) rfl (by simp(disch:=omega)[h4]) (by simp(disch:=omega)[h6])]
   simp(disch:=omega))
  (λs hs=>by simp(disch:=omega)[round_eq,Kv,h1]) none (by intro y hy;cases hy)
 rw[El]at this
 simpa[XV]using this
def adW{Γ:kP}(f:Fd)(hl:f.ls.length<=1000)(hls:∀x∈f.ls,x.2.length<=1000/\∀q∈x.2,0<q.ino)(l:List Tr.Node)(hs:qQ l)(hp:(n9 f.ls).Perm l)(hll:l.length<=1000000)(h0:∀q∈l,0<q.ino)(e0:Env)(h1:e0 1 = .kE [.jB f.fp (f.ps.map Sh.D),.jB f.fl (f.ls.map Lv),I f.next,I f.jC])(h2:e0 2 = .ptr 0 0 0 0)(h3:e0 3 = .ptr 1 0 0 0):
  iter (lD Γ 2 [(3,0,6)] [4] [(.ret,[])] Kg e0 3 [2]) ([.int .i64 0],[.var [.jB true [],.int .i64 0,.int .i64 0],.var [.own 2 0 0 0,.int .i64 f.next,.int .i64 f.jC],.row 0 6 []]) =
   some (.ret,[],[.var [.own 2 0 0 l.length,.int .i64 f.next,.int .i64 f.jC],.var [.own 2 0 0 l.length,.int .i64 f.next,.int .i64 f.jC],.row 0 6 (l.map Nd),vN mq]):=by
 have:=jU (f:=lD Γ 2 [(3,0,6)] [4] [(.ret,[])] Kg e0 3 [2]) (λk (_:Unit)=>([I (xe l k)],[.var [.jB true [],.int .i64 0,.int .i64 0],.var [.own 2 0 0 k,.int .i64 f.next,.int .i64 f.jC],.row 0 6 ((l.take k).map Nd)])) l (λs _=>s) (λ_=>(.ret,[],[.var [.own 2 0 0 l.length,.int .i64 f.next,.int .i64 f.jC],.var [.own 2 0 0 l.length,.int .i64 f.next,.int .i64 f.jC],.row 0 6 (l.map Nd),vN mq])) (λ_ _=>True)
  (λk hk s _=>by
   refine⟨trivial,?_⟩;have h:=VM (Γ:=Γ) f hl hls (xe l k) (l.take k);rw[PZ hs hp h0 (gI hk),aG hk]at h;have hq0:=h0 _ (aS hk);have e1:xe l (k+1)=l[k].ino:=by simp[xe,hk]
   have e2:l.take (k+1)=l.take k++[l[k]]:=by rw[bC hk]
   have uv:(l.take k).length=k:=aj
   rw[e1,e2];generalize l.take k=o at *
   generalize l[k]=q at *
   have hqn:¬q.ino=0:=aa
   simp only[hW,XV,bw,bO,gY,vN,mq,bQ,uv]at h;simp(disch:=omega)[jV,Ku];rw[h _ (by simp(disch:=omega)[h1]) rfl rfl]
   simp(disch:=omega)[hqn,h3,uv])
  (λs _=>by
   have h:=VM (Γ:=Γ) f hl hls (xe l l.length) l;rw[PZ hs hp h0 (aN _),b9 (aN _)]at h;simp only[hW,XV,cK,gY,vN,mq,bQ]at h;rw[dB];simp(disch:=omega)[jV,Ku];rw[h _ (by simp(disch:=omega)[h1]) rfl rfl]
   simp(disch:=omega)[h3,h2,vN,mq]) () trivial
 simpa[xe]using this
structure agq(f:Fd)(l:List Tr.Node):Prop where
 len:f.ls.length<=1000
 ls:∀x∈f.ls,x.2.length<=1000/\∀q∈x.2,0<q.ino
 oe:qQ l
 perm:(n9 f.ls).Perm l
 ll:l.length<=1000000
 pos:∀q∈l,0<q.ino
def aop{n:Nat}(hn:184<n)(f:Fd)(l:List Tr.Node)(h:agq f l):(jJ.jG n).p 108 [Fv f]=some (Tv ⟨false,l,f.next,f.jC⟩):=by
 rw[pp 108 rfl hn rfl,jA,jy];have h3:=adW (Γ:=jJ.jG 184) f h.len h.ls l h.oe h.perm h.ll h.pos;simp only[vN,mq,bQ]at h3;simp[amv];rw[h3 _ rfl rfl rfl];simp
open Go.Am Go.Am.Nm Go.Tr Go.Lib
open T (lG Bt Tv Nd En I B okB vN mB Bm)
open Y (jK lU)
def aoj{n:Nat}(hn:223<n)(t:Tr.Tree)(w:Dd t)(o:Opr)(hp:o.path.length<=1000)(ht:o.to.length<=1000):∃(u:Tr.Tree) (a:An),(jJ.jG n).p 117 [Tv t,Ov o]=some (.kT [Tv u,Av a])/\Dd u:=by
 have hb:=rz w.bg aa
 have oV:=w.bg.ck;have YF:=w.bg.nx;let⟨a0,OQ⟩:=aob (n:=223) af t w o hp
 let⟨d,s,e,Tb,hs⟩:=aiA (n:=223) af t hb o.path aa
 let⟨d2,s2,e2,Mu,hs2⟩:=aiA (n:=223) af t hb o.to aa
 have og:=Sn (n:=223) af t hb o.path aa
 generalize(o8 t o.path).1=x at *
 generalize(o8 t o.path).2=ex at *
 have hL:=T.aoa (n:=223) af t hb x d2 s2 aa aa
  (λq hq=>rz (w.bg.kG (by show q.jF.length<=_;have:=w.bg.jF q (jY hq).1;omega) (by show _<=q.links+1/\q.links+1<=_;have:=w.bg.lk q (jY hq).1;omega)) aa)
  (λq hq=>by have:=w.bg.lk q (jY hq).1;omega)
 have wL:=w.ln xS x d2 s2;have hA:=T.an8 (n:=223) af t hb d s aa o.n aa (λ_ _=>rz (w.bg.pP _ _) aa)
 have wA:=w.add xS d s o.n;have hU:=T.an7 (n:=223) af t hb d s aa (Pz w _ _).1 (Pz w _ _).2
 have wU:=w.un xS d s;have hM:=T.an6 (n:=223) af t hb d d2 s s2 aa aa aa (P7 w _ _ _ _).1 (P7 w _ _ _ _).2
 have wM:=w.mv xS d s d2 s2;have hK:=T.Sm (n:=223) af t hb d s aa
 generalize Tr.ln lG jP t x d2 s2=rL at *
 generalize Tr.add lG jP t d s o.n=rA at *
 generalize Tr.un lG t d s=rU at *
 generalize Tr.mv lG jP t d s d2 s2=rM at *
 generalize Tr.look lG t d s=rK at *
 let⟨uL,eL⟩:=rL;let⟨uA,xA,eA⟩:=rA;let⟨uU,xU,eU⟩:=rU;let⟨uM,xM,eM⟩:=rM;let⟨xK,eK⟩:=rK;simp only at hL wL hA wA hU wU hM wM hK;have told:=λ(u:Tr.Tree)(hu:Dd u)(e:Int)(a:An)=>an9 (n:=223) af t u hu e a
 have Pn:∀(u:Tr.Tree)(e:Int),Dd u->Dd (if e=0 then sY u else t):=λu e hu=>by
  split
  .exact Ua hu
  .exact w
 simp only[Tv,Ov,Av]at OQ Tb Mu og hL hA hU hM hK
 by_cases k1:o.kind=1\/o.kind=7\/o.kind=6
 .refine⟨t,a0,?_,w⟩;rw[pp 117 rfl hn rfl,jA,jy]
  rcases k1 with k | k | k
  .simp only[k]at OQ;simp -implicitDefEqProofs [CO,k,OQ]
  .simp only[k]at OQ;simp -implicitDefEqProofs [CO,k,OQ]
  .simp only[k]at OQ;simp -implicitDefEqProofs [CO,k,OQ]
 have q1:¬o.kind=1:=λh=>k1 (.inl h)
 have q7:¬o.kind=7:=λh=>k1 (.inr (.inl h))
 have q6:¬o.kind=6:=λh=>k1 (.inr (.inr h))
 by_cases q3:o.kind=3
 .by_cases c1 : ex = 0
  .by_cases c2 : e2 = 0
   .have hT:=told uL wL eL ⟨0,x,0,0,0,true,[]⟩;refine⟨_,(if eL=0 then(⟨0,x,0,0,0,true,[]⟩:An)else⟨eL,0,0,0,0,true,[]⟩),?_,Pn uL eL wL⟩
    .rw[pp 117 rfl hn rfl,jA,jy];generalize(if eL=0 then sY uL else t)=u at *
     generalize(if eL=0 then(⟨0,x,0,0,0,true,[]⟩:An)else⟨eL,0,0,0,0,true,[]⟩)=a at *
     simp only[Tv,Av,bQ]at hT;simp -implicitDefEqProofs [CO,q3,ca 109,og,c1,ca 171,Mu,c2,ca 172,hL,ca 173,hT]
   .refine⟨t,⟨e2,0,0,0,0,true,[]⟩,?_,w⟩;rw[pp 117 rfl hn rfl,jA,jy];simp -implicitDefEqProofs [CO,q3,ca 109,og,c1,ca 171,Mu,c2]
  .refine⟨t,⟨ex,0,0,0,0,true,[]⟩,?_,w⟩;rw[pp 117 rfl hn rfl,jA,jy];simp -implicitDefEqProofs [CO,q3,ca 109,og,c1]
 by_cases c0:¬e=0
 .refine⟨t,⟨e,0,0,0,0,true,[]⟩,?_,w⟩;rw[pp 117 rfl hn rfl,jA,jy];simp -implicitDefEqProofs [CO,q1,q7,q6,q3,ca 171,Tb,c0]
 replace c0:e=0:=cT c0
 by_cases q2:o.kind=2
 .have hT:=told uA wA eA ⟨0,xA,o.n,0,0,true,[]⟩;refine⟨_,(if eA=0 then(⟨0,xA,o.n,0,0,true,[]⟩:An)else⟨eA,0,0,0,0,true,[]⟩),?_,Pn uA eA wA⟩
  .rw[pp 117 rfl hn rfl,jA,jy];generalize(if eA=0 then sY uA else t)=u at *
   generalize(if eA=0 then(⟨0,xA,o.n,0,0,true,[]⟩:An)else⟨eA,0,0,0,0,true,[]⟩)=a at *
   simp only[Tv,Av,bQ]at hT;simp -implicitDefEqProofs [CO,q2,ca 171,Tb,c0,ca 174,hA,ca 173,hT]
 by_cases q4:o.kind=4
 .have hT:=told uU wU eU ⟨0,xU,0,0,0,true,[]⟩;refine⟨_,(if eU=0 then(⟨0,xU,0,0,0,true,[]⟩:An)else⟨eU,0,0,0,0,true,[]⟩),?_,Pn uU eU wU⟩
  .rw[pp 117 rfl hn rfl,jA,jy];generalize(if eU=0 then sY uU else t)=u at *
   generalize(if eU=0 then(⟨0,xU,0,0,0,true,[]⟩:An)else⟨eU,0,0,0,0,true,[]⟩)=a at *
   simp only[Tv,Av,bQ]at hT;simp -implicitDefEqProofs [CO,q4,ca 171,Tb,c0,ca 175,hU,ca 173,hT]
 by_cases c2:e2=0
 .have hT:=told uM wM eM ⟨0,xK,0,0,0,true,[]⟩;refine⟨_,(if eM=0 then(⟨0,xK,0,0,0,true,[]⟩:An)else⟨eM,0,0,0,0,true,[]⟩),?_,Pn uM eM wM⟩
  .rw[pp 117 rfl hn rfl,jA,jy];generalize(if eM=0 then sY uM else t)=u at *
   generalize(if eM=0 then(⟨0,xK,0,0,0,true,[]⟩:An)else⟨eM,0,0,0,0,true,[]⟩)=a at *
   simp only[Tv,Av,bQ]at hT;simp -implicitDefEqProofs [CO,q1,q7,q6,q3,q2,q4,ca 171,Tb,Mu,c0,c2,ca 164,hK,ca 176,hM,ca 173,hT]
 .refine⟨t,⟨e2,0,0,0,0,true,[]⟩,?_,w⟩;rw[pp 117 rfl hn rfl,jA,jy];simp -implicitDefEqProofs [CO,q1,q7,q6,q3,q2,q4,ca 171,Tb,Mu,c0,c2]
def aok{n:Nat}(hn:201<n)(t:Tr.Tree)(hb:Bt t)(f:Fd)(hl:lU f.ps)(o:Opr)(hp:o.path.length<=1000)(ht:o.to.length<=1000):∃b,(jJ.jG n).p 116 [Fv f,Tv t,Ov o]=some (.bool b):=by
 have og:=Sn (n:=201) af t hb o.path aa
 generalize(o8 t o.path).1=x at *
 generalize(o8 t o.path).2=ex at *
 let⟨b1,h1⟩:=aiC (n:=201) af o.path aa
 let⟨b2,h2⟩:=aiC (n:=201) af o.to aa
 let⟨g1,h3⟩:=Y.aiB (n:=201) af f.ps hl f.fp o.path aa
 let⟨g2,h4⟩:=Y.aiB (n:=201) af f.ps hl f.fp o.to aa
 have e1:((if Sh.jO o.path=true then(Y.bel f.ps o.path).map Y.N else[]:List AV)).length<=f.ps.length:=by
  split
  .have:=Sh.Be (λp=>qC o.path p.pa) f.ps 0
   simpa[Y.bel]using this
  .simp
 have e2:((if Sh.jO o.to=true then(Y.bel f.ps o.to).map Y.N else[]:List AV)).length<=f.ps.length:=by
  split
  .have:=Sh.Be (λp=>qC o.to p.pa) f.ps 0
   simpa[Y.bel]using this
  .simp
 generalize(if Sh.jO o.path=true then(Y.bel f.ps o.path).map Y.N else[]:List AV)=l1 at *
 generalize(if Sh.jO o.to=true then(Y.bel f.ps o.to).map Y.N else[]:List AV)=l2 at *
 have hl1:=hl.1;simp only[Tv]at og h3 h4
 by_cases c1:o.kind=4
 .cases b1 with
  |false =>
   refine⟨false,?_⟩;rw[pp 116 rfl hn rfl,jA,jy];simp(disch:=omega)[J7,ca 109,og,c1,ca 168,h1]
  |true =>
   by_cases c2:ex=0
   .refine⟨decide (0<l1.length),?_⟩;rw[pp 116 rfl hn rfl,jA,jy];simp(disch:=omega)[J7,ca 109,og,c1,ca 168,h1,c2,ca 169,h3]
   .refine⟨false,?_⟩;rw[pp 116 rfl hn rfl,jA,jy];simp(disch:=omega)[J7,ca 109,og,c1,ca 168,h1,c2]
 by_cases c3:o.kind=5
 .cases b1 with
  |false =>
   refine⟨false,?_⟩;rw[pp 116 rfl hn rfl,jA,jy];simp(disch:=omega)[J7,ca 109,og,c3,ca 168,h1]
  |true =>
   by_cases c2:ex=0
   .cases b2 with
    |false =>
     refine⟨false,?_⟩;rw[pp 116 rfl hn rfl,jA,jy];simp(disch:=omega)[J7,ca 109,og,c3,ca 168,h1,h2,c2]
    |true =>
     refine⟨decide ((0:Int)<l1.length+l2.length),?_⟩;rw[pp 116 rfl hn rfl,jA,jy];simp(disch:=omega)[J7,ca 109,og,c3,ca 168,h1,h2,c2,h3,h4]
   .refine⟨false,?_⟩;rw[pp 116 rfl hn rfl,jA,jy];simp(disch:=omega)[J7,ca 109,og,c3,ca 168,h1,c2]
 refine⟨false,?_⟩;rw[pp 116 rfl hn rfl,jA,jy];simp(disch:=omega)[J7,ca 109,og,c1,c3]
end Go.Proofs.YtaepagegdgdlhaaGreatDoor.R
namespace Go.Proofs.YtaepagegdgdlhaaGreatDoor.Y
open Go.Am Go.Am.Nm Go.Lib Go.Am.Sh
def P5{l:List P}(h:jK l){s:au}(hs:jO s=true):mI l s<l.length/\qC (pat l (mI l s)) s=true:=lq.1 (C2 (h.KF hs))
variable{i:Nat}
def ZG{l:List P}(h:jK l)(hi:i<l.length):mI l (pat l i)=i:=by
 have hp:jO (pat l i)=true:=by rw[mE hi];exact h.pa _ (aS hi)
 refine sJ (lq.2 ⟨hi,FT hp⟩) λj hj=>?_
 let⟨h1,h2⟩:=lq.1 hj
 rcases cG i j with h' | h'
 .have h3:=h.inc i j h' h1;have h4:=xd (tW h2) (λe=>C3 h3 e.symm)
  rw[Ep h3]at h4;cases h4
 .exact h'
def afr{α:Type}{l:List α}{c k:Nat}(hc:c<l.length)(h:k<c):(l.take c++l.drop (c+1))[k]? = l[k]? := by
 rw[aK aj,cC,if_pos h]
def afs{α:Type}{l:List α}{c k:Nat}(hc:c<l.length)(h:c<=k):(l.take c++l.drop (c+1))[k]? = l[k+1]? := by
 rw[aV aj]
 simp only[bM,dZ (gI hc),bU]
 congr 1;omega
def sh(c i:Nat):Nat:=if i<c then i else i+1
def anD{c j:Nat}(h:j≠c):∃i,j=sh c i:=by
 unfold sh
 rcases cG j c with h' | h'
 .exact⟨j,by rw[if_pos h']⟩
 .exact⟨j-1,by rw[if_neg aa];omega⟩
def Zb{c j:Nat}:sh c i<=sh c j↔i<=j:=by unfold sh;split<;>split<;>omega
def aii{c:Nat}:sh c i≠c:=by unfold sh;split<;>omega
def aij{c n:Nat}(hc:c<=n):sh c i<n+1↔i<n:=by unfold sh;split<;>omega
def PG{l:List P}(hi:i<l.length)(g:Int)(k:Nat):(pU l i g)[k]? = if k=i then some ⟨l[i].pa,g,l[i].ep+1⟩else l[k]? := by
 unfold pU;rw[aG hi];simp only[bw];rw[dR]
 by_cases h:i=k
 .subst h;simp[hi]
 .rw[if_neg h,if_neg (λe=>h e.symm)]
def Yj{a s:au}(h:qC a s=true)(hne:a≠s):s≠[47]/\qC a (KM s)=true/\qC (KM s) s=true:=by
 have hs:=(Dc h).2;have I9:s≠[47]:=by
  rintro rfl
  exact hne (FU h (by rw[uY];exact(Dc h).1))
 refine⟨I9,?_⟩;let⟨m,x,e1,e2,Jv,Gc,eo5,eo6⟩:=Ij hs I9;let⟨S,k,h1,h2,h3⟩:=od.1 h;rw[e1]at h1;cases h1;simp only[aL,aQ,bq]at h2;have hk:k<=m.length:=by
  rcases cG m.length k with h' | h'
  .exfalso;have:k=(m++[x]).length:=by simp;omega
   rw[this,dB]at h3;exact hne (h3.trans (k9 e1).1)
  .exact h'
 rw[Jv];refine⟨od.2 ⟨m,k,oq aa eo5,hk,?_⟩,od.2 ⟨m++[x],m.length,e1,ah,ah⟩⟩
 rw[h3,dw hk]
def ZE{l:List P}(h:jK l){s:au}(hs:jO s=true)(hf:qA l s=true)(hc0:cnt l s≠0){q:List P}(hqp:q.map P.pa=(l.map P.pa).take (cnt l s)++(l.map P.pa).drop (cnt l s+1)){o:au}(ho:jO o=true):
  mI l (KM s)<cnt l s/\(mI l o=cnt l s->mI q o=mI l (KM s))/\(mI l o≠cnt l s->sh (cnt l s) (mI q o)=mI l o):=by
 let⟨hc,hp⟩:=qT hf;have hlen:q.length+1=l.length:=by
  have:=congrArg List.length hqp;simp only[cV,aL,bM,cq]at this;omega
 have CN:cnt l s<(l.map P.pa).length:=by simpa using hc
 have psh:∀i,pat q i=pat l (sh (cnt l s) i):=by
  intro i;rw[C1,C1,hqp];unfold sh;split
  .rw[afr CN aa]
  .rw[afs CN aa]
 have I9:s≠[47]:=λe=>hc0 ((h.Iv hf).2 e)
 have hr:qC [47] s=true:=by rw[uY];exact hs
 let⟨_,u1,u2⟩:=Yj hr (λe=>I9 e.symm)
 have F9:jO (KM s)=true:=(Dc u2).1;let⟨w1,w2⟩:=P5 h F9;let⟨a1,a2⟩:=P5 h ho;have ws:qC (pat l (mI l (KM s))) s=true:=Ia w2 u2
 have wne:pat l (mI l (KM s))≠s:=by
  intro e;rw[e]at w2;have:=FU w2 u2;let⟨m,x,e1,e2,Jv,Gc,eo5,eo6⟩:=Ij hs I9;have hh:=this;rw[Jv]at hh;rw[hh,oq aa eo5]at e1
  have:=congrArg (Option.map List.length) e1;simp at this
 have wc:mI l (KM s)<cnt l s:=(qp h.inc s w1).2 (xd (tW ws) wne)
 have msh:∀i,i∈Ge q o↔sh (cnt l s) i∈Ge l o:=by
  intro i;rw[lq,lq,psh,<-hlen,aij aa]
 refine⟨wc,λe=>?_,λe=>?_⟩
 .rw[e,hp]at a2;have s1:sh (cnt l s) (mI l (KM s))=mI l (KM s):=by unfold sh;rw[if_pos wc]
  refine sJ ((msh _).2 (by rw[s1];exact lq.2 ⟨w1,Ia ws a2⟩)) λj hj=>?_
  have hj':=(msh j).1 hj;have hm:=zF hj';rw[e]at hm;have hlt:sh (cnt l s) j<cnt l s:=by have:=aii (c:=cnt l s) (i:=j);omega
  have hjj:sh (cnt l s) j=j:=by
   unfold sh at hlt⊢;split
   .rfl
   .rw[if_neg (by assumption)]at hlt;omega
  rw[hjj]at hj' hlt;let⟨j1,j2⟩:=lq.1 hj';have j3:=(qp h.inc s j1).1 hlt;have j4:=Ib j2 a2 j3;exact zF (lq.2 ⟨j1,(Yj j4 (C3 j3)).2.1⟩)
 .let⟨i,hi⟩:=anD e;have:mI q o=i:=by
   refine sJ ((msh _).2 (by rw[<-hi];exact lq.2 ⟨a1,a2⟩)) λj hj=>?_
   have:=zF ((msh j).1 hj);rw[hi]at this;exact Zb.1 this
  rw[this,hi]
end Go.Proofs.YtaepagegdgdlhaaGreatDoor.Y
namespace Go.Proofs.YtaepagegdgdlhaaGreatDoor.R
open Go.Am Go.Am.Nm Go.Tr Go.Lib
open T (lG Bt Tv Nd En I B okB vN mB Bm)
open Y (jK lU mI cnt qA rI qg kD pU)
def ff(t:Tr.Tree):Tr.Tree:=⟨false,t.nodes,t.next,t.jC⟩
section
variable{ok:au->Bool}{lt:au->au->Bool}{t:Tr.Tree}
def afp{i:Int}{d:Nat}(h:wj t i d):wj (ff t) i d:=by
 induction h with
 |root=>exact .root
 |up hf hk h1 hd ih=>exact .up hf hk h1 ih
def WF.ff(w:WF ok lt t):WF ok lt (ff t) :=
 ⟨⟨w.wf.oe,w.wf.pos,w.wf.nxt,w.wf.ck1,w.wf.ck2,w.wf.len,w.wf.root,w.wf.JF,w.wf.file,λi n hf hk=>⟨(w.wf.dir i n hf hk).1,by
   have h:=(w.wf.dir i n hf hk).2;exact⟨h.nm,h.ck,h.to,h.oe,h.dis,h.len⟩⟩,w.wf.KP,w.wf.par,w.wf.kind⟩,λi n hf hk=>by
  let⟨d,h1,h2,h3⟩:=w.dep i n hf hk;exact⟨d,afp h1,h2,h3⟩⟩
def PY(t:Tr.Tree):∀k i,AQ (ff t) k i=AQ t k i
 |0,i=>rfl
 |k+1,i=>by
  simp only[AQ];rw[show GM (ff t) i=GM t i from rfl,PY t k]
  rfl
def Ob(oB:List au->Int)(t:Tr.Tree)(q:Tr.Node):sG oB (ff t) q=sG oB t q:=by
 have hp:∀i,nv (ff t) i=nv t i:=λi=>PY t 201 i
 have hD:nS oB (ff t)=nS oB t:=by
  funext j x d
  unfold nS;rw[hp]
 unfold sG yE;rw[hp,hD];rfl
def aeL(l:List Sh.P)(t:Tr.Tree):mM l (ff t)=mM l t:=by
 funext q
 unfold mM;rw[Ob]
end
def j6(fp:Bool)(l:List Sh.P)(t:Tr.Tree):Fd:=⟨fp,l,false,lg (mM l t) t.nodes [0,1,2,3,4,5,6,7],t.next,t.jC⟩
def QG(fp:Bool)(l:List Sh.P)(t:Tr.Tree):j6 fp l (ff t)=j6 fp l t:=by
 unfold j6;rw[aeL];rfl
structure Md(l:List Sh.P)(t:Tr.Tree):Prop where
 rp:jK l
 w:Dd t
 all:∀q∈t.nodes,0<=sG (tC l) t q
def Md.ff{l:List Sh.P}{t:Tr.Tree}(h:Md l t):Md l (ff t):=⟨h.rp,WF.ff h.w,λq hq=>by rw[Ob];exact h.all q hq⟩
def sw{l:List Sh.P}(h:jK l):lU l:=by
 refine h.short λp hp=>?_
 have:=h.pa p hp;unfold Sh.jO at this;cases hs:split p.pa with
 |none=>rw[hs]at this;cases this
 |some S =>
  let⟨h1,h2,h3⟩:=k9 hs;have:=Ou h2 h3;rw[h1]at this;omega
def Qa{gr:Tr.Node->Int}{l:List Tr.Node}:∀gs:ax,(lg gr l gs).length<=gs.length
 | []=>by simp[lg]
 |g::gs=>by
  rw[lg];have:=Qa (gr:=gr) (l:=l) gs;split
  .simp;omega
  .simp;omega
def Md.mM{l:List Sh.P}{t:Tr.Tree}(h:Md l t){q:Tr.Node}(hq:q∈t.nodes):0<=mM l t q/\mM l t q<8:=by
 let⟨k,hk,_,_,h1⟩:=EH h.rp h.w hq (h.all q hq);exact h1
def Md.pos{l:List Sh.P}{t:Tr.Tree}(h:Md l t){q:Tr.Node}(hq:q∈t.nodes):0<q.ino:=by
 have:=(h.w.wf.pos _ _ (mJ h.w.wf.oe hq)).1;omega
def Md.ZP{l:List Sh.P}{t:Tr.Tree}(h:Md l t)(fp:Bool):agq (j6 fp l t) t.nodes where
 len:=by have:=Qa (gr:=R.mM l t) (l:=t.nodes) [0,1,2,3,4,5,6,7];simp only[j6];simp at this;omega
 ls x hx:=by
  obtain⟨g,_,rfl,_⟩:=w8 hx;have hl:=h.w.wf.len;have h2:=cr (λn=>decide (R.mM l t n=g)) t.nodes
  refine⟨by simp only[nO];omega,λq hq=>h.pos (cg.1 hq).1⟩
 oe:=h.w.wf.oe
 perm:=by
  refine(Hg af).trans ?_
  rw[dY.2];intro n hn;let⟨h1,h2⟩:=h.mM hn;simp only[jq,List.any_nil,gC,bS,decide_eq_true_eq];omega
 ll:=by have:=h.w.wf.len;omega
 pos q hq:=h.pos hq
def whole{n:Nat}(hn:184<n){l:List Sh.P}{t:Tr.Tree}(h:Md l t)(fp:Bool):(jJ.jG n).p 108 [Fv (j6 fp l t)]=some (Tv (ff t)):=aop hn _ _ (h.ZP fp)
def spread{n:Nat}(hn:180<n){l:List Sh.P}{t:Tr.Tree}(h:Md l t)(fp:Bool):(jJ.jG n).p 48 [.jB fp (l.map Sh.D),Tv t]=some (Fv (j6 fp l t)):=s48 hn t h.w (rz h.w.bg aa) l h.rp (sw h.rp) h.all fp
open Go.Am Go.Am.Nm Go.Tr Go.Lib
open T (lG Bt Tv Nd En I B okB vN mB Bm)
open Y (jK lU mI cnt qA rI qg kD pU E7 oD KM)
variable{l l':List Sh.P}{Yy of2:List au->Int}
def Xg{t:Tr.Tree}(C:Int->Int)(hφ:∀x,0<=x->0<=C x)(h1:∀A,0<=Yy A)(hd:∀d∈t.nodes,d.kind=2->of2 (nv t d.ino)=C (Yy (nv t d.ino)))(j:Int)(h0:0<=yE Yy t j):yE of2 t j=C (yE Yy t j):=by
 let Rl:=λ(x y:Int)=>x = -1/\y = -1\/0<=x/\y=C x\/x = -2
 have hE:∀(es:List Tr.Ent)(o x y:Int),0<=o->0<=C o->Rl x y->Rl (es.foldl (nA j o) x) (es.foldl (nA j (C o)) y):=by
  intro es
  induction es with
  |nil=>intro o x y _ _ h;exact h
  |cons e es ih =>
   intro o x y ho hp h;rw[aT,aT];refine ih o _ _ ho hp ?_;unfold nA;split
   .unfold q8
    rcases h with⟨rfl,rfl⟩ | ⟨hx,rfl⟩ | rfl
    .exact .inr (.inl ⟨ho,rfl⟩)
    .by_cases vY : x = o
     .subst vY;right;left;rw[if_neg aa,if_pos rfl,if_neg aa,if_pos rfl]
      exact⟨hx,rfl⟩
     .right;right;rw[if_neg aa,if_neg vY]
    .right;right;rw[if_neg aa,if_neg aa]
   .exact h
 have hD:∀(ds:List Tr.Node)(x y:Int),(∀d∈ds,d∈t.nodes)->Rl x y->Rl (ds.foldl (nS Yy t j) x) (ds.foldl (nS of2 t j) y):=by
  intro ds
  induction ds with
  |nil=>intro x y _ h;exact h
  |cons d ds ih =>
   intro x y hds h;rw[aT,aT];refine ih _ _ (λd hd=>hds d (bt _ hd)) ?_
   unfold nS;split
   .rename_i hk;rw[hd d (hds d bu) hk];exact hE _ _ _ _ (h1 _) (hφ _ (h1 _)) h
   .exact h
 have:=hD t.nodes (-1) (-1) (λd hd=>hd) (.inl ⟨rfl,rfl⟩)
 unfold yE at h0⊢
 rcases this with⟨h,_⟩ | ⟨_,h⟩ | h
 .omega
 .exact h
 .omega
def ac8{t:Tr.Tree}(C:Int->Int)(hφ:∀x,0<=x->0<=C x)(h1:∀A,0<=Yy A)(hd:∀d∈t.nodes,d.kind=2->of2 (nv t d.ino)=C (Yy (nv t d.ino))){q:Tr.Node}(hq:q∈t.nodes)(h0:0<=sG Yy t q):sG of2 t q=C (sG Yy t q):=by
 unfold sG at h0⊢;split
 .rename_i hk;exact hd q hq hk
 .rename_i hk;rw[if_neg hk]at h0;exact Xg C hφ h1 hd _ h0
def Md.map{t:Tr.Tree}(h:Md l t)(hr:jK l')(C:Int->Int)(hφ:∀x,0<=x->0<=C x)(he:∀o,Sh.jO o=true->(mI l' o:Int)=C (mI l o)):Md l' t/\∀q∈t.nodes,sG (tC l') t q=C (sG (tC l) t q):=by
 have key:∀q∈t.nodes,sG (tC l') t q=C (sG (tC l) t q):=λq hq=>by
  refine ac8 C hφ (Oh l) (λd hd hk=>?_) hq (h.all q hq)
  let⟨p1,p2,_⟩:=DZ h.w (mJ h.w.wf.oe hd) hk;rw[IU hr p1 p2,IU h.rp p1 p2];exact he _ (yQ p1 p2)
 exact⟨⟨hr,h.w,λq hq=>by rw[key q hq];exact hφ _ (h.all q hq)⟩,key⟩
def Md.join{t:Tr.Tree}(h:Md l t)(s:au):Md (qg l s).1 t:=by
 rcases Y.vq l s with⟨_,e⟩ | ⟨_,hp,hf,hc0,hE,e⟩
 .rw[e];exact h
 .refine(h.map (h.rp.join s) (λx=>if x=cnt l s then(mI l (KM s):Int)else if x<cnt l s then x else x-1) (λx hx=>by split;omega;split<;>omega) λo ho=>?_).1
  let⟨h1,h2,h3⟩:=Y.ZE h.rp hp hf hc0 (q:=(qg l s).1) (by rw[e,Y.JB,Y.xO]) ho
  by_cases c:mI l o=cnt l s
  .rw[if_pos aa,h2 c]
  .rw[if_neg aa]
   have:=h3 c;unfold Y.sh at this;split at this
   .rw[if_pos aa];omega
   .rw[if_neg aa];omega
def of_same(hp:l'.map Sh.P.pa=l.map Sh.P.pa)(o:au):mI l' o=mI l o:=by
 have e:Y.Ge l' o=Y.Ge l o:=by
  unfold Y.Ge
  have:∀(a b:List Sh.P)(k:Nat),a.map Sh.P.pa=b.map Sh.P.pa->Sh.ix (λp=>qC p.pa o) a k=Sh.ix (λp=>qC p.pa o) b k:=by
   intro a
   induction a with
   |nil=>intro b k h;cases b<;>simp_all
   |cons x a ih =>
    intro b k h;cases b with
    |nil=>simp at h
    |cons y b =>
     simp only[bF,dm]at h;rw[Sh.ix,Sh.ix,h.1,ih b (k+1) h.2]
  exact this _ _ _ hp
 unfold mI;rw[e]
def ZK(l:List Sh.P)(s:au)(g:Int):(kD l s g).1.map Sh.P.pa=l.map Sh.P.pa:=by
 rcases Y.sL l s g with⟨_,e⟩ | ⟨_,_,_,_,_,e⟩
 .rw[e]
 .rw[e,Y.C0]
def Md.move{t:Tr.Tree}(h:Md l t)(s:au)(g:Int):Md (kD l s g).1 t/\∀q∈t.nodes,sG (tC (kD l s g).1) t q=sG (tC l) t q :=
 h.map (h.rp.move s g) (λx=>x) (λx hx=>hx) λo _=>by rw[of_same (ZK l s g)]
def s53{n:Nat}(hn:197<n){t:Tr.Tree}(h:Md l t)(fp:Bool)(s:au)(hs:s.length<=1000)(g:Int):∃(rB:Bool) (e:Int),(jJ.jG n).p 53 [Fv (j6 fp l t),.str s,I g]=some (.kT [Fv (j6 rB (kD l s g).1 t),I e]):=by
 have aeJ:=Y.aom (n:=197) af l h.rp (sw h.rp).2 fp s aa g
 have hW:=whole (n:=197) af h fp
 have hc:=Y.sL l s g;have hS:=λfp=>spread (n:=197) af (h.move s g).1.ff fp
 simp only[QG]at hS;generalize kD l s g=r at *
 obtain⟨l',e⟩:=r;simp only at aeJ hc hS⊢;generalize(fp && !decide (e=0))=rB at *
 by_cases c:e=0
 .refine⟨rB,0,?_⟩;have hS:=hS rB;rw[pp 53 rfl hn rfl,jA,jy];generalize j6 rB l' t=f' at *
  simp only[Fv,j6,Tv]at *
  simp[c53,ca 114,aeJ,c,ca 108,hW,ca 48,hS]
 .have hl:l'=l:=by
   rcases hc with⟨_,h⟩ | ⟨h,_⟩
   .exact h
   .exact absurd h c
  subst hl;refine⟨fp,e,?_⟩;rw[pp 53 rfl hn rfl,jA,jy];simp only[Fv,j6,Tv]at *
  simp[c53,ca 114,aeJ,c]
def s52{n:Nat}(hn:195<n){t:Tr.Tree}(h:Md l t)(fp:Bool)(s:au)(hs:s.length<=1000):∃(rB:Bool) (e:Int),(jJ.jG n).p 52 [Fv (j6 fp l t),.str s]=some (.kT [Fv (j6 rB (qg l s).1 t),I e]):=by
 have aeK:=Y.aon (n:=195) af l h.rp (sw h.rp).2 fp s aa
 have hW:=whole (n:=195) af h fp
 have hc:=Y.vq l s;have hS:=λfp=>spread (n:=195) af (h.join s).ff fp
 simp only[QG]at hS;generalize qg l s=r at *
 obtain⟨l',e⟩:=r;simp only at aeK hc hS⊢;generalize(fp && !decide (e=0))=rB at *
 by_cases c:e=0
 .refine⟨rB,0,?_⟩;have hS:=hS rB;rw[pp 52 rfl hn rfl,jA,jy];generalize j6 rB l' t=f' at *
  simp only[Fv,j6,Tv]at *
  simp[c52,ca 113,aeK,c,ca 108,hW,ca 48,hS]
 .have hl:l'=l:=by
   rcases hc with⟨_,h⟩ | ⟨h,_⟩
   .exact h
   .exact absurd h c
  subst hl;refine⟨fp,e,?_⟩;rw[pp 52 rfl hn rfl,jA,jy];simp only[Fv,j6,Tv]at *
  simp[c52,ca 113,aeK,c]
def s51{n:Nat}(hn:192<n){t:Tr.Tree}(h:Md l t)(fp:Bool)(s:au)(hs:s.length<=1000)(g:Int):∃(rB:Bool) (l':List Sh.P) (e:Int),(jJ.jG n).p 51 [Fv (j6 fp l t),.str s,I g]=some (.kT [Fv (j6 rB l' t),I e])/\Md l' t:=by
 have aal:=Y.aoo (n:=192) af l h.rp (sw h.rp).2 fp s aa g
 have hW:=whole (n:=192) af h fp
 have hb:=rz h.ff.w.bg aa
 have og:=Sn (n:=192) af (ff t) hb s aa
 generalize(o8 (ff t) s).1=x at *
 generalize(o8 (ff t) s).2=ex at *
 have vz:=T.wN (n:=192) af (ff t) hb x
 let⟨b,hv,_⟩:=T.sX (ff t) x;rw[hv]at vz;generalize kI (ff t) x=q at *
 have hr:=h.rp.cut s g;generalize rI l s g=r at *
 let⟨l',e⟩:=r;simp only at aal hr;generalize(fp && !decide (e=0))=rB at *
 let⟨bm,WT,hm⟩:=aiK (n:=192) af (ff t) h.ff.w hb l' hr (sw hr) rB
 by_cases c1:ex=0
 .by_cases c2 : q.kind = 2
  .by_cases c3 : e = 0
   .cases bm with
    |true =>
     have hM:Md l' (ff t):=⟨hr,h.ff.w,hm rfl⟩;have hM':Md l' t:=⟨hr,h.w,λq hq=>by rw[<-Ob];exact hM.all q hq⟩
     have hS:=spread (n:=192) af hM rB
     rw[QG]at hS;refine⟨rB,l',0,?_,hM'⟩;rw[pp 51 rfl hn rfl,jA,jy];generalize j6 rB l' t=f' at *
     simp only[Fv,j6,Tv,Nd]at *
     simp[c51,ca 108,hW,ca 109,og,c1,ca 110,vz,c2,ca 111,aal,c3,ca 112,WT,ca 48,hS]
    |false =>
     refine⟨fp,l,91,?_,h⟩;rw[pp 51 rfl hn rfl,jA,jy];simp only[Fv,j6,Tv,Nd]at *
     simp[c51,ca 108,hW,ca 109,og,c1,ca 110,vz,c2,ca 111,aal,c3,ca 112,WT]
   .refine⟨fp,l,e,?_,h⟩;rw[pp 51 rfl hn rfl,jA,jy];simp only[Fv,j6,Tv,Nd]at *
    simp[c51,ca 108,hW,ca 109,og,c1,ca 110,vz,c2,ca 111,aal,c3]
  .refine⟨fp,l,73,?_,h⟩;rw[pp 51 rfl hn rfl,jA,jy];simp only[Fv,j6,Tv,Nd]at *
   simp[c51,ca 108,hW,ca 109,og,c1,ca 110,vz,c2]
 .refine⟨fp,l,ex,?_,h⟩;rw[pp 51 rfl hn rfl,jA,jy];simp only[Fv,j6,Tv,Nd]at *
  simp[c51,ca 108,hW,ca 109,og,c1]
def s54{n:Nat}(hn:224<n){t:Tr.Tree}(h:Md l t)(fp:Bool)(o:Opr)(hp:o.path.length<=1000)(ht:o.to.length<=1000):∃(t':Tr.Tree) (a:An),(jJ.jG n).p 54 [Fv (j6 fp l t),Ov o]=some (.kT [Fv (j6 fp l t'),Av a])/\Md l t':=by
 have hW:=whole (n:=224) af h fp
 have hb:=rz h.ff.w.bg aa
 let⟨bk,OR⟩:=aol (n:=224) af o
 let⟨bb,aak⟩:=aok (n:=224) af (ff t) hb (j6 fp l t) (sw h.rp) o hp ht
 let⟨u,a,aeI,hu⟩:=aoj (n:=224) af (ff t) h.ff.w o hp ht
 let⟨bm,WT,hm⟩:=aiK (n:=224) af u hu (rz hu.bg aa) l h.rp (sw h.rp) fp
 cases bk with
 |false =>
  refine⟨t,⟨1,0,0,0,0,true,[]⟩,?_,h⟩;rw[pp 54 rfl hn rfl,jA,jy];simp only[Fv,j6,Tv,Ov,Av]at *
  simp[c54,ca 115,OR]
 |true =>
  by_cases c1:o.client<0
  .refine⟨t,⟨1,0,0,0,0,true,[]⟩,?_,h⟩;rw[pp 54 rfl hn rfl,jA,jy];simp only[Fv,j6,Tv,Ov,Av]at *
   simp[c54,ca 115,OR,c1]
  .by_cases c2 : 16 <= o.client
   .refine⟨t,⟨1,0,0,0,0,true,[]⟩,?_,h⟩;rw[pp 54 rfl hn rfl,jA,jy];simp only[Fv,j6,Tv,Ov,Av]at *
    simp[c54,ca 115,OR,c1,c2]
   .cases bb with
    |true =>
     refine⟨t,⟨180,0,0,0,0,true,[]⟩,?_,h⟩;rw[pp 54 rfl hn rfl,jA,jy];simp only[Fv,j6,Tv,Ov,Av]at *
     simp[c54,ca 115,OR,c1,c2,ca 108,hW,ca 116,aak]
    |false =>
     by_cases c3:a.err=0
     .cases bm with
      |true =>
       have hM:Md l u:=⟨h.rp,hu,hm rfl⟩;have hS:=spread (n:=224) af hM fp
       refine⟨u,a,?_,hM⟩;rw[pp 54 rfl hn rfl,jA,jy];generalize j6 fp l u=f' at *
       simp only[Fv,j6,Tv,Ov,Av]at *
       simp[c54,ca 115,OR,c1,c2,ca 108,hW,ca 116,aak,ca 117,aeI,c3,ca 112,WT,hS]
      |false =>
       refine⟨t,⟨91,0,0,0,0,true,[]⟩,?_,h⟩;rw[pp 54 rfl hn rfl,jA,jy];simp only[Fv,j6,Tv,Ov,Av]at *
       simp[c54,ca 115,OR,c1,c2,ca 108,hW,ca 116,aak,ca 117,aeI,c3,ca 112,WT]
     .refine⟨t,a,?_,h⟩;rw[pp 54 rfl hn rfl,jA,jy];simp only[Fv,j6,Tv,Ov,Av]at *
      simp[c54,ca 115,OR,c1,c2,ca 108,hW,ca 116,aak,ca 117,aeI,c3]
open Go.Am Go.Am.Nm Go.Tr Go.Lib
open T (lG Bt Tv Nd En I B okB vN mB Bm)
open Y (jK lU qg kD)
structure Pk where
 k:UInt8
 o:Opr
 path:au
 gr:Int
@[simp]def YU(s:Pk):AV:=.agg [.int .u8 s.k.toNat,I s.o.kind,I s.o.client,.str s.o.path,.str s.o.to,I s.o.n,I s.o.m,I s.o.handle,.jB s.o.fd (s.o.data.map B),.str s.path,I s.gr]
@[simp]def arU(l:List Pk):kK 11 (l.map YU)=true:=by simp[kK]
def Pk.ok(s:Pk):Prop:=s.o.path.length<=1000/\s.o.to.length<=1000/\s.path.length<=1000
variable{n:Nat}
def s17(hn:225<n){l:List Sh.P}{t:Tr.Tree}(h:Md l t)(fp:Bool)(s:Pk)(hs:s.ok):∃(rB:Bool) (l':List Sh.P) (t':Tr.Tree) (a:An),(jJ.jG n).p 17 [Fv (j6 fp l t),YU s]=some (.kT [Fv (j6 rB l' t'),Av a])/\Md l' t':=by
 obtain⟨s1,s2,s3⟩:=hs;obtain⟨fp1,l1,e1,h51,m1⟩:=s51 (n:=225) af h fp s.path s3 s.gr
 obtain⟨fp3,e3,WM⟩:=s52 (n:=225) af h fp s.path s3
 obtain⟨fp4,e4,h53⟩:=s53 (n:=225) af h fp s.path s3 s.gr
 obtain⟨t0,a0,h54,m0⟩:=s54 (n:=225) af h fp s.o s1 s2
 have m3:=h.join s.path;have m4:=(h.move s.path s.gr).1;have hk:(s.k.toNat:Int).tmod 5=((s.k.toNat%5:Nat):Int):=rfl;have hk5:s.k.toNat%5<5:=dP _ aa
 have ar2:s.k.toNat<256:=s.k.toNat_lt;generalize s.k.toNat%5=j at *
 generalize qg l s.path=r3 at *
 generalize kD l s.path s.gr=r4 at *
 rcases(by omega:(j=1\/j=2)\/j=3\/j=4\/j=0)with c | c | c | c
 .refine⟨fp1,l1,t,⟨e1,0,0,0,0,true,[]⟩,?_,m1⟩;rw[pp 17 rfl hn rfl,jA,jy]
  rcases c with c | c
  .subst c;generalize j6 fp1 l1 t=f' at *
   generalize j6 fp l t=f at *
   simp only[Fv,Ov,Av]at *
   simp[c17,hk,ca 51,h51]
  .subst c;generalize j6 fp1 l1 t=f' at *
   generalize j6 fp l t=f at *
   simp only[Fv,Ov,Av]at *
   simp[c17,hk,ca 51,h51]
 .subst c;refine⟨fp3,r3.1,t,⟨e3,0,0,0,0,true,[]⟩,?_,m3⟩;rw[pp 17 rfl hn rfl,jA,jy];generalize j6 fp3 r3.1 t=f' at *
  generalize j6 fp l t=f at *
  simp only[Fv,Ov,Av]at *
  simp[c17,hk,ca 52,WM]
 .subst c;refine⟨fp4,r4.1,t,⟨e4,0,0,0,0,true,[]⟩,?_,m4⟩;rw[pp 17 rfl hn rfl,jA,jy];generalize j6 fp4 r4.1 t=f' at *
  generalize j6 fp l t=f at *
  simp only[Fv,Ov,Av]at *
  simp[c17,hk,ca 53,h53]
 .subst c;refine⟨fp,l,t0,a0,?_,m0⟩;rw[pp 17 rfl hn rfl,jA,jy];generalize j6 fp l t0=f' at *
  generalize j6 fp l t=f at *
  simp only[Fv,Ov,Av]at *
  simp[c17,hk,ca 54,h54,uy]
def VD{g:Int}(h0:0<=g)(h8:g<8):Md [⟨[47],g,1⟩] AY:=by
 refine⟨?_,WF.new,?_⟩
 .refine .mk' ah ah ah ?_ ah
  intro p hp;simp only[aM]at hp;subst hp;simp only[Sh.uH,Sh.Gq,Sh.okE,aH,decide_eq_true_eq];exact⟨⟨af,h0,h8⟩,aa,aa⟩
 .intro q hq;simp only[AY,aM]at hq;subst hq;unfold sG;rw[if_pos rfl];exact Oh _ _
def s16(hn:183<n){g:Int}(h0:0<=g)(h8:g<8):(jJ.jG n).p 16 [I g]=some (Fv (j6 true [⟨[47],g,1⟩] AY)):=by
 have Gb:=Y.s49 (n:=183) af g
 have h50:=T.s50 (n:=183) af
 have hS:=spread (n:=183) af (VD h0 h8) true
 rw[pp 16 rfl hn rfl,jA,jy];generalize j6 true [⟨[47],g,1⟩] AY=f at *
 generalize AY=t at *
 simp only[Fv,Tv,Sh.D,bF,bQ]at *
 simp[c16,ca 49,Gb,ca 50,h50,ca 48,hS]
abbrev vF(f:Fd):AB:=.var [.jB f.fp (f.ps.map Sh.D),.jB f.fl (f.ls.map Lv),.int .i64 f.next,.int .i64 f.jC]
abbrev vF0:AB:=.var [.jB true [],.jB true [],.int .i64 0,.int .i64 0]
def l6{n:Nat}(hn:225<n)(L:List Pk)(hL:∀s∈L,s.ok)(hl:L.length<=1000000)(f:Bool):∀(m k:Nat)(fp:Bool)(l:List Sh.P)(t:Tr.Tree),k+m=L.length->Md l t->
  ∃(rB:Bool) (l':List Sh.P) (t':Tr.Tree),Md l' t'/\∀e0:Env,e0 1 = .jB f (L.map YU)->e0 5 = .ptr 1 0 0 0->iter (round (jJ.jG n) [6] [(.exit 0,[])] afI e0 2 []) ([I k],[vF0,vF (j6 fp l t)])=some (.exit 0,[],[vF0,vF (j6 rB l' t')])
 |0,k,fp,l,t,hk,h=>by
  refine⟨fp,l,t,h,λe0 h1 h5=>?_⟩
  rw[iter_eq];generalize j6 fp l t=F;have hk':k=L.length:=aa
  subst hk';simp(disch:=omega)[round_eq,aba,h1]
 |m+1,k,fp,l,t,hk,h=>by
  have hk':k<L.length:=aa
  have hs:=hL _ (aS hk');obtain⟨s,hx⟩:∃s,s=L[k]:=⟨_,rfl⟩;rw[<-hx]at hs;let⟨fp1,l1,t1,a,Bx,m1⟩:=s17 (n:=n) hn h fp s hs;let⟨rB,l',t',m',hit⟩:=l6 hn L hL hl f m (k+1) fp1 l1 t1 aa m1
  refine⟨rB,l',t',m',λe0 h1 h5=>?_⟩
  have hit:=hit e0 h1 h5;rw[iter_eq];generalize j6 fp l t=F at *
  generalize j6 fp1 l1 t1=F1 at *
  generalize j6 rB l' t'=F' at *
  simp only[Fv,YU,Av,Int.natCast_add,iX]at Bx hit;simp(disch:=omega)[round_eq,aba,h1,h5,<-hx,Bx,uy];exact hit
def s6(hn:226<n)(g:Nat)(hg:g<256)(L:List Pk)(hL:∀s∈L,s.ok)(hl:L.length<=1000000)(f:Bool):∃(fp:Bool) (l:List Sh.P) (t:Tr.Tree),(jJ.jG n).p 6 [.int .u8 g,.jB f (L.map YU)]=some (Fv (j6 fp l t))/\Md l t:=by
 have hg8:(g:Int).tmod 8=((g%8:Nat):Int):=rfl;have h8:g%8<8:=dP _ aa
 generalize g%8=j at *
 have Jp:=s16 (n:=226) af (g:=(j:Int)) aa aa
 let⟨fp,l,t,m,hit⟩:=l6 (n:=226) af L hL hl f L.length 0 true _ AY aa (VD (g:=(j:Int)) aa aa)
 refine⟨fp,l,t,?_,m⟩;rw[p6 hn,jA,jy];generalize j6 fp l t=F at *
 generalize j6 true _ AY=F0 at *
 simp only[Fv,vF,vF0,cW]at Jp hit;simp(disch:=omega)[c6,hg8,ca 16,Jp];rw[hit _ aq aq]
 simp
def s15(hn:169<n)(o:Opr):(jJ.jG n).p 15 [Ov o]=some (.bool (decide (5000<o.data.length)||(decide (1000<o.path.length)||decide (1000<o.to.length)))):=by
 rw[pp 15 rfl hn rfl,jA,jy]
 by_cases c1:5000<o.data.length
 .simp(disch:=omega)[c15,c1]
 by_cases c2:1000<o.path.length
 .simp(disch:=omega)[c15,c1,c2]
 by_cases c3:1000<o.to.length
 .simp(disch:=omega)[c15,c1,c2,c3]
 simp(disch:=omega)[c15,c1,c2,c3]
def TG(s:Pk):Bool:=(decide (5000<s.o.data.length)||(decide (1000<s.o.path.length)||decide (1000<s.o.to.length)))||decide (1000<s.path.length)
def Mx(L:List Pk):Bool:=decide (40<L.length) || !L.all λs=>!TG s
def WZ{L:List Pk}(h:Mx L=false):L.length<=1000000/\∀s∈L,s.ok:=by
 unfold Mx at h;simp only[eE,decide_eq_false_iff_not,Bool.not_eq_false']at h;refine⟨aa,λs hs=>?_⟩
 have:=aO.1 h.2 s hs;simp only[TG,cv,eE,decide_eq_false_iff_not]at this;exact⟨aa,aa,aa⟩
def s5(hn:170<n)(L:List Pk)(f:Bool):(jJ.jG n).p 5 [.jB f (L.map YU)]=some (.bool (Mx L)):=by
 rw[p5 hn,jA,jy];unfold Mx
 by_cases c:40<L.length
 .simp(disch:=omega)[c5,c]
 have hx:∀e0:Env,e0 0 = .jB f (L.map YU)->iter (round (jJ.jG 170) [3] [(.exit 0,[]),(.ret,[2])] aaS e0 0 []) ([.int .i64 0],[])=some (if L.all (λs=>!TG s)=true then(.exit 0,[],[])else(.ret,[.bool true],[])):=λe0 h0 =>
  qm (f:=round (jJ.jG 170) [3] [(.exit 0,[]),(.ret,[2])] aaS e0 0 []) (λi=>([.int .i64 i],[])) L (λs=>!TG s) _ _
   (λi hi=>by
    obtain⟨s,hs⟩:∃s,s=L[i]:=⟨_,rfl⟩;rw[<-hs];have YQ:=s15 (n:=170) af s.o
    unfold TG;generalize(decide (5000<s.o.data.length)||(decide (1000<s.o.path.length)||decide (1000<s.o.to.length)))=b at *
    simp only[Ov]at YQ;cases b with
    |true=>simp(disch:=omega)[round_eq,TH,h0,<-hs,ca 15,YQ,uy]
    |false =>
     by_cases c2:1000<s.path.length
     .simp(disch:=omega)[round_eq,TH,h0,<-hs,ca 15,YQ,c2,uy]
     .simp(disch:=omega)[round_eq,TH,h0,<-hs,ca 15,YQ,c2,uy])
   (by simp[round_eq,TH,h0])
 simp[c5,c];rw[hx _ ah]
 cases L.all λs=>!TG s<;>simp(disch:=omega)
end Go.Proofs.YtaepagegdgdlhaaGreatDoor.R
