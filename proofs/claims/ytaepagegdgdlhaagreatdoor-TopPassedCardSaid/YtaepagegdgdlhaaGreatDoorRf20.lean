/- Part of the proof that TopPassedCard holds. -/
import Derived.Test.YtaepagegdgdlhaaGreatDoorRa20
import Derived.Test.YtaepagegdgdlhaaGreatDoorYq20
set_option linter.all false
namespace Go.Proofs.YtaepagegdgdlhaaGreatDoor.R
open Go.Am Go.Am.Nm Go.Tr
open T (lG Bt Tv Nd En I B okB vN mB)
abbrev Ns:=Bool×List au
def Ny(i:Int)(s:Ns)(e:Tr.Ent):Ns:=if e.ino=i then(false,e.name::s.2)else s
def Py(i:Int):∀(l:List Tr.Ent)(s:Ns),(l.foldl (Ny i) s).2=((l.filter λe=>decide (e.ino=i)).map Tr.Ent.name).reverse++s.2
 | [],s=>ah
 |e::l,s=>by
  rw[aT,Py i l];unfold Ny
  by_cases h:e.ino=i
  .simp[h]
  .simp[h]
def Aw(s:Ns):AV:=if s.1=true then .own 0 0 0 0 else .jB false (s.2.map AV.str)
def adT{Γ:kP}(m q:Tr.Node)(i:Int)(hq:q.jF.length<=1000)(s:Ns)(hs:s.2.length<=1000000)(h0:s.1=true->s.2=[])(R:ax)(hR:R=[0]\/R=[]/\s.1=false)(e0:Env)(h1:e0 1=I i)(h9:e0 9 = .ptr 2 0 0 0):
  iter (round Γ [5,11] [(.exit 2,[5])] J1 e0 3 R) ([Aw s,.int .i64 0],[.row 0 1 [],vN m,vN q])=some (.exit 2,[Aw (q.jF.foldl (Ny i) s)],[.row 0 1 [],vN m,vN q]):=by
 have := jU (f := round Γ [5, 11] [(.exit 2, [5])] J1 e0 3 R) (λk (s : Ns) => ([Aw s, .int .i64 (k : Int)], [.row 0 1 [], vN m, vN q])) q.jF (Ny i) (λs => (.exit 2, [Aw s], [.row 0 1 [], vN m, vN q])) (λk s => s.2.length <= 1000000 + k /\ (s.1 = true -> s.2 = []) /\ (R = [0] \/ R = [] /\ s.1 = false))
  (λk hk s hs=>by
   obtain⟨x,hx⟩:∃x,x=q.jF[k]:=⟨_,rfl⟩;let⟨hs1,hs2,Wf⟩:=hs;let⟨b,l⟩:=s;rw[<-hx];unfold Ny
   by_cases c:x.ino=i
   .rw[if_pos c];refine⟨⟨by simp at hs1⊢;omega,ah,by rcases Wf with h | h;exact .inl h;exact .inr ⟨h.1,rfl⟩⟩,?_⟩
    cases b with
    |true =>
     simp only[true_implies]at hs2
     rcases Wf with rfl | h
     .subst hs2;simp(disch:=omega)[round_eq,rN,h1,h9,<-hx,c,Aw]
     .exact absurd h.2 ah
    |false =>
     dsimp only at hs1;have ht:List.take (1+l.length) (AV.str x.name::l.map AV.str)=AV.str x.name::l.map AV.str:=br aj
     by_cases hl:l=[]
     .subst hl
      rcases Wf with rfl | ⟨rfl,_⟩
      .simp(disch:=omega)[round_eq,rN,h1,h9,<-hx,c,Aw]
      .simp(disch:=omega)[round_eq,rN,h1,h9,<-hx,c,Aw]
     rcases Wf with rfl | ⟨rfl,_⟩
     .simp(disch:=omega)[round_eq,rN,h1,h9,<-hx,c,Aw,ht]
     .simp(disch:=omega)[round_eq,rN,h1,h9,<-hx,c,Aw,ht]
   .rw[if_neg c];refine⟨⟨by simp at hs1⊢;omega,hs2,Wf⟩,?_⟩
    cases b with
    |true =>
     rcases Wf with rfl | h
     .simp(disch:=omega)[round_eq,rN,h1,h9,<-hx,c,Aw]
     .exact absurd h.2 ah
    |false =>
     rcases Wf with rfl | ⟨rfl,_⟩
     .simp(disch:=omega)[round_eq,rN,h1,h9,<-hx,c,Aw]
     .simp(disch:=omega)[round_eq,rN,h1,h9,<-hx,c,Aw])
  (λs hs=>by
   let⟨b,l⟩:=s;cases b with
   |true=>simp(disch:=omega)[round_eq,rN,h9,Aw]
   |false=>simp(disch:=omega)[round_eq,rN,h9,Aw]) s ⟨aa,h0,hR⟩
 simpa using this
def adS{n:Nat}(hn:176<n)(t:Tr.Tree)(hb:Bt t){i:Int}{d:Nat}(h:wj t i d):∀(k:Nat)(s:Ns),d<=12->k+d<t.nodes.length->s.2.length<=k*1000->(s.1=true->s.2=[])->
  ∃f,(f=true->nv t i++s.2=[])/\∀e0:Env,e0 2 = .kE [.jB t.fn (t.nodes.map Nd),.int .i64 t.next,.int .i64 t.jC]->iter (round (jJ.jG n) [1,5,6] [(.exit 0,[5])] Pc e0 1 [0]) ([.int .i64 i,Aw s,.int .i64 (k:Int)],[.row 0 1 []])=some (.exit 0,[Aw (f,nv t i++s.2)],[.row 0 1 []]):=by
 induction h with
 |root =>
  intro k s _ hk hs h0;let⟨b,l⟩:=s;refine⟨b,by rw[sE];exact h0,λe0 h2=>?_⟩
  rw[iter_eq,sE];cases b with
  |true =>
   simp[round_eq,BU,h2,Aw]
  |false=>simp[round_eq,BU,h2,Aw]
 |up hf hk h1 hd ih =>
  rename_i i q d;intro k s akQ OI hs h0;have yS:k<t.nodes.length:=aa
  have hkb:k<=1000:=by have:=hb.len;omega
  have hG1:=T.wN (n:=n) hn t hb i;have hG2:=T.wN (n:=n) hn t hb q.up;let⟨b2,Z2,Qm⟩:=T.sX t q.up;rw[hf]at hG1;rw[Z2]at hG2
  have wz:(kI t q.up).jF.length<=1000:=by
   rcases Qm with h | h
   .rw[h];simp[mq]
   .exact hb.jF _ h
  have hpt:nv t i=nv t q.up++((((kI t q.up).jF.filter λe=>decide (e.ino=i)).map Tr.Ent.name).reverse):=by
   rw[U2 (.up hf hk h1 hd) aa h1,u6 hf]
   unfold Tj;rw[u6 hf]
  generalize kI t q.up=p at *
  have Wr:=Py i p.jF s
  have hfl:(p.jF.foldl (Ny i) s).2.length<=(k+1)*1000:=by
   rw[Wr];have:=cr (λe:Tr.Ent=>decide (e.ino=i)) p.jF
   simp;omega
  have hb0:(p.jF.foldl (Ny i) s).1=true->(p.jF.foldl (Ny i) s).2=[]:=by
   have:∀(l:List Tr.Ent)(s:Ns),(s.1=true->s.2=[])->(l.foldl (Ny i) s).1=true->(l.foldl (Ny i) s).2=[]:=by
    intro l
    induction l with
    |nil=>intro s h;exact h
    |cons e l ih =>
     intro s h;rw[aT];refine ih _ ?_;unfold Ny;split
     .intro h;cases h
     .exact h
   exact this _ _ h0
  let⟨f,hf0,hit⟩:=ih (k+1) (p.jF.foldl (Ny i) s) aa aa hfl hb0
  refine⟨f,?_,λe0 h2=>?_⟩
  .rw[hpt,cF,<-Wr];exact hf0
  rw[hpt,cF,<-Wr];simp only[Tv,Nd,mB,bw]at hG1 hG2;rw[iter_eq];have hin:=λR hR e0=>adT (Γ:=jJ.jG n) q p i wz s (by have:=hb.len;omega) h0 R hR e0
  have Wm:nP 1 [0] [.row 0 1 [],vN q,vN p] (Aw (p.jF.foldl (Ny i) s))=Aw (p.jF.foldl (Ny i) s):=by
   generalize p.jF.foldl (Ny i) s=r;let⟨b,l⟩:=r;cases b<;>simp[Aw,nP,j9,AV.lT,AV.kZ]
  simp only[Int.natCast_add,iX]at hit;generalize Aw (p.jF.foldl (Ny i) s)=V at *
  let⟨b,l⟩:=s;cases b with
  |true =>
   cases h0 rfl;have hin:=λe0=>hin [0] (.inl rfl) e0
   rw[show Aw (true,[])=AV.own 0 0 0 0 from rfl]at hin⊢
   simp[round_eq,BU,h2,h1,ca 110,hG1,hG2];rw[hin _ rfl aq]
   simp(disch:=omega)[Wm];exact hit e0 h2
  |false =>
   have hin:=λe0=>hin [] (.inr ⟨rfl,rfl⟩) e0
   rw[show Aw (false,l)=AV.jB false (l.map AV.str)from rfl]at hin⊢
   simp[round_eq,BU,h2,h1,ca 110,hG1,hG2];rw[hin _ rfl aq]
   simp(disch:=omega)[Wm];exact hit e0 h2
def aod{n:Nat}(hn:178<n)(t:Tr.Tree)(hb:Bt t){i:Int}{d:Nat}(h:wj t i d)(hd:d<=12)(hl:d<t.nodes.length)(hf:Fits (nv t i)):(jJ.jG n).p 162 [Tv t,I i]=some (.str (jn (nv t i))):=by
 rw[pp 162 rfl hn rfl,jA,jy];have aeG:=λf=>aiv (n:=178) af (nv t i) f hf
 let⟨f,hf0,hit⟩:=adS (n:=178) af t hb h 0 (true,[]) hd aa ah ah
 simp only[dz,cW,show Aw (true,[])=AV.own 0 0 0 0 from rfl]at hit hf0
 simp[aml];rw[hit _ ah]
 cases f with
 |false=>simp[Aw,ca 233,aeG]
 |true =>
  rw[hf0 rfl]at aeG⊢;have:=aeG false;simp only[bQ]at this;simp[Aw,ca 233,this]
open Go.Am Go.Am.Nm Go.Tr Go.Lib
open T (lG Bt Tv Nd En I B okB vN mB)
open Y (jK mI cnt qA Ge pat)
def UK(l:List Sh.P)(A:List au):Option Int:=if qA l (jn A)=true then some (cnt l (jn A):Int)else none
def ofQ(rt:List au->Option Int):List au->Int
 | []=>0
 |s::r=>(rt (s::r).reverse).getD (ofQ rt r)
def tC(l:List Sh.P)(A:List au):Int:=ofQ (UK l) A.reverse
def Vp(l:List Sh.P)(A:List au)(s:au):tC l (A++[s])=(UK l (A++[s])).getD (tC l A):=by
 unfold tC;rw[List.reverse_append,List.reverse_singleton,ja,ofQ,List.reverse_cons,jo]
theorem ZF(l:List Sh.P):tC l []=0:=rfl
def Oh(l:List Sh.P)(A:List au):0<=tC l A:=by
 unfold tC;generalize A.reverse=r
 induction r with
 |nil=>exact fG 0
 |cons s r ih =>
  rw[ofQ];unfold UK;split
  .simp
  .exact ih
def Xb{l:List Sh.P}(h:jK l){j:Nat}{s:au}(hj:j<l.length)(hp:pat l j=s):qA l s=true:=by
 have:=Y.Iz h.inc s;cases hf:qA l s with
 |true=>rfl
 |false =>
  exfalso;rw[hf]at this;unfold Y.U5 at this;cases hq:l.find? λp=>decide (p.pa=s)with
  |none =>
   rw[dy]at hq;rw[Y.mE hj]at hp;exact absurd (decide_eq_true hp) (by simpa using hq _ (aS hj))
  |some x =>
   rw[hq]at this;simp at this
def Nq{A:List au}{s a:au}(hv:(A++[s]).length<=12)(hr:(A++[s]).all jL=true):qC a (jn (A++[s]))=true↔qC a (jn A)=true\/a=jn (A++[s]):=by
 have hr':A.all jL=true:=by rw[fQ,aH]at hr;exact hr.1
 have hv':A.length<=12:=by simp at hv;omega
 rw[Y.od,Y.od,oq hv hr,oq hv' hr']
 constructor
 .rintro⟨S,k,h1,h2,h3⟩
  cases h1
  by_cases hk:k<=A.length
  .exact .inl ⟨A,k,rfl,hk,by rw[h3,dw hk]⟩
  .right;rw[h3,br (by simp at h2⊢;omega)]
 .rintro(⟨S,k,h1,h2,h3⟩ | h)
  .cases h1;exact⟨A++[s],k,rfl,aj,by rw[h3,dw h2]⟩
  .exact⟨A++[s],(A++[s]).length,rfl,aN _,by rw[dB];exact h⟩
def yQ{A:List au}(hv:A.length<=12)(hr:A.all jL=true):Sh.jO (jn A)=true:=by
 unfold Sh.jO;rw[oq hv hr];rfl
def Vq{l:List Sh.P}(h:jK l){A:List au}{s:au}(hv:(A++[s]).length<=12)(hr:(A++[s]).all jL=true):(mI l (jn (A++[s])):Int)=(UK l (A++[s])).getD (mI l (jn A)):=by
 unfold UK;cases hf:qA l (jn (A++[s]))with
 |true =>
  let⟨h1,h2⟩:=Y.qT hf;rw[if_pos rfl,bO]
  congr 1
  refine Y.sJ (Y.lq.2 ⟨h1,by rw[h2];exact Y.FT (yQ hv hr)⟩) λj hj=>?_
  let⟨j1,j2⟩:=Y.lq.1 hj
  by_cases he:pat l j=jn (A++[s])
  .refine jr.1 λhlt=>?_
   have:=h.inc _ _ hlt j1;rw[h2,he,Kp.kU]at this;cases this
  .exact gI ((Y.qp h.inc _ j1).2 (Y.xd (Y.tW j2) he))
 |false =>
  rw[if_neg af,gY]
  congr 1
  have hr':A.all jL=true:=by rw[fQ,aH]at hr;exact hr.1
  have hv':A.length<=12:=by simp at hv;omega
  let⟨m1,m2⟩:=Y.lq.1 (Y.C2 (h.KF (yQ hv' hr')));refine Y.sJ (Y.lq.2 ⟨m1,(Nq hv hr).2 (.inl m2)⟩) λj hj=>?_
  let⟨j1,j2⟩:=Y.lq.1 hj
  rcases(Nq hv hr).1 j2 with h3 | h3
  .exact Y.zF (Y.lq.2 ⟨j1,h3⟩)
  .rw[Xb h j1 h3]at hf;cases hf
def ZH{l:List Sh.P}(h:jK l):mI l (jn [])=0:=by
 refine Y.sJ (Y.lq.2 ⟨h.ne,by rw[h.root];decide⟩) λj hj=>?_
 let⟨j1,j2⟩:=Y.lq.1 hj;have hj0:pat l j=[47]:=Y.FU j2 (by rw[Y.uY];exact(Y.Dc j2).1)
 refine jr.1 λhlt=>?_
 have:=h.inc 0 j hlt j1;rw[h.root,hj0,Kp.kU]at this;cases this
def P4{l:List Sh.P}(h:jK l):∀(r:List au),r.length<=12->r.reverse.all jL=true->ofQ (UK l) r=(mI l (jn r.reverse):Int)
 | [],_,_=>by rw[List.reverse_nil,ZH h];rfl
 |s::r,hv,hr=>by
  rw[ofQ];rw[List.reverse_cons]at hr⊢;have hr':r.reverse.all jL=true:=by rw[fQ,aH]at hr;exact hr.1
  rw[Vq h (an hv) hr,P4 h r (by simp at hv;omega) hr']
def IU{l:List Sh.P}(h:jK l){A:List au}(hv:A.length<=12)(hr:A.all jL=true):tC l A=(mI l (jn A):Int):=by
 unfold tC;rw[P4 h _ (an hv) (an hr),jo]
def Ds:∀(l:List au),l.all jL=true->(joinTail [47] l).length<=l.length*33
 | [],_=>by simp[joinTail]
 |s::l,h=>by
  rw[bH,aH]at h;rw[mW];have:=AM h.1;have:=Ds l h.2;simp;omega
def Ou{l:List au}(hv:l.length<=12)(hr:l.all jL=true):(jn l).length<=1000:=by
 have:=Ds l hr
 by_cases h0:l=[]
 .subst h0;decide
 .rw[<-tO h0];omega
def DZ{t:Tr.Tree}{lt:au->au->Bool}(w:WF lG lt t){i:Int}{n:Tr.Node}(hf:find t.nodes i=some n)(hk:n.kind=2):(nv t i).length<=12/\(nv t i).all jL=true/\Fits (nv t i):=by
 let⟨d,h1,h2⟩:=w.EZ hf hk;let⟨h3,h4⟩:=Zt w h1 h2;have h5:(nv t i).all jL=true:=aO.2 λs hs=>by rw[<-adu];exact h4 s hs
 refine⟨aa,h5,?_⟩
 unfold Fits;have:=Ds _ h5;omega
open Go.Am Go.Am.Nm Go.Tr Go.Lib
open T (lG Bt Tv Nd En I B okB vN mB)
open Y (jK mI lU)
def wv(c:Nat->Int)(j:Nat)(v:Int):Nat->Int:=λk=>if k=j then v else c k
def qd(n:Nat)(c:Nat->Int):List AV:=(List.range n).map λj=>I (c j)
@[simp]def aiO(n:Nat)(c:Nat->Int):(qd n c).length=n:=by simp[qd]
def zx(n:Nat)(c:Nat->Int)(j:Nat)(v:Int):(qd n c).set j (I v)=qd n (wv c j v):=by
 apply iP
 .simp
 .intro k h1 h2;simp only[qd,List.getElem_set,gw,bZ,wv]
  by_cases h:k=j
  .simp[h]
  .simp[h,Ne.symm h]
def wP{n:Nat}(c:Nat->Int){j:Nat}(h:j<n):(qd n c)[j]? = some (I (c j)):=by simp[qd,h]
def Su{n:Nat}(c:Nat->Int){j:Nat}(h:j<(qd n c).length):(qd n c)[j]=I (c j):=by simp[qd]
def ad1{Γ:kP}(t:Tr.Tree)(hb:Bt t)(c:Nat->Int)(e0:Env)(h3:e0 3 = .kE [.jB t.fn (t.nodes.map Nd),.int .i64 t.next,.int .i64 t.jC])(h5:e0 5 = .own 0 0 0 t.nodes.length):
  iter (round Γ [6] [(.exit 0,[])] Km e0 1 []) ([.int .i64 0],[.row 0 1 (qd t.nodes.length c)])=some (.exit 0,[],[.row 0 1 (qd t.nodes.length ((List.range t.nodes.length).foldl (λc j=>wv c j (-1)) c))]):=by
 have:=jU (f:=round Γ [6] [(.exit 0,[])] Km e0 1 []) (λk (c:Nat->Int)=>([.int .i64 (k:Int)],[.row 0 1 (qd t.nodes.length c)])) (List.range t.nodes.length) (λc j=>wv c j (-1)) (λc=>(.exit 0,[],[.row 0 1 (qd t.nodes.length c)])) (λ_ _=>True)
  (λk hk c _=>by
   have hl:=hb.len;rw[bZ];have hk':k<t.nodes.length:=by simpa using hk
   refine⟨trivial,?_⟩;simp(disch:=omega)[round_eq,Kx,h3,h5,hk',wP c hk',zx])
  (λc _=>by simp(disch:=omega)[round_eq,Kx,h3]) c trivial
 simpa using this
def Ue(c:Nat->Int)(j:Nat):wv c j (c j)=c:=by
 funext k
 unfold wv;split
 .rename_i h;rw[h]
 .rfl
def g2(t:Tr.Tree)(o:Int)(e:Tr.Ent)(c:Nat->Int)(j:Nat):Nat->Int:=(t.nodes[j]?).elim c λn=>if n.ino=e.ino/\n.kind=1 then wv c j (q8 (c j) o)else c
def ad0{Γ:kP}(t:Tr.Tree)(hb:Bt t)(d:Tr.Node)(k:Nat)(hk:k<d.jF.length)(vu:d.jF.length<=1000)(e:Tr.Ent)(he:e=d.jF[k])(o:Int)(c:Nat->Int)(e0:Env)(h3:e0 3 = .kE [.jB t.fn (t.nodes.map Nd),.int .i64 t.next,.int .i64 t.jC])(h5:e0 5 = .own 0 0 0 t.nodes.length)(h8:e0 8 = .ptr 1 0 0 0)(h9:e0 9=I o)(h11:e0 11=I k):
  iter (round Γ [12] [(.exit 6,[])] Kl e0 2 []) ([.int .i64 0],[.row 0 1 (qd t.nodes.length c),vN d])=some (.exit 6,[],[.row 0 1 (qd t.nodes.length ((List.range t.nodes.length).foldl (g2 t o e) c)),vN d]):=by
 have := jU (f := round Γ [12] [(.exit 6, [])] Kl e0 2 []) (λk (c : Nat -> Int) => ([.int .i64 (k : Int)], [.row 0 1 (qd t.nodes.length c), vN d])) (List.range t.nodes.length) (g2 t o e) (λc => (.exit 6, [], [.row 0 1 (qd t.nodes.length c), vN d])) (λ_ _ => True)
  (λj hj c _=>by
   have hl:=hb.len;rw[bZ];have hj':j<t.nodes.length:=by simpa using hj
   obtain⟨x,hx⟩:∃x,x=t.nodes[j]:=⟨_,rfl⟩
   have hg:g2 t o e c j=if x.ino=e.ino/\x.kind=1 then wv c j (q8 (c j) o)else c:=by
    unfold g2;rw[aG hj',<-hx];rfl
   rw[hg];refine⟨trivial,?_⟩
   by_cases c1:x.ino=e.ino
   .by_cases c2 : x.kind = 1
    .rw[if_pos ⟨c1,c2⟩];unfold q8
     by_cases c3:c j = -1
     .rw[if_pos c3];simp(disch:=omega)[round_eq,xH,h3,h5,h8,h9,h11,<-he,hj',<-hx,c1,c2,c3,wP c hj',zx]
     .rw[if_neg c3]
      by_cases c4:c j=o
      .rw[if_pos c4,Ue];simp(disch:=omega)[round_eq,xH,h3,h5,h8,h9,h11,<-he,hj',<-hx,c1,c2,c4,wP c hj']
      .rw[if_neg c4];simp(disch:=omega)[round_eq,xH,h3,h5,h8,h9,h11,<-he,hj',<-hx,c1,c2,c3,c4,wP c hj',zx]
    .rw[if_neg (λh=>c2 h.2)]
     simp(disch:=omega)[round_eq,xH,h3,h8,h11,<-he,<-hx,c1,c2]
   .rw[if_neg (λh=>c1 h.1)]
    simp(disch:=omega)[round_eq,xH,h3,h8,h11,<-he,<-hx,c1])
  (λc _=>by simp(disch:=omega)[round_eq,xH,h3]) c trivial
 simpa using this
def g3(t:Tr.Tree)(o:Int)(c:Nat->Int)(e:Tr.Ent):Nat->Int:=(List.range t.nodes.length).foldl (g2 t o e) c
def adZ{Γ:kP}(t:Tr.Tree)(hb:Bt t)(d:Tr.Node)(vu:d.jF.length<=1000)(o:Int)(c:Nat->Int)(e0:Env)(h3:e0 3 = .kE [.jB t.fn (t.nodes.map Nd),.int .i64 t.next,.int .i64 t.jC])(h5:e0 5 = .own 0 0 0 t.nodes.length)(h8:e0 8 = .ptr 1 0 0 0)(h9:e0 9=I o):
  iter (round Γ [11] [(.exit 4,[])] Kk e0 2 []) ([.int .i64 0],[.row 0 1 (qd t.nodes.length c),vN d])=some (.exit 4,[],[.row 0 1 (qd t.nodes.length (d.jF.foldl (g3 t o) c)),vN d]):=by
 have:=jU (f:=round Γ [11] [(.exit 4,[])] Kk e0 2 []) (λk (c:Nat->Int)=>([.int .i64 (k:Int)],[.row 0 1 (qd t.nodes.length c),vN d])) d.jF (g3 t o) (λc=>(.exit 4,[],[.row 0 1 (qd t.nodes.length c),vN d])) (λ_ _=>True)
  (λk hk c _=>by
   refine⟨trivial,?_⟩;have h2:=ad0 (Γ:=Γ) t hb d k hk vu _ rfl o c;unfold g3;simp(disch:=omega)[round_eq,Kw,h8];rw[h2 _ (by simp(disch:=omega)[h3]) (by simp(disch:=omega)[h5]) (by simp(disch:=omega)[h8]) (by simp(disch:=omega)[h9]) aq]
   simp(disch:=omega))
  (λc _=>by simp(disch:=omega)[round_eq,Kw,h8]) c trivial
 simpa using this
def g4(oB:List au->Int)(t:Tr.Tree)(c:Nat->Int)(i:Nat):Nat->Int:=(t.nodes[i]?).elim c λd=>if d.kind=2 then d.jF.foldl (g3 t (oB (nv t d.ino))) (wv c i (oB (nv t d.ino)))else c
def adY{n:Nat}(hn:178<n){lt:au->au->Bool}(t:Tr.Tree)(w:WF lG lt t)(hb:Bt t)(l:List Sh.P)(hr:jK l)(hl:lU l)(f:Bool)(c:Nat->Int)(e0:Env)(h0:e0 0 = .jB f (l.map Sh.D))(h3:e0 3 = .kE [.jB t.fn (t.nodes.map Nd),.int .i64 t.next,.int .i64 t.jC])(h5:e0 5 = .own 0 0 0 t.nodes.length):
  iter (round (jJ.jG n) [7] [(.exit 2,[])] Kj e0 1 []) ([.int .i64 0],[.row 0 1 (qd t.nodes.length c)])=some (.exit 2,[],[.row 0 1 (qd t.nodes.length ((List.range t.nodes.length).foldl (g4 (tC l) t) c))]):=by
 have:=jU (f:=round (jJ.jG n) [7] [(.exit 2,[])] Kj e0 1 []) (λk (c:Nat->Int)=>([.int .i64 (k:Int)],[.row 0 1 (qd t.nodes.length c)])) (List.range t.nodes.length) (g4 (tC l) t) (λc=>(.exit 2,[],[.row 0 1 (qd t.nodes.length c)])) (λ_ _=>True)
  (λk hk c _=>by
   have yU:=hb.len;rw[bZ];have hk':k<t.nodes.length:=by simpa using hk
   have vu:=hb.jF _ (aS hk');have hfd:=mJ w.wf.oe (aS hk');obtain⟨d,hd⟩:∃x,x=t.nodes[k]:=⟨_,rfl⟩;rw[<-hd]at vu hfd
   have hg:g4 (tC l) t c k=if d.kind=2 then d.jF.foldl (g3 t (tC l (nv t d.ino))) (wv c k (tC l (nv t d.ino)))else c:=by
    unfold g4;rw[aG hk',<-hd];rfl
   rw[hg];refine⟨trivial,?_⟩
   by_cases c1:d.kind=2
   .rw[if_pos c1];let⟨p1,p2,p3⟩:=DZ w hfd c1;let⟨dd,hdp,akQ⟩:=w.EZ hfd c1;have ak5:=aod (n:=n) hn t hb hdp akQ (QM w hdp) p3;have hP:=yQ p1 p2;have ak6:=Y.acY (n:=n) aa l hl f (jn (nv t d.ino)) (by have:=Ou p1 p2;omega)
    rw[if_pos hP,hr.DR hP,<-IU hr p1 p2]at ak6;have h3':=adZ (Γ:=jJ.jG n) t hb d vu (tC l (nv t d.ino)) (wv c k (tC l (nv t d.ino)));simp only[Tv]at ak5;simp only[vN,c1]at h3';generalize tC l (nv t d.ino)=o at *
    simp(disch:=omega)[round_eq,FL,h0,h3,h5,hk',<-hd,c1,ca 162,ak5,ca 161,ak6,wP c hk',zx];rw[h3' _ (by simp(disch:=omega)[h3]) (by simp(disch:=omega)[h5]) aq aq]
    simp(disch:=omega)
   .rw[if_neg c1];simp(disch:=omega)[round_eq,FL,h3,<-hd,c1])
  (λc _=>by simp(disch:=omega)[round_eq,FL,h3]) c trivial
 simpa using this
open Go.Am Go.Am.Nm Go.Tr Go.Lib
open T (lG Bt Tv Nd En I B okB vN mB)
open Y (jK mI lU)
theorem KY(j:Nat):∀(m:Nat)(c:Nat->Int),((List.range m).foldl (λc j=>wv c j (-1)) c) j=if j<m then -1 else c j
 |0,c=>rfl
 |m+1,c=>by
  rw[eY,dV];simp only[aT,eW,wv];rw[KY j m c]
  by_cases h:j=m
  .simp[h]
  .have:(j<m+1)↔j<m:=by omega
   simp[h,this]
section
variable(t:Tr.Tree){j:Nat}{n:Tr.Node}(hj:t.nodes[j]? = some n)
include hj
theorem QB(o:Int)(e:Tr.Ent)(c:Nat->Int):∀m,((List.range m).foldl (g2 t o e) c) j=if j<m/\n.ino=e.ino/\n.kind=1 then q8 (c j) o else c j
 |0=>ah
 |m+1=>by
  rw[eY,dV];simp only[aT,eW];have ih:=QB o e c m;generalize(List.range m).foldl (g2 t o e) c=c' at *
  unfold g2
  by_cases h:j=m
  .subst h;rw[hj];simp only[iM,false_and,if_false]at ih;simp only[bw,show j<j+1 by omega,true_and]
   split
   .simp[wv,ih]
   .exact ih
  .have hm:(j<m+1)↔j<m:=by omega
   simp only[hm];rw[<-ih];cases t.nodes[m]? with
   |none=>rfl
   |some q =>
    simp only[bw];split
    .simp[wv,h]
    .rfl
theorem ala(o:Int)(c:Nat->Int)(e:Tr.Ent):g3 t o c e j=if n.kind=1 then nA n.ino o (c j) e else c j:=by
 have hl:j<t.nodes.length:=(aF.1 hj).1;unfold g3 nA;rw[QB t hj]
 by_cases h1:n.kind=1
 .by_cases h2:n.ino=e.ino
  .simp[hl,h1,h2]
  .simp[h1,h2,Ne.symm h2]
 .simp[h1]
theorem C6(o:Int):∀(l:List Tr.Ent)(c:Nat->Int),(l.foldl (g3 t o) c) j=if n.kind=1 then l.foldl (nA n.ino o) (c j)else c j
 | [],c=>ah
 |e::l,c=>by
  rw[aT,C6 o l,ala t hj]
  by_cases h1:n.kind=1
  .simp[h1]
  .simp[h1]
theorem QA(oB:List au->Int)(hk:n.kind=1\/n.kind=2)(c:Nat->Int):∀m,m<=t.nodes.length->((List.range m).foldl (g4 oB t) c) j=if n.kind=2 then(if j<m then oB (nv t n.ino)else c j)else(t.nodes.take m).foldl (nS oB t n.ino) (c j)
 |0,_=>ah
 |m+1,hm=>by
  have ih:=QA oB hk c m aa
  rw[eY,dV];simp only[aT,eW];generalize(List.range m).foldl (g4 oB t) c=c' at *
  have hq:t.nodes[m]? = some t.nodes[m]:=aG aa
  have e1:(t.nodes.take (m+1)).foldl (nS oB t n.ino) (c j)=nS oB t n.ino ((t.nodes.take m).foldl (nS oB t n.ino) (c j)) t.nodes[m]:=by
   rw[bC aa,dV];rfl
  rw[e1];unfold g4 nS;rw[hq];simp only[bw]
  rcases hk with hk | hk
  .have h2:¬n.kind=2:=by omega
   rw[if_neg h2]at ih⊢;split
   .rename_i hm2;have hne:j≠m:=by
     rintro rfl
     rw[hj]at hq;cases hq;omega
    rw[C6 t hj,if_pos hk];unfold wv;rw[if_neg hne,ih];rfl
   .exact ih
  .rw[if_pos hk]at ih⊢
   by_cases h:j=m
   .subst h;rw[hj]at hq;have hq:=cu hq;rw[<-hq,if_pos hk,C6 t hj,if_neg aa]
    simp[wv]
   .have hm':(j<m+1)↔j<m:=by omega
    simp only[hm'];rw[<-ih];split
    .rw[C6 t hj,if_neg aa]
     simp[wv,h]
    .rfl
end
theorem aiL{n:Nat}(hn:179<n){lt:au->au->Bool}(t:Tr.Tree)(w:WF lG lt t)(hb:Bt t)(l:List Sh.P)(hr:jK l)(hl:lU l)(f:Bool):(jJ.jG n).p 107 [.jB f (l.map Sh.D),Tv t]=some (.jB false (t.nodes.map λq=>I (sG (tC l) t q))):=by
 rw[pp 107 rfl hn rfl,jA,jy];have yU:=hb.len;have h1:=λc=>ad1 (Γ:=jJ.jG 179) t hb c
 have h4:=λc=>adY (n:=179) af t w hb l hr hl f c
 have aac:qd t.nodes.length ((List.range t.nodes.length).foldl (g4 (tC l) t) ((List.range t.nodes.length).foldl (λc j=>wv c j (-1)) λ_=>0))=t.nodes.map λq=>I (sG (tC l) t q):=by
  apply iP
  .simp
  .intro j h1 h2;have hjl:j<t.nodes.length:=by simpa using h1
   have hq:t.nodes[j]? = some t.nodes[j]:=aG hjl;have hk:=w.wf.kind _ _ (mJ w.wf.oe (aS hjl));rw[Su,gw,QA t hq _ hk _ _ (aN _),dB,if_pos hjl,KY,if_pos hjl];rfl
 have h0:List.replicate t.nodes.length (I 0)=qd t.nodes.length λ_=>0:=by
  unfold qd;rw[List.map_const'];simp
 simp(disch:=omega)[amw,h0];rw[h1 _ _ rfl rfl];simp(disch:=omega);rw[h4 _ _ rfl rfl rfl];simp(disch:=omega);rw[br ah,aac]
def aaC(t:Tr.Tree)(p:Sh.P):Bool:=decide ((o8 t p.pa).2=0/\(kI t (o8 t p.pa).1).kind=2)
theorem adV{n:Nat}(hn:188<n)(t:Tr.Tree)(hb:Bt t)(l:List Sh.P)(hl:lU l)(f:Bool)(e0:Env)(h0:e0 0 = .jB f (l.map Sh.D))(h3:e0 3 = .kE [.jB t.fn (t.nodes.map Nd),.int .i64 t.next,.int .i64 t.jC]):
  iter (round (jJ.jG n) [5] [(.exit 0,[]),(.ret,[4])] Ka e0 0 []) ([.int .i64 0],[])=some ((l.find? λp=>!aaC t p).elim (.exit 0,[],[]) λp=>(.ret,[.bool false],[vN (kI t (o8 t p.pa).1)])) :=
 qS (f:=round (jJ.jG n) [5] [(.exit 0,[]),(.ret,[4])] Ka e0 0 []) (λi=>([.int .i64 (i:Int)],[])) l (λp=>!aaC t p) (λ_ p=>(.ret,[.bool false],[vN (kI t (o8 t p.pa).1)])) (.exit 0,[],[])
  (λi hi=>by
   have hl1:=hl.1;have wz:=hl.2 _ (aS hi);obtain⟨x,hx⟩:∃x,x=l[i]:=⟨_,rfl⟩;rw[<-hx]at wz⊢;have og:=Sn (n:=n) hn t hb x.pa wz;have vz:=T.wN (n:=n) aa t hb (o8 t x.pa).1
   let⟨b,hv,_⟩:=T.sX t (o8 t x.pa).1;rw[hv]at vz;unfold aaC;generalize kI t (o8 t x.pa).1=q at *
   simp only[Tv,Nd]at og vz
   by_cases c1:(o8 t x.pa).2=0
   .by_cases c2 : q.kind = 2
    .rw[if_neg (by simp[c1,c2])]
     simp(disch:=omega)[round_eq,BW,h0,h3,<-hx,og,ca 110,vz,c1,c2]
    .rw[if_pos (by simp[c1,c2])]
     simp(disch:=omega)[round_eq,BW,h0,h3,<-hx,og,ca 110,vz,c1,c2]
   .rw[if_pos (by simp[c1])]
    simp(disch:=omega)[round_eq,BW,h0,h3,<-hx,og,ca 110,vz,c1])
  (by simp(disch:=omega)[round_eq,BW,h0])
theorem adU{Γ:kP}(l:ay)(hl:l.length<=1000000)(f:Bool)(e0:Env)(h10:e0 10 = .jB f (l.map I)):
  iter (round Γ [11] [(.exit 2,[]),(.ret,[4])] J9 e0 0 []) ([.int .i64 0],[])=some (if l.all (λx=>decide (0<=x))=true then(.exit 2,[],[])else(.ret,[.bool false],[])) :=
 qm (f:=round Γ [11] [(.exit 2,[]),(.ret,[4])] J9 e0 0 []) (λi=>([.int .i64 (i:Int)],[])) l (λx=>decide (0<=x)) _ _
  (λi hi=>by
   obtain⟨x,hx⟩:∃x,x=l[i]:=⟨_,rfl⟩;rw[<-hx]
   by_cases c:x<0
   .rw[if_neg aj]
    simp(disch:=omega)[round_eq,FI,h10,<-hx,c]
   .rw[if_pos aj]
    simp(disch:=omega)[round_eq,FI,h10,<-hx,c])
  (by simp(disch:=omega)[round_eq,FI,h10])
theorem aiK{n:Nat}(hn:191<n){lt:au->au->Bool}(t:Tr.Tree)(w:WF lG lt t)(hb:Bt t)(l:List Sh.P)(hr:jK l)(hl:lU l)(f:Bool):∃b,(jJ.jG n).p 112 [.jB f (l.map Sh.D),Tv t]=some (.bool b)/\(b=true->∀q∈t.nodes,0<=sG (tC l) t q):=by
 have h1:=adV (n:=191) af t hb l hl f
 have OS:=aiL (n:=191) af t w hb l hr hl f
 have h2:=adU (Γ:=jJ.jG 191) (t.nodes.map (sG (tC l) t)) (by have:=hb.len;simp;omega) false
 rw[gL]at h2;rw[show (t.nodes.map λq=>I (sG (tC l) t q))=t.nodes.map (I∘sG (tC l) t)from rfl]at OS
 simp only[Tv]at OS;cases c1:l.find? λp=>!aaC t p with
 |none =>
  rw[c1]at h1;simp only[cK]at h1
  by_cases c2:(t.nodes.map (sG (tC l) t)).all (λx=>decide (0<=x))=true
  .refine⟨true,?_,λ_ q hq=>?_⟩
   .rw[pp 112 rfl hn rfl,jA,jy];simp[aa2];rw[h1 _ rfl rfl];simp[ca 107,OS];rw[h2 _ rfl,if_pos c2];simp
   .have:=aO.1 c2 _ (List.mem_map_of_mem hq)
    simpa using this
  .refine⟨false,?_,λh=>by cases h⟩
   rw[pp 112 rfl hn rfl,jA,jy];simp[aa2];rw[h1 _ rfl rfl];simp[ca 107,OS];rw[h2 _ rfl,if_neg c2];simp
 |some p =>
  rw[c1]at h1;simp only[bw]at h1;refine⟨false,?_,λh=>by cases h⟩
  rw[pp 112 rfl hn rfl,jA,jy];simp[aa2];rw[h1 _ rfl rfl];simp
open Go.Am Go.Am.Nm Go.Tr Go.Lib
open T (lG Bt Tv Nd En I B okB vN mB)
open Y (jK mI lU)
def mM(l:List Sh.P)(t:Tr.Tree)(q:Tr.Node):Int:=(l[(sG (tC l) t q).toNat]?).elim (-1) λp=>p.gr
def adw{l:List Sh.P}(h:jK l){A:List au}(hv:A.length<=12)(hr:A.all jL=true):tC l A<l.length:=by
 rw[IU h hv hr];have:=h.of_lt (yQ hv hr);omega
def Ur{x o m:Int}(hm:0<=m)(hx:x<m)(ho:o<m):q8 x o<m:=by
 unfold q8;split
 .exact ho
 .split
  .exact hx
  .omega
def aja{l:List Sh.P}(h:jK l){t:Tr.Tree}{lt:au->au->Bool}(w:WF lG lt t){q:Tr.Node}(hq:q∈t.nodes):sG (tC l) t q<l.length:=by
 have OL:∀d∈t.nodes,d.kind=2->tC l (nv t d.ino)<l.length:=λd hd hk=>by
  let⟨p1,p2,_⟩:=DZ w (mJ w.wf.oe hd) hk;exact adw h p1 p2
 unfold sG;split
 .rename_i hk;exact OL q hq hk
 .have hE:∀(es:List Tr.Ent)(j o x:Int),o<l.length->x<(l.length:Int)->es.foldl (nA j o) x<l.length:=by
   intro es
   induction es with
   |nil=>intro j o x _ hx;exact hx
   |cons e es ih =>
    intro j o x ho hx;rw[aT];refine ih j o _ ho ?_;unfold nA;split
    .exact Ur aa hx ho
    .exact hx
  have:∀(ds:List Tr.Node)(x:Int),(∀d∈ds,d∈t.nodes)->x<(l.length:Int)->ds.foldl (nS (tC l) t q.ino) x<l.length:=by
   intro ds
   induction ds with
   |nil=>intro x _ hx;exact hx
   |cons d ds ih =>
    intro x hds hx;rw[aT];refine ih _ (λd hd=>hds d (bt _ hd)) ?_
    unfold nS;split
    .rename_i hk;exact hE _ _ _ _ (OL d (hds d bu) hk) hx
    .exact hx
  exact this t.nodes (-1) (λd hd=>hd) aa
def EH{l:List Sh.P}(h:jK l){t:Tr.Tree}{lt:au->au->Bool}(w:WF lG lt t){q:Tr.Node}(hq:q∈t.nodes)(h0:0<=sG (tC l) t q):∃(k:Nat) (hk:k<l.length),sG (tC l) t q=(k:Int)/\mM l t q=l[k].gr/\0<=mM l t q/\mM l t q<8:=by
 have h1:=aja h w hq;refine⟨(sG (tC l) t q).toNat,aa,aa,?_⟩
 have e:mM l t q=(l[(sG (tC l) t q).toNat]'aa).gr:=by
  unfold mM;rw[aG aa];rfl
 have hg:=h.gr _ (aS (show (sG (tC l) t q).toNat<l.length by omega))
 rw[e];exact⟨rfl,hg⟩
def ajE{Γ:kP}{lt:au->au->Bool}(t:Tr.Tree)(w:WF lG lt t)(hb:Bt t)(l:List Sh.P)(hr:jK l)(hall:∀q∈t.nodes,0<=sG (tC l) t q)(f:Bool)(g:Nat)(V F:List AV)(S:List Ar)(hV:V=[.jB true [],.jB true [],.int .i64 0,.int .i64 0])(hF:F=[.jB f (l.map Sh.D),.own 2 0 0 S.length,.int .i64 t.next,.int .i64 t.jC])(e0:Env)(h0:e0 0 = .jB f (l.map Sh.D))(h3:e0 3 = .kE [.jB t.fn (t.nodes.map Nd),.int .i64 t.next,.int .i64 t.jC])(h6:e0 6 = .jB false (t.nodes.map λq=>I (sG (tC l) t q)))(h7:e0 7=I g):
  iter (round Γ [8,9] [(.exit 2,[8])] Re e0 4 [3]) ([.own 3 0 0 0,.int .i64 0],[.var V,.var F,.row 0 2 (S.map Lv),.row 0 6 []]) =
   some (.exit 2,[.own 3 0 0 (nO (mM l t) t.nodes g).length],[.var V,.var F,.row 0 2 (S.map Lv),.row 0 6 ((nO (mM l t) t.nodes g).map Nd)]):=by
 have:=jU (f:=round Γ [8,9] [(.exit 2,[8])] Re e0 4 [3]) (λk (a:List Tr.Node)=>([.own 3 0 0 a.length,.int .i64 (k:Int)],[.var V,.var F,.row 0 2 (S.map Lv),.row 0 6 (a.map Nd)])) t.nodes (λa x=>if decide (mM l t x=g)=true then a++[x]else a) (λa=>(.exit 2,[.own 3 0 0 a.length],[.var V,.var F,.row 0 2 (S.map Lv),.row 0 6 (a.map Nd)])) (λk a=>a.length<=k)
  (λk hk a ha=>by
   have hl:=hb.len;have hxm:=aS hk;obtain⟨x,hx⟩:∃x,x=t.nodes[k]:=⟨_,rfl⟩;rw[<-hx]at hxm⊢;let⟨m,hm,e1,e2,_⟩:=EH hr w hxm (hall x hxm);obtain⟨p,hp⟩:∃p,p=l[m]:=⟨_,rfl⟩;have akD:=hr.le;rw[<-hp]at e2;rw[e2];subst hV hF
   by_cases c:p.gr=g
   .refine⟨by simp[c];omega,?_⟩
    simp(disch:=omega)[round_eq,Nc,h0,h3,h6,h7,<-hx,e1,<-hp,c]
   .refine⟨by simp[c];omega,?_⟩
    simp(disch:=omega)[round_eq,Nc,h0,h3,h6,h7,<-hx,e1,<-hp,c])
  (λs hs=>by have hl:=hb.len;subst hV hF;simp(disch:=omega)[round_eq,Nc,h3]) [] ah
 rw[T.fold_filter,bB]at this;unfold nO
 simpa using this
def ZQ(gr:Tr.Node->Int)(l:List Tr.Node)(S:List Ar)(g:Nat):List Ar:=if nO gr l g=[]then S else S++[((g:Int),nO gr l g)]
def Em(gr:Tr.Node->Int)(l:List Tr.Node):∀(gs:ax)(S:List Ar),gs.foldl (ZQ gr l) S=S++lg gr l gs
 | [],S=>by simp[lg]
 |g::gs,S=>by
  rw[aT,Em gr l gs,lg];unfold ZQ;split<;>simp
def ajD{Γ:kP}{lt:au->au->Bool}(t:Tr.Tree)(w:WF lG lt t)(hb:Bt t)(l:List Sh.P)(hr:jK l)(hall:∀q∈t.nodes,0<=sG (tC l) t q)(f:Bool)(e0:Env)(h0:e0 0 = .jB f (l.map Sh.D))(h3:e0 3 = .kE [.jB t.fn (t.nodes.map Nd),.int .i64 t.next,.int .i64 t.jC])(h5:e0 5 = .ptr 1 0 0 0)(h6:e0 6 = .jB false (t.nodes.map λq=>I (sG (tC l) t q))):
  iter (lD Γ 2 [(5,1,2)] [7] [(.exit 0,[])] Rc e0 3 [2]) ([.int .i64 0],[.var [.jB true [],.jB true [],.int .i64 0,.int .i64 0],.var [.jB f (l.map Sh.D),.own 2 0 0 0,.int .i64 t.next,.int .i64 t.jC],.row 0 2 []]) =
   some (.exit 0,[],[.var [.jB true [],.jB true [],.int .i64 0,.int .i64 0],.var [.jB f (l.map Sh.D),.own 2 0 0 (lg (mM l t) t.nodes [0,1,2,3,4,5,6,7]).length,.int .i64 t.next,.int .i64 t.jC],.row 0 2 ((lg (mM l t) t.nodes [0,1,2,3,4,5,6,7]).map Lv)]):=by
 have:=jU (f:=lD Γ 2 [(5,1,2)] [7] [(.exit 0,[])] Rc e0 3 [2]) (λk (S:List Ar)=>([.int .i64 (k:Int)],[.var [.jB true [],.jB true [],.int .i64 0,.int .i64 0],.var [.jB f (l.map Sh.D),.own 2 0 0 S.length,.int .i64 t.next,.int .i64 t.jC],.row 0 2 (S.map Lv)])) (List.range 8) (ZQ (mM l t) t.nodes) (λS=>(.exit 0,[],[.var [.jB true [],.jB true [],.int .i64 0,.int .i64 0],.var [.jB f (l.map Sh.D),.own 2 0 0 S.length,.int .i64 t.next,.int .i64 t.jC],.row 0 2 (S.map Lv)])) (λk S=>S.length<=k)
  (λk hk S hS=>by
   have hl:=hb.len;have hk8:k<8:=by simpa using hk
   rw[bZ];have hin:=ajE (Γ:=Γ) t w hb l hr hall f k _ _ S rfl rfl;have hol:(nO (mM l t) t.nodes k).length<=t.nodes.length:=cr _ _;unfold ZQ;generalize nO (mM l t) t.nodes k=o at *
   by_cases c:o=[]
   .subst c;rw[if_pos rfl];refine⟨aa,?_⟩
    simp(disch:=omega)[jV,Nb];rw[hin _ (by simp(disch:=omega)[h0]) (by simp(disch:=omega)[h3]) (by simp(disch:=omega)[h6]) aq]
    simp(disch:=omega)[h5]
   .rw[if_neg c];have hpos:0<o.length:=dX.2 c;refine⟨aj,?_⟩
    simp(disch:=omega)[jV,Nb];rw[hin _ (by simp(disch:=omega)[h0]) (by simp(disch:=omega)[h3]) (by simp(disch:=omega)[h6]) aq]
    simp(disch:=omega)[h5,hpos])
  (λS hS=>by simp(disch:=omega)[jV,Nb]) [] ah
 rw[Em,bB,show List.range 8=[0,1,2,3,4,5,6,7]from rfl]at this
 simpa using this
def s48{n:Nat}(hn:180<n){lt:au->au->Bool}(t:Tr.Tree)(w:WF lG lt t)(hb:Bt t)(l:List Sh.P)(hr:jK l)(hl:lU l)(hall:∀q∈t.nodes,0<=sG (tC l) t q)(f:Bool):(jJ.jG n).p 48 [.jB f (l.map Sh.D),Tv t]=some (Fv ⟨f,l,false,lg (mM l t) t.nodes [0,1,2,3,4,5,6,7],t.next,t.jC⟩):=by
 rw[pp 48 rfl hn rfl,jA,jy];have OS:=aiL (n:=180) af t w hb l hr hl f
 have h2:=ajD (Γ:=jJ.jG 180) t w hb l hr hall f;simp only[Tv]at OS;simp[c48,ca 107,OS];rw[h2 _ rfl rfl rfl rfl];simp
open Go.Am Go.Am.Nm Go.Tr Go.Lib
open T (lG Bt Tv Nd En I B okB vN mB Bm)
def rz{k:Nat}{t:Tr.Tree}(h:Bg k t)(hk:k<=700):Bt t :=
 ⟨by have:=h.len;omega,λn hn=>by have:=h.jF n hn;omega,h.YT,by have:=h.ck;omega,h.nx0,by have:=h.nx;omega⟩
abbrev Dd(t:Tr.Tree):Prop:=WF lG jP t
def P7{t:Tr.Tree}(w:Dd t)(fr:Int)(s:au)(to:Int)(nm:au):Bm t fr s to nm (Tr.look lG t fr s).1 (Tr.ot t to nm)/\(if Tr.ot t to nm≠0 then unnamed (left (left t fr s) to nm) (Tr.ot t to nm)else left t fr s).jC<4398046511104:=by
 have h0:=w.bg;have h1:=h0.left fr s;have h2:=h1.left to nm;have h3:=h2.unnamed (Tr.ot t to nm)
 have h4:Bg 3 (if Tr.ot t to nm≠0 then unnamed (left (left t fr s) to nm) (Tr.ot t to nm)else left t fr s):=by
  split
  .exact h3
  .exact h1.mono aa
 refine⟨⟨λe he=>?_,rz h1 aa,λ_=>rz h2 aa,λ_ q hq=>?_,rz h4 aa,?_⟩,by have:=h4.ck;omega⟩
 .unfold mK at he;cases hf:find t.nodes to with
  |none=>rw[hf]at he;cases he
  |some p =>
   rw[hf]at he;simp only at he;split at he
   .rename_i hd;have:=(w.wf.dir _ _ hf hd).2.to e he;let⟨q,hq⟩:=dA.1 this;have:=(w.wf.pos _ _ hq).1;omega
   .cases he
 .have:=h2.lk q (jY hq).1;omega
 .split
  .refine rz (h4.kG ?_ ?_) aa
   .have:=(h0.kI (Tr.look lG t fr s).1).1;show (kI t (Tr.look lG t fr s).1).jF.length<=_;omega
   .have:=(h0.kI (Tr.look lG t fr s).1).2;show _<=(kI t (Tr.look lG t fr s).1).links/\(kI t (Tr.look lG t fr s).1).links<=_;omega
  .exact rz h4 aa
def Pz{t:Tr.Tree}(w:Dd t)(i:Int)(s:au):((Tr.look lG t i s).2=0->Bt (left t i s))/\∀q,find (left t i s).nodes (Tr.look lG t i s).1=some q->-4398046511104<=q.links/\q.links<=4398046511104:=by
 have h1:=w.bg.left i s;refine⟨λ_=>rz h1 aa,λq hq=>?_⟩
 have:=h1.lk q (jY hq).1;omega
structure Opr where
 kind:Int
 client:Int
 path:au
 to:au
 n:Int
 m:Int
 handle:Int
 fd:Bool
 data:au
@[simp]def Ov(o:Opr):AV:=.agg [I o.kind,I o.client,.str o.path,.str o.to,I o.n,I o.m,I o.handle,.jB o.fd (o.data.map B)]
structure An where
 err:Int
 ino:Int
 kind:Int
 n:Int
 m:Int
 fn:Bool
 names:List au
@[simp]def Av(a:An):AV:=.agg [I a.err,I a.ino,I a.kind,I a.n,I a.m,.jB a.fn (a.names.map AV.str),.jB true []]
def aol{n:Nat}(hn:198<n)(o:Opr):∃b,(jJ.jG n).p 115 [Ov o]=some (.bool b):=by
 refine⟨decide (o.kind=1)||(decide (o.kind=2)||(decide (o.kind=3)||(decide (o.kind=4)||(decide (o.kind=5)||(decide (o.kind=6)||decide (o.kind=7)))))),?_⟩;rw[pp 115 rfl hn rfl,jA,jy]
 by_cases c1:o.kind=1
 .simp[MY,c1]
 by_cases c2:o.kind=2
 .simp[MY,c2]
 by_cases c3:o.kind=3
 .simp[MY,c3]
 by_cases c4:o.kind=4
 .simp[MY,c4]
 by_cases c5:o.kind=5
 .simp[MY,c5]
 by_cases c6:o.kind=6
 .simp[MY,c6]
 simp[MY,c1,c2,c3,c4,c5,c6]
def aiC{n:Nat}(hn:199<n)(p:au)(hp:p.length<=1000000):∃b,(jJ.jG n).p 168 [.str p]=some (.bool b):=by
 have h:=acW (n:=199) af p hp
 unfold LW at h;rw[pp 168 rfl hn rfl,jA,jy];cases hl:sO p with
 |none =>
  rw[hl]at h;refine⟨false,?_⟩;simp[afR,ca 167,h]
 |some x =>
  rw[hl]at h;refine⟨true,?_⟩;simp[afR,ca 167,h]
def VJ{p:au}{x:au×au}(h:sO p=some x):x.1.length<=32/\x.2.length<=1000:=by
 unfold sO at h;cases hs:split p with
 |none=>rw[hs]at h;cases h
 |some l =>
  rw[hs]at h;simp only at h;split at h
  .cases h
  .rename_i hne;cases h;let⟨_,h1,h2⟩:=k9 hs;refine⟨?_,?_⟩
   .rw[fJ hne];exact AM (aO.1 h2 _ (List.getLast_mem hne))
   .have:(l.dropLast).all jL=true:=aO.2 λs hs=>aO.1 h2 s ((List.dropLast_sublist l).subset hs)
    exact Ou aj this
def aiA{n:Nat}(hn:204<n)(t:Tr.Tree)(hb:Bt t)(p:au)(hp:p.length<=1000000):∃(d:Int) (s:au) (e:Int),(jJ.jG n).p 171 [Tv t,.str p]=some (.kT [I d,.str s,I e])/\s.length<=32:=by
 have h:=acW (n:=204) af p hp
 unfold LW at h;rw[pp 171 rfl hn rfl,jA,jy];cases hl:sO p with
 |none =>
  rw[hl]at h;refine⟨0,[],60,?_,ah⟩
  simp[afP,ca 167,h]
 |some x =>
  rw[hl]at h;obtain⟨x1,x2⟩:=VJ hl;have og:=Sn (n:=204) af t hb x.2 aa
  simp only[Tv]at og;refine⟨(o8 t x.2).1,x.1,(o8 t x.2).2,?_,x1⟩;simp[afP,ca 167,h,ca 109,og]
open Go.Am Go.Am.Nm Go.Tr Go.Lib
open T (lG Bt Tv Nd En I B okB vN mB Bm)
def rT(l:List Tr.Ent)(from_:Int)(b:Int)(k:Nat):Int:=(l[k]?).elim b λe=>if from_<=e.jC/\(b<0\/e.jC<(l[b.toNat]?).elim 0 Tr.Ent.jC)then(k:Int)else b
def Kn(l:List Tr.Ent)(from_:Int):∀(m:Nat),m<=l.length->-1<=(List.range m).foldl (rT l from_) (-1)/\(List.range m).foldl (rT l from_) (-1)<m
 |0,_=>ah
 |m+1,h=>by
  have ih:=Kn l from_ m aa
  rw[eY,dV];simp only[aT,eW];generalize(List.range m).foldl (rT l from_) (-1)=b at *
  unfold rT;rw[aG aa]
  simp only[bw];split<;>omega
def VL{Γ:kP}(q:Tr.Node)(hq:q.jF.length<=1000)(from_:Int)(E:List AV)(e0:Env)(h2:e0 2=I from_)(h11:e0 11 = .ptr 0 0 0 0):
  iter (round Γ [14,15] [(.exit 2,[14])] JQ e0 2 []) ([.int .i64 (-1),.int .i64 0],[vN q,.row 0 3 E])=some (.exit 2,[I ((List.range q.jF.length).foldl (rT q.jF from_) (-1))],[vN q,.row 0 3 E]):=by
 have := jU (f := round Γ [14, 15] [(.exit 2, [14])] JQ e0 2 []) (λk (b : Int) => ([.int .i64 b, .int .i64 (k : Int)], [vN q, .row 0 3 E])) (List.range q.jF.length) (rT q.jF from_) (λb => (.exit 2, [.int .i64 b], [vN q, .row 0 3 E])) (λk b => -1 <= b /\ b < k)
  (λk hk b hb=>by
   rw[bZ];have hk':k<q.jF.length:=by simpa using hk
   obtain⟨x,hx⟩:∃x,x=q.jF[k]:=⟨_,rfl⟩;have Mc:q.jF[k]? = some x:=by rw[aG hk',<-hx]
   by_cases c1:from_<=x.jC
   .by_cases c2 : b < 0
    .have e:rT q.jF from_ b k=k:=by simp[rT,Mc,c1,c2]
     rw[e];refine⟨aa,?_⟩
     simp(disch:=omega)[round_eq,zc,h2,h11,<-hx,c1,c2]
    .obtain⟨j,rfl⟩:∃j:Nat,b=j:=⟨b.toNat,aa⟩
     have hj:j<q.jF.length:=aa
     obtain⟨y,hy⟩:∃y,y=q.jF[j]:=⟨_,rfl⟩;have hyj:q.jF[j]? = some y:=by rw[aG hj,<-hy]
     by_cases c3:x.jC<y.jC
     .have e:rT q.jF from_ j k=k:=by simp[rT,Mc,hyj,c1,c3]
      rw[e];refine⟨aa,?_⟩
      simp(disch:=omega)[round_eq,zc,h2,h11,<-hx,c1,<-hy,c3]
     .have e:rT q.jF from_ j k=j:=by simp[rT,Mc,hyj,c1,c3]
      rw[e];refine⟨aa,?_⟩
      simp(disch:=omega)[round_eq,zc,h2,h11,<-hx,c1,<-hy,c3]
   .have e:rT q.jF from_ b k=b:=by simp[rT,Mc,c1]
    rw[e];refine⟨aa,?_⟩
    simp(disch:=omega)[round_eq,zc,h2,h11,<-hx,c1])
  (λb hb=>by simp(disch:=omega)[round_eq,zc,h11]) (-1) aa
 simpa using this
def adQ{Γ:kP}(q:Tr.Node)(hq:q.jF.length<=1000)(hc:∀e∈q.jF,0<=e.jC/\e.jC<=4398046511104)(n:Nat)(hn1:1<=n)(hn:n<=64):∀(k:Nat)(from_:Int)(S:List Tr.Ent),S.length+k=n->(∀e∈S,0<=e.jC/\e.jC<=4398046511104)->
  ∃(es:List Tr.Ent) (nx:Int),es.length<=64/\∀e0:Env,e0 3=I n->e0 11 = .ptr 0 0 0 0->iter (round Γ [2,13] [(.ret,[8,9,10])] Pa e0 2 [1]) ([I from_,.own 1 0 0 S.length],[vN q,.row 0 3 (S.map En)])=some (.ret,[.own 1 0 0 es.length,I nx,I 0],[vN q,.row 0 3 (es.map En)]):=by
 intro k
 induction k with
 |zero =>
  intro from_ S hS hSc;have h1:=VL (Γ:=Γ) q hq from_ (S.map En);have hb:=Kn q.jF from_ q.jF.length (aN _);generalize(List.range q.jF.length).foldl (rT q.jF from_) (-1)=b at *
  by_cases c1:b<0
  .refine⟨S,0,aa,λe0 h3 h11=>?_⟩
   rw[iter_eq];simp(disch:=omega)[round_eq,BT];rw[h1 _ aq (by simp(disch:=omega)[h11])]
   simp(disch:=omega)[c1]
  .have hSn:S.length=n:=by omega
   have hl:n-1<S.length:=aa
   have Qm:=hSc _ (aS hl);obtain⟨z,hz⟩:∃z,z=S[n-1]:=⟨_,rfl⟩;rw[<-hz]at Qm;refine⟨S,z.jC+1,aa,λe0 h3 h11=>?_⟩
   rw[iter_eq];have hc1:((n:Int)-1)=((n-1:Nat):Int):=aa
   simp(disch:=omega)[round_eq,BT];rw[h1 _ aq (by simp(disch:=omega)[h11])]
   simp(disch:=omega)[c1,h3,hSn,hc1,<-hz]
 |succ k ih =>
  intro from_ S hS hSc;have h1:=VL (Γ:=Γ) q hq from_ (S.map En);have hb:=Kn q.jF from_ q.jF.length (aN _);generalize(List.range q.jF.length).foldl (rT q.jF from_) (-1)=b at *
  by_cases c1:b<0
  .refine⟨S,0,aa,λe0 h3 h11=>?_⟩
   rw[iter_eq];simp(disch:=omega)[round_eq,BT];rw[h1 _ aq (by simp(disch:=omega)[h11])]
   simp(disch:=omega)[c1]
  .obtain⟨j,rfl⟩:∃j:Nat,b=j:=⟨b.toNat,aa⟩
   have hj:j<q.jF.length:=aa
   have hy2:=hc _ (aS hj);obtain⟨y,hy⟩:∃y,y=q.jF[j]:=⟨_,rfl⟩;rw[<-hy]at hy2
   let⟨es,nx,he,hit⟩:=ih (y.jC+1) (S++[y]) aj (λe he=>by
    rcases aX.1 he with h | h
    .exact hSc e h
    .rw[aM.1 h];exact hy2)
   refine⟨es,nx,he,λe0 h3 h11=>?_⟩
   have hit:=hit e0 h3 h11;rw[iter_eq];have hSn:¬S.length=n:=aa
   simp(disch:=omega)[round_eq,BT];rw[h1 _ aq (by simp(disch:=omega)[h11])]
   simp(disch:=omega)[h3,h11,<-hy]
   simpa using hit
def aaD(t:Tr.Tree)(i:Int):mK t i=mq\/∃p,find t.nodes i=some p/\p.kind=2/\mK t i=p:=by
 unfold mK;cases h:find t.nodes i with
 |none=>exact .inl rfl
 |some p =>
  by_cases hk:p.kind=2
  .right;exact⟨p,rfl,hk,by simp[hk]⟩
  .left;simp[hk]
def anV{n:Nat}(hn:202<n)(t:Tr.Tree)(w:Dd t)(i a b:Int):∃(f:Bool) (es:List Tr.Ent) (nx e:Int),(jJ.jG n).p 237 [Tv t,I i,I a,I b]=some (.kT [.jB f (es.map En),I nx,I e])/\es.length<=64:=by
 have hb:=rz w.bg aa
 have hD:=T.Sl (n:=202) af t hb i
 have hq:(mK t i).jF.length<=1000/\∀e∈(mK t i).jF,0<=e.jC/\e.jC<=4398046511104:=by
  rcases aaD t i with h | ⟨p,hp,hk,h⟩
  .rw[h];simp[mq]
  .rw[h];let⟨_,hE⟩:=w.wf.dir _ _ hp hk;refine⟨by have:=hE.len;omega,λe he=>?_⟩
   have:=hE.ck e he;have:=w.wf.ck2;omega
 generalize mK t i=q at *
 generalize oN t i=e at *
 simp only[Tv,Nd]at hD
 by_cases c1:a<0
 .refine⟨true,[],0,1,?_,ah⟩
  rw[pp 237 rfl hn rfl,jA,jy];simp[Tz,c1]
 by_cases c2:b<1
 .refine⟨true,[],0,1,?_,ah⟩
  rw[pp 237 rfl hn rfl,jA,jy];simp[Tz,c1,c2]
 by_cases c3:64<b
 .refine⟨true,[],0,1,?_,ah⟩
  rw[pp 237 rfl hn rfl,jA,jy];simp[Tz,c1,c2,c3]
 by_cases c4:e=0
 .obtain⟨m,rfl⟩:∃m:Nat,b=m:=⟨b.toNat,aa⟩
  let⟨es,nx,he,hit⟩:=adQ (Γ:=jJ.jG 202) q hq.1 hq.2 m aa aa m a [] ah ah
  refine⟨false,es,nx,0,?_,he⟩;rw[pp 237 rfl hn rfl,jA,jy];simp only[bQ,bq]at hit;simp[Tz,c1,c2,c3,ca 235,hD,c4];rw[hit _ ah ah]
  simp(disch:=omega)
 .refine⟨true,[],0,e,?_,ah⟩
  rw[pp 237 rfl hn rfl,jA,jy];simp[Tz,c1,c2,c3,ca 235,hD,c4]
open Go.Am Go.Am.Nm Go.Tr Go.Lib
open T (lG Bt Tv Nd En I B okB vN mB Bm)
abbrev vA:AB:=.var [.int .i64 0,.int .i64 0,.int .i64 0,.int .i64 0,.int .i64 0,.jB true [],.jB true []]
def adR{Γ:kP}(es:List Tr.Ent)(hl:es.length<=64)(f:Bool)(q:Tr.Node)(e0:Env)(h9:e0 9 = .jB f (es.map En)):
  iter (round Γ [11,12] [(.exit 0,[11])] JX e0 3 [2]) ([.own 2 0 0 0,.int .i64 0],[vA,vN q,.row 0 1 []])=some (.exit 0,[.own 2 0 0 es.length],[vA,vN q,.row 0 1 ((es.map Tr.Ent.name).map AV.str)]):=by
 have:=jU (f:=round Γ [11,12] [(.exit 0,[11])] JX e0 3 [2]) (λk (a:List au)=>([.own 2 0 0 a.length,.int .i64 (k:Int)],[vA,vN q,.row 0 1 (a.map AV.str)])) es (λa e=>a++[e.name]) (λa=>(.exit 0,[.own 2 0 0 a.length],[vA,vN q,.row 0 1 (a.map AV.str)])) (λk a=>a.length<=k)
  (λk hk a ha=>by
   obtain⟨x,hx⟩:∃x,x=es[k]:=⟨_,rfl⟩;rw[<-hx];refine⟨aj,?_⟩
   simp(disch:=omega)[round_eq,Ks,h9,<-hx])
  (λa ha=>by simp(disch:=omega)[round_eq,Ks,h9]) [] ah
 have hf:∀(es:List Tr.Ent)(a:List au),es.foldl (λa e=>a++[e.name]) a=a++es.map Tr.Ent.name:=by
  intro es
  induction es with
  |nil=>intro a;simp
  |cons e es ih=>intro a;rw[aT,ih];simp
 rw[hf,bB]at this
 simpa using this
def aob{n:Nat}(hn:203<n)(t:Tr.Tree)(w:Dd t)(o:Opr)(hp:o.path.length<=1000):∃a:An,(jJ.jG n).p 170 [Tv t,Ov o]=some (Av a):=by
 have hb:=rz w.bg aa
 have og:=Sn (n:=203) af t hb o.path aa
 generalize(o8 t o.path).1=x at *
 generalize(o8 t o.path).2=e at *
 have vz:=T.wN (n:=203) af t hb x
 let⟨b,hv,hz⟩:=T.sX t x;rw[hv]at vz
 have hq:(kI t x).jF.length<=1000/\(kI t x).data.length<=4096:=by
  rcases hz with h | h
  .rw[h];simp[mq]
  .refine⟨hb.jF _ h,?_⟩;have hf:=mJ w.wf.oe h
   rcases w.wf.kind _ _ hf with hk | hk
   .exact(w.wf.file _ _ hf hk).2.2.1
   .rw[(w.wf.dir _ _ hf hk).1];simp
 generalize kI t x=q at *
 let⟨f,es,nx,e2,aeF,lJ⟩:=anV (n:=203) af t w x o.n o.m
 have h1:=adR (Γ:=jJ.jG 203) es lJ f q;simp only[Tv,Nd,vA,vN]at og vz aeF h1
 by_cases c1:e=0
 .by_cases c2 : o.kind = 1
  .refine⟨⟨0,x,q.kind,0,0,true,[]⟩,?_⟩;rw[pp 170 rfl hn rfl,jA,jy];simp(disch:=omega)[Pb,ca 109,og,c1,ca 110,vz,c2]
  .by_cases c3 : o.kind = 7
   .refine⟨⟨0,x,q.kind,q.links,max (q.data.length:Int) (q.jF.length:Int),true,[]⟩,?_⟩;rw[pp 170 rfl hn rfl,jA,jy]
    rcases jt (q.data.length:Int) (q.jF.length:Int)with h | h
    .rw[iO h];simp(disch:=omega)[Pb,ca 109,og,c1,ca 110,vz,c3]
    .rw[iY h];simp(disch:=omega)[Pb,ca 109,og,c1,ca 110,vz,c3]
   .by_cases c4 : e2 = 0
    .refine⟨⟨0,0,0,nx,0,false,es.map Tr.Ent.name⟩,?_⟩;rw[pp 170 rfl hn rfl,jA,jy];simp(disch:=omega)[Pb,ca 109,og,c1,ca 110,vz,c2,c3,ca 237,aeF,c4];rw[h1 _ aq]
     simp(disch:=omega)
    .refine⟨⟨e2,0,0,0,0,true,[]⟩,?_⟩;rw[pp 170 rfl hn rfl,jA,jy];simp(disch:=omega)[Pb,ca 109,og,c1,ca 110,vz,c2,c3,ca 237,aeF,c4]
 .refine⟨⟨e,0,0,0,0,true,[]⟩,?_⟩;rw[pp 170 rfl hn rfl,jA,jy];simp(disch:=omega)[Pb,ca 109,og,c1]
def BB(u:Tr.Tree)(n:Tr.Node):Tr.Tree:=if n.kind=1/\n.links=0 then(free u n.ino).1 else u
def sY(t:Tr.Tree):Tr.Tree:=t.nodes.foldl BB t
def GJ{u:Tr.Tree}(w:Dd u)(n:Tr.Node):Dd (BB u n):=by
 unfold BB;split
 .exact w.free _
 .exact w
def Ua{t:Tr.Tree}(w:Dd t):Dd (sY t):=by
 unfold sY
 have:∀(l:List Tr.Node)(u:Tr.Tree),Dd u->Dd (l.foldl BB u):=by
  intro l
  induction l with
  |nil=>intro u h;exact h
  |cons n l ih=>intro u h;exact ih _ (GJ h n)
 exact this _ _ w
abbrev vT(t:Tr.Tree):AB:=.var [.jB t.fn (t.nodes.map Nd),.int .i64 t.next,.int .i64 t.jC]
abbrev vT0:AB:=.var [.jB true [],.int .i64 0,.int .i64 0]
def adP{n:Nat}(hn:212<n)(t:Tr.Tree)(w:Dd t)(e0:Env)(h1:e0 1 = .kE [.jB t.fn (t.nodes.map Nd),.int .i64 t.next,.int .i64 t.jC])(h3:e0 3 = .ptr 1 0 0 0):
  iter (round (jJ.jG n) [4] [(.exit 0,[])] JN e0 2 []) ([.int .i64 0],[vT0,vT t])=some (.exit 0,[],[vT0,vT (sY t)]):=by
 have := jU (f := round (jJ.jG n) [4] [(.exit 0, [])] JN e0 2 []) (λk (u : Tr.Tree) => ([.int .i64 (k : Int)], [vT0, vT u])) t.nodes BB (λu => (.exit 0, [], [vT0, vT u])) (λ_ u => Dd u)
  (λk hk u hu=>by
   have hl:=w.wf.len;obtain⟨x,hx⟩:∃x,x=t.nodes[k]:=⟨_,rfl⟩;rw[<-hx];refine⟨GJ hu x,?_⟩;have ak4:=T.anR (n:=n) hn u (rz hu.bg aa) x.ino
   unfold BB;simp only[Tv]at ak4
   by_cases c1:x.kind=1
   .by_cases c2 : x.links = 0
    .rw[if_pos ⟨c1,c2⟩];simp(disch:=omega)[round_eq,BS,h1,h3,<-hx,c1,c2,ca 275,ak4]
    .rw[if_neg (λh=>c2 h.2)]
     simp(disch:=omega)[round_eq,BS,h1,<-hx,c1,c2]
   .rw[if_neg (λh=>c1 h.1)]
    simp(disch:=omega)[round_eq,BS,h1,<-hx,c1])
  (λu _=>by simp(disch:=omega)[round_eq,BS,h1]) t w
 unfold sY
 simpa using this
def anU{n:Nat}(hn:213<n)(t:Tr.Tree)(w:Dd t):(jJ.jG n).p 241 [Tv t]=some (Tv (sY t)):=by
 rw[pp 241 rfl hn rfl,jA,jy];have h:=adP (n:=213) af t w
 simp only[vT,vT0]at h;simp[al5];rw[h _ rfl rfl];simp
def an9{n:Nat}(hn:214<n)(t u:Tr.Tree)(w:Dd u)(e:Int)(a:An):(jJ.jG n).p 173 [Tv t,Tv u,I e,Av a]=some (.kT [Tv (if e=0 then sY u else t),Av (if e=0 then a else⟨e,0,0,0,0,true,[]⟩)]):=by
 rw[pp 173 rfl hn rfl,jA,jy];have h:=anU (n:=214) af u w
 simp only[Tv]at h
 by_cases c:e=0
 .simp[afO,c,h]
 .simp[afO,c]
end Go.Proofs.YtaepagegdgdlhaaGreatDoor.R
