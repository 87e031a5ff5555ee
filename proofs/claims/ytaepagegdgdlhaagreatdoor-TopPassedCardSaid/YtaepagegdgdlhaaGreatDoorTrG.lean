/- Part of the proof that TopPassedCard holds. -/
import Derived.Test.YtaepagegdgdlhaaGreatDoorTrC
set_option linter.all false
namespace Go.Tr
variable{ok:au->Bool}{lt:au->au->Bool}{t:Tree}{M:Int->Nat}
variable{i:Int}
def CP.gone(w:CP ok lt t M){p:Node}(hp:find t.nodes i=some p)(he:p.jF=[])(h1:i≠1)(hc0:cnt t.nodes i=0)(M':Int->Nat)(hM:∀j,j≠i->M' j=M j):CP ok lt (oC t i) M':=by
 have hf:∀j,find (oC t i).nodes j=if j=i then none else find t.nodes j:=λj=>Ae w.oe i j
 have hz:∀j,cN p j=0:=λj=>by unfold cN;rw[he];rfl
 have hcm:∀j,cnt (oC t i).nodes j=cnt t.nodes j:=λj=>by
  have:=Cx j i w.oe;rw[hp]at this;simp only[cO,bw,hz]at this;exact this
 have nc:∀j m,find (oC t i).nodes j=some m->j≠i/\find t.nodes j=some m:=λj m hj=>by
  rw[hf]at hj;split at hj
  .cases hj
  .rename_i h;exact⟨h,hj⟩
 have lJ:∀j m,find t.nodes j=some m->ur ok lt t m.jF->ur ok lt (oC t i) m.jF:=λj m hj h =>
  ⟨h.nm,h.ck,λe he=>by
   rw[hf,if_neg]
   .exact h.to e he
   .intro hei;have:=Ap.2 ⟨m,(jY hj).1,uj.2 ⟨e,he,hei⟩⟩;omega,h.oe,h.dis,h.len⟩
 refine⟨EP w.oe _,λj m hj=>w.pos _ _ (nc j m hj).2,w.nxt,w.ck1,w.ck2,cQ (cr ..) w.len,?_,by rw[hcm];exact w.JF,λj m hj hk=>?_,λj m hj hk=>?_,λj m hj hk j1=>?_,λj m hj hk j1 Jn=>?_,λj m hj=>w.kind _ _ (nc j m hj).2⟩
 .let⟨r,r1,r2⟩:=w.root;exact⟨r,by rw[hf,if_neg (λh=>h1 h.symm)];exact r1,r2⟩
 .let⟨hji,hj⟩:=nc j m hj;let⟨g1,g2,g3,g4⟩:=w.file _ _ hj hk;exact⟨g1,g2,g3,by rw[hcm,hM j hji];exact g4⟩
 .let⟨hji,hj⟩:=nc j m hj;let⟨g1,g2⟩:=w.dir _ _ hj hk;exact⟨g1,lJ j m hj g2⟩
 .let⟨hji,hj⟩:=nc j m hj;rw[hcm,hM j hji];exact w.KP _ _ hj hk j1
 .let⟨hji,hj⟩:=nc j m hj;rw[hM j hji]at Jn;let⟨q,q1,q2⟩:=w.par _ _ hj hk j1 Jn;refine⟨q,?_,q2⟩;rw[hf,if_neg]
  .exact q1
  .intro h;rw[h,hp]at q1;cases q1;rw[hz]at q2;omega
def uK(t:Tree)(kind up:Int):Node:=⟨t.next,kind,1,true,[],true,[],up⟩
def pP(t:Tree)(kind up:Int):Tree:=kG ⟨t.fn,t.nodes,t.next+1,t.jC⟩ (uK t kind up)
def HE(w:CP ok lt t M):find t.nodes t.next=none:=by
 cases h:find t.nodes t.next with
 |none=>rfl
 |some n=>have:=(w.pos _ _ h).2;omega
def XC(w:CP ok lt t M):cnt t.nodes t.next=0:=by
 rcases cM (cnt t.nodes t.next)with h | h
 .exact h
 .have:=Vu w h;rw[HE w]at this;cases this
def HF(w:CP ok lt t M)(kind up:Int)(j:Int):find (pP t kind up).nodes j=if j=t.next then some (uK t kind up)else find t.nodes j:=MG w.oe j
def CP.more(w:CP ok lt t M)(kind up:Int)(hk:kind=1/\up=0\/kind=2)(hM:M t.next=0)(hlen:t.nodes.length<200)(YF:t.next<1099511627776):CP ok lt (pP t kind up) (inc M t.next):=by
 have hf:=HF w kind up;have hn0:=HE w;have hc0:=XC w;have hz:∀j,cN (uK t kind up) j=0:=λj=>rfl
 have hcm:∀j,cnt (pP t kind up).nodes j=cnt t.nodes j:=λj=>by
  have:=JE (n:=uK t kind up) j w.oe;have e:find t.nodes (uK t kind up).ino=none:=hn0;rw[e,hz]at this;unfold pP kG
  simpa[cO]using this
 have nc:∀j m,find (pP t kind up).nodes j=some m->(j=t.next/\m=uK t kind up)\/(j≠t.next/\find t.nodes j=some m):=λj m hj=>by
  rw[hf]at hj;split at hj
  .rename_i h;cases hj;exact .inl ⟨h,rfl⟩
  .rename_i h;exact .inr ⟨h,hj⟩
 have hsome:∀j,(find t.nodes j).isSome=true->(find (pP t kind up).nodes j).isSome=true:=λj h=>by
  rw[hf];split
  .rfl
  .exact h
 have hi:∀j,j≠t.next->inc M t.next j=M j:=λj h=>by unfold inc;rw[if_neg h];rfl
 have hx:(pP t kind up).next=t.next+1:=rfl;let⟨r,r1,r2⟩:=w.root;have hr:=w.pos _ _ r1;refine⟨xX w.oe,λj m hj=>?_,by rw[hx];omega,w.ck1,w.ck2,?_,⟨r,?_,r2⟩,by rw[hcm];exact w.JF,λj m hj hk=>?_,λj m hj hk=>?_,λj m hj hk j1=>?_,λj m hj hk j1 Jn=>?_,λj m hj=>?_⟩
 .rw[hx]
  rcases nc j m hj with⟨rfl,_⟩ | ⟨_,hj⟩
  .omega
  .have:=w.pos _ _ hj;omega
 .have:=Qi (n:=uK t kind up) w.oe;have e:find t.nodes (uK t kind up).ino=none:=hn0;rw[e]at this;have h2:(pP t kind up).nodes.length=t.nodes.length+1:=by unfold pP kG;simpa using this
  omega
 .rw[hf,if_neg aa];exact r1
 .rw[hcm]
  rcases nc j m hj with⟨rfl,rfl⟩ | ⟨hji,hj⟩
  .refine⟨rfl,?_,by simp[uK],?_⟩
   .rcases ‹kind=1/\up=0\/kind=2› with h | h
    .exact h.2
    .have:kind=1:=hk;omega
   .unfold inc;rw[hc0,hM,if_pos rfl];rfl
  .rw[hi j hji];exact w.file _ _ hj hk
 .rcases nc j m hj with⟨rfl,rfl⟩ | ⟨hji,hj⟩
  .exact⟨rfl,⟨by simp[uK],by simp[uK],by simp[uK],by simp[uK,KH],by simp[uK],by simp[uK]⟩⟩
  .let⟨g1,g2⟩:=w.dir _ _ hj hk;exact⟨g1,g2.mono (fG _) hsome⟩
 .rw[hcm]
  rcases nc j m hj with⟨rfl,rfl⟩ | ⟨hji,hj⟩
  .unfold inc;rw[hc0,hM,if_pos rfl];exact⟨rfl,rfl⟩
  .rw[hi j hji];exact w.KP _ _ hj hk j1
 .rcases nc j m hj with⟨rfl,rfl⟩ | ⟨hji,hj⟩
  .unfold inc at Jn;rw[if_pos rfl]at Jn;omega
  .rw[hi j hji]at Jn;let⟨q,q1,q2⟩:=w.par _ _ hj hk j1 Jn;refine⟨q,?_,q2⟩;rw[hf,if_neg]
   .exact q1
   .intro h;rw[h,hn0]at q1;cases q1
 .rcases nc j m hj with⟨rfl,rfl⟩ | ⟨hji,hj⟩
  .exact hk.imp (λh=>h.1) id
  .exact w.kind _ _ hj
inductive wj(t:Tree):Int->Nat->Prop
 |root:wj t 1 0
 |up {i:Int} {n:Node} {d:Nat} (h:find t.nodes i=some n) (hk:n.kind=2) (h1:i≠1) (hd:wj t n.up d):wj t i (d+1)
def wj.inj{i:Int}{d d':Nat}(h:wj t i d):wj t i d'->d=d':=by
 induction h generalizing d' with
 |root =>
  intro h';cases h' with
  |root=>rfl
  |up _ _ h1 _=>exact absurd rfl h1
 |up h hk h1 hd ih =>
  intro h';cases h' with
  |root=>exact absurd rfl h1
  |up g gk g1 gd =>
   rw[h]at g;cases g;rw[ih gd]
def wj.keep{t':Tree}{P:Int->Prop}(hP:∀j n,P j->find t.nodes j=some n->n.kind=2->j≠1->P n.up/\∃n',find t'.nodes j=some n'/\n'.kind=2/\n'.up=n.up){d:Nat}(h:wj t i d):P i->wj t' i d:=by
 induction h with
 |root=>intro _;exact .root
 |up h hk h1 hd ih =>
  intro hp;let⟨g1,n',g2,g3,g4⟩:=hP _ _ hp h hk h1;exact .up g2 g3 h1 (by rw[g4];exact ih g1)
def u6{n:Node}(h:find t.nodes i=some n):GM t i=n.up:=by unfold GM;rw[h];rfl
def aaE{d:Nat}(h:wj t i d):∀k,d<k->xz t k i=d:=by
 induction h with
 |root =>
  intro k hk;obtain⟨k,rfl⟩:∃j,k=j+1:=⟨k-1,aa⟩
  simp[xz]
 |up h hk h1 hd ih =>
  intro k hkk;obtain⟨k,rfl⟩:∃j,k=j+1:=⟨k-1,aa⟩
  simp only[xz];rw[if_neg h1,u6 h,ih k aa]
def oz{d:Nat}(h:wj t i d)(hd:d<=200):depth t i=d:=aaE h 201 aa
structure WF(ok:au->Bool)(lt:au->au->Bool)(t:Tree):Prop where
 wf:CP ok lt t λ_=>0
 dep:∀i n,find t.nodes i=some n->n.kind=2->∃d,wj t i d/\d<=12/\(d=12->n.jF=[])
def Al{t':Tree}(w:WF ok lt t)(P:Int->Prop)
  (hP:∀j n,P j->find t.nodes j=some n->n.kind=2->j≠1->P n.up/\∃n',find t'.nodes j=some n'/\n'.kind=2/\n'.up=n.up)
  (hb:∀j n',find t'.nodes j=some n'->n'.kind=2->P j/\∃n,find t.nodes j=some n/\n.kind=2/\(n.jF=[]->n'.jF=[]\/depth t j<12)) :
  ∀i n,find t'.nodes i=some n->n.kind=2->∃d,wj t' i d/\d<=12/\(d=12->n.jF=[]):=by
 intro i n' hi hk;let⟨hp,n,g1,g2,g3⟩:=hb i n' hi hk;let⟨d,d1,d2,d3⟩:=w.dep i n g1 g2;refine⟨d,d1.keep hP hp,d2,λh12=>?_⟩
 rcases g3 (d3 h12)with h | h
 .exact h
 .rw[oz d1 aa]at h
  omega
def JA(h:oN t i=0):∃p,find t.nodes i=some p/\p.kind=2/\mK t i=p:=by
 unfold oN at h;cases hf:find t.nodes i with
 |none=>rw[hf]at h;simp at h
 |some p =>
  rw[hf]at h;simp only at h;split at h
  .rename_i hk;refine⟨p,rfl,hk,?_⟩;unfold mK;rw[hf];simp only;rw[if_pos hk]
  .omega
def Aj{s:au}(h:enter ok t i s=0):∃p,find t.nodes i=some p/\p.kind=2/\ok s=true/\(∀e∈p.jF,e.name≠s)/\p.jF.length<64/\depth t i<12/\t.jC<1099511627776:=by
 unfold enter at h;split at h
 .rename_i h0;exact absurd h h0
 .rename_i h0;let⟨p,h1,h2,h3⟩:=JA (cL.1 h0);rw[h3]at h;split at h
  .omega
  .rename_i hok;split at h
   .omega
   .rename_i hno;split at h
    .omega
    .rename_i hfull;refine⟨p,h1,h2,an hok,?_,?_⟩
     .have:mU p s=none:=by
       cases hq:mU p s with
       |none=>rfl
       |some e=>rw[hq]at hno;simp at hno
      exact EW.1 this
     .unfold full at hfull;rw[kN h1]at hfull;simp only[bS,decide_eq_true_eq]at hfull;omega
variable{ok:au->Bool}{lt:au->au->Bool}{t:Tree}{M:Int->Nat}
def xq(w:ym t.nodes){i:Int}{n:Node}(hni:n.ino=i)(j:Int):find (kG t n).nodes j=if j=i then some n else find t.nodes j:=by
 rw[vG w,hni]
def r7(w:ym t.nodes){i:Int}{p:Node}(hp:find t.nodes i=some p)(s:au)(of:Int)(j:Int):
  find (kJ lt t i s of).nodes j=if j=i then some {p with fe:=false,jF:=wm lt ⟨s,of,t.jC⟩ p.jF}else find t.nodes j:=by
 unfold kJ;rw[mh hp];have hpi:=kN hp;exact xq (t:=⟨t.fn,t.nodes,t.next,t.jC+1⟩) w (n:={p with fe:=false,jF:=wm lt ⟨s,of,t.jC⟩ p.jF}) hpi j
def BD(w:ym t.nodes){i:Int}{p:Node}(hp:find t.nodes i=some p)(s:au)(j:Int):
  find (left t i s).nodes j=if j=i then some {p with fe:=false,jF:=tg s p.jF}else find t.nodes j:=by
 unfold left;rw[mh hp];have hpi:=kN hp;exact xq w (n:={p with fe:=false,jF:=tg s p.jF}) hpi j
def wF(i:Int):dec (inc (λ_=>0) i) i=λ_=>0:=QO _ i
def WF.new:WF ok lt AY:=by
 have hf:∀i,find AY.nodes i=if (1:Int)=i then some ⟨1,2,0,true,[],true,[],1⟩else none:=λi=>by
  show find [_] i=_;rw[BE];rfl
 have nc:∀i n,find AY.nodes i=some n->i=1/\n=⟨1,2,0,true,[],true,[],1⟩:=λi n h=>by
  rw[hf]at h;split at h
  .rename_i h1;cases h;exact⟨h1.symm,rfl⟩
  .cases h
 refine⟨⟨by simp[AY,ym],λi n h=>?_,af,af,af,af,⟨_,by rw[hf,if_pos rfl],rfl,rfl,rfl⟩,af,λi n h hk=>?_,λi n h hk=>?_,λi n h hk h1=>?_,λi n h hk h1=>?_,λi n h=>?_⟩,λi n h hk=>?_⟩
 .obtain⟨rfl,rfl⟩:=nc i n h;decide
 .obtain⟨rfl,rfl⟩:=nc i n h;cases hk
 .obtain⟨rfl,rfl⟩:=nc i n h;exact⟨rfl,⟨ah,ah,ah,by simp[KH],ah,ah⟩⟩
 .exact absurd (nc i n h).1 h1
 .exact absurd (nc i n h).1 h1
 .obtain⟨rfl,rfl⟩:=nc i n h;exact .inr rfl
 .obtain⟨rfl,rfl⟩:=nc i n h;exact⟨0,.root,aa,aa⟩
def WF.add(o:Ord lt)(w:WF ok lt t)(i:Int)(s:au)(kind:Int):WF ok lt (add ok lt t i s kind).1:=by
 unfold Tr.add;split
 .exact w
 .rename_i hk;split
  .exact w
  .rename_i he;let⟨p,p1,p2,p3,p4,p5,p6,p7⟩:=Aj (cL.1 he);split
   .exact w
   .rename_i hb;have hk':kind=1\/kind=2:=by omega
    have hkk:kind=1/\(if kind=2 then i else 0)=0\/kind=2:=by
     rcases hk' with h | h
     .exact .inl ⟨h,by rw[if_neg aa]⟩
     .exact .inr h
    have w1:=w.wf.more kind (if kind=2 then i else 0) hkk rfl aa aa
    have Cj:=HF w.wf kind (if kind=2 then i else 0)
    have hi:=w.wf.pos _ _ p1;have p1':find (pP t kind (if kind=2 then i else 0)).nodes i=some p:=by rw[Cj,if_neg aa];exact p1
    have hnew:find (pP t kind (if kind=2 then i else 0)).nodes t.next=some (uK t kind (if kind=2 then i else 0)):=by rw[Cj,if_pos rfl]
    have w2:=w1.kJ o p1' p2 p3 p4 p5 p7 hnew (by unfold inc;rw[if_pos rfl];omega) (by let⟨r,r1,_⟩:=w.wf.root;have:=w.wf.pos _ _ r1;omega) (λh=>by
     have:kind=2:=h;show (if kind=2 then i else 0)=i
     rw[if_pos this])
    rw[wF]at w2;have Jg:=r7 (lt:=lt) w1.oe p1' s t.next;have Mh:∀j n,find t.nodes j=some n->j≠t.next:=λj n h=>by have:=w.wf.pos _ _ h;omega
    let⟨d,d1,d2,d3⟩:=w.dep i p p1 p2;have Br:d<12:=by rw[oz d1 aa]at p6;exact p6
    have hold:∀j n,find t.nodes j=some n->∃n',find (kJ lt (pP t kind (if kind=2 then i else 0)) i s t.next).nodes j=some n'/\n'.kind=n.kind/\n'.up=n.up/\(j≠i->n'.jF=n.jF):=λj n h=>by
     rw[Jg]
     by_cases hji:j=i
     .subst hji;rw[p1]at h;cases h;exact⟨_,if_pos rfl,rfl,rfl,λh=>absurd rfl h⟩
     .rw[if_neg hji,Cj,if_neg (Mh j n h)];exact⟨n,h,rfl,rfl,λ_=>rfl⟩
    have keep:∀j d,wj t j d->wj (kJ lt (pP t kind (if kind=2 then i else 0)) i s t.next) j d:=λj d h=>h.keep (P:=λ_=>True) (λj n _ h hk _=>by
     let⟨n',g1,g2,g3,_⟩:=hold j n h;exact⟨trivial,n',g1,by rw[g2];exact hk,g3⟩) trivial
    show WF ok lt (kJ lt (pP t kind (if kind=2 then i else 0)) i s t.next)
    refine⟨w2,λj n' hj hk2=>?_⟩
    have hj0:=hj;rw[Jg]at hj;split at hj
    .rename_i hji;subst hji;cases hj;exact⟨d,keep _ _ d1,aa,λh=>aa⟩
    .rename_i hji;rw[Cj]at hj;split at hj
     .rename_i hjn;cases hj;have apT:kind=2:=hk2;refine⟨d+1,.up hj0 hk2 (by let⟨r,r1,_⟩:=w.wf.root;have:=w.wf.pos _ _ r1;omega) ?_,aa,λ_=>rfl⟩
      have F9:(uK t kind (if kind=2 then i else 0)).up=i:=by show (if kind=2 then i else 0)=i;rw[if_pos apT]
      rw[F9];exact keep _ _ d1
     .let⟨e,e1,e2,e3⟩:=w.dep j n' hj hk2;exact⟨e,keep _ _ e1,e2,e3⟩
def WF.ln (o:Ord lt) (w:WF ok lt t) (i to:Int) (s:au):WF ok lt (ln ok lt t i to s).1:=by
 unfold Tr.ln;split
 .exact w
 .rename_i n hn;split
  .exact w
  .rename_i c1;split
   .exact w
   .rename_i c2;split
    .exact w
    .rename_i he;let⟨p,p1,p2,p3,p4,p5,p6,p7⟩:=Aj (cL.1 he);have hni:=kN hn;have hk:n.kind=1:=(w.wf.kind _ _ hn).resolve_right c2;let⟨f1,f2,f3,f4⟩:=w.wf.file _ _ hn hk;have w1:=w.wf.set (n:={n with links:=n.links+1}) hn hni rfl rfl (inc (λ_=>0) i) (λj hj=>by unfold inc;rw[if_neg hj]) (λ_=>⟨f2,f3,by simp only[f4,inc];simp⟩) (λh=>absurd h c2)
     have Cj:=λj=>xq w.wf.oe (n:={n with links:=n.links+1}) hni j
     have hit:to≠i:=λh=>by subst h;rw[hn]at p1;cases p1;omega
     have p1':find (kG t {n with links:=n.links+1}).nodes to=some p:=by rw[Cj,if_neg hit];exact p1
     have hi1:i≠1:=λh=>by
      subst h;let⟨r,r1,r2,_⟩:=w.wf.root;rw[hn]at r1;cases r1;omega
     have w2:=w1.kJ o p1' p2 p3 p4 p5 p7 (of:=i) (m:={n with links:=n.links+1}) (by rw[Cj,if_pos rfl]) (by unfold inc;rw[if_pos rfl];omega) hi1 (λh=>absurd h c2)
     rw[wF]at w2;have Jg:=r7 (lt:=lt) w1.oe p1' s i;refine⟨w2,Al w (λ_=>True) (λj q _ hj Wn _=>⟨trivial,?_⟩) (λj q' hj Wn=>⟨trivial,?_⟩)⟩
     .rw[Jg]
      by_cases yA:j=to
      .subst yA;rw[p1]at hj;cases hj;exact⟨_,if_pos rfl,Wn,rfl⟩
      .rw[if_neg yA,Cj]
       by_cases hji:j=i
       .subst hji;rw[hn]at hj;cases hj;exact absurd Wn c2
       .rw[if_neg hji];exact⟨q,hj,Wn,rfl⟩
     .rw[Jg]at hj;split at hj
      .rename_i yA;subst yA;exact⟨p,p1,p2,λ_=>.inr p6⟩
      .rw[Cj]at hj;split at hj
       .cases hj;exact absurd Wn c2
       .exact⟨q',hj,Wn,λh=>.inl h⟩
def QF(w:ym t.nodes)(i j:Int):find (oC t i).nodes j=if j=i then none else find t.nodes j:=Ae w i j
def WF.free(w:WF ok lt t)(i:Int):WF ok lt (free t i).1:=by
 unfold Tr.free;split
 .exact w
 .rename_i n hn;split
  .exact w
  .rename_i c2;split
   .exact w
   .rename_i c3;have hk:n.kind=1:=(w.wf.kind _ _ hn).resolve_right c2;let⟨f1,f2,f3,f4⟩:=w.wf.file _ _ hn hk
    have hi1:i≠1:=λh=>by
     subst h;let⟨r,r1,r2,_⟩:=w.wf.root;rw[hn]at r1;cases r1;omega
    have w1:=w.wf.gone hn f1 hi1 aa (λ_=>0) (λ_ _=>rfl)
    have Cj:=QF w.wf.oe i;refine⟨w1,Al w (λ_=>True) (λj q _ hj Wn _=>⟨trivial,?_⟩) (λj q' hj Wn=>⟨trivial,?_⟩)⟩
    .rw[Cj,if_neg (λh=>by subst h;rw[hn]at hj;cases hj;exact c2 Wn)]
     exact⟨q,hj,Wn,rfl⟩
    .rw[Cj]at hj;split at hj
     .cases hj
     .exact⟨q',hj,Wn,λh=>.inl h⟩
variable{ok:au->Bool}{lt:au->au->Bool}{t:Tree}{M:Int->Nat}
variable{i y x o:Int}
def CP.unnamed(w:CP ok lt t M){q:Node}(hq:find t.nodes y=some q)(he:q.jF=[])(hM:1<=M y)(h1:y≠1):CP ok lt (unnamed t y) (dec M y):=by
 unfold Tr.unnamed;rw[mh hq];have hd:∀j,j≠y->dec M y j=M j:=λj hj=>by unfold dec;rw[if_neg hj];rfl
 split
 .rename_i hk;have:=(w.KP _ _ hq hk h1).1;exact w.gone hq he h1 aa _ hd
 .rename_i hk;have ND:=(w.kind _ _ hq).resolve_right hk;let⟨f1,f2,f3,f4⟩:=w.file _ _ hq ND;have hqi:=kN hq;exact w.set (n:={q with links:=q.links-1}) hq hqi rfl rfl _ hd (λ_=>⟨f2,f3,by simp only[f4,dec,if_true];omega⟩) (λh=>absurd h hk)
def Af(w:ym t.nodes){q:Node}(hq:find t.nodes y=some q)(j:Int):find (unnamed t y).nodes j=if j=y then(if q.kind=2 then none else some {q with links:=q.links-1})else find t.nodes j:=by
 unfold unnamed;rw[mh hq];split
 .rw[QF w]
 .have hqi:=kN hq;rw[xq w (n:={q with links:=q.links-1}) hqi]
def Qb{s:au}(h:look ok t i s=(x,0)):∃p e,find t.nodes i=some p/\p.kind=2/\ok s=true/\mU p s=some e/\e.ino=x:=by
 unfold look at h;split at h
 .rename_i h0;have:=congrArg Prod.snd h;exact absurd this h0
 .rename_i h0;let⟨p,h1,h2,h3⟩:=JA (cL.1 h0);rw[h3]at h;split at h
  .have:=congrArg Prod.snd h;simp at this
  .rename_i hok;cases he:mU p s with
   |none=>rw[he]at h;have:=congrArg Prod.snd h;simp at this
   |some e =>
    rw[he]at h;exact⟨p,e,h1,h2,an hok,he,congrArg Prod.fst h⟩
def abl(w:WF ok lt t){z:Node}(hz:find t.nodes x=some z)(he:z.jF=[]){j:Int}{n:Node}(hj:find t.nodes j=some n)(hk:n.kind=2)(h1:j≠1):n.up≠x:=by
 intro h;let⟨p,p1,p2⟩:=w.wf.par _ _ hj hk h1 rfl;rw[h,hz]at p1;cases p1;unfold cN at p2;rw[he]at p2;simp at p2
def tf(w:WF ok lt t){p:Node}(hp:find t.nodes i=some p){e:Ent}(he:e∈p.jF):(∃n,find t.nodes e.ino=some n)/\e.ino≠1/\e.ino≠i:=by
 have hk:=zY w.wf hp he;have h1:=(w.wf.dir _ _ hp hk).2.to e he;have hc:0<cN p e.ino:=uj.2 ⟨e,he,rfl⟩;have S8:=HU (jY hp).1 e.ino;have hne:e.ino≠1:=λh=>by rw[h]at hc S8;have:=w.wf.JF;omega
 refine⟨dA.1 h1,hne,λh=>?_⟩
 rw[h]at hc hne;have hone:=(w.wf.KP _ _ hp hk hne).1;let⟨q,q1,q2⟩:=w.wf.par _ _ hp hk hne rfl;have:=QV w.wf.oe (an hone) (jY hp).1 (jY q1).1 hc aa
 subst this;have F9:p.up=i:=(kN q1).symm.trans (kN hp);let⟨d,d1,_⟩:=w.dep _ _ hp hk;cases d1 with
 |root=>exact hne rfl
 |up g gk g1 gd =>
  rw[hp]at g;cases g;rw[F9]at gd;have:=wj.inj gd (.up hp hk hne (by rw[F9];exact gd))
  omega
def WF.un(o:Ord lt)(w:WF ok lt t)(i:Int)(s:au):WF ok lt (un ok t i s).1:=by
 unfold Tr.un;split
 .exact w
 .rename_i h0;obtain⟨p,e,p1,p2,p3,p4,p5⟩:=Qb (x:=(look ok t i s).1) (by rw[<-cL.1 h0])
  rw[<-p5];obtain⟨he,_⟩:=qL p4;obtain⟨⟨z,hz⟩,hx1,hxi⟩:=tf w p1 he;split
  .exact w
  .rename_i hl;rw[mh hz]at hl;have hze:z.jF=[]:=aY aa
   have w1:=w.wf.left o p1 p2 p4;have Cj:=λj=>BD w.wf.oe p1 s j
   have hz1:find (left t i s).nodes e.ino=some z:=by rw[Cj,if_neg hxi];exact hz
   have w2:=w1.unnamed hz1 hze (by unfold inc;rw[if_pos rfl];omega) hx1
   rw[wF]at w2;have Jg:=λj=>Af w1.oe hz1 j
   refine⟨w2,Al w (λj=>j≠e.ino) (λj n hj h hk h1=>⟨abl w hz hze h hk h1,?_⟩) (λj n' hj hk=>?_)⟩
   .rw[Jg,if_neg hj,Cj]
    by_cases hji:j=i
    .subst hji;rw[p1]at h;cases h;exact⟨_,if_pos rfl,hk,rfl⟩
    .rw[if_neg hji];exact⟨n,h,hk,rfl⟩
   .rw[Jg]at hj;split at hj
    .split at hj
     .cases hj
     .rename_i hzk;cases hj;exact absurd hk hzk
    .rename_i hjx;refine⟨hjx,?_⟩;rw[Cj]at hj;split at hj
     .rename_i hji;subst hji;exact⟨p,p1,p2,λh=>by rw[h]at he;cases he⟩
     .exact⟨n',hj,hk,λh=>.inl h⟩
inductive RU(t:Tree)(i:Int):Int->Nat->Prop
 |here:RU t i i 0
 |up {j:Int} {n:Node} {e:Nat} (h:find t.nodes j=some n) (hk:n.kind=2) (h1:j≠1) (hr:RU t i n.up e):RU t i j (e+1)
def RU.dep{j:Int}{e d:Nat}(h:RU t i j e):wj t i d->wj t j (d+e):=by
 induction h with
 |here=>exact id
 |up h hk h1 hr ih=>exact λg=>.up h hk h1 (ih g)
def M3:∀ {a b:ay},a.Nodup->(∀x∈a,x∈b)->a.length<=b.length
 | [],_,_,_=>ah
 |x::a,b,h,hs=>by
  let⟨h1,h2⟩:=dg.1 h;have:=M3 (a:=a) (b:=b.erase x) h2 λy hy=>(ic (λ(e:y=x)=>h1 (e▸hy))).2 (hs y (by simp[hy]))
  have hx:=hs x ah
  rw[gE hx]at this;have:0<b.length:=fM hx;simp only[aQ];omega
def QM(w:WF ok lt t){d:Nat}(h:wj t i d):d<t.nodes.length:=by
 have:∃l:ay,l.Nodup/\l.length=d+1/\∀j∈l,j∈t.nodes.map Node.ino/\∃d',d'<=d/\wj t j d':=by
  induction h with
  |root =>
   let⟨r,r1,_⟩:=w.wf.root
   exact⟨[1],ah,rfl,λj hj=>by
    simp only[aM]at hj;subst hj;exact⟨bx.2 ⟨r,(jY r1).1,kN r1⟩,0,aN _,.root⟩⟩
  | @up i n d h hk h1 hd ih =>
   let⟨l,l1,l2,l3⟩:=ih;refine⟨i::l,dg.2 ⟨λhm=>?_,l1⟩,by simp[l2],λj hj=>?_⟩
   .let⟨_,d',e1,e2⟩:=l3 i hm;have:=e2.inj (.up h hk h1 hd);omega
   .rcases aP.1 hj with rfl | hj
    .exact⟨bx.2 ⟨n,(jY h).1,kN h⟩,d+1,aN _,.up h hk h1 hd⟩
    .let⟨g1,d',e1,e2⟩:=l3 j hj;exact⟨g1,d',aa,e2⟩
 let⟨l,l1,l2,l3⟩:=this;have:=M3 l1 λj hj=>(l3 j hj).1
 rw[cV]at this;omega
def agb{e:Nat}(h:RU t o i e):∀k,e<k->Fj t k i o=true:=by
 induction h with
 |here =>
  intro k hk;obtain⟨k,rfl⟩:∃j,k=j+1:=⟨k-1,aa⟩
  simp[Fj]
 | @up j n e h hk h1 hr ih =>
  intro k hkk;obtain⟨k,rfl⟩:∃j,k=j+1:=⟨k-1,aa⟩
  simp only[Fj];rw[u6 h,ih k aa]
  by_cases hjo:j=o
  .rw[if_pos hjo]
  .rw[if_neg hjo,if_neg h1]
def yb(w:WF ok lt t){d:Nat}(hd:wj t i d):below t i o=true↔∃e,RU t o i e:=by
 constructor
 .intro h;unfold below at h;generalize t.nodes.length+1=k at h
  induction hd generalizing k with
  |root =>
   cases k with
   |zero=>simp[Fj]at h
   |succ k =>
    simp only[Fj]at h;split at h
    .rename_i ho;subst ho;exact⟨0,.here⟩
    .simp at h
  |up g gk g1 gd ih =>
   cases k with
   |zero=>simp[Fj]at h
   |succ k =>
    simp only[Fj]at h;split at h
    .rename_i ho;subst ho;exact⟨0,.here⟩
    .rw[u6 g]at h;let⟨e,he⟩:=ih k h;exact⟨e+1,.up g gk g1 he⟩
 .rintro⟨e,he⟩
  refine agb he _ ?_;have hle:e<=d:=by
   clear w
   induction he generalizing d with
   |here=>omega
   |up g gk g1 gr ih =>
    cases hd with
    |root=>exact absurd rfl g1
    |up k kk k1 kd =>
     rw[g]at k;cases k;have:=ih kd;omega
  have:=QM w hd;omega
variable{ok:au->Bool}{lt:au->au->Bool}{t:Tree}{M:Int->Nat}
def O3{n:Node}{s a:au}(h:a≠s)(b:Bool):mU {n with fe:=b,jF:=tg s n.jF} a=mU n a:=by
 unfold mU tg;simp only;rw[List.find?_filter]
 congr 1
 funext e
 by_cases he:e.name=a
 .simp[he,h]
 .simp[he]
def XG{x:Node}{y:Int}{z:Node}(h:jD t x y=0)(hz:find t.nodes y=some z):(x.kind=2↔z.kind=2)/\z.jF=[]:=by
 unfold jD at h;rw[hz]at h;simp only at h;split at h
 .omega
 .rename_i c1;split at h
  .omega
  .rename_i c2;split at h
   .omega
   .rename_i c3;refine⟨⟨λhx=>?_,λhz=>?_⟩,aY aa⟩
    .exact cT λhn=>c1 ⟨hx,hn⟩
    .exact cT λhn=>c2 ⟨hn,hz⟩
def Qq{i at_:Int}:∀ {l:List Node} {m:Int},m<=l.foldl (λm n=>if n.kind=2/\below t n.ino i=true then max m (at_+depth t n.ino-depth t i+if 0<n.jF.length then 1 else 0)else m) m
 | [],m=>fG _
 |n::l,m=>by
  rw[aT];refine Int.le_trans ?_ (Qq (l:=l));split
  .omega
  .exact fG _
def Jd{i at_:Int}:∀ {l:List Node} {m:Int} {n:Node},n∈l->n.kind=2->below t n.ino i=true->
  at_+depth t n.ino-depth t i+(if 0<n.jF.length then 1 else 0)<=l.foldl (λm n=>if n.kind=2/\below t n.ino i=true then max m (at_+depth t n.ino-depth t i+if 0<n.jF.length then 1 else 0)else m) m
 |q::l,m,n,h,hk,hb=>by
  rw[aT]
  rcases aP.1 h with rfl | h
  .refine Int.le_trans ?_ (Qq (l:=l));rw[if_pos (show n.kind=2/\below t n.ino i=true from⟨hk,hb⟩)]
   omega
  .exact Jd h hk hb
def WF.mv (o:Ord lt) (w:WF ok lt t) (from_:Int) (s:au) (to:Int) (as:au):WF ok lt (mv ok lt t from_ s to as).1:=by
 unfold Tr.mv;split
 .exact w
 .rename_i h0;split
  .exact w
  .rename_i hE;split
   .exact w
   .rename_i h2;obtain⟨p,e,p1,p2,p3,p4,p5⟩:=Qb (x:=(look ok t from_ s).1) (by rw[<-cL.1 h0])
    obtain⟨q,q1,q2,q3⟩:=JA (cL.1 hE);have hok:ok as=true:=by simpa using h2
    rw[<-p5];obtain⟨he,lJ⟩:=qL p4;obtain⟨⟨x,hx⟩,hx1,hxf⟩:=tf w p1 he;simp only[mh hx];obtain⟨i,hi⟩:∃i,i=e.ino:=⟨_,rfl⟩;rw[<-hi]at hx hx1 hxf⊢;obtain⟨y,hy⟩:∃y,y=ot t to as:=⟨_,rfl⟩;rw[<-hy];split
    .exact w
    .rename_i hyi;split
     .exact w
     .rename_i akY;split
      .exact w
      .rename_i oZ;have oZ:=cL.1 oZ;split
       .exact w
       .rename_i aab;have Wp:x.ino=i:=kN hx
        have aaa:i≠to:=λh=>by
         subst h;rw[hx]at q1;cases q1;exact akY ⟨q2,by
          obtain⟨d,d1,_⟩:=w.dep _ _ hx q2;exact(yb w d1).2 ⟨0,.here⟩⟩
        -- the name is taken
        have w1:=w.wf.left o p1 p2 p4;rw[<-hi]at w1;have Cj:=λj=>BD w.wf.oe p1 s j
        have akh:find (left t from_ s).nodes i=some x:=by rw[Cj,if_neg hxf];exact hx
        obtain⟨qq,g1,g2,g3,g4⟩:∃qq,find (left t from_ s).nodes to=some qq/\qq.kind=2/\qq.up=q.up/\(to=from_->qq.jF=tg s q.jF)/\(to≠from_->qq=q):=by
         rw[Cj]
         by_cases KQ:to=from_
         .subst KQ;rw[p1]at q1;cases q1;exact⟨_,if_pos rfl,p2,rfl,λ_=>rfl,λh=>absurd rfl h⟩
         .exact⟨q,by rw[if_neg KQ];exact q1,q2,rfl,λh=>absurd h KQ,λ_=>rfl⟩
        have hqo:as≠s\/to≠from_->mU qq as=mU q as:=λh=>by
         by_cases KQ:to=from_
         .have has:as≠s:=h.resolve_right (λh=>h KQ)
          have:=O3 (n:=q) has false;unfold mU at this⊢;rw[g4.1 KQ];exact this
         .rw[g4.2 KQ]
        have hqs:to=from_->as=s->y=i:=λh1 h2=>by
         rw[hy,hi];unfold ot;subst h1;subst h2;rw[p1]at q1;cases q1;rw[q3,p4];rfl
        have hqa:as≠s\/to≠from_:=by
         by_cases KQ:to=from_
         .exact .inl λhas=>hyi (hqs KQ has)
         .exact .inr KQ
        have hqo:=hqo hqa
        have hql:qq.jF.length<=q.jF.length/\(to=from_->qq.jF.length+1=q.jF.length):=by
         by_cases KQ:to=from_
         .have hpq:q=p:=by subst KQ;rw[p1]at q1;cases q1;rfl
          subst hpq;have:=HM o (w.wf.dir _ _ p1 p2).2.oe p4;rw[g4.1 KQ];exact⟨aa,λ_=>this⟩
         .rw[g4.2 KQ];exact⟨aN _,λh=>absurd h KQ⟩
        -- what stood there is gone
        have main:∃u,(if y≠0 then unnamed (left (left t from_ s) to as) y else left t from_ s)=u/\CP ok lt u (inc (λ_=>0) i)/\u.jC=t.jC/\find u.nodes i=some x/\
          (∃r,find u.nodes to=some r/\r.kind=2/\r.up=q.up/\(∀e∈r.jF,e.name≠as)/\r.jF.length<64)/\
          (∀j n,find t.nodes j=some n->n.kind=2->j≠1->n.up≠y)/\
          (∀j n,j≠y->find t.nodes j=some n->n.kind=2->∃n',find u.nodes j=some n'/\n'.kind=2/\n'.up=n.up)/\
          (∀j n',find u.nodes j=some n'->n'.kind=2->j≠y/\∃n,find t.nodes j=some n/\n.kind=2/\n'.up=n.up/\(j=to\/(n.jF=[]->n'.jF=[]))):=by
         by_cases hy0:y=0
         .rw[if_neg (λh=>h hy0)]
          have hno:mU q as=none:=by
           cases hq:mU q as with
           |none=>rfl
           |some e2 =>
            exfalso;have:y=e2.ino:=by rw[hy];unfold ot;rw[q3,hq];rfl
            obtain⟨⟨n2,hn2⟩,_⟩:=tf w q1 (qL hq).1;have:=w.wf.pos _ _ hn2;omega
          refine⟨_,rfl,w1,rfl,akh,⟨qq,g1,g2,g3,?_,?_⟩,λj n hj hk h1 hn=>?_,λj n Wo hj hk=>?_,λj n' hj hk=>?_⟩
          .rw[hno]at hqo;exact EW.1 hqo
          .have WL:=(w.wf.dir _ _ q1 q2).2.len;rw[q3]at aab
           by_cases KQ:to=from_
           .have:=hql.2 KQ;omega
           .have:=hql.1;have:¬64<=q.jF.length:=λh=>aab (.inl ⟨hy0,KQ,h⟩)
            omega
          .obtain⟨r,r1,_⟩:=w.wf.par _ _ hj hk h1 rfl;have:=w.wf.pos _ _ r1;omega
          .rw[Cj]
           by_cases hjf:j=from_
           .subst hjf;rw[p1]at hj;cases hj;exact⟨_,if_pos rfl,hk,rfl⟩
           .rw[if_neg hjf];exact⟨n,hj,hk,rfl⟩
          .have hj0:j≠0:=λh=>by have:=w1.pos _ _ hj;omega
           refine⟨by rw[hy0];exact hj0,?_⟩
           rw[Cj]at hj;split at hj
           .rename_i hjf;subst hjf;cases hj;exact⟨p,p1,p2,rfl,.inr λh=>by rw[h]at he;cases he⟩
           .exact⟨n',hj,hk,rfl,.inr λh=>h⟩
         .rw[if_pos hy0];obtain⟨e2,NF⟩:∃e2,mU q as=some e2:=by
           cases hq:mU q as with
           |none=>exfalso;apply hy0;rw[hy];unfold ot;rw[q3,hq];rfl
           |some e2=>exact⟨e2,rfl⟩
          have hye:y=e2.ino:=by rw[hy];unfold ot;rw[q3,NF];rfl
          obtain⟨⟨z,hz⟩,hy1,hyt⟩:=tf w q1 (qL NF).1;rw[<-hye]at hz hy1 hyt;obtain⟨hkk,hze⟩:=XG oZ hz
          have hyf:y≠from_:=λh=>by
           rw[h,p1]at hz;cases hz;rw[hze]at he;cases he
          have w2:=w1.left o g1 g2 (by rw[hqo];exact NF)
          rw[<-hye]at w2;have Jg:=λj=>BD w1.oe g1 as j
          have Qm:find (left (left t from_ s) to as).nodes y=some z:=by rw[Jg,if_neg hyt,Cj,if_neg hyf];exact hz
          have w3:=w2.unnamed Qm hze (by unfold inc;rw[if_pos rfl];omega) hy1
          rw[QO]at w3;have hf3:=λj=>Af w2.oe Qm j
          have SZ:=HM o (w1.dir _ _ g1 g2).2.oe (by rw[hqo];exact NF)
          refine⟨_,rfl,w3,?_,?_,⟨{qq with fe:=false,jF:=tg as qq.jF},?_,g2,g3,?_,?_⟩,λj n hj hk h1=>abl w hz hze hj hk h1,λj n Wo hj hk=>?_,λj n' hj hk=>?_⟩
          .unfold unnamed;split<;>rfl
          .rw[hf3,if_neg (λh=>hyi h.symm),Jg,if_neg aaa]
           exact akh
          .rw[hf3,if_neg (λh=>hyt h.symm),Jg,if_pos rfl]
          .intro e he;exact(ya.1 he).2
          .have WL:=(w.wf.dir _ _ q1 q2).2.len;have:=hql.1;simp only;omega
          .rw[hf3,if_neg Wo,Jg]
           by_cases yA:j=to
           .subst yA;rw[q1]at hj;cases hj;exact⟨_,if_pos rfl,g2,g3⟩
           .rw[if_neg yA,Cj]
            by_cases hjf:j=from_
            .subst hjf;rw[p1]at hj;cases hj;exact⟨_,if_pos rfl,hk,rfl⟩
            .rw[if_neg hjf];exact⟨n,hj,hk,rfl⟩
          .rw[hf3]at hj;split at hj
           .split at hj
            .cases hj
            .rename_i hzk;cases hj;exact absurd hk hzk
           .rename_i Wo;refine⟨Wo,?_⟩;rw[Jg]at hj;split at hj
            .rename_i yA;subst yA;cases hj;exact⟨q,q1,q2,g3,.inl rfl⟩
            .rw[Cj]at hj;split at hj
             .rename_i hjf;subst hjf;cases hj;exact⟨p,p1,p2,rfl,.inr λh=>by rw[h]at he;cases he⟩
             .exact⟨n',hj,hk,rfl,.inr λh=>h⟩
        obtain⟨u,hu,wu,huc,hui,⟨r,r1,r2,r3,r4,r5⟩,aef,Wv,Qr⟩:=main;have hdt:depth t to<12:=aa
        have oV:t.jC<1099511627776:=aa
        show WF ok lt (Vw lt t from_ s to as i y);unfold Vw;simp only[mh hx];rw[hu];obtain⟨dto,dt1,dt2,dt3⟩:=w.dep _ _ q1 q2;rw[oz dt1 aa]at hdt
        by_cases Mc:x.kind=2
        .rw[if_pos Mc];have hxd:=w.wf.dir _ _ hx Mc;have hxl:=w.wf.KP _ _ hx Mc hx1;have w4:=wu.set (n:={x with up:=to}) hui Wp rfl rfl (inc (λ_=>0) i) (λ_ _=>rfl) (λh=>by simp only at h;omega) (λ_=>⟨hxd.1,rfl,rfl,.inr ⟨hx1,by unfold inc;rw[if_pos rfl];omega⟩⟩)
         have hf4:=λj=>xq wu.oe (n:={x with up:=to}) Wp j
         have r1':find (kG u {x with up:=to}).nodes to=some r:=by rw[hf4,if_neg (λh=>aaa h.symm)];exact r1
         have w5:=w4.kJ o r1' r2 hok r4 r5 (by show u.jC<_;rw[huc];exact oV) (of:=i) (m:={x with up:=to}) (by rw[hf4,if_pos rfl]) (by unfold inc;rw[if_pos rfl];omega) hx1 (λ_=>rfl)
         rw[wF]at w5;have hf5:=r7 (lt:=lt) w4.oe r1' as i;obtain⟨di,di1,di2,di3⟩:=w.dep _ _ hx Mc;have hnb:¬ ∃k,RU t i to k:=λh=>akY ⟨Mc,(yb w dt1).2 h⟩
         -- directories that are not below
         have keep:∀j d,wj t j d->(j≠y/\¬ ∃k,RU t i j k)->wj (kJ lt (kG u {x with up:=to}) to as i) j d:=λj d h=>h.keep (P:=λj=>j≠y/\¬ ∃k,RU t i j k) (λj n hj hf hk h1=>by
          refine⟨⟨aef j n hf hk h1,λ⟨k,hr⟩=>hj.2 ⟨k+1,.up hf hk h1 hr⟩⟩,?_⟩
          obtain⟨n',a1,a2,a3⟩:=Wv j n hj.1 hf hk;have hji:j≠i:=λh=>hj.2 ⟨0,by rw[h];exact .here⟩
          rw[hf5]
          by_cases yA:j=to
          .subst yA;rw[r1]at a1;cases a1;exact⟨_,if_pos rfl,r2,a3⟩
          .rw[if_neg yA,hf4,if_neg hji];exact⟨n',a1,a2,a3⟩)
         have hty:to≠y:=λh=>by
          have:=Qr _ _ r1 r2;exact this.1 h
         have ap1:=keep to dto dt1 ⟨hty,hnb⟩
         have Ww:wj (kJ lt (kG u {x with up:=to}) to as i) i (dto+1):=by
          refine .up (n:={x with up:=to}) ?_ Mc hx1 ap1
          rw[hf5,if_neg aaa,hf4,if_pos rfl]
         have apI:∀j k,RU t i j k->j≠y->wj (kJ lt (kG u {x with up:=to}) to as i) j (dto+1+k):=λj k h=>by
          induction h with
          |here=>intro _;exact Ww
          | @up j n k hf hk h1 hr ih =>
           intro Wo
           by_cases hji:j=i
           .exfalso;subst hji;rw[hx]at hf;cases hf;cases di1 with
            |root=>exact hx1 rfl
            |up c1 c2 c3 c4 =>
             rw[hx]at c1;cases c1;have:=hr.dep (.up hx Mc hx1 c4);have:=this.inj c4;omega
           .obtain⟨n',a1,a2,a3⟩:=Wv j n Wo hf hk
            by_cases yA:j=to
            .exfalso;subst yA;exact hnb ⟨k+1,.up hf hk h1 hr⟩
            .refine .up (n:=n') ?_ a2 h1 ?_
             .rw[hf5,if_neg yA,hf4,if_neg hji];exact a1
             .rw[a3];exact ih (aef j n hf hk h1)
         refine⟨w5,λj n' hj hk=>?_⟩
         by_cases hji:j=i
         .subst hji;have hhi:¬(12<high t j (depth t to+1)):=λh=>aab (.inr (.inr (.inl ⟨Mc,h⟩)))
          have hb0:below t j j=true:=(yb w di1).2 ⟨0,.here⟩;have hge:=Jd (t:=t) (i:=j) (at_:=(depth t to:Int)+1) (m:=0) (jY hx).1 Mc (by rw[Wp];exact hb0)
          unfold high at hhi;rw[Wp]at hge;rw[oz dt1 aa]at hge hhi
          rw[hf5,if_neg aaa,hf4,if_pos rfl]at hj;cases hj;refine⟨dto+1,Ww,aa,λh=>?_⟩
          simp only
          rcases cM x.jF.length with h0 | h0
          .exact aY h0
          .rw[if_pos h0]at hge;omega
         .have hu2:∃n2,find u.nodes j=some n2/\n2.kind=2/\(j≠to->n2=n'):=by
           rw[hf5]at hj;split at hj
           .rename_i yA;subst yA;exact⟨r,r1,r2,λh=>absurd rfl h⟩
           .rename_i yA;rw[hf4,if_neg hji]at hj;exact⟨n',hj,hk,λ_=>rfl⟩
          obtain⟨n2,b1,b2,b3⟩:=hu2;obtain⟨Wo,n,c1,c2,c3,c4⟩:=Qr j n2 b1 b2;obtain⟨d,d1,d2,d3⟩:=w.dep _ _ c1 c2
          by_cases hR:∃k,RU t i j k
          .have yA:j≠to:=λh=>hnb (h▸hR)
           have hbj:=(yb w d1).2 hR;obtain⟨k,hk2⟩:=hR;have Br:=d1.inj (hk2.dep di1);have hhi:¬(12<high t i (depth t to+1)):=λh=>aab (.inr (.inr (.inl ⟨Mc,h⟩)))
           have hge:=Jd (t:=t) (i:=i) (at_:=(depth t to:Int)+1) (m:=0) (jY c1).1 c2 (by rw[kN c1];exact hbj)
           unfold high at hhi;rw[kN c1,oz d1 aa,oz di1 aa,oz dt1 aa]at hge
           rw[oz dt1 aa,oz di1 aa]at hhi
           refine⟨dto+1+k,apI j k hk2 Wo,aa,λh=>?_⟩
           have hn0:n.jF=[]:=by
            rcases cM n.jF.length with h0 | h0
            .exact aY h0
            .rw[if_pos h0]at hge;omega
           rw[<-b3 yA]
           rcases c4 with c4 | c4
           .exact absurd c4 yA
           .exact c4 hn0
          .refine⟨d,keep j d d1 ⟨Wo,hR⟩,d2,λh=>?_⟩
           by_cases yA:j=to
           .subst yA;have:=d1.inj dt1;omega
           .rw[<-b3 yA]
            rcases c4 with c4 | c4
            .exact absurd c4 yA
            .exact c4 (d3 h)
        .rw[if_neg Mc];have w5:=wu.kJ o r1 r2 hok r4 r5 (by rw[huc];exact oV) (of:=i) (m:=x) hui (by unfold inc;rw[if_pos rfl];omega) hx1 (λh=>absurd h Mc)
         rw[wF]at w5;have hf5:=r7 (lt:=lt) wu.oe r1 as i;refine⟨w5,Al w (λj=>j≠y) (λj n hj hf hk h1=>⟨aef j n hf hk h1,?_⟩) (λj n' hj hk=>?_)⟩
         .obtain⟨n',a1,a2,a3⟩:=Wv j n hj hf hk;rw[hf5]
          by_cases yA:j=to
          .subst yA;rw[r1]at a1;cases a1;exact⟨_,if_pos rfl,r2,a3⟩
          .rw[if_neg yA];exact⟨n',a1,a2,a3⟩
         .rw[hf5]at hj;split at hj
          .rename_i yA;subst yA;exact⟨(Qr _ _ r1 r2).1,q,q1,q2,λ_=>.inr (by rw[oz dt1 aa];exact hdt)⟩
          .rename_i yA;obtain⟨Wo,n,c1,c2,c3,c4⟩:=Qr j n' hj hk;refine⟨Wo,n,c1,c2,λh=>.inl ?_⟩
           rcases c4 with c4 | c4
           .exact absurd c4 yA
           .exact c4 h
end Go.Tr
