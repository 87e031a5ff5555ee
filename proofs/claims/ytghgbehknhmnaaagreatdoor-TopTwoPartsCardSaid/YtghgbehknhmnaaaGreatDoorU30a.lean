/- Part of the proof that TopTwoPartsCard holds. -/
import Derived.Test.YtghgbehknhmnaaaGreatDoorT30l
import Derived.Test.YtghgbehknhmnaaaGreatDoorAmGs
set_option linter.all false
namespace Go.Proofs.YtghgbehknhmnaaaGreatDoor
open Go.Am Go.Tr
structure Bm(t:Tr.Tree)(fr:Int)(s:au)(to:Int)(nm:au)(i y:Int):Prop where
 y0:∀e∈(kD t to).b7,e.ino≠0
 a:Bt (left t fr s)
 b:y≠0->Bt (left (left t fr s) to nm)
 lk:y≠0->∀q,find (left (left t fr s) to nm).nodes y=some q->-4398046511104<=q.links/\q.links<=4398046511104
 c:Bt (if y≠0 then unnamed (left (left t fr s) to nm) y else left t fr s)
 d:Bt (if (iS t i).kind=2 then iP (if y≠0 then unnamed (left (left t fr s) to nm) y else left t fr s) {iS t i with up:=to}else(if y≠0 then unnamed (left (left t fr s) to nm) y else left t fr s))
def Qx{t:Tr.Tree}(to:Int)(nm:au):(wG (kD t to).b7 nm = -1/\Tr.lI t to nm=0)\/∃(k:Nat) (e:Tr.Ent),wG (kD t to).b7 nm=k/\k<(kD t to).b7.length/\(kD t to).b7[k]? = some e/\Tr.lI t to nm=e.ino:=by
 unfold Tr.lI jB;cases h:(kD t to).b7.find? λe=>decide (e.name=nm)with
 |none=>exact .inl ⟨by unfold wG;rw[h];rfl,rfl⟩
 |some e =>
  let⟨k,h1,h2,h3⟩:=Ow h;exact .inr ⟨k,e,h1,h2,h3,rfl⟩
theorem S8(ok:au->Bool)(lt:au->au->Bool)(t:Tr.Tree)(fr:Int)(s:au)(to:Int)(nm:au):Tr.mv ok lt t fr s to nm =
 if (Tr.look ok t fr s).2≠0 then(t,0,(Tr.look ok t fr s).2)else if jF t to≠0 then(t,0,jF t to)else if ok nm=false then(t,0,60)else
 if Tr.lI t to nm=(Tr.look ok t fr s).1 then(t,0,0)else if (iS t (Tr.look ok t fr s).1).kind=2/\below t to (Tr.look ok t fr s).1=true then(t,0,75)else
 if Tr.kT t (iS t (Tr.look ok t fr s).1) (Tr.lI t to nm)≠0 then(t,0,Tr.kT t (iS t (Tr.look ok t fr s).1) (Tr.lI t to nm))else
 if (Tr.lI t to nm=0/\to≠fr/\64<=(kD t to).b7.length)\/12<=depth t to\/((iS t (Tr.look ok t fr s).1).kind=2/\12<high t (Tr.look ok t fr s).1 (depth t to+1))\/1099511627776<=t.ek then(t,0,76)else
 (iY lt (if (iS t (Tr.look ok t fr s).1).kind=2 then iP (if Tr.lI t to nm≠0 then unnamed (left (left t fr s) to nm) (Tr.lI t to nm)else left t fr s) {iS t (Tr.look ok t fr s).1 with up:=to}else(if Tr.lI t to nm≠0 then unnamed (left (left t fr s) to nm) (Tr.lI t to nm)else left t fr s)) to nm (Tr.look ok t fr s).1,Tr.lI t to nm,0):=rfl
set_option maxHeartbeats 4000000 in
def mvA{n:Nat}(hn:225<n)(t:Tr.Tree)(E:Bt t)(fr to:Int)(s nm:au)(hs:s.length<=9223372036854775807)(U:nm.length<=9223372036854775807)(PJ:t.ek<4398046511104)
  (O:Bm t fr s to nm (Tr.look j4 t fr s).1 (Tr.lI t to nm)) (K:(if Tr.lI t to nm≠0 then unnamed (left (left t fr s) to nm) (Tr.lI t to nm)else left t fr s).ek<4398046511104)
  (Z:(Tr.look j4 t fr s).2=0) (Y:jF t to=0) (c3:j4 nm=true) (T:wG (kD t to).b7 nm = -1) (S:Tr.lI t to nm=0) :
  (en.cz n).p 99 [Tv t,I fr,.str s,I to,.str nm]=some (.jg [Tv (Tr.mv j4 gr t fr s to nm).1,I (Tr.mv j4 gr t fr s to nm).2.1,I (Tr.mv j4 gr t fr s to nm).2.2]):=by
 rw[pp 99 rfl hn rfl,b8,b6];have o:=Zp (n:=225) ah t E fr s hs
 have r:=Kj (n:=225) ah t E to
 have x:=Mw (n:=225) ah nm U
 have l:=Mv (n:=225) ah (kD t to) (pL E to) nm
 have G:=Qj (m:=225) ah t E fr s
 have hma:=O.a;have X:=O.b;have W:=O.lk;have M:=O.c;have v:=O.d;clear O;have A:=Mu (n:=225) ah t E to
 have Tl:=wL t to;have akg:=E.ON;have hdn:=pL E to;rw[c3]at x;rw[T]at l;rw[S]at X W M v K;rw[S8,S,c3,if_neg (show ¬(Tr.look j4 t fr s).2≠0 from λh=>h Z),if_neg (show ¬jF t to≠0 from λh=>h Y),if_neg (show ¬true=false by simp),if_neg (show ¬(0:Int)≠0 by simp)]
 rw[Z]at o;rw[Y]at r;generalize(Tr.look j4 t fr s).1=i at *
 clear Z Y S;generalize kD t to=d at *
 generalize left t fr s=v1 at *
 have F:=UI (n:=225) ah t E to i
 have z:=abN (n:=225) ah t E (iS t i) (0)
 have N:=abM (n:=225) ah t E i (depth t to+1) af af
 have y:=pT (n:=225) ah t E i
 let⟨b,hv,_⟩:=tc t i;rw[hv]at y;have hqe:=xD E i;clear hv;generalize iS t i=q at *
 generalize below t to i=bl at *
 generalize kT t q 0=cl at *
 generalize high t i (depth t to+1)=hi at *
 generalize depth t to=Q at *
 rw[if_neg (show ¬(0:Int)≠0 by simp)]at M v K
 have L:=E4 (m:=225) ah v1 M {q with up:=to}
 have P:(iP v1 {q with up:=to}).ek<4398046511104:=K
 generalize iP v1 {q with up:=to}=v4 at *
 simp only[Tv,Nd]at o r l z F A N y G L
 by_cases c4:0=i
 .rw[if_pos c4];simp(disch:=omega)[tD,ca 98,o,ca 152,r,ca 153,x,ca 154,l,c4.symm]
 .rw[if_neg c4]
  by_cases ck:q.kind=2
  .rw[ck]at z L;cases bl with
   |true =>
    rw[if_pos (show q.kind=2/\true=true from⟨ck,rfl⟩)]
    simp(disch:=omega)[tD,ca 98,o,ca 152,r,ca 153,x,ca 154,l,ca 100,y,ca 155,F,c4,ck]
   |false =>
    rw[if_neg (show ¬(q.kind=2/\false=true) by simp)]
    by_cases c5:cl=0
    .rw[if_neg (show ¬cl≠0 from λh=>h c5)]
     by_cases c7:to=fr
     .subst c7
      by_cases c9:12<=Q
      .rw[if_pos (Or.inr (Or.inl c9))];simp(disch:=omega)[tD,ca 98,o,ca 152,r,ca 153,x,ca 154,l,ca 100,y,ca 155,F,ca 156,z,ca 157,A,c4,ck,c5]
      .by_cases zb : 12 < hi
       .rw[if_pos (Or.inr (Or.inr (Or.inl ⟨ck,zb⟩)))];simp(disch:=omega)[tD,ca 98,o,ca 152,r,ca 153,x,ca 154,l,ca 100,y,ca 155,F,ca 156,z,ca 157,A,ca 158,N,c4,ck,c5,zb]
       .by_cases sE : 1099511627776 <= t.ek
        .rw[if_pos (Or.inr (Or.inr (Or.inr sE)))];simp(disch:=omega)[tD,ca 98,o,ca 152,r,ca 153,x,ca 154,l,ca 100,y,ca 155,F,ca 156,z,ca 157,A,ca 158,N,c4,ck,c5,zb,sE]
        .rw[if_neg (λh=>Or.elim h (λh=>h.2.1 rfl) (λh=>Or.elim h c9 (λh=>Or.elim h (λh=>zb h.2) sE)))]
         rw[if_pos ck];rw[if_pos ck]at v;have H:=E7 (m:=225) ah v4 v to nm i P
         generalize iY gr v4 to nm i=v5 at *
         simp only[Tv]at H L⊢;simp(disch:=omega)[tD,ca 98,o,ca 152,r,ca 153,x,ca 154,l,ca 100,y,ca 155,F,ca 156,z,ca 157,A,ca 158,N,c4,ck,c5,zb,sE,ca 151,G,ca 148,L,ca 147,H]
     .by_cases c8 : 64 <= d.b7.length
      .rw[if_pos (Or.inl ⟨rfl,c7,c8⟩)];simp(disch:=omega)[tD,ca 98,o,ca 152,r,ca 153,x,ca 154,l,ca 100,y,ca 155,F,ca 156,z,ca 157,A,c4,ck,c5,c7]
      .skip
       by_cases c9:12<=Q
       .rw[if_pos (Or.inr (Or.inl c9))];simp(disch:=omega)[tD,ca 98,o,ca 152,r,ca 153,x,ca 154,l,ca 100,y,ca 155,F,ca 156,z,ca 157,A,c4,ck,c5,c7]
       .by_cases zb : 12 < hi
        .rw[if_pos (Or.inr (Or.inr (Or.inl ⟨ck,zb⟩)))];simp(disch:=omega)[tD,ca 98,o,ca 152,r,ca 153,x,ca 154,l,ca 100,y,ca 155,F,ca 156,z,ca 157,A,ca 158,N,c4,ck,c5,c7,zb]
        .by_cases sE : 1099511627776 <= t.ek
         .rw[if_pos (Or.inr (Or.inr (Or.inr sE)))];simp(disch:=omega)[tD,ca 98,o,ca 152,r,ca 153,x,ca 154,l,ca 100,y,ca 155,F,ca 156,z,ca 157,A,ca 158,N,c4,ck,c5,c7,zb,sE]
         .rw[if_neg (λh=>Or.elim h (λh=>c8 h.2.2) (λh=>Or.elim h c9 (λh=>Or.elim h (λh=>zb h.2) sE)))]
          rw[if_pos ck];rw[if_pos ck]at v;have H:=E7 (m:=225) ah v4 v to nm i P
          generalize iY gr v4 to nm i=v5 at *
          simp only[Tv]at H L⊢;simp(disch:=omega)[tD,ca 98,o,ca 152,r,ca 153,x,ca 154,l,ca 100,y,ca 155,F,ca 156,z,ca 157,A,ca 158,N,c4,ck,c5,c7,zb,sE,ca 151,G,ca 148,L,ca 147,H]
    .rw[if_pos (show cl≠0 from c5)]
     simp(disch:=omega)[tD,ca 98,o,ca 152,r,ca 153,x,ca 154,l,ca 100,y,ca 155,F,ca 156,z,c4,ck,c5]
  .rw[if_neg (show ¬(q.kind=2/\bl=true)from λh=>ck h.1)]
   by_cases c5:cl=0
   .rw[if_neg (show ¬cl≠0 from λh=>h c5)]
    by_cases c7:to=fr
    .subst c7
     by_cases c9:12<=Q
     .rw[if_pos (Or.inr (Or.inl c9))];simp(disch:=omega)[tD,ca 98,o,ca 152,r,ca 153,x,ca 154,l,ca 100,y,ca 156,z,ca 157,A,c4,ck,c5]
     .by_cases sE : 1099511627776 <= t.ek
      .rw[if_pos (Or.inr (Or.inr (Or.inr sE)))];simp(disch:=omega)[tD,ca 98,o,ca 152,r,ca 153,x,ca 154,l,ca 100,y,ca 156,z,ca 157,A,c4,ck,c5,sE]
      .rw[if_neg (λh=>Or.elim h (λh=>h.2.1 rfl) (λh=>Or.elim h c9 (λh=>Or.elim h (λh=>ck h.1) sE)))]
       rw[if_neg ck];rw[if_neg ck]at v;have H:=E7 (m:=225) ah v1 v to nm i K
       generalize iY gr v1 to nm i=v5 at *
       simp only[Tv]at H L⊢;simp(disch:=omega)[tD,ca 98,o,ca 152,r,ca 153,x,ca 154,l,ca 100,y,ca 156,z,ca 157,A,c4,ck,c5,sE,ca 151,G,ca 147,H]
    .by_cases c8 : 64 <= d.b7.length
     .rw[if_pos (Or.inl ⟨rfl,c7,c8⟩)];simp(disch:=omega)[tD,ca 98,o,ca 152,r,ca 153,x,ca 154,l,ca 100,y,ca 156,z,ca 157,A,c4,ck,c5,c7]
     .skip
      by_cases c9:12<=Q
      .rw[if_pos (Or.inr (Or.inl c9))];simp(disch:=omega)[tD,ca 98,o,ca 152,r,ca 153,x,ca 154,l,ca 100,y,ca 156,z,ca 157,A,c4,ck,c5,c7]
      .by_cases sE : 1099511627776 <= t.ek
       .rw[if_pos (Or.inr (Or.inr (Or.inr sE)))];simp(disch:=omega)[tD,ca 98,o,ca 152,r,ca 153,x,ca 154,l,ca 100,y,ca 156,z,ca 157,A,c4,ck,c5,c7,sE]
       .rw[if_neg (λh=>Or.elim h (λh=>c8 h.2.2) (λh=>Or.elim h c9 (λh=>Or.elim h (λh=>ck h.1) sE)))]
        rw[if_neg ck];rw[if_neg ck]at v;have H:=E7 (m:=225) ah v1 v to nm i K
        generalize iY gr v1 to nm i=v5 at *
        simp only[Tv]at H L⊢;simp(disch:=omega)[tD,ca 98,o,ca 152,r,ca 153,x,ca 154,l,ca 100,y,ca 156,z,ca 157,A,c4,ck,c5,c7,sE,ca 151,G,ca 147,H]
   .rw[if_pos (show cl≠0 from c5)]
    simp(disch:=omega)[tD,ca 98,o,ca 152,r,ca 153,x,ca 154,l,ca 100,y,ca 156,z,c4,ck,c5]
set_option maxHeartbeats 4000000 in
def mvB{n:Nat}(hn:225<n)(t:Tr.Tree)(y:Bt t)(fr to:Int)(s nm:au)(hs:s.length<=9223372036854775807)(Y:nm.length<=9223372036854775807)(PJ:t.ek<4398046511104)
  (P:Bm t fr s to nm (Tr.look j4 t fr s).1 (Tr.lI t to nm)) (F:(if Tr.lI t to nm≠0 then unnamed (left (left t fr s) to nm) (Tr.lI t to nm)else left t fr s).ek<4398046511104)
  (c1:(Tr.look j4 t fr s).2=0) (c2:jF t to=0) (c3:j4 nm=true) (k:Nat) (e:Tr.Ent) (X:wG (kD t to).b7 nm=k) (hkl:k<(kD t to).b7.length) (G:(kD t to).b7[k]? = some e) (W:Tr.lI t to nm=e.ino) (c6:e.ino≠0) :
  (en.cz n).p 99 [Tv t,I fr,.str s,I to,.str nm]=some (.jg [Tv (Tr.mv j4 gr t fr s to nm).1,I (Tr.mv j4 gr t fr s to nm).2.1,I (Tr.mv j4 gr t fr s to nm).2.2]):=by
 rw[pp 99 rfl hn rfl,b8,b6];have v:=Zp (n:=225) ah t y fr s hs
 have x:=Kj (n:=225) ah t y to
 have z:=Mw (n:=225) ah nm Y
 have r:=Mv (n:=225) ah (kD t to) (pL y to) nm
 have M:=Qj (m:=225) ah t y fr s
 have Z:=P.a;have T:=P.b;have S:=P.lk;have L:=P.c;have o:=P.d;clear P;have H:=Mu (n:=225) ah t y to
 have Tl:=wL t to;have akg:=y.ON;have hdn:=pL y to;rw[c3]at z;rw[X]at r;rw[W]at T S L o F;rw[S8,W,c3,if_neg (show ¬(Tr.look j4 t fr s).2≠0 from λh=>h c1),if_neg (show ¬jF t to≠0 from λh=>h c2),if_neg (show ¬true=false by simp),if_pos c6]
 rw[c1]at v;rw[c2]at x;generalize(Tr.look j4 t fr s).1=i at *
 clear c1 c2 W;generalize kD t to=d at *
 generalize left t fr s=v1 at *
 have O:=UI (n:=225) ah t y to i
 have E:=abN (n:=225) ah t y (iS t i) (e.ino)
 have U:=abM (n:=225) ah t y i (depth t to+1) af af
 have A:=pT (n:=225) ah t y i
 let⟨b,hv,_⟩:=tc t i;rw[hv]at A;have hqe:=xD y i;clear hv;generalize iS t i=q at *
 generalize below t to i=bl at *
 generalize kT t q e.ino=cl at *
 generalize high t i (depth t to+1)=hi at *
 generalize depth t to=dp at *
 have l:e=d.b7[k]:=by rw[aH hkl]at G;exact(bB G).symm
 have N:=Qj (m:=225) ah v1 Z to nm
 rw[if_pos c6]at L o F;generalize left v1 to nm=v2 at *
 have K:=abP (m:=225) ah v2 (T c6) e.ino (S c6)
 generalize unnamed v2 e.ino=v3 at *
 have Q:=E4 (m:=225) ah v3 L {q with up:=to}
 have GU:(iP v3 {q with up:=to}).ek<4398046511104:=F
 generalize iP v3 {q with up:=to}=v4 at *
 simp only[Tv,Nd]at v x r E O H U A M Q N K
 by_cases c4:e.ino=i
 .rw[if_pos c4];simp(disch:=omega)[tD,ca 98,v,ca 152,x,ca 153,z,ca 154,r,<-l,c4]
 .rw[if_neg c4]
  by_cases ck:q.kind=2
  .rw[ck]at E Q;cases bl with
   |true =>
    rw[if_pos (show q.kind=2/\true=true from⟨ck,rfl⟩)]
    simp(disch:=omega)[tD,ca 98,v,ca 152,x,ca 153,z,ca 154,r,ca 100,A,ca 155,O,<-l,c4,ck]
   |false =>
    rw[if_neg (show ¬(q.kind=2/\false=true) by simp)]
    by_cases c5:cl=0
    .rw[if_neg (show ¬cl≠0 from λh=>h c5)]
     by_cases c9:12<=dp
     .rw[if_pos (Or.inr (Or.inl c9))];simp(disch:=omega)[tD,ca 98,v,ca 152,x,ca 153,z,ca 154,r,ca 100,A,ca 155,O,ca 156,E,ca 157,H,<-l,c4,ck,c5,c6]
     .by_cases zb : 12 < hi
      .rw[if_pos (Or.inr (Or.inr (Or.inl ⟨ck,zb⟩)))];simp(disch:=omega)[tD,ca 98,v,ca 152,x,ca 153,z,ca 154,r,ca 100,A,ca 155,O,ca 156,E,ca 157,H,ca 158,U,<-l,c4,ck,c5,c6,zb]
      .by_cases sE : 1099511627776 <= t.ek
       .rw[if_pos (Or.inr (Or.inr (Or.inr sE)))];simp(disch:=omega)[tD,ca 98,v,ca 152,x,ca 153,z,ca 154,r,ca 100,A,ca 155,O,ca 156,E,ca 157,H,ca 158,U,<-l,c4,ck,c5,c6,zb,sE]
       .rw[if_neg (λh=>Or.elim h (λh=>c6 h.1) (λh=>Or.elim h c9 (λh=>Or.elim h (λh=>zb h.2) sE)))]
        rw[if_pos ck];rw[if_pos ck]at o;have G:=E7 (m:=225) ah v4 o to nm i GU
        generalize iY gr v4 to nm i=v5 at *
        simp only[Tv]at G Q⊢;simp(disch:=omega)[tD,ca 98,v,ca 152,x,ca 153,z,ca 154,r,ca 100,A,ca 155,O,ca 156,E,ca 157,H,ca 158,U,<-l,c4,ck,c5,c6,zb,sE,ca 151,M,N,ca 150,K,ca 148,Q,ca 147,G]
    .rw[if_pos (show cl≠0 from c5)]
     simp(disch:=omega)[tD,ca 98,v,ca 152,x,ca 153,z,ca 154,r,ca 100,A,ca 155,O,ca 156,E,<-l,c4,ck,c5]
  .rw[if_neg (show ¬(q.kind=2/\bl=true)from λh=>ck h.1)]
   by_cases c5:cl=0
   .rw[if_neg (show ¬cl≠0 from λh=>h c5)]
    by_cases c9:12<=dp
    .rw[if_pos (Or.inr (Or.inl c9))];simp(disch:=omega)[tD,ca 98,v,ca 152,x,ca 153,z,ca 154,r,ca 100,A,ca 156,E,ca 157,H,<-l,c4,ck,c5,c6]
    .by_cases sE : 1099511627776 <= t.ek
     .rw[if_pos (Or.inr (Or.inr (Or.inr sE)))];simp(disch:=omega)[tD,ca 98,v,ca 152,x,ca 153,z,ca 154,r,ca 100,A,ca 156,E,ca 157,H,<-l,c4,ck,c5,c6,sE]
     .rw[if_neg (λh=>Or.elim h (λh=>c6 h.1) (λh=>Or.elim h c9 (λh=>Or.elim h (λh=>ck h.1) sE)))]
      rw[if_neg ck];rw[if_neg ck]at o;have G:=E7 (m:=225) ah v3 o to nm i F
      generalize iY gr v3 to nm i=v5 at *
      simp only[Tv]at G Q⊢;simp(disch:=omega)[tD,ca 98,v,ca 152,x,ca 153,z,ca 154,r,ca 100,A,ca 156,E,ca 157,H,<-l,c4,ck,c5,c6,sE,ca 151,M,N,ca 150,K,ca 147,G]
   .rw[if_pos (show cl≠0 from c5)]
    simp(disch:=omega)[tD,ca 98,v,ca 152,x,ca 153,z,ca 154,r,ca 100,A,ca 156,E,<-l,c4,ck,c5]
def s99{n:Nat}(H:225<n)(t:Tr.Tree)(z:Bt t)(fr to:Int)(s nm:au)(hs:s.length<=9223372036854775807)(l:nm.length<=9223372036854775807)(y:t.ek<4398046511104)
  (K:Bm t fr s to nm (Tr.look j4 t fr s).1 (Tr.lI t to nm)) (x:(if Tr.lI t to nm≠0 then unnamed (left (left t fr s) to nm) (Tr.lI t to nm)else left t fr s).ek<4398046511104) :
  (en.cz n).p 99 [Tv t,I fr,.str s,I to,.str nm]=some (.jg [Tv (Tr.mv j4 gr t fr s to nm).1,I (Tr.mv j4 gr t fr s to nm).2.1,I (Tr.mv j4 gr t fr s to nm).2.2]):=by
 by_cases A:(Tr.look j4 t fr s).2=0/\jF t to=0/\j4 nm=true
 .let⟨A,O,N⟩:=A
  rcases Qx (t:=t) to nm with⟨L,G⟩ | ⟨k,e,L,hk,v,G⟩
  .exact mvA H t z fr to s nm hs l y K x A O N L G
  .exact mvB H t z fr to s nm hs l y K x A O N k e L hk v G (K.y0 e (bL v))
 rw[pp 99 rfl H rfl,b8,b6];have o:=Zp (n:=225) ah t z fr s hs
 have F:=Kj (n:=225) ah t z to
 have M:=Mw (n:=225) ah nm l
 have P:=Mv (n:=225) ah (kD t to) (pL z to) nm
 unfold Tr.mv
 by_cases b:(Tr.look j4 t fr s).2=0
 .rw[if_neg (show ¬(Tr.look j4 t fr s).2≠0 from λh=>h b)]
  by_cases E:jF t to=0
  .rw[if_neg (show ¬jF t to≠0 from λh=>h E)]
   cases c3:j4 nm with
   |false =>
    rw[if_pos rfl];rw[c3]at M;generalize Tr.look j4 t fr s=r at *
    let⟨i,e⟩:=r;simp only at b;generalize kD t to=q at *
    generalize jF t to=d at *
    simp only[Tv,Nd]at o F;simp(disch:=omega)[tD,ca 98,o,b,ca 152,F,E,ca 153,M]
   |true=>exact absurd ⟨b,E,c3⟩ A
  .rw[if_pos (show jF t to≠0 from E)]
   generalize Tr.look j4 t fr s=r at *
   let⟨i,e⟩:=r;simp only at b;generalize kD t to=q at *
   generalize jF t to=d at *
   simp only[Tv,Nd]at o F;simp(disch:=omega)[tD,ca 98,o,b,ca 152,F,E]
 .rw[if_pos (show (Tr.look j4 t fr s).2≠0 from b)]
  generalize Tr.look j4 t fr s=r at *
  let⟨i,e⟩:=r;simp only[Tv]at o b⊢;simp(disch:=omega)[tD,ca 98,o,b]
def wS{k:Nat}{t:Tr.Tree}(h:Bg k t)(hk:k<=700):Bt t :=
 ⟨by have:=h.len;omega,λn b=>by have:=h.b7 n b;omega,h.ON,by have:=h.ck;omega,h.Qz,by have:=h.nx;omega⟩
abbrev lM(t:Tr.Tree):Prop:=WF j4 gr t
def QC{t:Tr.Tree}(w:lM t)(fr:Int)(s:au)(to:Int)(nm:au):Bm t fr s to nm (Tr.look j4 t fr s).1 (Tr.lI t to nm)/\(if Tr.lI t to nm≠0 then unnamed (left (left t fr s) to nm) (Tr.lI t to nm)else left t fr s).ek<4398046511104:=by
 have h0:=w.bg;have h1:=h0.left fr s;have h2:=h1.left to nm;have h3:=h2.unnamed (Tr.lI t to nm)
 have h4:Bg 3 (if Tr.lI t to nm≠0 then unnamed (left (left t fr s) to nm) (Tr.lI t to nm)else left t fr s):=by
  split
  .exact h3
  .exact h1.mono af
 refine⟨⟨λe b=>?_,wS h1 af,λ_=>wS h2 af,λ_ q h=>?_,wS h4 af,?_⟩,by have:=h4.ck;omega⟩
 .unfold kD at b;cases i:find t.nodes to with
  |none=>rw[i]at b;cases b
  |some p =>
   rw[i]at b;simp only at b;split at b
   .rename_i l;have:=(w.wf.dir _ _ i l).2.to e b;let⟨q,h⟩:=bM.1 this;have:=(w.wf.pos _ _ h).1;omega
   .cases b
 .have:=h2.lk q (fk h).1;omega
 .split
  .refine wS (h4.iP ?_ ?_) af
   .have:=(h0.iS (Tr.look j4 t fr s).1).1;show (iS t (Tr.look j4 t fr s).1).b7.length<=_;omega
   .have:=(h0.iS (Tr.look j4 t fr s).1).2;show _<=(iS t (Tr.look j4 t fr s).1).links/\(iS t (Tr.look j4 t fr s).1).links<=_;omega
  .exact wS h4 af
def IB{t:Tr.Tree}(w:lM t)(i:Int)(s:au):((Tr.look j4 t i s).2=0->Bt (left t i s))/\∀q,find (left t i s).nodes (Tr.look j4 t i s).1=some q->-4398046511104<=q.links/\q.links<=4398046511104:=by
 have h1:=w.bg.left i s;refine⟨λ_=>wS h1 af,λq b=>?_⟩
 have:=h1.lk q (fk b).1;omega
variable{n:Nat}
def abR(b:2<n)(x:Int):(en.cz n).p 143 [I x]=some (.bool false):=by
 rw[pp 143 rfl b rfl,b8,b6];simp(disch:=omega)[afR]
def oa(x y:Int):Int:=if x<y then -1 else if y<x then 1 else 0
def Zq(i:3<n)(x y:Int):(en.cz n).p 82 [I x,I y]=some (I (oa x y)):=by
 rw[pp 82 rfl i rfl,b8,b6];have h1:=abR (n:=3) ah x
 have h2:=abR (n:=3) ah y
 unfold oa
 by_cases b:x<y
 .simp(disch:=omega)[c82,ca 143,h1,h2,b]
 .by_cases h:y<x
  .simp(disch:=omega)[c82,ca 143,h1,h2,b,h]
  .simp(disch:=omega)[c82,ca 143,h1,h2,b,h]
def ahl(b:25<n)(q:Tr.Node)(i:Int):(en.cz n).p 276 [Nd q,I i]=some (I (oa q.ino i)):=by
 rw[pp 276 rfl b rfl,b8,b6];have h:=Zq (n:=25) ah q.ino i
 simp(disch:=omega)[aeX,ca 82,h]
def qt(x y:Int):oa x y<0↔x<y:=by
 unfold oa;split
 .simp_all
 .split<;>simp_all
def nj(x y:Int):oa x y=0↔x=y:=by
 unfold oa;split
 .constructor<;>intro h<;>omega
 .split
  .constructor<;>intro h<;>omega
  .constructor<;>intro h<;>omega
def SR(E:34<n){l:List Tr.Node}(hs:lC l)(hl:l.length<=1000)(i:Int)(g:FuncId){X:AH}(G:oE X)(hg:∀x∈l,eT (en.cz 34) g [Nd x,I i] X=some (I (oa x.ino i),X)):
  eT (en.cz n) 259 [.b9 false (l.map Nd),I i,.fn (.func g) [] []] X=some (.jg [I (jK l i:Nat),.bool (find l i).isSome],X):=by
 rw[ph 259 rfl E rfl]
 have h:=bsG (Γ:=en.cz 34) (z:=6) (cs:=λq:Tr.Node=>[.int .i64 q.ino,.int .i64 q.kind,.int .i64 q.links,.b9 false (q.data.map B),.b9 false (q.b7.map En),.int .i64 q.up]) (λ_=>rfl) (l:=l) af G (xk X (cs:=λq:Tr.Node=>[.int .i64 q.ino,.int .i64 q.kind,.int .i64 q.links,.b9 false (q.data.map B),.b9 false (q.b7.map En),.int .i64 q.up]) (λ_=>rfl) l false) (I i) g [] [] (λx=>oa x.ino i) (λa b F A h=>by
  rw[qt]at h⊢;have:=(aX.1 hs) _ _ af F A
  omega) hg
 have o:kg (λx:Tr.Node=>decide (oa x.ino i<0)) l=jK l i:=by
  unfold jK
  congr 1
  funext x
  exact decide_eq_decide.2 (qt x.ino i)
 rw[o]at h;refine Eq.trans h ?_
 rcases pN hs i with⟨r,v,y⟩ | ⟨y,v⟩
 .rw[y,aH r];have:=(nj l[jK l i].ino i).2 v;simp[this]
 .rw[y]
  by_cases r:jK l i<l.length
  .rw[aH r];have:¬oa l[jK l i].ino i=0:=λh=>v r ((nj _ _).1 h)
   simp[this]
  .rw[dn af]
   simp
def ahr(b:34<n)(t:Tr.Tree)(hs:lC t.nodes)(hl:t.nodes.length<=1000)(i:Int)(X:AH)(l:oE X):
  eT (en.cz n) 259 [.b9 false (t.nodes.map Nd),I i,.fn (.func 276) [] []] X=some (.jg [I (jK t.nodes i:Nat),.bool (find t.nodes i).isSome],X) :=
 SR b hs hl i 276 l λx _=>by
  have h:=ahl (n:=34) ah x i
  simp only[Nd]at h;simp(disch:=omega)[ca 276,h]
def Ki(b:35<n)(t:Tr.Tree)(hs:lC t.nodes)(hl:t.nodes.length<=1000)(i:Int)(X:AH)(l:oE X)(k:Nat)(hk:X[k]? = some (.var [.b9 false (t.nodes.map Nd),.int .i64 t.next,.int .i64 t.ek])):
  eT (en.cz n) 237 [.ptr k 0 0 0,I i] X=some (.jg [I (jK t.nodes i:Nat),.bool (find t.nodes i).isSome],X):=by
 rw[ph 237 rfl b rfl,b6];have h:=ahr (n:=35) ah t hs hl i X l
 simp(disch:=omega)[afd,hk,h]
def Im{t:Tr.Tree}(hs:lC t.nodes)(i:Int):(∃q,find t.nodes i=some q/\jK t.nodes i<t.nodes.length/\t.nodes[jK t.nodes i]? = some q)\/find t.nodes i=none:=by
 rcases pN hs i with⟨h,_,b⟩ | ⟨b,_⟩
 .exact .inl ⟨_,b,h,aH h⟩
 .exact .inr b
def BW(v:39<n)(t:Tr.Tree)(hs:lC t.nodes)(hl:t.nodes.length<=1000)(i:Int):(en.cz n).p 182 [Tv t,I i]=some (lq (find t.nodes i)):=by
 rw[pp 182 rfl v rfl,b8,b6];have b:=Ki (n:=36) ah t hs hl i [.var [.int .i64 0,.int .i64 0,.int .i64 0,.b9 false [],.b9 false [],.int .i64 0],.var [.b9 false (t.nodes.map Nd),.int .i64 t.next,.int .i64 t.ek],.var [.int .i64 0,.int .i64 0,.int .i64 0,.b9 false [],.b9 false [],.int .i64 0]] rfl 1 rfl
 have r:=U3 (n:=39) ah
 unfold lq
 rcases Im hs i with⟨q,l,x,o⟩ | l
 .rw[l]at b⊢;generalize jK t.nodes i=c at *
  have h:q=t.nodes[c]:=by rw[aH x]at o;exact(bB o).symm
  simp(disch:=omega)[Yv,r,b6,Cd,b,<-h]
 .rw[l]at b⊢;generalize jK t.nodes i=c at *
  simp(disch:=omega)[Yv,r,b6,Cd,b,jo]
def nc{t:Tr.Tree}(w:lM t):Bt t:=wS w.bg af
abbrev Tb(t:Tr.Tree):List AV:=[.b9 false (t.nodes.map Nd),.int .i64 t.next,.int .i64 t.ek]
abbrev Nc(q:Tr.Node):List AV:=[.int .i64 q.ino,.int .i64 q.kind,.int .i64 q.links,.b9 false (q.data.map B),.b9 false (q.b7.map En),.int .i64 q.up]
abbrev bs(t:Tr.Tree)(s:ay×Int)(rest:AH):AH:=.var (Tb t) :: .mp .i64 (s.1.map λx=>(x,.bool true)) :: .var [.mb 1] :: .var [I s.2] :: .var [.fn (.func 244) [] [.ptr 0 0 0 0,.ptr 3 0 0 0,.ptr 2 0 0 0,.ptr 4 0 0 0]]::rest
def C3(t:Tr.Tree)(k:Nat):Prop:=∀(i:Int)(s:ay×Int)(rest:AH),rest.all gd=true->IA t s.1<k->s.1.Nodup->(∀x∈s.1,(find t.nodes x).isSome=true)->0<=s.2->s.2+dat t i<=4096*(s.1.length:Int)+4096->
 eT (mG (en.cz 79) 244 zn k) 244 [I i,.ptr 0 0 0 0,.ptr 3 0 0 0,.ptr 2 0 0 0,.ptr 4 0 0 0] (bs t s rest)=some (.jg [],bs t (xG t k i s) (rest++[.var (Nc (iS t i))]))
def KE(l:ay)(x:Int):ko (l.map λy=>(y,AV.bool true)) x (.bool false) = .bool (l.contains x):=by
 unfold ko
 induction l with
 |nil=>rfl
 |cons y l b =>
  rw[bN,eL]
  by_cases h:y=x
  .subst h;simp
  .have h':¬x=y:=λe=>h e.symm
   simp only[h,decide_false];rw[b];simp[h']
def MP{l:ay}{x:Int}(h:x∉l):kQ (l.map λy=>(y,AV.bool true)) x (.bool true)=(l++[x]).map λy=>(y,AV.bool true):=by
 induction l with
 |nil=>rfl
 |cons y l b =>
  have h1:¬y=x:=λe=>h (by rw[e];exact cU)
  rw[bN,kQ,if_neg h1,b λh'=>h (cB _ h')]
  rfl
def call33{k:Nat}(t:Tr.Tree)(w:lM t)(i:Int)(h:AH):eT (mG (en.cz 79) 244 zn k) 182 [Tv t,I i] h=some (lq (find t.nodes i),h) :=
 zL rfl ((DE ah _ k).trans (BW (n:=79) ah t w.wf.jL (nc w).len i))
def Ee{t:Tr.Tree}(w:lM t)(i:Int):0<=dat t i/\dat t i<=4096:=by
 unfold dat iS;cases b:find t.nodes i with
 |none=>simp[jo]
 |some q =>
  show 0<=((q.data.length:Nat):Int)/\((q.data.length:Nat):Int)<=4096
  rcases w.zB (fk b).1 with⟨_,_,_,h,_⟩ | ⟨_,h,_⟩
  .omega
  .rw[h];simp
def JE{t:Tr.Tree}(w:lM t)(l:ay):0<=tq t l/\tq t l<=4096*(l.length:Int):=by
 induction l with
 |nil=>simp[tq]
 |cons x l b =>
  have:=Ee w x;rw[pM,aS];omega
structure Gd(t:Tr.Tree)(k:Nat)(s:ay×Int):Prop where
 un:IA t s.1<k+1
 nd:s.1.Nodup
 node:∀x∈s.1,(find t.nodes x).isSome=true
 b0:0<=s.2
 b1:s.2<=4096*(s.1.length:Int)+4096
def FC:∀ {l m:ay},l.Nodup->(∀x∈l,x∈m)->l.length<=m.length
 | [],_,_,_=>aT _
 |x::l,m,h,hs=>by
  let⟨h1,h2⟩:=dR.1 h;have i:=hs x cU;have n:=FC (l:=l) (m:=m.erase x) h2 λy b=>(iy λe=>h1 (by rw[<-e];exact b)).2 (hs y (cB _ b))
  rw[List.length_erase_of_mem i]at n;have:=gP i;rw[aS];omega
def Hy{t:Tr.Tree}{l:ay}(h:l.Nodup)(n:∀x∈l,(find t.nodes x).isSome=true):l.length<=t.nodes.length:=by
 have:(t.nodes.map Tr.Node.ino).length=t.nodes.length:=cv ..;rw[<-this]
 exact FC h λx b=>by
  let⟨q,i⟩:=bM.1 (n x b);let⟨h1,h2⟩:=fk i;exact cQ.2 ⟨q,h1,h2⟩
theorem AD(L:Nat)(R:ax)(h:AH)(f:Fn)(a c:List AV):kF L R h (.fn f a c)=if (a++c).all (λx=>x.j8||match x with | .ptr b _ _ _=>decide (b<L) && !R.contains b | .mb b=>decide (b<L) && !R.contains b | _=>false)then .fn f a c else .dead:=rfl
def Gd.step{t:Tr.Tree}(w:lM t){k:Nat}{s:ay×Int}(g:Gd t k s){e:Tr.Ent}(i:(find t.nodes e.ino).isSome=true):Gd t k (ri t k s e):=by
 let⟨new,p,_⟩:=Bf k (xF w k) [e] s (λe' h=>by simp at h;rw[h];exact i) g.un g.nd g.node
 rw[bG,iu]at p;have h1:=JE w new;have h2:=g.b0;have h3:=g.b1;refine⟨fu (EI λx b=>by rw[p.eq];exact ez _ b) g.un,p.nd,p.node,by rw[p.sum];omega,?_⟩
 rw[p.sum,p.eq,aU];omega
theorem KC(L:Nat)(R:ax)(h:AH)(l:ay):l.map ((λp:Int×AV=>(p.1,kL L R h p.2))∘λx=>(x,AV.bool true))=l.map λx=>(x,AV.bool true):=rfl
def ajm{k:Nat}(t:Tr.Tree)(w:lM t)(Q:C3 t k)(q:Tr.Node)(M:∀e∈q.b7,(find t.nodes e.ino).isSome=true)(K:q.b7.length<=1000)(s:ay×Int)(g:Gd t k s)(R:AH)(G:R.all gd=true)
  (e0:Env) (A:e0 22 = .b9 false (q.b7.map En)) (v:e0 23 = .int .i64 q.b7.length) (h3:e0 3 = .ptr 2 0 0 0) (h4:e0 4 = .ptr 4 0 0 0) (L:Nat) (P:R.length+5=L) :
  iter (round (mG (en.cz 79) 244 zn k) [24] [(.exit 0,[])] xQ e0 L []) ([.int .i64 0],bs t s R)=some (.exit 0,[],bs t (q.b7.foldl (ri t k) s) R):=by
 subst P
 have:=kN (f:=round (mG (en.cz 79) 244 zn k) [24] [(.exit 0,[])] xQ e0 (R.length+5) []) (λi (s:ay×Int)=>([.int .i64 (i:Int)],bs t s R)) q.b7 (ri t k) (λs=>(.exit 0,[],bs t s R)) (λ_ s=>Gd t k s)
  (λi N s g=>by
   obtain⟨e,E⟩:∃e,e=q.b7[i]:=⟨_,rfl⟩;have r:=M e (by rw[E];exact aP N)
   rw[<-E];refine⟨g.step w r,?_⟩;have l:=KE s.1 e.ino;have z:∀X:AH,List.take R.length (R++X)=R:=λX=>by rw[fm];rfl
   unfold ri;cases F:s.1.contains e.ino with
   |true =>
    rw[F]at l;simp(disch:=omega)[round_eq,xQ,A,v,h3,<-E,l,jv _ _ R _ G,z,AD]
   |false =>
    rw[F]at l;have o:e.ino∉s.1:=by simpa using F
    have n:=MP o;have S:=EH r o
    have h:=Q e.ino (s.1++[e.ino],s.2) (R++[.var [.str e.name,.int .i64 e.ino,.int .i64 e.ek]]) (by rw[cq,G];rfl) (by have:=g.un;simp only;omega) (by
      rw[gD];exact⟨g.nd,ai,λa O b H=>by simp at H;subst H;exact λe'=>o (e'▸O)⟩) (λx y=>by
      rcases aY.1 y with y | y
      .exact g.node x y
      .simp at y;subst y;exact r) g.b0 (by have:=g.b1;have:=Ee w e.ino;simp only[aU,aS,bt];omega)
    generalize xG t k e.ino (s.1++[e.ino],s.2)=m at *
    simp only[bs,List.map_append,bN,aN,cM,aK,aL]at h n;simp(disch:=omega)[round_eq,xQ,A,v,h3,h4,<-E,l,n,h,jv _ _ R _ G,z,AD])
  (λs g=>by simp(disch:=omega)[round_eq,xQ,v]) s g
 simpa using this
def C2(t:Tr.Tree)(w:lM t):∀k:Nat,C3 t k
 |0=>λi s rest _ h=>absurd h af
 |k+1=>by
  intro i s R H M o n Q v;have G:=C2 t w k;rw[ow,b6,CQ];have l:=λh=>call33 (k:=k) t w i h
  let⟨b,K,_⟩:=tc t i;have F:dat t i=((iS t i).data.length:Int):=rfl;have A:∀e∈(iS t i).b7,(find t.nodes e.ino).isSome=true:=λe P=>rZ w P
  have E:(iS t i).b7.length<=1000:=by have:=(w.bg.iS i).1;omega
  have O:=Hy o n;have N:=w.wf.len;rw[F]at v;have g:Gd t k (s.1,s.2+((iS t i).data.length:Int)):=⟨M,o,n,by simp only;omega,v⟩
  simp only[K]at l;generalize iS t i=q at *
  have hl:=ajm (k:=k) t w G q A E (s.1,s.2+(q.data.length:Int)) g (R++[.var (Nc q)]) (by rw[cq,H];rfl)
  have z:∀X:AB,(R++[X])[R.length]? = some X:=λX=>ai
  have y:∀X Y:AB,(R++[X]).set R.length Y=R++[Y]:=λX Y=>ai
  generalize q.b7.foldl (ri t k) (s.1,s.2+(q.data.length:Int))=m at *
  have x:∀X:AB,List.take (R.length+1) (R++[X])=R++[X]:=λX=>aO ai
  have r:∀(L:Nat)(h:AH)(i:Nat),jD L [] h i (R++[.var (Nc q)])=R++[.var (Nc q)]:=λL h i=>jv L h _ i (by rw[cq,H];rfl)
  simp only[Nc]at r;simp only[Tv]at l;clear G;generalize mG (en.cz 79) 244 zn k=Γ at *
  simp only[bs,Nc,Tb]at hl⊢;simp(disch:=omega)[zn,l,z,y,x,r,AD,KC];rw[hl _ aq aq aq aq _ ai]
  simp(disch:=omega)
def abD{n:Nat}(G:109<n)(t:Tr.Tree)(hs:lC t.nodes)(hl:t.nodes.length<=1000)(i:Int):(en.cz n).p 178 [Tv t,I i]=some (.jg [Tv (free t i).1,I (free t i).2]):=by
 rw[pp 178 rfl G rfl,b8,b6];have h:=Ki (n:=36) ah t hs hl i [.var [.b9 false [],.int .i64 0,.int .i64 0],.var [.b9 false (t.nodes.map Nd),.int .i64 t.next,.int .i64 t.ek],.var [.int .i64 0,.int .i64 0,.int .i64 0,.b9 false [],.b9 false [],.int .i64 0]] rfl 1 rfl
 have r:=U3 (n:=109) ah
 have H:=acr (n:=109) ah
 unfold free
 rcases Im hs i with⟨q,l,E,A⟩ | l
 .rw[l]at h⊢;have b:q=t.nodes[jK t.nodes i]:=by rw[aH E]at A;exact(bB A).symm
  by_cases z:q.kind=2
  .generalize jK t.nodes i=c at *
   simp(disch:=omega)[OU,r,b6,Cd,h,<-b,z]
  .by_cases F : 0 < q.links
   .generalize jK t.nodes i=c at *
    simp(disch:=omega)[OU,r,b6,Cd,h,<-b,z,F]
   .have o:=Ki (n:=108) ah t hs hl i [.var [.b9 false [],.int .i64 0,.int .i64 0],.var [.b9 false (t.nodes.map Nd),.int .i64 t.next,.int .i64 t.ek],.var [.int .i64 q.ino,.int .i64 q.kind,.int .i64 q.links,.b9 false (q.data.map B),.b9 false (q.b7.map En),.int .i64 q.up],.var [.int .i64 q.ino,.int .i64 q.kind,.int .i64 q.links,.b9 false (q.data.map B),.b9 false (q.b7.map En),.int .i64 q.up]] rfl 1 rfl
    rw[l]at o;have v:=yZ hs E (by rw[<-b];exact(fk l).2)
    have y:=U0 (n:=108) ah
    have x:=acp (n:=108) ah
    unfold kj;rw[v];generalize jK t.nodes i=c at *
    simp(disch:=omega)[OU,r,H,b6,Cd,RV,h,o,<-b,z,F,y,x,kP,jd];rw[aO ak]
 .rw[l]at h⊢;generalize jK t.nodes i=c at *
  simp(disch:=omega)[OU,r,b6,Cd,h]
end Go.Proofs.YtghgbehknhmnaaaGreatDoor
