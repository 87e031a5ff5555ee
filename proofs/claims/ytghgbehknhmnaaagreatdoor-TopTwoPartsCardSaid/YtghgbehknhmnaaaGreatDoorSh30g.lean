/- Part of the proof that TopTwoPartsCard holds. -/
import Derived.Test.YtghgbehknhmnaaaGreatDoorFs30i
set_option linter.all false
namespace Go.Proofs.YtghgbehknhmnaaaGreatDoor
open Go.Am Go.Tr Go.Am.Nm Go.Lib
def Mn(es:List (Int×AV)):Prop:=∀p∈es,∃q:Tr.Node,p=(q.ino,Nd q)/\q.b7.length<=64/\q.data.length<=4096
variable{es all:List (Int×AV)}
def Mn.look(h:Mn es)(n:Int):∃q:Tr.Node,ko es n (Nd jo)=Nd q/\q.b7.length<=64/\q.data.length<=4096/\(rW es n=true->q.ino=n/\(n,Nd q)∈es):=by
 unfold ko rW;cases l:es.find? λp=>decide (p.1=n)with
 |none=>exact⟨jo,rfl,by simp[jo],by simp[jo],ai⟩
 |some p =>
  have i:=bI l;obtain⟨q,rfl,h1,h2⟩:=h p i;have b:=cL l;simp only[decide_eq_true_eq]at b;exact⟨q,rfl,h1,h2,λ_=>⟨b,by rw[<-b];exact i⟩⟩
theorem Mn.put{q:Tr.Node}(i:q.b7.length<=64/\q.data.length<=4096):∀ {es:List (Int×AV)},Mn es->Mn (kQ es q.ino (Nd q))/\(kQ es q.ino (Nd q)).length<=es.length+1
 | [],_=>⟨λp l=>by
  rw[cr.1 l];exact⟨q,rfl,i⟩,aV _⟩
 |p::es,h=>by
  unfold kQ;split
  .refine⟨λr b=>?_,ai⟩
   rcases bw.1 b with rfl | b
   .exact⟨q,rfl,i⟩
   .exact h r (by simp[b])
  .obtain⟨h1,h2⟩:=Mn.put i (λr b=>h r (by simp[b]):Mn es)
   refine⟨λr b=>?_,by simp only[aS];omega⟩
   rcases bw.1 b with rfl | b
   .exact h r ai
   .exact h1 r b
def Mn.j8(h:Mn es):(es.all λp=>p.2.j8)=true:=by
 rw[aM];intro p b;obtain⟨q,rfl,_⟩:=h p b;rfl
def MO{l:ay}{x:Int}(h:x∉l):kQ (l.map λy=>(y,AV.agg [])) x (.agg [])=(l++[x]).map λy=>(y,AV.agg []):=by
 induction l with
 |nil=>rfl
 |cons a l b =>
  simp only[bw,not_or]at h;simp only[bN,kQ];rw[if_neg (λe=>h.1 e.symm),b h.2]
  rfl
def NX(l:ay)(x:Int):rW (l.map λy=>(y,AV.agg [])) x=l.contains x:=by
 induction l with
 |nil=>rfl
 |cons a l b =>
  unfold rW at b⊢;simp only[bN,eL,eH]
  by_cases h:a=x
  .simp[h]
  .have h':¬x=a:=λe=>h e.symm
   simp only[h,decide_false];rw[b];simp[h']
def KF(l:ay)(x:Int):ko (l.map λy=>(y,AV.agg [])) x (.agg []) = .agg []:=by
 unfold ko;rw[List.find?_map];cases List.find? _ l<;>rfl
def LC(all:List (Int×AV))(met:ay):Nat:=(all.filter λp=>!met.contains p.1).length
def GX(all:List (Int×AV)){m m':ay}(h:∀x∈m,x∈m'):LC all m'<=LC all m:=by
 induction all with
 |nil=>simp[LC]
 |cons p all b =>
  unfold LC at b⊢;simp only[bO]
  by_cases h1:p.1∈m
  .have h2:=h _ h1;simp[h1,h2]at b⊢;exact b
  .by_cases h2:p.1∈m'
   .simp[h1,h2]at b⊢;omega
   .simp[h1,h2]at b⊢;exact b
def LW{met:ay}{i:Int}(n:i∉met){v:AV}(h:(i,v)∈all):LC all (met++[i])<LC all met:=by
 induction all with
 |nil=>cases h
 |cons p all l =>
  have b:=GX all (m:=met) (m':=met++[i]) (λx o=>by simp[o])
  unfold LC at l b⊢;simp only[bO]
  rcases bw.1 h with rfl | h
  .simp[n];simp at b;omega
  .have:=l h
   by_cases h1:p.1∈met
   .simp[h1]at this⊢;exact this
   .by_cases h2:p.1=i
    .simp[h2,n]at this b⊢;omega
    .simp[h1,h2]at this⊢;omega
structure Vi(all:List (Int×AV))(met:ay)(out:List Tr.Node)(H:AH):Prop where
 len:6<=H.length
 h0:H[0]? = some (.mp .i64 all)
 h1:H[1]? = some (.var [.mb 0])
 h2:H[2]? = some (.mp .i64 (met.map λi=>(i,.agg [])))
 h3:H[3]? = some (.var [.mb 2])
 h5:H[5]? = some (.var [.fn (.func 267) [] [.ptr 3 0 0 0,.ptr 1 0 0 0,.ptr 4 0 0 0,.ptr 5 0 0 0]])
 h4:(out=[]/\H[4]? = some (.var [.b9 true []]))\/∃k v,6<=k/\H[k]? = some (.row v 6 (out.map Nd))/\H[4]? = some (.var [.own k v 0 out.length])
 nd:(out.map Tr.Node.ino).Nodup
 sub:∀q∈out,q.ino∈met
 sm:∀q∈out,q.b7.length<=64/\q.data.length<=4096
 ln:out.length+LC all met<=all.length
def Vi.app{met:ay}{out:List Tr.Node}{H:AH}(h:Vi all met out H)(Y:AH):Vi all met out (H++Y):=by
 have hl:=h.len
 have g:∀ {j:Nat} {A:AB},H[j]? = some A->(H++Y)[j]? = some A:=λ{j A} b=>by
  rw[aJ (aD.1 b).1];exact b
 exact⟨ak,g h.h0,g h.h1,g h.h2,g h.h3,g h.h5,h.h4.imp (λh=>⟨h.1,g h.2⟩) λ⟨k,v,h1,h2,h3⟩=>⟨k,v,h1,g h2,g h3⟩,h.nd,h.sub,h.sm,h.ln⟩
def Vi.meet{all:List (Int×AV)}{met:ay}{out:List Tr.Node}{H:AH}(h:Vi all met out H)(i:Int):Vi all (met++[i]) out (H.set 2 (AB.mp .i64 (met.map (λi=>(i,AV.agg []))++[(i,AV.agg [])]))):=by
 have hl:=h.len;have g:∀ {j:Nat} {A:AB} (B:AB),j≠2->H[j]? = some A->(H.set 2 B)[j]? = some A:=λ{j A} B n o=>by rw[aI (λe=>n e.symm)];exact o
 refine⟨an hl,g _ ah h.h0,g _ ah h.h1,by rw[aR af];simp,g _ ah h.h3,g _ ah h.h5,h.h4.imp (λh=>⟨h.1,g _ ah h.2⟩) λ⟨k,v,h1,h2,h3⟩=>⟨k,v,h1,g _ af h2,g _ ah h3⟩,h.nd,λq l=>by simp[h.sub q l],h.sm,?_⟩
 have:=h.ln;have:=GX all (m:=met) (m':=met++[i]) (λx b=>by simp[b])
 omega
def Vi.next{all:List (Int×AV)}{met:ay}{out:List Tr.Node}{H:AH}(h:Vi all met out H){i:Int}(x:i∉met){q:Tr.Node}(o:q.ino=i)(z:(i,Nd q)∈all)(hs:q.b7.length<=64/\q.data.length<=4096){n:AH}(hl:6<=n.length)
  (h0:n[0]? = some (.mp .i64 all)) (h1:n[1]? = some (.var [.mb 0])) (h2:n[2]? = some (.mp .i64 (met.map (λi=>(i,AV.agg []))++[(i,AV.agg [])]))) (h3:n[3]? = some (.var [.mb 2]))
  (h5:n[5]? = some (.var [.fn (.func 267) [] [.ptr 3 0 0 0,.ptr 1 0 0 0,.ptr 4 0 0 0,.ptr 5 0 0 0]])) (k v:Nat) (hk:6<=k) (l:n[k]? = some (.row v 6 ((out++[q]).map Nd))) (h4:n[4]? = some (.var [.own k v 0 (out.length+1)])):Vi all (met++[i]) (out++[q]) n:=by
 have A:=LW x z;have E:=h.ln;refine⟨hl,h0,h1,by rw[h2];simp,h3,h5,.inr ⟨k,v,hk,l,by rw[h4];simp⟩,?_,λr l=>?_,λr l=>?_,ak⟩
 .rw[List.map_append,gD];refine⟨h.nd,ai,λa F b y=>?_⟩
  obtain⟨r,l,rfl⟩:=cQ.1 F;simp only[bN,aN,cr]at y;intro e;apply x;rw[<-o,<-y,<-e];exact h.sub r l
 .rcases aY.1 l with l | l
  .simp[h.sub r l]
  .rw[cr.1 l,o];simp
 .rcases aY.1 l with l | l
  .exact h.sm r l
  .rw[cr.1 l];exact hs
abbrev Iw(i:Int):List AV:=[I i,.ptr 3 0 0 0,.ptr 1 0 0 0,.ptr 4 0 0 0,.ptr 5 0 0 0]
def ajh{Γ:jE}{all:List (Int×AV)}{d:Nat}(N:∀(met:ay)(out:List Tr.Node)(H:AH)(j:Int),Vi all met out H->LC all met<d->∃b l n r,eT Γ 267 (Iw j) H=some (.bool b,r)/\Vi all l n r/\∀x∈met,x∈l)
  (q:Tr.Node) (S:q.b7.length<=64) (met:ay) (out:List Tr.Node) (H:AH) (V:Vi all met out H) (P:LC all met<d) (L:Nat) (e0:Env) (h4:e0 4 = .ptr 5 0 0 0) (z:e0 37 = .b9 false (q.b7.map En)) (v:e0 38=I (q.b7.length:Int)) :
  ∃y,(∃b l n r,Vi all l n r/\(∀x∈met,x∈l)/\y=(AX.exit 0,[AV.bool b],r))/\iter (mN Γ [11,39] [(.exit 0,[11])] xM e0 L) ([.bool true,I 0],H)=some y :=
 iQ (f:=mN Γ [11,39] [(.exit 0,[11])] xM e0 L) q.b7.length (λi (x:Bool×ay×List Tr.Node×AH)=>([.bool x.1,I (i:Int)],x.2.2.2)) (λy=>∃b l n r,Vi all l n r/\(∀x∈met,x∈l)/\y=(AX.exit 0,[AV.bool b],r))
  (λ_ x=>Vi all x.2.1 x.2.2.1 x.2.2.2/\∀y∈met,y∈x.2.1)
  (λi x T A=>by
   obtain⟨b,m,o,H⟩:=x;obtain⟨V,F⟩:=A;simp only at V F;obtain⟨e,G⟩:∃e,e=q.b7[i]:=⟨_,rfl⟩;obtain⟨b',m',o',r,K,Q,E⟩:=N m o (H++[.var [.str e.name,I e.ino,I e.ek]]) e.ino (V.app _) (fu (GX all F) P);have hl:=V.len;have M:=iT V.h5 af
   refine .inl ⟨(b'&&b,m',o',r),⟨Q,λy O=>E y (F y O)⟩,?_⟩
   cases b'
   .simp(disch:=omega)[iZ,xM,h4,z,v,<-G,M,K,jk]
   .simp(disch:=omega)[iZ,xM,h4,z,v,<-G,M,K,jk])
  (λx A=>⟨_,⟨x.1,x.2.1,x.2.2.1,x.2.2.2,A.1,A.2,rfl⟩,by simp(disch:=omega)[iZ,xM,v]⟩) (aT _) (true,met,out,H) ⟨V,λ_ h=>h⟩
def visit{Γ:jE}{all:List (Int×AV)}(G:Mn all)(hal:all.length<=1000000):∀(d:Nat)(met:ay)(out:List Tr.Node)(H:AH)(i:Int),Vi all met out H->LC all met<d->
  ∃b n r S,eT (mG Γ 267 Cc d) 267 (Iw i) H=some (.bool b,S)/\Vi all n r S/\∀x∈met,x∈n
 |0,_,_,_,_,_,h=>af
 |d+1,met,out,H,i,V,hu=>by
  generalize l:eT (mG Γ 267 Cc (d+1)) 267 (Iw i) H=res;rw[ow,b6]at l;obtain⟨Γ',T⟩:∃Γ',Γ'=mG Γ 267 Cc d:=⟨_,rfl⟩;rw[<-T]at l;have hl:=V.len;have g0:=iT V.h0 af
  have g1:=iT V.h1 af
  have g2:=iT V.h2 af
  have g3:=iT V.h3 af
  have g5:=iT V.h5 af
  have P:=NX met i;have E:=KF met i;obtain⟨q,hQ,M,W,hqh⟩:=G.look i;simp only[Nd,jo,aN]at hQ
  by_cases Q:i∈met
  .have O:met.contains i=true:=by simpa using Q
   rw[O]at P;simp(disch:=omega)[Cc,g2,g3,P,E]at l;exact⟨true,met,out,_,l.symm,V.app _,λ_ h=>h⟩
  have O:met.contains i=false:=by simpa using Q
  rw[O]at P;have z:=MO Q;cases Z:rW all i with
  |false =>
   simp(disch:=omega)[Cc,g0,g1,g2,g3,P,E,z,hQ,Z,nP,kM,pR,jk]at l;exact⟨false,met++[i],out,_,l.symm,(V.meet i).app _,λx h=>by simp[h]⟩
  |true =>
   obtain⟨U,K⟩:=hqh Z;have hln:=V.ln;have hlt:=LW Q K;have hl0:0<H.length:=af
   have hl1:1<H.length:=af
   have F:2<H.length:=af
   have hl3:3<H.length:=af
   have OG:4<H.length:=af
   have hl5:5<H.length:=af
   have key:=λ(H1:AH)(Y:Vi all (met++[i]) (out++[q]) H1)(L:Nat)(e0:Env)(h4:e0 4 = .ptr 5 0 0 0)(h37:e0 37 = .b9 false (q.b7.map En))(h38:e0 38=I (q.b7.length:Int)) =>
    ajh (Γ:=Γ') (d:=d) (λm o H j V h=>by rw[T];exact visit G hal d m o H j V h) q M (met++[i]) (out++[q]) H1 Y af L e0 h4 h37 h38
   rcases V.h4 with⟨rfl,h4⟩ | ⟨k,v,hk6,X,h4⟩
   .have g4:=iT h4 af
    simp(disch:=omega)[Cc,g0,g1,g2,g3,g4,P,E,z,hQ,Z,nP,kM,pR,jk]at l
    have Y:Vi all (met++[i]) ([]++[q]) ((H.set 2 (AB.mp .i64 (met.map (λi=>(i,AV.agg []))++[(i,AV.agg [])]))++[AB.var [],AB.var (Nc q),AB.row 0 6 [Nd q]]).set 4 (AB.var [.own (H.length+2) 0 0 1])):=by
     have g:∀ {j:Nat} {A:AB},j≠2->j≠4->H[j]? = some A->((H.set 2 (AB.mp .i64 (met.map (λi=>(i,AV.agg []))++[(i,AV.agg [])]))++[AB.var [],AB.var (Nc q),AB.row 0 6 [Nd q]]).set 4 (AB.var [.own (H.length+2) 0 0 1]))[j]? = some A:=λ{j A} h2 h4 E=>by
      rw[aI (λe=>h4 e.symm),aJ (by simpa using(aD.1 E).1),aI (λe=>h2 e.symm)];exact E
     refine V.next Q U K ⟨M,W⟩ ak (g ah ah V.h0) (g ah ah V.h1) ?_ (g ah ah V.h3) (g ah ah V.h5) (H.length+2) 0 af ?_ ?_
     .rw[aI ah,aJ (an F),aR F]
     .rw[aI af,aQ ai];simp
     .rw[aR ak];simp
    generalize hx:iter _ _=o at l;obtain⟨_,⟨b,n,r,S,V',N,rfl⟩,rfl⟩:∃y,_/\o=some y:=by rw[<-hx];exact key _ Y _ _ aq aq aq
    simp(disch:=omega)at l;exact⟨b,n,r,S,l.symm,V',λx h=>N x (by simp[h])⟩
   .have g4:=iT h4 af
    have hkl:=(aD.1 X).1;have gk:=iT X hkl;simp(disch:=omega)[Cc,g0,g1,g2,g3,g4,gk,P,E,z,hQ,Z,nP,kM,pR,jk]at l
    have Y:Vi all (met++[i]) (out++[q]) (((H.set 2 (AB.mp .i64 (met.map (λi=>(i,AV.agg []))++[(i,AV.agg [])]))++[AB.var [],AB.var (Nc q)]).set k (AB.row (v+1) 6 (out.map Nd++[Nd q]))).set 4 (AB.var [.own k (v+1) 0 (out.length+1)])):=by
     have g:∀ {j:Nat} {A:AB},j≠2->j≠4->j<6->H[j]? = some A->(((H.set 2 (AB.mp .i64 (met.map (λi=>(i,AV.agg []))++[(i,AV.agg [])]))++[AB.var [],AB.var (Nc q)]).set k (AB.row (v+1) 6 (out.map Nd++[Nd q]))).set 4 (AB.var [.own k (v+1) 0 (out.length+1)]))[j]? = some A:=λ{j A} h2 h4 h6 E=>by
      rw[aI (λe=>h4 e.symm),aI af,aJ (by simpa using(aD.1 E).1),aI (λe=>h2 e.symm)];exact E
     refine V.next Q U K ⟨M,W⟩ ak (g ah ah ah V.h0) (g ah ah ah V.h1) ?_ (g ah ah ah V.h3) (g ah ah ah V.h5) k (v+1) hk6 ?_ ?_
     .rw[aI ah,aI af,aJ (an F),aR F]
     .rw[aI af,aR ak];simp
     .rw[aR ak]
    generalize hx:iter _ _=o at l;obtain⟨_,⟨b,n,r,S,V',N,rfl⟩,rfl⟩:∃y,_/\o=some y:=by rw[<-hx];exact key _ Y _ _ aq aq aq
    simp(disch:=omega)at l;exact⟨b,n,r,S,l.symm,V',λx h=>N x (by simp[h])⟩
def Mn.norm{es:List (Int×AV)}(h:Mn es)(L:Nat)(R:ax)(H:AH):es.map (λp=>(p.1,kL L R H p.2))=es:=by
 conv=>rhs;rw[<-fA es]
 refine dU λp b=>?_
 obtain⟨q,rfl,_⟩:=h p b;simp
def VN{s:j5}{k:Nat}(h:sF k s)(hk:k<=400)(x:qI)(e0:Env)(h3:e0 3 = .iV [I x.id,I x.ino,I x.at_])(h6:e0 6 = .ptr 1 0 0 0)(n:e0 17 = .b9 false (s.jU.map Pv))(b:e0 18=I (s.jU.length:Int)):
  ∃y,(∃all,Mn all/\all.length<=s.jU.length/\y=(AX.exit 0,[],[AB.mp .i64 all,.var [.mb 0]]))/\iter (round (en.cz 91) [19] [(.exit 0,[])] vB e0 2 []) ([I 0],[.mp .i64 [],.var [.mb 0]])=some y :=
 iQ (f:=round (en.cz 91) [19] [(.exit 0,[])] vB e0 2 []) s.jU.length (λi (all:List (Int×AV))=>([I (i:Int)],[AB.mp .i64 all,.var [.mb 0]])) (λy=>∃all,Mn all/\all.length<=s.jU.length/\y=(AX.exit 0,[],[AB.mp .i64 all,.var [.mb 0]])) (λi all=>Mn all/\all.length<=i)
  (λi all F l=>by
   have E:=h.pl;have q:=h.pe _ (aP F);obtain⟨p,o⟩:∃p,p=s.jU[i]:=⟨_,rfl⟩;rw[<-o]at q;obtain⟨z,A⟩:=Mn.put q l.1;have G:=l.1.j8;have v:=l.1.norm 2 [];have r:=z.norm 2 [];simp only[Nd]at z A r;left
   by_cases c:p.from_<=x.at_
   .by_cases d:x.at_<p.till
    .exact⟨_,⟨z,bJ A af⟩,by simp(disch:=omega)[round_eq,vB,h3,h6,n,b,<-o,c,d,r]⟩
    .exact⟨all,⟨l.1,af⟩,by simp(disch:=omega)[round_eq,vB,h3,n,b,<-o,c,d,v]⟩
   .exact⟨all,⟨l.1,af⟩,by simp(disch:=omega)[round_eq,vB,h3,n,b,<-o,c,v]⟩)
  (λall l=>⟨_,⟨all,l.1,l.2,rfl⟩,by simp(disch:=omega)[round_eq,vB,b]⟩) (aT _) [] ⟨(λp o=>by cases o),aV _⟩
def VM{s:j5}{k:Nat}(h:sF k s)(hk:k<=400)(x:qI)(n:Nat)(a0:List (Int×AV))(h0:Mn a0)(O:a0.length<=n)(e0:Env)(h2:e0 2 = .iV (Sc s))(h3:e0 3 = .iV [I x.id,I x.ino,I x.at_])(h6:e0 6 = .ptr 1 0 0 0)(v:e0 44 = .b9 false (s.now.nodes.map Nd))(l:e0 45=I (s.now.nodes.length:Int)):
  ∃y,(∃all,Mn all/\all.length<=n+s.now.nodes.length/\y=(AX.exit 2,[],[AB.mp .i64 all,.var [.mb 0]]))/\iter (round (en.cz 91) [46] [(.exit 2,[])] xY e0 2 []) ([I 0],[.mp .i64 a0,.var [.mb 0]])=some y :=
 iQ (f:=round (en.cz 91) [46] [(.exit 2,[])] xY e0 2 []) s.now.nodes.length (λi (all:List (Int×AV))=>([I (i:Int)],[AB.mp .i64 all,.var [.mb 0]])) (λy=>∃all,Mn all/\all.length<=n+s.now.nodes.length/\y=(AX.exit 2,[],[AB.mp .i64 all,.var [.mb 0]])) (λi all=>Mn all/\all.length<=n+i)
  (λi all N b=>by
   have o:=jQ h.w (aP N);have K:=h.sn;have L:=h.w.wf.len;have M:i<s.since.length:=af
   obtain⟨q,A⟩:∃q,q=s.now.nodes[i]:=⟨_,rfl⟩;obtain⟨z,G⟩:∃z,z=s.since[i]:=⟨_,rfl⟩;rw[<-A]at o;obtain⟨F,H⟩:=Mn.put o b.1;have P:=b.1.j8;have E:=b.1.norm 2 [];have r:=F.norm 2 [];simp only[Nd]at F H r;left
   by_cases c:z<=x.at_
   .exact⟨_,⟨F,bJ H af⟩,by simp(disch:=omega)[round_eq,xY,h2,h3,h6,v,l,<-A,<-G,c,r]⟩
   .exact⟨all,⟨b.1,af⟩,by simp(disch:=omega)[round_eq,xY,h2,h3,v,l,<-A,<-G,c,E]⟩)
  (λall b=>⟨_,⟨all,b.1,b.2,rfl⟩,by simp(disch:=omega)[round_eq,xY,l]⟩) (aT _) a0 ⟨h0,af⟩
def G7{l:List Tr.Node}(z:(l.map Tr.Node.ino).Nodup)(hl:l.length<=1000000):
  ∃h:List Tr.Node,(∀q∈h,q∈l)/\h.length=l.length/\∀(H:AH) b v,H[b]? = some (.row v 6 (l.map Nd))->qN 0 6 [269] [.own b v 0 l.length,.fn (.func 269) [] []] H=some (.jg [],H.set b (.row v 6 (h.map Nd))):=by
 have o:=lH 0 (l.map Nd)
 obtain⟨h,h1,h2⟩:=oL Nd (λq=>q∈l) (qj 0 (l.map Nd)) λx r=>by
  obtain⟨e,y,rfl⟩:=cQ.1 (o.mem_iff.1 r);exact⟨e,rfl,y⟩
 refine⟨h,h2,?_,λH b v A=>?_⟩
 .have:=o.length_eq;rw[h1,cv,cv]at this;exact this
 have i:(l.map Nd).take l.length=l.map Nd:=aO ai
 have n:(l.map Nd).drop l.length=[]:=eF ai
 unfold qN;simp only[A];rw[if_pos ?_,i,n,h1,cC];refine⟨trivial,trivial,ai,trivial,af,ah,?_,?_⟩
 .rw[i,iL];exact aM.2 λx _=>rfl
 .rw[i,e9];exact z
def ahI{n:Nat}(U:91<n){s:j5}{k:Nat}(h:sF k s)(hk:k<=400)(x:qI):∃f l b,(en.cz n).p 220 [Sv s,Xv x]=some (.jg [.b9 f (l.map Nd),.bool b])/\zc 100000 l:=by
 generalize i:(en.cz n).p 220 _=res;rw[pp 220 rfl U rfl,b8,b6]at i;have S:=h.pl;have T:=h.w.wf.len;simp(disch:=omega)[afn]at i;generalize H:iter _ _=o at i;obtain⟨_,⟨a1,A,O,rfl⟩,rfl⟩:∃y,_/\o=some y:=by rw[<-H];exact VN h hk x _ aq aq aq aq
 simp(disch:=omega)[A.norm 2 []]at i;generalize H:iter _ _=o at i;obtain⟨_,⟨all,hM,hL,rfl⟩,rfl⟩:∃y,_/\o=some y:=by rw[<-H];exact VM h hk x _ a1 A O _ aq aq aq aq aq
 have K:LC all []<=all.length:=bz _ _
 have V0:Vi all [] [] [.mp .i64 all,.var [.mb 0],.mp .i64 [],.var [.mb 2],.var [.b9 true []],.var [.fn (.func 267) [] [.ptr 3 0 0 0,.ptr 1 0 0 0,.ptr 4 0 0 0,.ptr 5 0 0 0]]] :=
  ⟨ai,rfl,rfl,rfl,rfl,rfl,.inl ⟨rfl,rfl⟩,ai,ai,ai,by have:=K;simp only[bt];omega⟩
 obtain⟨b,met,out,E,F,V,-⟩:=visit (Γ:=en.cz 30) hM af 1000001 [] [] _ x.ino V0 af
 rw[ow,<-aiH (n:=91) ah]at F
 simp only[Iw]at F;have W:=V.ln;have ho:out.length<=100000:=af
 rcases V.h4 with⟨rfl,h4⟩ | ⟨k,v,Z,z,h4⟩
 .have P:=iT h4 (by have:=V.len;omega)
  have M:4<E.length:=by have:=V.len;omega
  have r:=acq (n:=91) ah [.b9 true [],.fn (.func 269) [] []] E
  simp(disch:=omega)[qN]at r;simp(disch:=omega)[oN,F,P,r]at i;exact⟨true,[],b,i.symm,⟨ai,ai⟩⟩
 .have P:=iT h4 (by have:=V.len;omega)
  have M:4<E.length:=by have:=V.len;omega
  obtain⟨G,N,X,r⟩:=G7 V.nd af
  have r:=(acq (n:=91) ah _ E).trans (r E _ _ z)
  have Y:=(aD.1 z).1;have Pd:¬k=4:=af
  have L:(G.map Nd).take out.length=G.map Nd:=aO ak
  simp(disch:=omega)[oN,F,P,r,L]at i;exact⟨false,G,b,i.symm,⟨af,λq Q=>V.sm q (N q Q)⟩⟩
def VZ{s:j5}{k:Nat}(h:sF k s)(hk:k<=400)(i:Int)(e0:Env)(h1:e0 1=I i)(h2:e0 2 = .iV (Sc s))(q:e0 12 = .b9 false (s.taken.map Xv))(o:e0 13=I (s.taken.length:Int)):
  ∃y,(y=(AX.exit 0,[],[])\/∃(a:Int) (f:Bool) (l:List Tr.Node) (H:AH),zc 100000 l/\y=(AX.ret,[I a,.b9 f (l.map Nd),I 0],H))/\iter (round (en.cz 92) [14] [(.exit 0,[]),(.ret,[4,5,6])] yx e0 0 []) ([I 0],[])=some y :=
 iQ (f:=round (en.cz 92) [14] [(.exit 0,[]),(.ret,[4,5,6])] yx e0 0 []) s.taken.length (λi (_:Unit)=>([I (i:Int)],[])) (λy=>y=(AX.exit 0,[],[])\/∃(a:Int) (f:Bool) (l:List Tr.Node) (H:AH),zc 100000 l/\y=(AX.ret,[I a,.b9 f (l.map Nd),I 0],H)) (λ_ _=>True)
  (λj _ A _=>by
   have z:=h.tl;obtain⟨x,r⟩:∃x,x=s.taken[j]:=⟨_,rfl⟩;obtain⟨f,l,b,v,hl⟩:=ahI (n:=92) ah h hk x
   simp only[Sv,Sc,Xv]at v
   by_cases c:x.id=i
   .subst c;exact .inr ⟨_,.inr ⟨x.ino,f,l,_,hl,rfl⟩,by simp(disch:=omega)[round_eq,yx,h1,h2,q,o,<-r,ca 220,v];rfl⟩
   .exact .inl ⟨(),trivial,by simp(disch:=omega)[round_eq,yx,h1,q,o,<-r,c]⟩)
  (λ_ _=>⟨_,.inl rfl,by simp(disch:=omega)[round_eq,yx,o]⟩) (aT _) () trivial
def ah7{n:Nat}(r:92<n){s:j5}{k:Nat}(h:sF k s)(hk:k<=400)(i:Int):∃a f l e,(en.cz n).p 135 [Sv s,I i]=some (.jg [I a,.b9 f (l.map Nd),I e])/\zc 100000 l:=by
 generalize b:(en.cz n).p 135 _=res;rw[pp 135 rfl r rfl,b8,b6]at b;simp(disch:=omega)[afV]at b;generalize q:iter _ _=o at b;obtain⟨_,rfl | ⟨a,f,l,H,hl,rfl⟩,rfl⟩:∃y,_/\o=some y:=by rw[<-q];exact VZ h hk i _ aq aq aq aq
 .simp(disch:=omega)at b;exact⟨0,false,[],100,b.symm,⟨ai,ai⟩⟩
 .simp(disch:=omega)at b;exact⟨a,f,l,0,b.symm,hl⟩
def Mn.KM{es:List (Int×AV)}(h:Mn es):(es.all λp=>p.2.KM)=true:=aM.2 λp b=>Wy (aM.1 h.j8 p b)
def ah5{n:Nat}(b:8<n)(x:Tr.Ent)(p:au)(X:AH)(k:Nat)(hk:X[k]? = some (.var [.str p])):eT (en.cz n) 138 [En x,.ptr k 0 0 0] X=some (.bool (decide (x.name=p)),X):=by
 rw[ph 138 rfl b rfl,b6];simp(disch:=omega)[afT,hk]
def ah6{n:Nat}(b:93<n){l:List Tr.Ent}(hl:l.length<=1000000)(p:au){X:AH}(h:oE X)(k:Nat)(hk:X[k]? = some (.var [.str p])):
  ∃Z,Z.all gd=true/\eT (en.cz n) 137 [.b9 false (l.map En),.fn (.func 138) [] [.ptr k 0 0 0]] X=some (I (EC l λe=>decide (e.name=p)),X++Z):=by
 rw[acw b];exact GB (cs:=λe:Tr.Ent=>[.str e.name,I e.ino,I e.ek]) (λ_=>rfl) af h (xk X (cs:=λe:Tr.Ent=>[.str e.name,I e.ino,I e.ek]) (λ_=>rfl) l false) 138 [] [.ptr k 0 0 0] _ λx _=>⟨[],rfl,by rw[cC];exact ah5 ah x p X k hk⟩
def acZ{X:AH}(A:X.all gd=true){l:List Tr.Node}(hl:zc 100000 l)(f:Bool)(e0:Env)(h6:e0 6 = .mb X.length)(x:e0 42 = .b9 f (l.map Nd))(o:e0 43=I (l.length:Int)):
  ∃y,(∃all,Mn all/\y=(AX.exit 0,[],X++[AB.mp .i64 all]))/\iter (round (en.cz 94) [44] [(.exit 0,[])] Gr e0 (X.length+1) []) ([I 0],X++[.mp .i64 []])=some y :=
 iQ (f:=round (en.cz 94) [44] [(.exit 0,[])] Gr e0 (X.length+1) []) l.length (λi (all:List (Int×AV))=>([I (i:Int)],X++[AB.mp .i64 all])) (λy=>∃all,Mn all/\y=(AX.exit 0,[],X++[AB.mp .i64 all])) (λ_ all=>Mn all)
  (λi all H n=>by
   have G:=hl.len;have h:=hl.sm _ (aP H);obtain⟨q,z⟩:∃q,q=l[i]:=⟨_,rfl⟩;rw[<-z]at h;obtain⟨v,K⟩:=Mn.put h n;have M:=n.j8;have r:=v.norm (X.length+1) [];have E:=λh0 Y=>(kf A).tail (L:=X.length+1) (R:=[]) af ai h0 Y
   have b:=jr X;simp only[Nd]at v r;exact .inl ⟨_,v,by simp(disch:=omega)[round_eq,Gr,h6,x,o,<-z,r,E,b]⟩)
  (λall n=>⟨_,⟨all,n,rfl⟩,by
   have E:=λh0 Y=>(kf A).tail (L:=X.length+1) (R:=[]) af ai h0 Y
   have b:=jr X;have r:=n.norm (X.length+1) [];simp(disch:=omega)[round_eq,Gr,o]⟩) (aT _) [] (λp F=>by cases F)
def acY{X:AH}(N:X.all gd=true){all:List (Int×AV)}(z:Mn all){q:Tr.Node}(A:q.b7.length<=64/\q.data.length<=4096){ps:List au}(hps:ps.length<=100000)(f:Bool)(e0:Env)(h6:e0 6 = .mb X.length)(O:e0 9 = .ptr (X.length+1) 0 0 0)(h:e0 56 = .b9 f (ps.map AV.str))(b:e0 57=I (ps.length:Int)):
  ∃y,((∃q:Tr.Node,(q.b7.length<=64/\q.data.length<=4096)/\y=(AX.exit 2,[],X++[AB.mp .i64 all,.var (Nc q)]))\/∃e Q,y=(AX.ny (45,.i64,e),[],X++Q))/\iter (round (en.cz 94) [58] [(.exit 2,[])] Bw e0 (X.length+2) []) ([I 0],X++[.mp .i64 all,.var (Nc q)])=some y :=
 iQ (f:=round (en.cz 94) [58] [(.exit 2,[])] Bw e0 (X.length+2) []) ps.length (λi (q:Tr.Node)=>([I (i:Int)],X++[AB.mp .i64 all,.var (Nc q)])) (λy=>(∃q:Tr.Node,(q.b7.length<=64/\q.data.length<=4096)/\y=(AX.exit 2,[],X++[AB.mp .i64 all,.var (Nc q)]))\/∃e Q,y=(AX.ny (45,.i64,e),[],X++Q)) (λ_ q=>q.b7.length<=64/\q.data.length<=4096)
  (λi q hi A=>by
   obtain⟨p,H⟩:∃p,p=ps[i]:=⟨_,rfl⟩;have hE:=z.j8;have T:=z.norm (X.length+2) [];have S:=λh0 Y=>(kf N).tail (L:=X.length+2) (R:=[]) af ai h0 Y
   have o:=jr X;have v:=DC (n:=94) ah 73
   have M:=DD (n:=94) ah (e:=73) ah
   have E:=DC (n:=94) ah 70
   have K:=DD (n:=94) ah (e:=70) ah
   by_cases P:q.kind=2
   case neg=>exact .inr ⟨_,.inr ⟨73,_,rfl⟩,by simp(disch:=omega)[round_eq,Bw,O,h,b,<-H,P,M];rfl⟩
   obtain⟨Z,hZ,U⟩:=ah6 (n:=94) ah (l:=q.b7) af p (X:=X++[.mp .i64 all,.var (Nc q),.var [.str p]]) (kf (by rw[cq,N];simp only[bV,iJ,gd,z.KM];simp[AV.jW])) (X.length+2) (by rw[aQ af];simp)
   obtain⟨i1,i2,i3⟩:=DT q.b7 λe=>decide (e.name=p)
   generalize EC q.b7 (λe=>decide (e.name=p))=j at *
   by_cases W:0<=j
   case neg=>exact .inr ⟨_,.inr ⟨70,_,rfl⟩,by simp(disch:=omega)[round_eq,Bw,O,h,b,<-H,P,W,v,K,U];rfl⟩
   obtain⟨k,rfl⟩:∃k:Nat,j=(k:Int):=⟨j.toNat,af⟩
   have hkl:k<q.b7.length:=af
   obtain⟨e,he⟩:∃e,e=q.b7[k]:=⟨_,rfl⟩;obtain⟨r,x,G,F,-⟩:=z.look e.ino;simp only[Nd,jo,aN]at x;exact .inl ⟨r,⟨G,F⟩,by simp(disch:=omega)[round_eq,Bw,h6,O,h,b,<-H,P,W,v,E,U,<-he,x,T,S,o]⟩)
  (λq A=>⟨_,.inl ⟨q,A,rfl⟩,by
   have S:=λh0 Y=>(kf N).tail (L:=X.length+2) (R:=[]) af ai h0 Y
   have o:=jr X;have T:=z.norm (X.length+2) [];simp(disch:=omega)[round_eq,Bw,b]⟩) (aT _) q A
def lZ{B:AB}(h:gd B=true)(L:Nat)(h0:AH)(i:Nat):mz L [] h0 i B=B:=by
 have:=jv L h0 [B] i (by simp[h])
 simpa[jD]using this
set_option maxHeartbeats 1000000 in
def s74:qJ 74 94:=λ{n} hn {k f o} T hk ho B0 B1 B2 B3 S Q p2 p3=>by
 generalize b:(en.cz n).x 74 _ _=res;rw[p74 hn,jC]at b;obtain⟨a,fl,l,e,H,hl⟩:=ah7 (n:=94) ah T.s af o.n
 have hll:=hl.len;have h:=UJ (n:=94) ah o.path
 have W:(pJ B0 B1 B2 B3 f o Az []).all gd=true:=by
  simp only[pJ,bV,S,Q,p2,p3];simp[gd,AV.jW]
 simp only[Sv,Sc]at H
 by_cases U:e=0
 case neg =>
  have K:=rK (n:=94) ah U
  simp(disch:=omega)[c74,H,K]at b;exact⟨_,_,b.symm,jm ..⟩
 subst U;have i:=vh (n:=94) ah
 unfold spV at h;cases N:Nm.split o.path with
 |none =>
  have K:=rK (n:=94) ah (e:=60) ah
  simp only[N]at h;simp(disch:=omega)[c74,H,i,ca 136,h,K]at b;exact⟨_,_,b.symm,jm ..⟩
 |some ps =>
  simp only[N]at h;have hpl:=vW N;have hop:=ho.p;have F:=lZ S;have E:=lZ Q;have A:=lZ p2;have z:=lZ p3;simp(disch:=omega)[c74,H,i,ca 136,h,F,E,A,z]at b;have P:=λe0=>acZ W hl fl e0
  simp only[pJ,Wc,Fc,Sc,Oc,Ac,aK,aL,aS,bt,bW,Nat.reduceAdd,aN]at P;generalize G:iter _ _=oo at b;obtain⟨_,⟨all,O,rfl⟩,rfl⟩:∃y,_/\oo=some y:=by rw[<-G];exact P _ aq aq aq
  obtain⟨q,v,M,L,-⟩:=O.look a;simp only[Nd,jo,aN]at v;simp(disch:=omega)[v,F,E,A,z,O.norm 7 []]at b;have Y:=λe0=>acY W O (q:=q) ⟨M,L⟩ (ps:=ps) af (decide (o.path=[47])) e0
  simp only[pJ,Wc,Fc,Sc,Oc,Ac,aK,aL,aS,bt,bW,Nat.reduceAdd,aN]at Y;clear G P h;generalize G:iter _ _=oo at b;obtain⟨_,⟨r,⟨NN,hr2⟩,rfl⟩ | ⟨e,Z',rfl⟩,rfl⟩:∃y,_/\oo=some y:=by rw[<-G];exact Y _ aq aq aq aq
  .have X:=abT (n:=94) ah r
   obtain⟨Z,hns,hN⟩:=abU (n:=94) ah r.b7 af
   simp only[Nd]at X;simp(disch:=omega)[X,hN]at b;exact⟨_,_,b.symm,DH (f:=f) (a:=⟨0,r.ino,r.kind,r.links,max (r.data.length:Int) (r.b7.length:Int),Z,r.data⟩) T.up ⟨by simp only;omega,by simp only;omega⟩ _⟩
  .simp(disch:=omega)at b;exact⟨_,_,b.symm,jm ..⟩
end Go.Proofs.YtghgbehknhmnaaaGreatDoor
