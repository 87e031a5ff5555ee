/- Part of the proof that TopTwoPartsCard holds. -/
import Derived.Test.YtghgbehknhmnaaaGreatDoorX30h
set_option linter.all false
namespace Go.Proofs.YtghgbehknhmnaaaGreatDoor
open Go.Am Go.Tr Go.Am.Nm Go.Lib
variable{n:Nat}
def ah8(z:77<n){s:j5}{k:Nat}(h:sF k s)(i:Int):∃s' a e,(en.cz n).p 134 [Sv s,I i]=some (.jg [Sv s',I a,I e])/\sF k s':=by
 rw[pp 134 rfl z rfl,b8,b6];have b:=BW (n:=77) ah s.now h.w.wf.jL (nc h.w).len i
 have r:=aiS (n:=77) ah
 have x:=h.tl;unfold lq at b;cases v:find s.now.nodes i with
 |none =>
  rw[v]at b;simp only[bS,Tv,Nd,jo,aN]at b;refine⟨s,0,70,?_,h⟩;simp(disch:=omega)[Lo,ca 182,b]
 |some q =>
  rw[v]at b;simp only[bC,Tv,Nd]at b
  by_cases o:q.kind=2
  .by_cases A : 16 <= s.taken.length
   .refine⟨s,0,76,?_,h⟩;simp(disch:=omega)[Lo,ca 182,b,o]
   .by_cases l : 1099511627776 <= s.next
    .refine⟨s,0,76,?_,h⟩;simp(disch:=omega)[Lo,ca 182,b,o,l]
    .have y:=h.nx;refine⟨⟨s.now,s.tick,s.since,s.jU,s.taken++[⟨s.next,i,s.tick⟩],s.next+1⟩,s.next,0,?_,⟨h.w,h.sn,h.tk,h.pl,h.pe,ak,by simp only;omega⟩⟩
     simp(disch:=omega)[Lo,ca 182,b,o,l,r,jd]
  .refine⟨s,0,73,?_,h⟩;simp(disch:=omega)[Lo,ca 182,b,o]
def ahH(b:16<n)(x:qI)(i:Int)(X:AH)(k:Nat)(hk:X[k]? = some (.var [I i])):eT (en.cz n) 223 [Xv x,.ptr k 0 0 0] X=some (.bool (decide (x.id≠i)),X):=by
 rw[ph 223 rfl b rfl,b6];simp(disch:=omega)[afl,hk]
def ahF(q:29<n)(p:tW){l:List qI}(hl:l.length<=1000)(X:AH)(k b:Nat)(hk:X[k]? = some (.var [.own b 0 0 l.length]))(o:X[b]? = some (.row 0 3 (l.map Xv))\/X[b]? = some (.me 0 3 (l.map Xv))):
  eT (en.cz n) 225 [Pv p,.ptr k 0 0 0] X=some (.bool (v7 l p.from_ p.till),X.set b (.me 0 3 (l.map Xv))):=by
 rw[ph 225 rfl q rfl,b6];have h:=abu (n:=29) ah hl p.from_ p.till
 rcases o with o | o
 .simp(disch:=omega)[Yn,hk,o,ca 213,h]
 .have e:X.set b (.me 0 3 (l.map Xv))=X:=by
   apply dJ;intro i;rw[fD];split
   .rename_i r;subst r;rw[o,if_pos (aD.1 o).1]
   .rfl
  rw[e];simp(disch:=omega)[Yn,hk,o,ca 213,h]
def ahG(v:81<n){l:List qI}(hl:l.length<=1000){ps:List tW}(q:ps.length<=1000000)(a0 o i:List AV)(h0:a0.all (uI 5)=true)(h1:o.all (uI 5)=true)(h2:i.all (uI 5)=true):
  ∃A,(A=AB.row 0 3 (l.map Xv)\/A=AB.me 0 3 (l.map Xv))/\eT (en.cz n) 224 [.b9 false (ps.map Pv),.fn (.func 225) [] [.ptr 4 0 0 0]] [.var a0,.var o,.var i,.row 0 3 (l.map Xv),.var [.own 3 0 0 l.length]] =
   some (.own 5 0 0 (ps.filter λp=>v7 l p.from_ p.till).length,[.var a0,.var o,.var i,A,.var [.own 3 0 0 l.length],.row 0 8 ((ps.filter λp=>v7 l p.from_ p.till).map Pv)]):=by
 have hs:∀A:AB,ve 5 A=true->oE [.var a0,.var o,.var i,A,.var [.own 3 0 0 l.length]]:=λA b=>by
  show List.all _ (ve 5)=true;simp only[bV,iJ,b];simp[ve,h0,h1,h2,uI]
 let⟨E,r,h⟩:=SP (Γ:=en.cz 81) (z:=8) (bytes:=96) (zero:=[I 0,I 0,I 0,I 0,I 0,.b9 false [],.b9 false [],I 0]) (cs:=λp:tW=>[I p.from_,I p.till,I p.node.ino,I p.node.kind,I p.node.links,.b9 false (p.node.data.map B),.b9 false (p.node.b7.map En),I p.node.up]) ah (λ_=>rfl) (λ_=>rfl) rfl rfl (l:=ps) q false
  (λX=>∃A,(A=AB.row 0 3 (l.map Xv)\/A=AB.me 0 3 (l.map Xv))/\X=[.var a0,.var o,.var i,A,.var [.own 3 0 0 l.length]]) ⟨_,.inl rfl,rfl⟩ (λy h1=>by obtain⟨A,b,rfl⟩:=h1;exact⟨hs A (by rcases b with rfl | rfl<;>rfl),rfl⟩) 225 [] [.ptr 4 0 0 0] (λp=>v7 l p.from_ p.till) (by simp[k7]) λx _ y h1 Y=>by
   obtain⟨A,b,rfl⟩:=h1;exact⟨_,⟨_,.inr rfl,rfl⟩,ahF ah x af _ 4 3 rfl (by rcases b with rfl | rfl;exact .inl rfl;exact .inr rfl)⟩
 obtain⟨A,b,rfl⟩:=r;exact⟨A,b,(ph 224 rfl v rfl _ _).trans h⟩
def ah4(y:82<n){s:j5}{k:Nat}(h:sF k s)(i:Int)(hk:k<=1000):∃s' e,(en.cz n).p 139 [Sv s,I i]=some (.jg [Sv s',I e])/\sF k s':=by
 have q:=h.tl;have r:=h.pl;obtain⟨_,rfl,h1⟩:=SP (Γ:=en.cz 80) (z:=3) (bytes:=24) (zero:=[I 0,I 0,I 0]) (cs:=λx:qI=>[I x.id,I x.ino,I x.at_]) ah (λ_=>rfl) (λ_=>rfl) rfl rfl (l:=s.taken) af false (X:=[.var (Sc s),.var [I i],.var [.b9 false [],I 0,I 0,I 0,.b9 false [],.b9 false [],.b9 false [],I 0]]) (λX=>X=_) rfl (λK h1=>by subst h1;exact⟨rfl,rfl⟩) 223 [] [.ptr 1 0 0 0] (λx=>decide (x.id≠i)) (by simp[k7]) λx _ K h1 Y=>⟨_,rfl,by subst h1;exact ahH ah x i _ 1 rfl⟩
 have h1:eT (en.cz 82) 222 [.b9 false (s.taken.map Xv),.fn (.func 223) [] [.ptr 1 0 0 0]] [.var (Sc s),.var [I i],.var [.b9 false [],I 0,I 0,I 0,.b9 false [],.b9 false [],.b9 false [],I 0]]=some (.own 3 0 0 (s.taken.filter λx=>decide (x.id≠i)).length,[.var (Sc s),.var [I i],.var [.b9 false [],I 0,I 0,I 0,.b9 false [],.b9 false [],.b9 false [],I 0],.row 0 3 ((s.taken.filter λx=>decide (x.id≠i)).map Xv)]):=(aiQ (n:=82) ah _ _).trans h1
 have F:(s.taken.filter λx=>decide (x.id≠i)).length<=s.taken.length:=bz _ _
 have o:(s.taken.filter λx=>decide (x.id≠i)).length<=16:=af
 generalize(s.taken.filter λx=>decide (x.id≠i))=l at *
 generalize b:(en.cz n).p 139 _=res;rw[pp 139 rfl y rfl,b8,b6]at b
 by_cases H:l.length=s.taken.length
 .simp(disch:=omega)[Se,h1,H]at b;exact⟨s,100,b.symm,h⟩
 .let⟨A,G,h2⟩:=ahG (n:=82) ah (l:=l) af (ps:=s.jU) af [.b9 false (s.now.nodes.map Nd),I s.now.next,I s.now.ek,I s.tick,.b9 false (s.since.map I),.b9 false (s.jU.map Pv),.own 3 0 0 l.length,I s.next] [I i] [.b9 false [],I 0,I 0,I 0,.b9 false [],.b9 false [],.b9 false [],I 0] rfl rfl rfl
  have E:(s.jU.filter λp=>v7 l p.from_ p.till).length<=s.jU.length:=bz _ _
  refine⟨{s with taken:=l,jU:=s.jU.filter λp=>v7 l p.from_ p.till},0,?_,⟨h.w,h.sn,h.tk,by simp only;omega,λp v=>h.pe p (bZ.1 v).1,o,h.nx⟩⟩
  rw[<-b]
  rcases G with rfl | rfl
  .simp(disch:=omega)[Se,h1,h2]
  .simp(disch:=omega)[Se,h1,h2]
variable{s:j5}{n i:Nat}
def abV(E:203<n){l:List qI}(hl:l.length<=1000)(a b:Int):∃r,(en.cz n).p 112 [.b9 false (l.map Xv),I a,I b]=some (.bool r):=by
 have h:∀e0:Env,e0 0 = .b9 false (l.map Xv)->e0 1=I a->e0 2=I b->∃y,(∃r:Bool,y=if r=true then(AX.ret,[AV.bool true],[])else(.exit 0,[],[]))/\
   iter (round (en.cz 203) [7] [(.exit 0,[]),(.ret,[6])] vK e0 0 []) ([I 0],[])=some y:=λe0 h0 h1 h2 =>
  iQ (f:=round (en.cz 203) [7] [(.exit 0,[]),(.ret,[6])] vK e0 0 []) l.length (λi (_:Unit)=>([I (i:Int)],[])) (λy=>∃r:Bool,y=if r=true then(AX.ret,[AV.bool true],[])else(.exit 0,[],[])) (λ_ _=>True)
   (λi _ F _=>by
    obtain⟨x,v⟩:∃x,x=l[i]:=⟨_,rfl⟩
    by_cases z:a<=x.at_
    .by_cases A:x.at_<b
     .exact .inr ⟨_,⟨true,rfl⟩,by simp(disch:=omega)[round_eq,vK,h0,h1,h2,<-v,z,A]⟩
     .exact .inl ⟨(),trivial,by simp(disch:=omega)[round_eq,vK,h0,h1,h2,<-v,z,A]⟩
    .exact .inl ⟨(),trivial,by simp(disch:=omega)[round_eq,vK,h0,h1,<-v,z]⟩)
   (λ_ _=>⟨_,⟨false,rfl⟩,by simp(disch:=omega)[round_eq,vK,h0]⟩) (aT _) () trivial
 generalize q:(en.cz n).p 112 _=res;rw[pp 112 rfl E rfl,b8,b6]at q;simp(disch:=omega)[afY]at q;generalize v:iter _ _=o at q;obtain⟨_,⟨r,rfl⟩,rfl⟩:∃y,_/\o=some y:=by rw[<-v];exact h _ aq aq aq
 cases r
 .simp(disch:=omega)at q;exact⟨_,q.symm⟩
 .simp(disch:=omega)at q;exact⟨_,q.symm⟩
def jQ{t:Tr.Tree}(w:lM t){q:Tr.Node}(b:q∈t.nodes):q.b7.length<=64/\q.data.length<=4096:=by
 refine⟨by have:=w.bg.b7 q b;omega,?_⟩
 rcases w.zB b with⟨_,_,_,h,_⟩ | ⟨_,h,_⟩
 .exact h
 .rw[h];simp
def Ly(s:j5)(i:Nat)(ps:List tW):Prop:=ps.length<=s.jU.length+i/\∀p∈ps,p.node.b7.length<=64/\p.node.data.length<=4096
def Ly.more{ps:List tW}(h:Ly s i ps){q:Tr.Node}(n:q.b7.length<=64/\q.data.length<=4096)(a b:Int):Ly s (i+1) (ps++[⟨a,b,q⟩]):=by
 refine⟨by have:=h.1;simp;omega,λp l=>?_⟩
 rcases aY.1 l with l | l
 .exact h.2 p l
 .rw[cr.1 l];exact n
def Ly.stay{ps:List tW}(h:Ly s i ps):Ly s (i+1) ps:=⟨by have:=h.1;omega,h.2⟩
abbrev Z8:List AV:=[.b9 false [],I 0,I 0,I 0,.b9 false [],.b9 false [],.b9 false [],I 0]
def ac2{k:Nat}(h:sF k s)(hk:k<=1000){t:Tr.Tree}(w:lM t)(tick:Int)(e0:Env)(h2:e0 2 = .iV (Sc s))(h3:e0 3 = .iV [.b9 false (t.nodes.map Nd),I t.next,I t.ek])(h5:e0 5=I tick):
  ∃y,(∃ps,Ly s s.now.nodes.length ps/\y=(AX.exit 0,[AV.own 1 0 0 ps.length],[AB.var Z8,.row 0 8 (ps.map Pv)]))/\
   iter (round (en.cz 204) [6,7] [(.exit 0,[6])] wQ e0 2 [1]) ([.own 1 0 0 s.jU.length,I 0],[.var Z8,.row 0 8 (s.jU.map Pv)])=some y :=
 iQ (f := round (en.cz 204) [6, 7] [(.exit 0, [6])] wQ e0 2 [1]) s.now.nodes.length (λi (ps : List tW) => ([.own 1 0 0 ps.length, I (i : Int)], [.var Z8, .row 0 8 (ps.map Pv)])) (λy => ∃ ps, Ly s s.now.nodes.length ps /\ y = (AX.exit 0, [AV.own 1 0 0 ps.length], [AB.var Z8, .row 0 8 (ps.map Pv)])) (Ly s)
  (λi ps O r=>by
   have K:=h.sn;have L:=h.pl;have M:=h.w.wf.len;have v:=jQ h.w (aP O);have S:=r.1;obtain⟨q,z⟩:∃q,q=s.now.nodes[i]:=⟨_,rfl⟩;obtain⟨x,E⟩:∃x,x=s.since[i]:=⟨_,rfl⟩;have N:i<s.since.length:=af
   rw[<-z]at v;have o:=pT (n:=204) ah t (nc w) q.ino
   have Q:=λm (A:m.b7.length<=1000)=>s79 (n:=204) ah q m af A
   let⟨b,F⟩:=abV (n:=204) ah (l:=s.taken) (by have:=h.tl;omega) x tick
   left;have fin:∀(P:Prop),(∃G,Ly s (i+1) G/\P)->True:=λ_ _=>trivial
   unfold lq at o;cases H:find t.nodes q.ino with
   |none =>
    rw[H]at o;simp only[bS,Tv,Nd,jo,aN]at o;cases b with
    |true=>exact⟨_,r.more v x tick,by simp(disch:=omega)[round_eq,wQ,h2,h3,h5,<-z,<-E,ca 100,o,F]⟩
    |false=>exact⟨_,r.stay,by simp(disch:=omega)[round_eq,wQ,h2,h3,h5,<-z,<-E,ca 100,o,F]⟩
   |some m =>
    rw[H]at o;have A:=Q m (by have:=jQ w (fk H).1;omega)
    generalize decide (jy q=jy m)=c at *
    simp only[bC,Tv,Nd]at o A;cases c with
    |true=>exact⟨_,r.stay,by simp(disch:=omega)[round_eq,wQ,h2,h3,<-z,ca 100,o,ca 79,A]⟩
    |false =>
     cases b with
     |true=>exact⟨_,r.more v x tick,by simp(disch:=omega)[round_eq,wQ,h2,h3,h5,<-z,<-E,ca 100,o,ca 79,A,F]⟩
     |false=>exact⟨_,r.stay,by simp(disch:=omega)[round_eq,wQ,h2,h3,h5,<-z,<-E,ca 100,o,ca 79,A,F]⟩)
  (λps r=>⟨_,⟨ps,r,rfl⟩,by simp(disch:=omega)[round_eq,wQ,h2]⟩) (aT _) s.jU ⟨aV _,h.pe⟩
def ac1{k:Nat}(h:sF k s){t:Tr.Tree}(w:lM t)(x0:Int)(j:Nat)(N:j<t.nodes.length)(H:AH)(G:oE H)(L:Nat)(F:H.length=L)(e0:Env)(h2:e0 2 = .iV (Sc s))(h3:e0 3 = .iV [.b9 false (t.nodes.map Nd),I t.next,I t.ek])(o:e0 12=I (j:Int)):
  ∃y,(∃x,y=(AX.exit 4,[I x],H))/\iter (round (en.cz 204) [13,14] [(.exit 4,[13])] C7 e0 L []) ([I x0,I 0],H)=some y :=
 iQ (f:=round (en.cz 204) [13,14] [(.exit 4,[13])] C7 e0 L []) s.now.nodes.length (λi (x:Int)=>([I x,I (i:Int)],H)) (λy=>∃x,y=(AX.exit 4,[I x],H)) (λ_ _=>True)
  (λi x P _=>by
   have l:=G.same;rw[F]at l;have b:H.take L=H:=aO af
   have K:=h.sn;have M:=h.w.wf.len;have z:=jQ h.w (aP P);have v:=jQ w (aP N);obtain⟨q,r⟩:∃q,q=s.now.nodes[i]:=⟨_,rfl⟩;obtain⟨m,A⟩:∃m,m=t.nodes[j]:=⟨_,rfl⟩;have O:i<s.since.length:=af
   rw[<-r]at z;rw[<-A]at v;have E:=s79 (n:=204) ah q m af af
   generalize decide (jy q=jy m)=c at *
   simp only[Nd]at E;left;cases c with
   |true=>exact⟨s.since[i],trivial,by simp(disch:=omega)[round_eq,C7,h2,h3,o,<-r,<-A,E,l,b]⟩
   |false=>exact⟨x,trivial,by simp(disch:=omega)[round_eq,C7,h2,h3,o,<-r,<-A,E,l,b]⟩)
  (λx _=>⟨_,⟨x,rfl⟩,by
   have l:=G.same;rw[F]at l;have b:H.take L=H:=aO af
   simp(disch:=omega)[round_eq,C7,h2]⟩) (aT _) x0 trivial
def ac0{k:Nat}(h:sF k s){t:Tr.Tree}(w:lM t)(tick:Int)(H:AH)(q:oE H)(e0:Env)(h2:e0 2 = .iV (Sc s))(h3:e0 3 = .iV [.b9 false (t.nodes.map Nd),I t.next,I t.ek])(h5:e0 5=I tick):
  ∃y,(∃xs:ay,xs.length=t.nodes.length/\y=(AX.exit 2,[AV.own H.length 0 0 xs.length],H++[.row 0 1 (xs.map I)]))/\
   iter (round (en.cz 204) [11,12] [(.exit 2,[11])] Gs e0 (H.length+1) [H.length]) ([.own H.length 0 0 0,I 0],H++[.row 0 1 []])=some y :=
 iQ (f:=round (en.cz 204) [11,12] [(.exit 2,[11])] Gs e0 (H.length+1) [H.length]) t.nodes.length (λi (xs:ay)=>([.own H.length 0 0 xs.length,I (i:Int)],H++[.row 0 1 (xs.map I)])) (λy=>∃xs:ay,xs.length=t.nodes.length/\y=(AX.exit 2,[AV.own H.length 0 0 xs.length],H++[.row 0 1 (xs.map I)])) (λi xs=>xs.length=i)
  (λi xs F l=>by
   have E:=w.wf.len;have v:=λh0 Y=>q.tail (L:=H.length+1) (R:=[H.length]) af ai h0 Y
   have n:=jr H;have G:=λe0 h2 h3 r=>ac1 h w tick i F (H++[.row 0 1 (xs.map I)]) (vV q 1 _) (H.length+1) ai e0 h2 h3 r
   have z:=(vV q 1 (xs.map I)).same;simp only[aU,aS,bt,bW]at z;left;generalize b:round (en.cz 204) _ _ _ _ _ _ _=res;simp(disch:=omega)[round_eq,Gs,h3,h5,z,n]at b;generalize A:iter _ _=o at b;obtain⟨_,⟨x,rfl⟩,rfl⟩:∃y,_/\o=some y:=by rw[<-A];exact G _ (by simp(disch:=omega)[h2]) (by simp(disch:=omega)[h3]) aq
   refine⟨xs++[x],by simp[l],?_⟩
   rw[<-b];simp(disch:=omega)[v,n])
  (λxs l=>⟨_,⟨xs,l,rfl⟩,by
   have v:=λh0 Y=>q.tail (L:=H.length+1) (R:=[H.length]) af ai h0 Y
   have n:=jr H;simp(disch:=omega)[round_eq,Gs,h3]⟩) (aT _) [] rfl
def s55(F:204<n){k:Nat}(h:sF k s)(hk:k<=1000){t:Tr.Tree}(w:lM t):∃s',(en.cz n).p 55 [Sv s,Tv t]=some (Sv s')/\sF (k+1) s':=by
 generalize b:(en.cz n).p 55 _=res;rw[pp 55 rfl F rfl,b8,b6]at b;have i:=s78 (n:=204) ah s.now t (nc h.w) (nc w)
 have A:=h.pl;have z:=h.tk;simp only[Tv]at i;cases r:qO s.now t with
 |true =>
  rw[r]at i;simp(disch:=omega)[c55,ca 78,i]at b;exact⟨s,b.symm,h.mono af⟩
 |false =>
  rw[r]at i;have x:=w.wf.len;have E:=h.w.wf.len;simp(disch:=omega)[c55,ca 78,i]at b;generalize q:iter _ _=o at b;obtain⟨_,⟨ps,v,rfl⟩,rfl⟩:∃y,_/\o=some y:=by rw[<-q];exact ac2 h hk w (s.tick+1) _ aq aq aq
  have G:=v.1;simp(disch:=omega)at b;generalize q:iter _ _=o at b;obtain⟨_,⟨xs,l,rfl⟩,rfl⟩:∃y,_/\o=some y:=by rw[<-q];exact ac0 h w (s.tick+1) [.var Z8,.row 0 8 (ps.map Pv)] rfl _ aq aq aq
  simp(disch:=omega)at b;exact⟨⟨t,s.tick+1,xs,ps,s.taken,s.next⟩,b.symm,⟨w,l,by simp only;omega,by simp only;omega,v.2,h.tl,h.nx⟩⟩
section
variable{n:Nat}
end
def zip_map{α:Type}(F:α->AV)(p:α->α->Bool)(i:∀x y,p x y=true->F x=F y):∀ {a b:List α},(decide (a.length=b.length)&&(a.zip b).all λx=>p x.1 x.2)=true->a.map F=b.map F
 | [],[],_=>rfl
 | [],_::_,h=>by simp at h
 |_::_,[],h=>by simp at h
 |x::a,y::b,h=>by
  simp only[aS,dZ,bV,aF,decide_eq_true_eq,gG]at h;rw[bN,bN,i x y h.2.1,zip_map F p i (a:=a) (b:=b) (by simp[h.1,h.2.2])]
def Qf{a b:List Tr.Node}(h:a.map jy=b.map jy):a.map Nd=b.map Nd:=by
 have:∀x:Tr.Node,Nd (jy x)=Nd x:=λ_=>rfl
 have h2:=congrArg (List.map Nd) h;rw[e9,e9]at h2;exact h2
def IL{a b:Tr.Tree}(h:qO a b=true):Tv a=Tv b:=by
 simp only[qO,aF,decide_eq_true_eq]at h;simp only[Tv,h.1,h.2.1,Qf h.2.2]
section
variable{n:Nat}
def s41(i:148<n){a b:ay}(q:a.length<=1000000)(l:b.length<=1000000):∃r,(en.cz n).p 41 [.b9 false (a.map I),.b9 false (b.map I)]=some (.bool r)/\(r=true->a.map I=b.map I):=by
 rw[pp 41 rfl i rfl];refine⟨_,eqG (z:=1) (agg:=false) (o:=.bin .neq (.t 19) (.t 23)) (F:=I) (λ_=>rfl) (λ_=>rfl) (λx y=>decide (x=y)) (λx y e h h1 h2=>?_) q l false false,zip_map I (λx y=>decide (x=y)) λx y h=>by simpa using h⟩
 by_cases c:x=y
 .simp(disch:=omega)[h1,h2,c]
 .simp(disch:=omega)[h1,h2,c]
def s43(q:150<n){a b:List qI}(A:a.length<=1000000)(v:b.length<=1000000):∃r,(en.cz n).p 43 [.b9 false (a.map Xv),.b9 false (b.map Xv)]=some (.bool r)/\(r=true->a.map Xv=b.map Xv):=by
 rw[pp 43 rfl q rfl];refine⟨_,eqG (z:=3) (agg:=true) (o:=.seq true [0,0,0] (.t 19) (.t 23)) (F:=Xv) (λ_=>rfl) (λ_=>rfl) (λx y=>decide (x.id=y.id/\x.ino=y.ino/\x.at_=y.at_)) (λx y e h h1 h2=>?_) A v false false,zip_map Xv (λx y=>decide (x.id=y.id/\x.ino=y.ino/\x.at_=y.at_)) λx y h=>by simp only[decide_eq_true_eq]at h;simp[h]⟩
 by_cases i:x.id=y.id
 .by_cases l : x.ino = y.ino
  .by_cases c3:x.at_=y.at_
   .simp(disch:=omega)[h1,h2,iU,i,l,c3]
   .simp(disch:=omega)[h1,h2,iU,i,l,c3]
  .simp(disch:=omega)[h1,h2,iU,i,l]
 .simp(disch:=omega)[h1,h2,iU,i]
def s44(q:151<n){a b:List Ho}(A:a.length<=1000000)(v:b.length<=1000000):∃r,(en.cz n).p 44 [.b9 false (a.map Hv),.b9 false (b.map Hv)]=some (.bool r)/\(r=true->a.map Hv=b.map Hv):=by
 rw[pp 44 rfl q rfl];refine⟨_,eqG (z:=3) (agg:=true) (o:=.seq true [0,0,0] (.t 19) (.t 23)) (F:=Hv) (λ_=>rfl) (λ_=>rfl) (λx y=>decide (x.c=y.c/\x.h=y.h/\x.ino=y.ino)) (λx y e h h1 h2=>?_) A v false false,zip_map Hv (λx y=>decide (x.c=y.c/\x.h=y.h/\x.ino=y.ino)) λx y h=>by simp only[decide_eq_true_eq]at h;simp[h]⟩
 by_cases i:x.c=y.c
 .by_cases l : x.h = y.h
  .by_cases c3:x.ino=y.ino
   .simp(disch:=omega)[h1,h2,iU,i,l,c3]
   .simp(disch:=omega)[h1,h2,iU,i,l,c3]
  .simp(disch:=omega)[h1,h2,iU,i,l]
 .simp(disch:=omega)[h1,h2,iU,i]
def s45(q:152<n){a b:List Qu}(A:a.length<=1000000)(v:b.length<=1000000):∃r,(en.cz n).p 45 [.b9 false (a.map Qv),.b9 false (b.map Qv)]=some (.bool r)/\(r=true->a.map Qv=b.map Qv):=by
 rw[pp 45 rfl q rfl];refine⟨_,eqG (z:=3) (agg:=true) (o:=.seq true [0,0,0] (.t 19) (.t 23)) (F:=Qv) (λ_=>rfl) (λ_=>rfl) (λx y=>decide (x.ino=y.ino/\x.nodes=y.nodes/\x.bytes=y.bytes)) (λx y e h h1 h2=>?_) A v false false,zip_map Qv (λx y=>decide (x.ino=y.ino/\x.nodes=y.nodes/\x.bytes=y.bytes)) λx y h=>by simp only[decide_eq_true_eq]at h;simp[h]⟩
 by_cases i:x.ino=y.ino
 .by_cases l : x.nodes = y.nodes
  .by_cases c3:x.bytes=y.bytes
   .simp(disch:=omega)[h1,h2,iU,i,l,c3]
   .simp(disch:=omega)[h1,h2,iU,i,l,c3]
  .simp(disch:=omega)[h1,h2,iU,i,l]
 .simp(disch:=omega)[h1,h2,iU,i]
def s39(F:110<n)(x y:tW)(E:x.node.b7.length<=1000)(A:y.node.b7.length<=1000):∃r,(en.cz n).p 39 [Pv x,Pv y]=some (.bool r)/\(r=true->Pv x=Pv y):=by
 have z:∀q:Tr.Node,q.b7.length<=1000->Bt ⟨false,[q],0,0⟩:=λq h=>⟨ai,an h,ai,ai,ai,ai⟩
 have o:=s40 (n:=110) ah ⟨false,[x.node],0,0⟩ ⟨false,[y.node],0,0⟩ (z _ E) (z _ A)
 have v:qO ⟨false,[x.node],0,0⟩ ⟨false,[y.node],0,0⟩=true->Nd x.node=Nd y.node:=λh=>by
  have:=IL h
  simpa[Tv]using this
 generalize qO ⟨false,[x.node],0,0⟩ ⟨false,[y.node],0,0⟩=r at *
 obtain⟨a,b,q⟩:=x;obtain⟨c,d,p⟩:=y;simp only[Tv,bN,aN,Nd]at o v;rw[pp 39 rfl F rfl,b8,b6]
 by_cases i:a=c
 .by_cases l : b = d
  .refine⟨r,by simp(disch:=omega)[c39,i,l,ca 40,o],λh=>?_⟩
   have:=v h;simp only[Pv,i,l]
   simpa using this
  .exact⟨false,by simp(disch:=omega)[c39,i,l],ai⟩
 .exact⟨false,by simp(disch:=omega)[c39,i],ai⟩
def l42{X:AH}(N:oE X){a b:List tW}(hl:a.length=b.length)(P:a.length<=1000000)(F:∀x∈a,x.node.b7.length<=1000)(E:∀x∈b,x.node.b7.length<=1000)(e0:Env)(h1:e0 1 = .b9 false (b.map Pv))(h2:e0 2 = .fn (.func 39) [] [])(o:e0 15 = .b9 false (a.map Pv))(h:e0 16=I (a.length:Int)):
  ∃y,((y=(AX.exit 0,[],X)/\a.map Pv=b.map Pv)\/∃Z,y=(AX.ret,[AV.bool false],X++Z))/\iter (round (en.cz 149) [17] [(.exit 0,[]),(.ret,[6])] Da e0 X.length []) ([I 0],X)=some y :=
 iQ (f:=round (en.cz 149) [17] [(.exit 0,[]),(.ret,[6])] Da e0 X.length []) a.length (λi (_:Unit)=>([I (i:Int)],X)) (λy=>(y=(AX.exit 0,[],X)/\a.map Pv=b.map Pv)\/∃Z,y=(AX.ret,[AV.bool false],X++Z)) (λi _=>(a.map Pv).take i=(b.map Pv).take i)
  (λi _ M H=>by
   have l:i<b.length:=af
   have L:=F _ (aP M);have K:=E _ (aP l);obtain⟨x,v⟩:∃x,x=a[i]:=⟨_,rfl⟩;obtain⟨y,q⟩:∃y,y=b[i]:=⟨_,rfl⟩;rw[<-v]at L;rw[<-q]at K;obtain⟨r,G,O⟩:=s39 (n:=149) ah x y L K
   simp only[Pv]at G;have z:=λZ=>fm (l₁:=X) (l₂:=Z) rfl
   have Q:=N.tail (aV _) (R:=[]) ai
   have A:=N.same;cases r with
   |true=>exact .inl ⟨(),by rw[eR,eR,H,bP,bP,aH M,aH l,<-v,<-q,cS,cS,O rfl],by simp(disch:=omega)[round_eq,Da,h1,h2,o,h,<-v,<-q,ca 39,G,z,A]⟩
   |false=>exact .inr ⟨_,.inr ⟨_,rfl⟩,by simp(disch:=omega)[round_eq,Da,h1,h2,o,h,<-v,<-q,ca 39,G];rfl⟩)
  (λ_ H=>⟨_,.inl ⟨rfl,by rwa [aO ai,aO ak]at H⟩,by simp(disch:=omega)[round_eq,Da,h]⟩) (aT _) () rfl
def s42(z:149<n){X:AH}(q:oE X){a b:List tW}(E:a.length<=1000000)(l:∀x∈a,x.node.b7.length<=1000)(i:∀x∈b,x.node.b7.length<=1000):∃r Z,eT (en.cz n) 42 [.b9 false (a.map Pv),.b9 false (b.map Pv),.fn (.func 39) [] []] X=some (.bool r,X++Z)/\(r=true->a.map Pv=b.map Pv):=by
 generalize h:eT (en.cz n) 42 _ _=res;rw[ph 42 rfl z rfl,b6]at h
 by_cases hl:a.length=b.length
 .simp(disch:=omega)[c42,hl,q.same]at h;generalize v:iter _ _=o at h;obtain⟨_,⟨rfl,A⟩ | ⟨H,rfl⟩,rfl⟩:∃y,_/\o=some y:=by rw[<-v];exact l42 q hl E l i _ aq aq aq (by simp(disch:=omega)[hl])
  .simp(disch:=omega)at h;exact⟨true,[],by rw[<-h,cC],λ_=>A⟩
  .simp(disch:=omega)at h;exact⟨false,_,h.symm,ai⟩
 .simp(disch:=omega)[c42]at h;exact⟨false,[],by rw[<-h,cC],ai⟩
def s18(N:153<n){f g:FS}{k:Nat}(z:mF k f)(hg:mF k g)(hk:k<=400):∃r,(en.cz n).p 18 [Fv f,Fv g]=some (.bool r)/\(r=true->Fv f=Fv g):=by
 have h1:=z.s.sn;have h2:=z.s.w.wf.len;have h3:=z.s.pl;have h4:=z.s.tl;have h5:=z.hl;have h6:=z.ql;have g1:=hg.s.sn;have Z:=hg.s.w.wf.len;have W:=hg.s.tl;have U:=hg.hl;have T:=hg.ql;have v:=s40 (n:=153) ah f.s.now g.s.now (nc z.s.w) (nc hg.s.w)
 have H:=IL (a:=f.s.now) (b:=g.s.now);let⟨M,q,e1⟩:=s41 (n:=153) ah (a:=f.s.since) (b:=g.s.since) af af
 let⟨r3,y,Q⟩:=s43 (n:=153) ah (a:=f.s.taken) (b:=g.s.taken) af af
 let⟨r4,A,P⟩:=s44 (n:=153) ah (a:=f.holds) (b:=g.holds) af af
 let⟨K,E,O⟩:=s45 (n:=153) ah (a:=f.jG) (b:=g.jG) af af
 let⟨L,Y,o,S⟩:=s42 (n:=153) ah (X:=[.var (Sc f.s),.var (Sc g.s)]) (kf (by simp[gd,AV.jW])) (a:=f.s.jU) (b:=g.s.jU) af (λx G=>by have:=(z.s.pe x G).1;omega) (λx G=>by have:=(hg.s.pe x G).1;omega)
 generalize qO f.s.now g.s.now=r0 at *
 simp only[Tv,Sc,aK,aL]at v o H;generalize h:(en.cz n).p 18 _=res;rw[pp 18 rfl N rfl,b8,b6]at h;cases r0 with
 |false =>
  simp(disch:=omega)[PS,ca 40,v]at h;exact⟨false,h.symm,ai⟩
 |true =>
  by_cases i:f.s.tick=g.s.tick
  case neg =>
   simp(disch:=omega)[PS,ca 40,v,i]at h;exact⟨false,h.symm,ai⟩
  by_cases l:f.s.next=g.s.next
  case neg =>
   simp(disch:=omega)[PS,ca 40,v,i,l]at h;exact⟨false,h.symm,ai⟩
  simp only[i,l]at o;cases M with
  |false =>
   simp(disch:=omega)[PS,ca 40,v,i,l,ca 41,q]at h;exact⟨false,h.symm,ai⟩
  |true =>
   cases L with
   |false =>
    simp(disch:=omega)[PS,ca 40,v,i,l,ca 41,q,o]at h;exact⟨false,h.symm,ai⟩
   |true =>
    cases r3 with
    |false =>
     simp(disch:=omega)[PS,ca 40,v,i,l,ca 41,q,o,ca 43,y]at h;exact⟨false,h.symm,ai⟩
    |true =>
     cases r4 with
     |false =>
      simp(disch:=omega)[PS,ca 40,v,i,l,ca 41,q,o,ca 43,y,ca 44,A]at h;exact⟨false,h.symm,ai⟩
     |true =>
      cases K with
      |false =>
       simp(disch:=omega)[PS,ca 40,v,i,l,ca 41,q,o,ca 43,y,ca 44,A,ca 45,E]at h;exact⟨false,h.symm,ai⟩
      |true =>
       simp(disch:=omega)[PS,ca 40,v,i,l,ca 41,q,o,ca 43,y,ca 44,A,ca 45,E]at h;refine⟨true,h.symm,λ_=>?_⟩
       have F:=H rfl;simp only[AV.agg.injEq,dM]at F;simp only[Fv,Fc,Sc,F.1,F.2.1,F.2.2.1,e1 rfl,S rfl,Q rfl,P rfl,O rfl,i,l]
end
end Go.Proofs.YtghgbehknhmnaaaGreatDoor
