/- Part of the proof that TopScriptsCard holds. -/
import Derived.Test.YtahlmpbhfljalaaGreatDoorRp32i
set_option linter.all false
namespace Go.Proofs.YtahlmpbhfljalaaGreatDoor
open Go.Am Go.Tr Go.Am.Nm Go.Lib
abbrev Tc(t:Tr.Tree)(tick:Int)(sn b:AV)(s:lM):List AV:=[.en false (t.nodes.map Nd),I t.next,I t.gr,I tick,sn,b,.en false (s.taken.map Xv),I s.next]
def ME{l:List Tr.Node}(hs:kI l){i:Int}(h:¬JZ l i<0):∃k:Nat,JZ l i=k/\k<l.length:=by
 have:=UU hs i;exact⟨(JZ l i).toNat,aa,aa⟩
def VN{s:lM}{k:Nat}(h:A9 k s)(hk:k<=1000){t:Tr.Tree}(w:nB t)(tick:Int)(e0:Env)(h2:e0 2 = .iw (Sc s))(h3:e0 3 = .iw [.en false (t.nodes.map Nd),I t.next,I t.gr])(h5:e0 5 = .ptr 2 0 0 0)(r:e0 32 = .en false (s.now.nodes.map Nd))(o:e0 33=I (s.now.nodes.length:Int)):
  ∃y,(∃ps v G,RZ s s.now.nodes.length ps/\y=(AX.exit 0,[],AB.var Z8 :: .row v 8 (ps.map Pv) :: .var (Tc t tick (.en true []) (.own 1 v 0 ps.length) s)::G))/\
   iter (jY (gV.fk 105) [34] [(.exit 0,[])] rq e0 3) ([I 0],[.var Z8,.row 0 8 (s.lU.map Pv),.var (Tc t tick (.en true []) (.own 1 0 0 s.lU.length) s)])=some y :=
 ji (f := jY (gV.fk 105) [34] [(.exit 0, [])] rq e0 3) s.now.nodes.length (λi (x : List Ba × Nat × AH) => ([I (i : Int)], .var Z8 :: .row x.2.1 8 (x.1.map Pv) :: .var (Tc t tick (.en true []) (.own 1 x.2.1 0 x.1.length) s) :: x.2.2)) (λy => ∃ ps v G, RZ s s.now.nodes.length ps /\ y = (AX.exit 0, [], AB.var Z8 :: .row v 8 (ps.map Pv) :: .var (Tc t tick (.en true []) (.own 1 v 0 ps.length) s) :: G)) (λi x => RZ s i x.1)
  (λi x X z=>by
   let⟨ps,v,G⟩:=x;simp only at z;have Q:=h.sn;have S:=h.pl;have T:=h.w.wf.len;have P:=w.wf.len;have A:=mA h.w (aU X);have Y:=z.1;obtain⟨q,E⟩:∃q,q=s.now.nodes[i]:=⟨_,rfl⟩;obtain⟨x,hx⟩:∃x,x=s.since[i]:=⟨_,rfl⟩;have W:i<s.since.length:=aa
   rw[<-E]at A;have F:=abo (n:=105) af w.wf.jh aa q.ino
   have H:=abm (n:=105) af (l:=s.taken) (by have:=h.tl;omega) x tick
   generalize vj s.taken x tick=b at H;left
   by_cases O:JZ t.nodes q.ino<0
   .generalize JZ t.nodes q.ino=j at *
    cases b with
    |true=>exact⟨(_,_,_),z.more A x tick,by simp(disch:=omega)[ia,rq,h2,h3,h5,r,o,<-E,<-hx,ca 229,F,O,H];first | rfl | exact⟨rfl,rfl⟩⟩
    |false=>exact⟨(_,_,_),z.stay,by simp(disch:=omega)[ia,rq,h2,h3,h5,r,o,<-E,<-hx,ca 229,F,O,H];first | rfl | exact⟨rfl,rfl⟩⟩
   .let⟨j,U,N⟩:=ME w.wf.jh O;obtain⟨m,K⟩:∃m,m=t.nodes[j]:=⟨_,rfl⟩;have M:=mA w (aU N);rw[<-K]at M;let⟨c,L⟩:=abn (n:=105) af q m aa aa
    rw[U]at F;simp only[Nd]at L;cases c with
    |true=>exact⟨(_,_,_),z.stay,by simp(disch:=omega)[ia,rq,h3,r,o,<-E,ca 229,F,<-K,L];first | rfl | exact⟨rfl,rfl⟩⟩
    |false =>
     cases b with
     |true=>exact⟨(_,_,_),z.more A x tick,by simp(disch:=omega)[ia,rq,h2,h3,h5,r,o,<-E,<-hx,ca 229,F,<-K,L,H];first | rfl | exact⟨rfl,rfl⟩⟩
     |false=>exact⟨(_,_,_),z.stay,by simp(disch:=omega)[ia,rq,h2,h3,h5,r,o,<-E,<-hx,ca 229,F,<-K,L,H];first | rfl | exact⟨rfl,rfl⟩⟩)
  (λx z=>⟨_,⟨x.1,x.2.1,x.2.2,z,rfl⟩,by simp(disch:=omega)[ia,rq,o]⟩) (bp _) (s.lU,0,[]) ⟨aT _,h.pe⟩
def O6:Option (Nat×Nat)->Nat->AV
 |none,_=>.en true []
 |some p,n=>.own (p.1+3) p.2 0 n
def Ui(G:AH):Option (Nat×Nat)->ax->Prop
 |none,xs=>xs=[]
 |some p,xs=>G[p.1]? = some (.row p.2 1 (xs.map I))
def VM{s:lM}{k:Nat}(h:A9 k s){t:Tr.Tree}(w:nB t)(tick:Int)(v T:Nat)(R:AB)(G:AH)(e0:Env)(h2:e0 2 = .iw (Sc s))(h5:e0 5 = .ptr 2 0 0 0)(l:e0 84 = .en false (t.nodes.map Nd))(b:e0 85=I (t.nodes.length:Int)):
  ∃y,(∃o xs S,xs.length=t.nodes.length/\Ui S o xs/\y=(AX.exit 2,[],AB.var Z8::R :: .var (Tc t tick (O6 o xs.length) (.own 1 v 0 T) s)::S))/\
   iter (jY (gV.fk 105) [86] [(.exit 2,[])] pT e0 3) ([I 0],.var Z8::R :: .var (Tc t tick (.en true []) (.own 1 v 0 T) s)::G)=some y :=
 ji (f := jY (gV.fk 105) [86] [(.exit 2, [])] pT e0 3) t.nodes.length (λi (x : Option (Nat × Nat) × ax × AH) => ([I (i : Int)], .var Z8 :: R :: .var (Tc t tick (O6 x.1 x.2.1.length) (.own 1 v 0 T) s) :: x.2.2)) (λy => ∃ o xs S, xs.length = t.nodes.length /\ Ui S o xs /\ y = (AX.exit 2, [], AB.var Z8 :: R :: .var (Tc t tick (O6 o xs.length) (.own 1 v 0 T) s) :: S)) (λi x => x.2.1.length = i /\ Ui x.2.2 x.1 x.2.1)
  (λi x hi U=>by
   let⟨o,xs,G⟩:=x;let⟨z,hG⟩:=U;simp only at z hG;have hsl:=h.sn;have hnl:=h.w.wf.len;have hwl:=w.wf.len;have Y:=mA w (aU hi);obtain⟨q,H⟩:∃q,q=t.nodes[i]:=⟨_,rfl⟩;rw[<-H]at Y;have E:=abo (n:=105) af h.w.wf.jh aa q.ino
   have hc:(∃j,JZ s.now.nodes q.ino=j/\j<0)\/∃(j:Nat) (F:j<s.now.nodes.length) (c:Bool),JZ s.now.nodes q.ino=j/\(gV.fk 105).p 230 [Nd q,Nd s.now.nodes[j]]=some (.bool c):=by
    by_cases W:JZ s.now.nodes q.ino<0
    .exact .inl ⟨_,rfl,W⟩
    .let⟨j,F,P⟩:=ME h.w.wf.jh W;let⟨c,A⟩:=abn (n:=105) af q s.now.nodes[j] aa (by have:=(mA h.w (aU P)).1;omega)
     exact .inr ⟨j,P,c,F,A⟩
   left;cases o with
   |none =>
    have X:xs=[]:=hG;subst X;have M:i=0:=z.symm;have fin:∀x,Ui (G++[.var (Nc q),.row 0 1 [I x]]) (some (G.length+1,0)) [x]:=λx=>by simp[Ui]
    rcases hc with⟨j,F,W⟩ | ⟨j,F,c,L,A⟩
    .rw[F]at E;exact⟨(some (G.length+1,0),[tick],G++[.var (Nc q),.row 0 1 [I tick]]),⟨by simp[M],fin _⟩,by simp(disch:=omega)[ia,pT,h2,h5,l,b,<-H,ca 229,E,O6]⟩
    .obtain⟨m,K⟩:∃m,m=s.now.nodes[j]:=⟨_,rfl⟩;obtain⟨x,hx⟩:∃x,x=s.since[j]:=⟨_,rfl⟩;have Z:j<s.since.length:=by omega
     rw[<-K]at A;rw[L]at E;simp only[Nd]at A;cases c with
     |true=>exact⟨(some (G.length+1,0),[x],G++[.var (Nc q),.row 0 1 [I x]]),⟨by simp[M],fin _⟩,by simp(disch:=omega)[ia,pT,h2,h5,l,b,<-H,ca 229,E,<-K,A,<-hx,O6]⟩
     |false=>exact⟨(some (G.length+1,0),[tick],G++[.var (Nc q),.row 0 1 [I tick]]),⟨by simp[M],fin _⟩,by simp(disch:=omega)[ia,pT,h2,h5,l,b,<-H,ca 229,E,<-K,A,O6]⟩
   |some p =>
    let⟨r,v'⟩:=p;have Q:G[r]? = some (.row v' 1 (xs.map I)):=hG;have O:r<G.length:=(az.1 Q).1;have N:=(az.1 Q).2
    have fin:∀x,Ui (G.set r (.row (v'+1) 1 ((xs++[x]).map I))++[.var (Nc q)]) (some (r,v'+1)) (xs++[x]):=λx=>by
     simp only[Ui];rw[aI (ak O),bh O]
    rcases hc with⟨j,F,W⟩ | ⟨j,F,c,L,A⟩
    .rw[F]at E;exact⟨(some (r,v'+1),xs++[tick],_),⟨by simp[z],fin _⟩,by simp(disch:=omega)[ia,pT,h2,h5,l,b,<-H,ca 229,E,O6,N,agp]⟩
    .obtain⟨m,K⟩:∃m,m=s.now.nodes[j]:=⟨_,rfl⟩;obtain⟨x,hx⟩:∃x,x=s.since[j]:=⟨_,rfl⟩;have Z:j<s.since.length:=by omega
     rw[<-K]at A;rw[L]at E;simp only[Nd]at A;cases c with
     |true=>exact⟨(some (r,v'+1),xs++[x],_),⟨by simp[z],fin _⟩,by simp(disch:=omega)[ia,pT,h2,h5,l,b,<-H,ca 229,E,<-K,A,<-hx,O6,N,agp]⟩
     |false=>exact⟨(some (r,v'+1),xs++[tick],_),⟨by simp[z],fin _⟩,by simp(disch:=omega)[ia,pT,h2,h5,l,b,<-H,ca 229,E,<-K,A,O6,N,agp]⟩)
  (λx U=>⟨_,⟨x.1,x.2.1,x.2.2,U.1,U.2,rfl⟩,by simp(disch:=omega)[ia,pT,b]⟩) (bp _) (none,[],G) ⟨rfl,rfl⟩
def UF{n:Nat}(P:105<n){s:lM}{k:Nat}(h:A9 k s)(hk:k<=1000){t:Tr.Tree}(w:nB t):∃s',(gV.fk n).p 127 [Sv s,Tv t]=some (Sv s')/\A9 (k+1) s':=by
 generalize b:(gV.fk n).p 127 _=res;rw[pp 127 rfl P rfl,gd,b6]at b;have l:=ahz (n:=105) af s.now t (vV h.w) (vV w)
 have z:=aiq (n:=105) af
 have N:=h.pl;have M:=h.tk;have L:=w.wf.len;have O:=h.w.wf.len;simp only[Tv]at l;cases E:yV s.now t with
 |true =>
  rw[E]at l;simp(disch:=omega)[c127,ca 170,l]at b;exact⟨s,b.symm,h.mono aa⟩
 |false =>
  rw[E]at l;simp(disch:=omega)[c127,ca 170,l,z,iL]at b;generalize hx:iter _ _=o at b;obtain⟨_,⟨ps,v,G,F,rfl⟩,rfl⟩:∃y,_/\o=some y:=by rw[<-hx];exact VN h hk w (s.tick+1) _ an an an an an
  have S:=F.1;simp(disch:=omega)at b;generalize hx:iter _ _=o at b;obtain⟨_,⟨o,xs,K,i,H,rfl⟩,rfl⟩:∃y,_/\o=some y:=by rw[<-hx];exact VM h w (s.tick+1) v ps.length (.row v 8 (ps.map Pv)) G _ an an an an
  refine⟨⟨t,s.tick+1,xs,ps,s.taken,s.next⟩,?_,⟨w,i,by simp only;omega,by simp only;omega,F.2,h.tl,h.nx⟩⟩
  rw[<-b];cases o with
  |none =>
   have x:xs=[]:=H;subst x;let⟨h0,_⟩:=w.first;simp only[aR]at i;omega
  |some p =>
   let⟨r,v'⟩:=p;have q:K[r]? = some (.row v' 1 (xs.map I)):=H;have Q:r<K.length:=(az.1 q).1;have A:=(az.1 q).2;simp(disch:=omega)[O6,A]
structure Nsm(k:Nat)(l:List Tr.Node):Prop where
 len:l.length<=k
 sm:∀q∈l,q.ek.length<=64/\q.data.length<=4096/\DT q
abbrev Wc(f:FS)(o:rB)(a:uZ):List AV:=Fc f++(Oc o++Ac a)
attribute [simp] Wc
abbrev oB(B0 B1 B2 B3:AB)(f:FS)(o:rB)(a:uZ)(Y:AH):AH:=B0::B1::B2::B3 :: .var (Wc f o a)::Y
attribute [simp] oB
def Pk(r:AV⊕Pn):Prop:=∃e,r = .inr (41,.i64,e)/\Er e
variable{n:Nat}{B0 B1 B2:AB}
def uB(b:22<n)(H:AH):(gV.fk n).x 79 [.int .i64 0] H=some (.inl (.iV []),H):=by
 rw[p79 b,iR];simp(disch:=omega)[c79]
def qO(b:22<n){e:Int}(h:e≠0)(H:AH):(gV.fk n).x 79 [.int .i64 e] H=some (.inr (41,.i64,e),H):=by
 rw[p79 b,iR];simp(disch:=omega)[c79,h]
def CK(b:86<n)(e:Int)(H:AH):(gV.fk n).x 34 [.bool true,.int .i64 e] H=some (.inl (.iV []),H):=by
 rw[p34 b,iR];simp(disch:=omega)[c34]
def CL(b:86<n){e:Int}(i:e≠0)(H:AH):(gV.fk n).x 34 [.bool false,.int .i64 e] H=some (.inr (41,.i64,e),H):=by
 have h:=qO (n:=86) af i
 rw[p34 b,iR];simp(disch:=omega)[c34,h]
section
variable{n:Nat}{f:FS}{k:Nat}{B0 B1 B2 B3:AB}{o:rB}{a:uZ}
def aby(x:70<n)(h:uY k f)(i:Int)(Y:AH):∃r,r.all gX=true/\rF (gV.fk n) 187 [.ptr 4 0 0 0,I i] (oB B0 B1 B2 B3 f o a Y)=some (Nd (iq f.s.now i),oB B0 B1 B2 B3 f o a (Y++r)):=by
 have l:=AD (n:=70) af f.s.now h.s.w.wf.jh (vV h.s.w).len i
 have hg:ud (find f.s.now.nodes i) = .iV [Nd (iq f.s.now i),.bool (find f.s.now.nodes i).isSome]:=by
  unfold ud iq;cases find f.s.now.nodes i<;>rfl
 rw[hg]at l;let⟨E,A,z,y⟩:=mb h.s.w i;have v:=Re.j6 h.s.w i;generalize iq f.s.now i=q at *
 generalize(find f.s.now.nodes i).isSome=b at *
 simp only[Tv,Nd]at l;rw[ph 187 rfl x rfl,b6];refine⟨[.var (Nc q),.var (Nc q)],rfl,?_⟩;simp(disch:=omega)[afy,ca 199,l]
set_option maxHeartbeats 4000000 in
def GV(A:71<n)(l:uY k f)(p:aq)(Y:AH):∃r y,y.all gX=true/\(gV.fk n).x 114 [.ptr 4 0 0 0,.str p] (oB B0 B1 B2 B3 f o a Y)=some (r,oB B0 B1 B2 B3 f o a (Y++y))/\(r = .inl (Nd (iq f.s.now (jQ f.s.now p).1))\/Pk r):=by
 have v:=abz (n:=71) af f.s.now l.s.w p
 have b:=λY=>aby (n:=71) af l (jQ f.s.now p).1 (B0:=B0) (B1:=B1) (B2:=B2) (B3:=B3) (o:=o) (a:=a) Y
 have h:=Jo f.s.now p;generalize jQ f.s.now p=w at *
 obtain⟨i,e⟩:=w;dsimp only at h;simp only at v b⊢;simp only[Tv]at v
 by_cases E:e=0
 .have z:=uB (n:=71) af
  subst E;obtain⟨y,G,b⟩:=b (Y++[.var [I 0,I 0,I 0,.en false [],.en false [],I 0]]);obtain⟨M,L,K,H⟩:=mb l.s.w i;have F:=Re.j6 l.s.w i;generalize iq f.s.now i=q at *
  refine⟨.inl (Nd q),[.var (Nc q)]++y,by rw[cg,G];rfl,?_,.inl rfl⟩
  simp only[oB,Wc,Fc,Sc,Oc,Ac,Nd,aM,aN,bV]at b;rw[acq A,iR];simp(disch:=omega)[RH,ca 186,v,z,b]
 .have z:=qO (n:=71) af E
  refine⟨.inr (41,.i64,e),[.var [I 0,I 0,I 0,.en false [],.en false [],I 0]],rfl,?_,.inr ⟨e,rfl,aa⟩⟩
  rw[acq A,iR];simp(disch:=omega)[RH,ca 186,v,z]
def Me(q:76<n)(A:uY k f){p:aq}(z:p.length<=1000000)(Y:AH):∃r,(gV.fk n).x 115 [.ptr 4 0 0 0,.str p] (oB B0 B1 B2 B3 f o a Y)=some (r,oB B0 B1 B2 B3 f o a Y)/\((∃d s,r = .inl (.iV [I d,.str s]))\/Pk r):=by
 have b:=ahy (n:=76) af p z
 unfold M5 at b;cases hl:M6 p with
 |none =>
  rw[hl]at b;have l:=qO (n:=76) af (e:=60) af
  refine⟨.inr (41,.i64,60),?_,.inr ⟨60,rfl,aa⟩⟩
  rw[U4 q,iR];simp(disch:=omega)[Oy,ca 188,b,l]
 |some x =>
  let⟨nm,up⟩:=x;rw[hl]at b;have v:=abz (n:=76) af f.s.now A.s.w up
  have h:=uB (n:=76) af
  have i:=Jo f.s.now up;generalize jQ f.s.now up=w at *
  let⟨d,e⟩:=w;dsimp only at i;simp only[Tv]at v b
  by_cases y:e=0
  .subst y;refine⟨.inl (.iV [I d,.str nm]),?_,.inl ⟨d,nm,rfl⟩⟩;rw[U4 q,iR];simp(disch:=omega)[Oy,ca 188,b,h,ca 186,v]
  .have l:=qO (n:=76) af y
   refine⟨.inr (41,.i64,e),?_,.inr ⟨e,rfl,aa⟩⟩
   rw[U4 q,iR];simp(disch:=omega)[Oy,ca 188,b,h,ca 186,v,l]
end
structure TG(a:uZ):Prop where
 n:a.names.length<=1000
 d:a.data.length<=5000
 nl:∀s∈a.names,s.length<=1000
 r:Er a.err/\Er a.ino/\Er a.kind/\Er a.n/\Er a.m
structure Ook(o:rB):Prop where
 p:o.path.length<=1000
 t:o.to.length<=1000
 d:o.data.length<=5000
 r:Er o.kind/\Er o.client/\Er o.n/\Er o.m/\Er o.handle
abbrev Az:uZ:=⟨0,0,0,0,0,[],[]⟩
abbrev Wq(f:FS)(o:rB)(a:uZ)(b h:AV):List AV:=Sc f.s++([.en false (f.holds.map Hv),b]++(Oc o++[.int .i64 a.err,.int .i64 a.ino,.int .i64 a.kind,.int .i64 a.n,.int .i64 a.m,.en false (a.names.map AV.str),h]))
attribute [simp] Wq
def Fin(B0 B1 B2 B3:AB)(f:FS)(o:rB)(a:uZ)(H:AH):Prop:=∃h i Y,H=B0::B1::B2::B3 :: .var (Wq f o a h i)::Y/\
 ((h = .en false (f.jy.map Qv)/\i = .en false (a.data.map B))\/
  (i = .en false (a.data.map B)/\∃b es,h = .own (b+5) 0 0 f.jy.length/\Y[b]? = some (.lu 0 3 es)/\f.jy.length<=es.length/\es.take f.jy.length=f.jy.map Qv)\/
  (h = .en false (f.jy.map Qv)/\∃b v,i = .own (b+5) v 0 a.data.length/\Y[b]? = some (.row v 1 (a.data.map B))))
def QY(B0 B1 B2 B3:AB)(f:FS)(o:rB)(a:uZ)(Y:AH):Fin B0 B1 B2 B3 f o a (oB B0 B1 B2 B3 f o a Y):=⟨_,_,Y,rfl,.inl ⟨rfl,rfl⟩⟩
def Out(B0 B1 B2 B3:AB)(k:Nat)(o:rB)(r:AV⊕Pn)(H:AH):Prop:=(r = .inl (.iV [])/\∃f a,uY (k+1) f/\TG a/\Fin B0 B1 B2 B3 f o a H)\/(Pk r/\∃Y,H=B0::B1::B2::B3::Y)
def pV(K m:Nat):Prop:=∀ {n:Nat},m<n->∀ {k:Nat} {f:FS} {o:rB},uY k f->k<=200->Ook o->∀(B0 B1 B2 B3:AB),gX B0=true->gX B1=true->gX B2=true->gX B3=true->
 ∃r H,(gV.fk n).x K [.ptr 4 0 0 0] (oB B0 B1 B2 B3 f o Az [])=some (r,H)/\Out B0 B1 B2 B3 k o r H
def uY.up{k:Nat}{f:FS}(h:uY k f):uY (k+1) f:=h.mono aa
def uh{a b c d e:Int}(h:Er a/\Er b/\Er c/\Er d/\Er e):TG ⟨a,b,c,d,e,[],[]⟩:=⟨ah,ah,ah,h⟩
def CP{B3:AB}{k:Nat}{f:FS}{o:rB}{a:uZ}(b:uY (k+1) f)(h:TG a)(Y:AH):Out B0 B1 B2 B3 k o (.inl (.iV [])) (oB B0 B1 B2 B3 f o a Y):=.inl ⟨rfl,f,a,b,h,QY ..⟩
def iK{B3:AB}{k:Nat}{o:rB}{e:Int}(h:Er e)(Y:AH):Out B0 B1 B2 B3 k o (.inr (41,.i64,e)) (B0::B1::B2::B3::Y):=.inr ⟨⟨e,rfl,h⟩,Y,rfl⟩
def s62:pV 62 72:=λ{n} l {k f o} b hk y B0 B1 B2 B3 _ _ _ _=>by
 have x:=y.r;let⟨r,Y,_,h,v⟩:=GV (n:=72) af b o.path [] (B0:=B0) (B1:=B1) (B2:=B2) (B3:=B3) (o:=o) (a:=Az)
 simp only[oB,Wc,Fc,Sc,Oc,Ac,aM,aN,aX]at h
 rcases v with rfl | ⟨e,rfl,i⟩
 .let⟨G,F,E,A⟩:=mb b.s.w (jQ f.s.now o.path).1;have z:=Re.j6 b.s.w (jQ f.s.now o.path).1;generalize iq f.s.now (jQ f.s.now o.path).1=q at *
  simp only[Nd]at h;refine⟨_,_,?_,CP (a:=⟨0,q.ino,q.kind,0,0,[],[]⟩) b.up (uh aa) (Y++[.var (Nc q)])⟩
  rw[p62 l,iR];simp(disch:=omega)[c62,h]
 .refine⟨_,_,?_,iK i (.var (Wc f o Az)::Y)⟩;rw[p62 l,iR];simp(disch:=omega)[c62,h]
def abB(b:87<n)(q:Tr.Node):(gV.fk n).p 124 [Nd q]=some (I (max (q.data.length:Int) (q.ek.length:Int))):=by
 rw[pp 124 rfl b rfl,gd,b6];simp(disch:=omega)[c124]
def s68:pV 68 88:=λ{n} v {k f o} b hk z B0 B1 B2 B3 _ _ _ _=>by
 have y:=z.r;let⟨r,Y,_,h,x⟩:=GV (n:=88) af b o.path [] (B0:=B0) (B1:=B1) (B2:=B2) (B3:=B3) (o:=o) (a:=Az)
 simp only[oB,Wc,Fc,Sc,Oc,Ac,aM,aN,aX]at h
 rcases x with rfl | ⟨e,rfl,l⟩
 .have i:=λq=>abB (n:=88) af q
  have i:=i (iq f.s.now (jQ f.s.now o.path).1);let⟨H,G,F,E⟩:=mb b.s.w (jQ f.s.now o.path).1;have A:=Re.j6 b.s.w (jQ f.s.now o.path).1;generalize iq f.s.now (jQ f.s.now o.path).1=q at *
  simp only[Nd]at h i;refine⟨_,_,?_,CP (a:=⟨0,q.ino,q.kind,q.links,max (q.data.length:Int) (q.ek.length:Int),[],[]⟩) b.up (uh aa) (Y++[.var (Nc q)])⟩
  rw[p68 v,iR];simp(disch:=omega)[c68,h,i]
 .refine⟨_,_,?_,iK l (.var (Wc f o Az)::Y)⟩;rw[p68 v,iR];simp(disch:=omega)[c68,h]
def Mi(es:List (Int×AV)):Prop:=∀p∈es,∃v:Int,p.2 = .int .i64 v
def Mi.look{es:List (Int×AV)}(h:Mi es)(n:Int):∃v:Int,jO es n (.int .i64 0) = .int .i64 v:=by
 unfold jO;cases b:es.find? λp=>decide (p.1=n)with
 |none=>exact⟨0,rfl⟩
 |some p=>exact h p (bN b)
def Mi.put{n v:Int}:∀ {es:List (Int×AV)},Mi es->Mi (lF es n (.int .i64 v))
 | [],_=>λp l=>by
  rw[bS.1 l];exact⟨v,rfl⟩
 |p::es,h=>by
  unfold lF;split
  .intro q b
   rcases aY.1 b with rfl | b
   .exact⟨v,rfl⟩
   .exact h q (by simp[b])
  .intro q b
   rcases aY.1 b with rfl | b
   .exact h q ah
   .exact Mi.put (λr i=>h r (by simp[i])) q b
def Mi.jE{es:List (Int×AV)}(h:Mi es):(es.all λp=>p.2.jE)=true:=by
 rw[aJ];intro p i;let⟨v,b⟩:=h p i;rw[b];rfl
def VK{t:Tr.Tree}(w:nB t){q:Tr.Node}(M:q.ek.length<=64)(d:Int)(es:List (Int×AV))(o:Mi es)(e0:Env)(h2:e0 2 = .iw [.en false (t.nodes.map Nd),I t.next,I t.gr])(h5:e0 5 = .kZ 0)(F:e0 8=I d)(r:e0 33 = .en false (q.ek.map En))(h:e0 34=I (q.ek.length:Int)):
  ∃y,((∃es',Mi es'/\y=(AX.exit 2,[],[AB.mp .i64 es',.var (Nc q)]))\/∃G,y=(AX.ret,[.bool false],G))/\
   iter (round (gV.fk 132) [35] [(.exit 2,[]),(.ret,[4])] tc e0 2 []) ([I 0],[.mp .i64 es,.var (Nc q)])=some y :=
 ji (f := round (gV.fk 132) [35] [(.exit 2, []), (.ret, [4])] tc e0 2 []) q.ek.length (λi (es : List (Int × AV)) => ([I (i : Int)], [.mp .i64 es, .var (Nc q)])) (λy => (∃ es', Mi es' /\ y = (AX.exit 2, [], [AB.mp .i64 es', .var (Nc q)])) \/ ∃ G, y = (AX.ret, [.bool false], G)) (λ_ es => Mi es)
  (λi es N o=>by
   obtain⟨e,l⟩:∃e,e=q.ek[i]:=⟨_,rfl⟩;have A:=AD (n:=132) af t w.wf.jh (vV w).len e.ino
   let⟨v,x⟩:=o.look e.ino
   have hg:∃m b,ud (find t.nodes e.ino) = .iV [Nd m,.bool b]:=by
    unfold ud;cases find t.nodes e.ino with
    |none=>exact⟨jb,false,rfl⟩
    |some m=>exact⟨m,true,rfl⟩
   let⟨m,b,hg⟩:=hg;rw[hg]at A;simp only[Tv,Nd]at A
   have z:∀ {es:List (Int×AV)},Mi es->∀h0,iQ 2 [] h0 0 [AB.mp .i64 es,.var (Nc q)]=[AB.mp .i64 es,.var (Nc q)]:=λ{es} o h0=>tT.same (X:=[AB.mp .i64 es,.var (Nc q)]) (by
    show List.all _ (Ax 2)=true;simp[Ax,yd,AV.jD];intro a b K;let⟨v,x⟩:=o (a,b) K;simp only at x;rw[x];exact .inl rfl) h0
   have z:=z (o.put (n:=e.ino) (v:=d));simp only[Nc]at z;have fin:Mi (lF es e.ino (I d)):=o.put;generalize E:qZ es e.ino=L
   by_cases H:m.kind=1
   .cases L with
    |true =>
     by_cases c2:v=d
     .exact .inl ⟨_,fin,by simp(disch:=omega)[-iQ,round_eq,tc,h2,h5,F,r,h,<-l,ca 199,A,x,E,H,c2,z]⟩
     .exact .inr ⟨_,.inr ⟨_,rfl⟩,by simp(disch:=omega)[-iQ,round_eq,tc,h2,h5,F,r,h,<-l,ca 199,A,x,E,H,c2];rfl⟩
    |false=>exact .inl ⟨_,fin,by simp(disch:=omega)[-iQ,round_eq,tc,h2,h5,F,r,h,<-l,ca 199,A,x,E,H,z]⟩
   .exact .inl ⟨_,fin,by simp(disch:=omega)[-iQ,round_eq,tc,h2,h5,F,r,h,<-l,ca 199,A,x,E,H,z]⟩)
  (λes o=>⟨_,.inl ⟨es,o,rfl⟩,by simp(disch:=omega)[round_eq,tc,h]⟩) (bp _) es o
def Q9{t:Tr.Tree}(w:nB t){q:Tr.Node}(b:q∈t.nodes)(i:q.ek.length≠0):jK t q.ino=0:=by
 refine nh.2 ⟨q,jt w.wf.jh b,?_⟩
 rcases w.yj b with⟨_,h,_⟩ | ⟨h,_⟩
 .rw[h]at i;exact absurd rfl i
 .exact h
def VJ{t:Tr.Tree}(w:nB t){l:List Qu}(hs:mh l)(hl:l.length<=1000)(e0:Env)(h2:e0 2 = .iw [.en false (t.nodes.map Nd),I t.next,I t.gr])(h1:e0 1 = .en false (l.map Qv))(h5:e0 5 = .kZ 0)(K:e0 17 = .en false (t.nodes.map Nd))(z:e0 18=I (t.nodes.length:Int)):
  ∃y,((∃G,y=(AX.exit 0,[],G))\/∃G,y=(AX.ret,[.bool false],G))/\
   iter (round (gV.fk 132) [19] [(.exit 0,[]),(.ret,[4])] wZ e0 1 []) ([I 0],[.mp .i64 []])=some y :=
 ji (f := round (gV.fk 132) [19] [(.exit 0, []), (.ret, [4])] wZ e0 1 []) t.nodes.length (λi (es : List (Int × AV)) => ([I (i : Int)], [.mp .i64 es])) (λy => (∃ G, y = (AX.exit 0, [], G)) \/ ∃ G, y = (AX.ret, [.bool false], G)) (λ_ es => Mi es)
  (λi es T r=>by
   have S:=w.wf.len;have N:=aU T;obtain⟨q,M⟩:∃q,q=t.nodes[i]:=⟨_,rfl⟩;rw[<-M]at N;have L:=mA w N
   have A:∀ {es:List (Int×AV)},Mi es->∀h0 (G:AH),iQ 1 [] h0 0 [AB.mp .i64 es]=[AB.mp .i64 es]:=λ{es} r h0 G=>tT.same (X:=[AB.mp .i64 es]) (by
    show List.all _ (Ax 1)=true;simp[Ax];intro a b x;let⟨v,E⟩:=r (a,b) x;simp only at E;rw[E];exact .inl rfl) h0
   have H:∀h0,iQ 2 [] h0 0 [AB.mp .i64 es,.var (Nc q)]=[AB.mp .i64 es,.var (Nc q)]:=λh0=>tT.same (X:=[AB.mp .i64 es,.var (Nc q)]) (by
    show List.all _ (Ax 2)=true;simp[Ax,yd,AV.jD];intro a b x;let⟨v,E⟩:=r (a,b) x;simp only at E;rw[E];exact .inl rfl) h0
   simp only[Nc]at H
   by_cases P:q.ek.length=0
   .have A:=λh0=>A r h0 []
    exact .inl ⟨es,r,by simp(disch:=omega)[-iQ,round_eq,wZ,K,z,<-M,P,A]⟩
   .have O:=ahd (n:=132) af t w l hs hl false (Q9 w N P)
    generalize dom t l q.ino=d at O;simp only[Tv]at O;generalize h:round (gV.fk 132) _ _ _ _ _ _ _=res;simp(disch:=omega)[-iQ,round_eq,wZ,h2,h1,K,z,<-M,P,ca 295,O,H]at h;generalize hx:iter _ _=o at h;obtain⟨_,Q,rfl⟩:∃y,_/\o=some y:=by rw[<-hx];exact VK w L.1 d es r _ (by simp(disch:=omega)[h2]) (by simp(disch:=omega)[h5]) an an an
    rcases Q with⟨es',F,rfl⟩ | ⟨G,rfl⟩
    .have A:=λh0=>A F h0 []
     simp(disch:=omega)[-iQ,A]at h;exact .inl ⟨es',F,by rw[<-h];push_cast;rfl⟩
    .simp(disch:=omega)[-iQ]at h;exact .inr ⟨_,.inr ⟨G,rfl⟩,h.symm⟩)
  (λes r=>⟨_,.inl ⟨_,rfl⟩,by simp(disch:=omega)[round_eq,wZ,z];rfl⟩) (bp _) [] (by simp[Mi])
def ahu{n:Nat}(r:132<n){t:Tr.Tree}(w:nB t){l:List Qu}(hs:mh l)(hl:l.length<=1000):∃b,(gV.fk n).p 200 [Tv t,.en false (l.map Qv)]=some (.bool b):=by
 generalize h:(gV.fk n).p 200 _=res;rw[pp 200 rfl r rfl,gd,b6]at h;have q:=w.wf.len;simp(disch:=omega)[afv]at h;generalize hx:iter _ _=o at h;obtain⟨_,i,rfl⟩:∃y,_/\o=some y:=by rw[<-hx];exact VJ w hs hl _ an an an an an
 rcases i with⟨G,rfl⟩ | ⟨G,rfl⟩
 .simp(disch:=omega)at h;exact⟨_,h.symm⟩
 .simp(disch:=omega)at h;exact⟨_,h.symm⟩
def ahw{n:Nat}(b:24<n)(x:Ho)(i:Int)(X:AH)(k:Nat)(hk:X[k]? = some (.var [I i])):rF (gV.fk n) 194 [Hv x,.ptr k 0 0 0] X=some (.bool (decide (x.ino=i)),X):=by
 rw[ph 194 rfl b rfl,b6];simp(disch:=omega)[c194,hk]
def abv{n:Nat}(i:60<n){t:Tr.Tree}(w:nB t)(x:Qu)(X:AH)(k:Nat)(hk:X[k]? = some (.var (Tb t))):∃Z,Z.all gX=true/\rF (gV.fk n) 198 [Qv x,.ptr k 0 0 0] X=some (.bool (!(find t.nodes x.ino).isSome),X++Z):=by
 have b:=AD (n:=60) af t w.wf.jh (vV w).len x.ino
 unfold ud at b;rw[ph 198 rfl i rfl,b6];cases h:find t.nodes x.ino with
 |none =>
  rw[h]at b;simp only[dI,Tv,Nd,jb,aX]at b;exact⟨[.var [I 0,I 0,I 0,.en false [],.en false [],I 0]],rfl,by simp(disch:=omega)[c198,hk,ca 199,b]⟩
 |some q =>
  rw[h]at b;simp only[cG,Tv,Nd]at b;exact⟨[.var (Nc q)],rfl,by simp(disch:=omega)[c198,hk,ca 199,b]⟩
def um(t:Tr.Tree)(l:List Qu):List Qu:=l.filter λq=>(find t.nodes q.ino).isSome
def ahv{n:Nat}(y:128<n){t:Tr.Tree}(w:nB t){l:List Qu}(hl:l.length<=1000){X:AH}(r:X.all gX=true)(k:Nat)(hk:X[k]? = some (.var (Tb t))):
  ∃es Z,Z.all gX=true/\es.take (um t l).length=(um t l).map Qv/\(um t l).length<=es.length/\rF (gV.fk n) 196 [.own X.length 0 0 l.length,.fn (.func 198) [] [.ptr k 0 0 0]] (X++[.row 0 3 (l.map Qv)])=some (.own X.length 0 0 (um t l).length,X ++ .row 0 3 es::Z):=by
 have b:=(az.1 hk).1
 let⟨es,v,Z,i,h1,h2,h⟩:=aeT (Γ:=gV.fk 128) (z:=3) (zero:=[I 0,I 0,I 0]) (k:=294) (cs:=λq:Qu=>[I q.ino,I q.nodes,I q.bytes]) (λ_=>rfl) (λ_=>rfl) rfl rfl (l:=l) aa (kS r) 198 [] [.ptr k 0 0 0] (λq=>!(find t.nodes q.ino).isSome) (by
  let⟨Z,i,h⟩:=ixG (Γ:=gV.fk 127) (cs:=λq:Qu=>[I q.ino,I q.nodes,I q.bytes]) (λ_=>rfl) (l:=l) aa (CD (kS r) 3 _) (Mu X (cs:=λq:Qu=>[I q.ino,I q.nodes,I q.bytes]) (λ_=>rfl) l) 198 [] [.ptr k 0 0 0] (λq=>!(find t.nodes q.ino).isSome) λx _=>abv af w x _ k (by rw[aI b];exact hk)
  exact⟨Z,i,(aii af _ _).trans h⟩) λx _ Y=>abv af w x _ k (by rw[aI b];exact hk)
 have e:(l.filter λx=>!(λq:Qu=>!(find t.nodes q.ino).isSome) x)=um t l:=by
  unfold um
  congr 1
  funext q
  simp
 rw[e]at h1
 have A:v=(um t l).length:=by
  have:=congrArg List.length h1;rw[bI,cw]at this;omega
 subst A;exact⟨es,Z,i,h1,h2,(ph 196 rfl y rfl _ _).trans h⟩
section
variable{X:AH}{f:FS}{o:rB}{a:uZ}{k:Nat}
def VP(F:X.all gX=true)(h3:X[4]? = some (.var (Wc f o a)))(O:uY k f){t:Tr.Tree}(w:nB t)(os:ax)(M:os.length<=1000)(e0:Env)(h0:e0 0 = .ptr 4 0 0 0)(h4:e0 4 = .ptr X.length 0 0 0)(E:e0 13 = .en false (os.map I))(q:e0 14=I (os.length:Int)):
  ∃y,(∃v,nB v/\y=(AX.exit 0,[],X++[AB.var (Tb v)]))/\iter (round (gV.fk 134) [15] [(.exit 0,[])] xd e0 (X.length+1) []) ([I 0],X++[.var (Tb t)])=some y :=
 ji (f:=round (gV.fk 134) [15] [(.exit 0,[])] xd e0 (X.length+1) []) os.length (λi (t:Tr.Tree)=>([I (i:Int)],X++[.var (Tb t)])) (λy=>∃v,nB v/\y=(AX.exit 0,[],X++[AB.var (Tb v)])) (λ_ t=>nB t)
  (λi t Q w=>by
   have P:4<X.length:=(az.1 h3).1;have A:=(az.1 h3).2;have N:=O.hl;obtain⟨x,hx⟩:∃x,x=os[i]:=⟨_,rfl⟩;have G:=λh0 Y=>(kS F).tail (L:=X.length+1) (R:=[]) aa ah h0 Y
   have l:=jq X;have H:=abx (n:=134) af f.holds aa false 194 [] [.ptr (X.length+1) 0 0 0] (λh=>decide (h.ino=x)) (X++[.var (Tb t),.var [I x]]) (by rw[cg,F];rfl) λh _=>ahw af h x _ _ (by rw[aQ aa];simp)
   have K:=abw (n:=134) af t w.wf.jh (vV w).len x
   have z:=WF.free w x;generalize(f.holds.any λh=>decide (h.ino=x))=b at H
   generalize free t x=r at K z;simp only[Tv]at K;left;cases b with
   |true=>exact⟨t,w,by simp(disch:=omega)[round_eq,xd,h0,E,q,<-hx,A,H,G,l,agp]⟩
   |false=>exact⟨r.1,z,by simp(disch:=omega)[round_eq,xd,h0,h4,E,q,<-hx,A,H,ca 195,K,G,l,agp]⟩)
  (λt w=>⟨_,⟨t,w,rfl⟩,by
   have G:=λh0 Y=>(kS F).tail (L:=X.length+1) (R:=[]) aa ah h0 Y
   have l:=jq X;simp(disch:=omega)[round_eq,xd,q]⟩) (bp _) t w
def VO(hX:X.all gX=true){Z:AH}(W:Z.all gX=true){t:Tr.Tree}(w:nB t){l:List Qu}(hl:l.length<=1000){es:List AV}(U:l.length<=es.length)(O:es.take l.length=l.map Qv)(e0:Env)(h4:e0 4 = .ptr X.length 0 0 0)(F:e0 42 = .own (X.length+1) 0 0 l.length)(h:e0 43=I (l.length:Int)):
  ∃y,(y=(AX.exit 2,[],X++(AB.var (Tb t) :: .lu 0 3 es::Z))\/∃e Q,Er e/\y=(AX.mD (41,.i64,e),[],X++Q))/\iter (round (gV.fk 134) [44] [(.exit 2,[])] uU e0 (X.length+(Z.length+2)) []) ([I 0],X++(.var (Tb t) :: .lu 0 3 es::Z))=some y:=by
 have hP:(X++(AB.var (Tb t) :: .lu 0 3 es::Z)).all gX=true:=by
  rw[cg,hX]
  simpa[gX,AV.jD]using W
 have b:(X++(AB.var (Tb t) :: .lu 0 3 es::Z)).length=X.length+(Z.length+2):=ah
 have E:=(kS hP).same;rw[b]at E;have z:(X++(AB.var (Tb t) :: .lu 0 3 es::Z)).take (X.length+(Z.length+2))=X++(AB.var (Tb t) :: .lu 0 3 es::Z):=bf (by rw[b];exact aT _)
 have x:∀Y,(X++(AB.var (Tb t) :: .lu 0 3 es::(Z++Y))).take (X.length+(Z.length+2))=X++(AB.var (Tb t) :: .lu 0 3 es::Z):=λY=>by
  rw[show X++(AB.var (Tb t) :: .lu 0 3 es::(Z++Y))=(X++(AB.var (Tb t) :: .lu 0 3 es::Z))++Y by simp]
  exact fG b
 exact ji (f:=round (gV.fk 134) [44] [(.exit 2,[])] uU e0 (X.length+(Z.length+2)) []) l.length (λi (_:Unit)=>([I (i:Int)],X++(.var (Tb t) :: .lu 0 3 es::Z))) (λy=>y=(AX.exit 2,[],X++(AB.var (Tb t) :: .lu 0 3 es::Z))\/∃e Q,Er e/\y=(AX.mD (41,.i64,e),[],X++Q)) (λ_ _=>True)
  (λi _ H _=>by
   obtain⟨q,T⟩:∃q,q=l[i]:=⟨_,rfl⟩
   have hg:es[i]? = some (Qv q):=by
    have:(es.take l.length)[i]? = some (Qv q):=by rw[O,bM,aF H,<-T];rfl
    rwa [cH,if_pos H]at this
   have N:i<es.length:=aa
   have A:es[i]=Qv q:=bB ((aF N).symm.trans hg);have S:=E;have L:=z;have r:=x;have K:=abu (n:=134) af t w q.ino
   have M:=CK (n:=134) af 90
   have G:=CL (n:=134) af (e:=90) af
   generalize mO t q.ino=u at *
   generalize mP t q.ino=v at *
   simp only[Tv]at K
   by_cases P:u<=q.nodes
   .by_cases c2:v<=q.bytes
    .exact .inl ⟨(),trivial,by simp(disch:=omega)[round_eq,uU,iZ,h4,F,h,H,A,ca 201,K,M,P,c2,S,r]⟩
    .exact .inr ⟨_,.inr ⟨90,_,aa,rfl⟩,by simp(disch:=omega)[round_eq,uU,iZ,h4,F,h,H,A,ca 201,K,G,P,c2];rfl⟩
   .exact .inr ⟨_,.inr ⟨90,_,aa,rfl⟩,by simp(disch:=omega)[round_eq,uU,iZ,h4,F,h,H,A,ca 201,K,G,P];rfl⟩)
  (λ_ _=>⟨_,.inl rfl,by
   have S:=E;have L:=z;have r:=x;simp(disch:=omega)[round_eq,uU,h]⟩) (bp _) () trivial
end
def afK(B0 B1 B2 B3:AB)(k:Nat)(o:rB)(a:uZ)(Y:AH)(r:AV⊕Pn)(H:AH):Prop:=(r = .inl (.iV [])/\∃f b es Z,uY (k+1) f/\H=B0::B1::B2::B3 :: .var (Wq f o a (.own (b+5) 0 0 f.jy.length) (.en false (a.data.map B)))::(Y++Z)/\(Y++Z)[b]? = some (.lu 0 3 es)/\f.jy.length<=es.length/\es.take f.jy.length=f.jy.map Qv)\/
 (Pk r/\∃Y,H=B0::B1::B2::B3::Y)
def JT{n:Nat}(hn:134<n){k:Nat}{f:FS}{o:rB}{a:uZ}(O:uY k f)(hk:k<=200){B0 B1 B2 B3:AB}(hB0:gX B0=true)(hB1:gX B1=true)(hB2:gX B2=true)(hB3:gX B3=true){Y:AH}(hY:Y.all gX=true){t:Tr.Tree}(w:nB t){l:List Qu}(hs:mh l)(hl:l.length<=16):
  ∃r H,(gV.fk n).x 117 [.ptr 4 0 0 0,Tv t,.en false (l.map Qv)] (oB B0 B1 B2 B3 f o a Y)=some (r,H)/\afK B0 B1 B2 B3 k o a Y r H:=by
 obtain⟨X,i⟩:∃X,X=oB B0 B1 B2 B3 f o a Y:=⟨_,rfl⟩;have M:X.all gX=true:=by
  rw[i];simp only[oB,cm,hB0,hB1,hB2,hB3,hY];simp[gX,AV.jD]
 have h3:X[4]? = some (.var (Wc f o a)):=by rw[i];rfl
 have hXl:X.length=Y.length+5:=by rw[i];rfl
 have h3l:4<X.length:=aa
 have h3g:=(az.1 h3).2;have hO:=ahx (n:=134) af t (vV w).len
 have W:(qj t).length<=1000:=by
  unfold qj;have h1:=w.wf.len;have h2:=bG nH t.nodes;simp;omega
 generalize qj t=os at *
 have K:=acn (n:=134) af
 rw[<-i];generalize h:(gV.fk n).x 117 _ _=res;rw[aix hn,iR]at h;simp only[Tv]at hO;have hT:=λL (hL:X.length<=L) h0 Y=>(kS M).tail (L:=L) (R:=[]) hL ah h0 Y
 have S:=jq X;have hT1:=hT (X.length+1) aa
 simp(disch:=omega)[c117,ca 192,hO,hT1,S]at h;generalize hx:iter _ _=P at h;obtain⟨_,⟨z,w',rfl⟩,rfl⟩:∃y,_/\P=some y:=by rw[<-hx];exact VP M h3 O w os W _ an an an an
 have hX1:(X++[AB.var (Tb z)]).all gX=true:=by rw[cg,M];rfl
 let⟨es,Z,hZ,v,q,hD⟩:=ahv (n:=134) af w' (l:=l) aa hX1 X.length ah
 have G:mh (um z l):=hs.filter _;have U:(um z l).length<=16:=bQ (bG _ _) hl;generalize um z l=Q at *
 let⟨b,E⟩:=ahu (n:=134) af w' G aa
 have hok:=CK (n:=134) af 91
 have hno:=CL (n:=134) af (e:=91) af
 simp only[aG,aK,aR,bV,aM,aN]at hD;simp only[Tv]at E v;let⟨s',hP,T⟩:=UF (n:=134) af O.s aa w'
 simp only[Sv,Sc,Tv]at hP;cases b with
 |false =>
  simp(disch:=omega)[K,iL,hD,ca 200,E,v,q,hno]at h;exact⟨_,_,h.symm,.inr ⟨⟨91,rfl,aa⟩,_,by rw[i];rfl⟩⟩
 |true =>
  have hP2:(X++(AB.var (Tb z) :: .lu 0 3 es::Z)).all gX=true:=by
   rw[cg,M]
   simpa[gX,AV.jD]using hZ
  have A:(X++(AB.var (Tb z) :: .lu 0 3 es::Z)).length=X.length+(Z.length+1+1):=ah
  have N:=(kS hP2).same;rw[A]at N;have F:(X++(AB.var (Tb z) :: .lu 0 3 es::Z)).take (X.length+(Z.length+1+1))=X++(AB.var (Tb z) :: .lu 0 3 es::Z):=bf (by rw[A];exact aT _)
  have hel:Q.length<=es.length:=q;simp(disch:=omega)[K,iL,hD,ca 200,E,v,q,hok,N,F]at h;generalize hx:iter _ _=P at h;obtain⟨_,hy,rfl⟩:∃y,_/\P=some y:=by rw[<-hx];exact VO M hZ w' (l:=Q) aa q v _ an an an
  rcases hy with rfl | ⟨e,Z',hEr,rfl⟩
  .simp(disch:=omega)[h3g,hP]at h;subst i;simp(disch:=omega)at h;exact⟨_,_,h.symm,.inl ⟨rfl,⟨s',f.holds,Q⟩,Y.length+1,es,_,⟨T,O.hs,O.hl,G,U⟩,rfl,ah,q,v⟩⟩
  .simp(disch:=omega)at h;exact⟨_,_,h.symm,.inr ⟨⟨e,rfl,aa⟩,_,by rw[i];rfl⟩⟩
def qS{B0 B1 B2 B3:AB}{k:Nat}{f:FS}{o:rB}{a:uZ}{b:Nat}{es:List AV}{Y:AH}(h:uY (k+1) f)(i:TG a)(h1:Y[b]? = some (.lu 0 3 es))(h2:f.jy.length<=es.length)(h3:es.take f.jy.length=f.jy.map Qv):
  Out B0 B1 B2 B3 k o (.inl (.iV [])) (B0::B1::B2::B3 :: .var (Wq f o a (.own (b+5) 0 0 f.jy.length) (.en false (a.data.map B)))::Y):=.inl ⟨rfl,f,a,h,i,_,_,Y,rfl,.inr (.inl ⟨rfl,b,es,rfl,h1,h2,h3⟩)⟩
def s63:pV 63 135:=λ{n} S {k f o} l hk M B0 B1 B2 B3 P O p2 A=>by
 have Q:=M.r;let⟨r,q,E⟩:=Me (n:=135) af l (p:=o.path) (by have:=M.p;omega) [] (B0:=B0) (B1:=B1) (B2:=B2) (B3:=B3) (o:=o) (a:=Az)
 simp only[oB,Wc,Fc,Sc,Oc,Ac,aM,aN,aX]at q;generalize h:(gV.fk n).x 63 _ _=res;rw[p63 S,iR]at h
 rcases E with⟨d,nm,rfl⟩ | ⟨e,rfl,K⟩
 .have z:=ahL (n:=135) af f.s.now l.s.w d nm o.n
  have L:=WF.add jI l.s.w d nm o.n;have v:=Xn f.s.now d nm o.n (Jp l.s.w);generalize add mT ij f.s.now d nm o.n=r at *
  let⟨t,i,e⟩:=r;dsimp only at v;simp only[Tv]at z L
  by_cases N:e=0
  .subst N;have y:=uB (n:=135) af
   let⟨r,H,G,E⟩:=JT (n:=135) af l hk P O p2 A (o:=o) (a:=Az) (Y:=[.var (Tb t)]) rfl L l.qs l.ql
   simp only[oB,Wc,Fc,Sc,Oc,Ac,Tv,aM,aN,aX]at G
   rcases E with⟨rfl,T,b,es,Y,F,rfl,h1,h2,h3⟩ | ⟨⟨e,rfl,K⟩,Y,rfl⟩
   .simp(disch:=omega)[c63,q,z,y,G]at h;exact⟨_,_,h.symm,qS (a:=⟨0,i,o.n,0,0,[],[]⟩) F (uh aa) h1 h2 h3⟩
   .simp(disch:=omega)[c63,q,z,y,G]at h;exact⟨_,_,h.symm,iK aa _⟩
  .have y:=qO (n:=135) af N
   simp(disch:=omega)[c63,q,z,y]at h;exact⟨_,_,h.symm,iK aa _⟩
 .simp(disch:=omega)[c63,q]at h;exact⟨_,_,h.symm,iK aa _⟩
def s64:pV 64 137:=λ{n} hn {k f o} i hk P B0 B1 B2 B3 U T p2 G=>by
 have X:=P.r;let⟨r,S,M,l,v⟩:=GV (n:=137) af i o.path [] (B0:=B0) (B1:=B1) (B2:=B2) (B3:=B3) (o:=o) (a:=Az)
 simp only[oB,Wc,Fc,Sc,Oc,Ac,aM,aN,aX]at l;generalize h:(gV.fk n).x 64 _ _=res;rw[p64 hn,iR]at h
 rcases v with rfl | ⟨e,rfl,A⟩
 .have K:∀q,find f.s.now.nodes (iq f.s.now (jQ f.s.now o.path).1).ino=some q->-4398046511104<=q.links/\q.links<=4398046511104:=λq W=>by
   have:=i.s.w.bg.lk q (gZ W).1;omega
  let⟨hN1,hN2,hN3,hN4⟩:=mb i.s.w (jQ f.s.now o.path).1;have Z:=Re.j6 i.s.w (jQ f.s.now o.path).1;generalize iq f.s.now (jQ f.s.now o.path).1=q at *
  simp only[Nd]at l;let⟨r,y,v⟩:=Me (n:=137) af i (p:=o.to) (by have:=P.t;omega) (S++[.var (Nc q)]) (B0:=B0) (B1:=B1) (B2:=B2) (B3:=B3) (o:=o) (a:=Az)
  simp only[oB,Wc,Fc,Sc,Oc,Ac,aM,aN,aX]at y
  rcases v with⟨d,nm,rfl⟩ | ⟨e,rfl,A⟩
  .have F:=ahK (n:=137) af f.s.now i.s.w q.ino d nm K
   have O:=WF.ln jI i.s.w q.ino d nm;have z:=aeJ f.s.now q.ino d nm;generalize ln mT ij f.s.now q.ino d nm=r at *
   let⟨t,e⟩:=r;dsimp only at z;simp only[Tv]at F O
   by_cases Q:e=0
   .subst Q;have E:=uB (n:=137) af
    let⟨r,H,N,v⟩:=JT (n:=137) af i hk U T p2 G (o:=o) (a:=Az) (Y:=S++[.var (Nc q),.var (Tb t)]) (by rw[cg,M];rfl) O i.qs i.ql
    simp only[oB,Wc,Fc,Sc,Oc,Ac,Tv,aM,aN,aX]at N
    rcases v with⟨rfl,f',b,es,Y,L,rfl,h1,h2,h3⟩ | ⟨⟨e,rfl,A⟩,Y,rfl⟩
    .simp(disch:=omega)[XX,l,y,F,E,N]at h;exact⟨_,_,h.symm,qS (a:=⟨0,q.ino,0,0,0,[],[]⟩) L (uh aa) (ak h1) h2 h3⟩
    .simp(disch:=omega)[XX,l,y,F,E,N]at h;exact⟨_,_,h.symm,iK aa _⟩
   .have E:=qO (n:=137) af Q
    simp(disch:=omega)[XX,l,y,F,E]at h;exact⟨_,_,h.symm,iK aa _⟩
  .simp(disch:=omega)[XX,l,y]at h;exact⟨_,_,h.symm,iK aa _⟩
 .simp(disch:=omega)[XX,l]at h;exact⟨_,_,h.symm,iK aa _⟩
def s65:pV 65 142:=λ{n} S {k f o} l hk M B0 B1 B2 B3 P O p2 A=>by
 have Q:=M.r;let⟨r,q,E⟩:=Me (n:=142) af l (p:=o.path) (by have:=M.p;omega) [] (B0:=B0) (B1:=B1) (B2:=B2) (B3:=B3) (o:=o) (a:=Az)
 simp only[oB,Wc,Fc,Sc,Oc,Ac,aM,aN,aX]at q;generalize h:(gV.fk n).x 65 _ _=res;rw[p65 S,iR]at h
 rcases E with⟨d,nm,rfl⟩ | ⟨e,rfl,K⟩
 .have z:=ahJ (n:=142) af f.s.now l.s.w d nm
  have L:=WF.un jI l.s.w d nm;have v:=And.intro (Xj l.s.w d nm) (aeH f.s.now d nm);generalize un mT f.s.now d nm=r at *
  let⟨t,i,e⟩:=r;dsimp only at v;simp only[Tv]at z L
  by_cases N:e=0
  .subst N;have y:=uB (n:=142) af
   let⟨r,H,G,E⟩:=JT (n:=142) af l hk P O p2 A (o:=o) (a:=Az) (Y:=[.var (Tb t)]) rfl L l.qs l.ql
   simp only[oB,Wc,Fc,Sc,Oc,Ac,Tv,aM,aN,aX]at G
   rcases E with⟨rfl,T,b,es,Y,F,rfl,h1,h2,h3⟩ | ⟨⟨e,rfl,K⟩,Y,rfl⟩
   .simp(disch:=omega)[c65,q,ca 119,z,y,G]at h;exact⟨_,_,h.symm,qS (a:=⟨0,i,0,0,0,[],[]⟩) F (uh aa) h1 h2 h3⟩
   .simp(disch:=omega)[c65,q,ca 119,z,y,G]at h;exact⟨_,_,h.symm,iK aa _⟩
  .have y:=qO (n:=142) af N
   simp(disch:=omega)[c65,q,ca 119,z,y]at h;exact⟨_,_,h.symm,iK aa _⟩
 .simp(disch:=omega)[c65,q]at h;exact⟨_,_,h.symm,iK aa _⟩
def uF{B0 B1 B2 B3:AB}{k:Nat}{f:FS}{o:rB}{a:uZ}(b:uY (k+1) f)(h:TG a)(Y:AH):Out B0 B1 B2 B3 k o (.inl (.iV [])) (B0::B1::B2::B3 :: .var (Wq f o a (.en false (f.jy.map Qv)) (.en false (a.data.map B)))::Y):=.inl ⟨rfl,f,a,b,h,_,_,Y,rfl,.inl ⟨rfl,rfl⟩⟩
def HB{t:Tr.Tree}(w:nB t)(i:Int):(iq t i).ek.length<=64/\(iq t i).data.length<=4096/\DT (iq t i):=by
 unfold iq;cases h:find t.nodes i with
 |none=>exact⟨by simp[jb],by simp[jb],af,af,af,by simp[jb]⟩
 |some q=>exact mA w (gZ h).1
def s69:pV 69 95:=λ{n} N {k f o} i hk L B0 B1 B2 B3 X W p2 G=>by
 have K:=L.r;let⟨r,Y,_,v,H⟩:=GV (n:=95) af i o.path [] (B0:=B0) (B1:=B1) (B2:=B2) (B3:=B3) (o:=o) (a:=Az)
 simp only[oB,Wc,Fc,Sc,Oc,Ac,aM,aN,aX]at v;generalize b:(gV.fk n).x 69 _ _=res;rw[p69 N,iR]at b
 rcases H with rfl | ⟨e,rfl,T⟩
 .let⟨S,Q,P,O⟩:=mb i.s.w (jQ f.s.now o.path).1;have M:=Re.j6 i.s.w (jQ f.s.now o.path).1;generalize iq f.s.now (jQ f.s.now o.path).1=q at *
  simp only[Nd]at v;have A:=ahG (n:=95) af f.s.now i.s.w.wf.jh (vV i.s.w).len f.holds i.hs (by have:=i.hl;omega) false o.client o.handle q.ino
  have F:=EL f.s.now f.holds o.client o.handle q.ino;have y:=Q4 f.s.now f.holds o.client o.handle q.ino;generalize rY f.s.now f.holds o.client o.handle q.ino=r at *
  let⟨l,e⟩:=r;dsimp only at y;simp only[Tv,dQ]at A F
  by_cases E:e=0
  .subst E;have z:=uB (n:=95) af
   rcases F with⟨_,h⟩ | ⟨_,_,_,_,_,h5,Z,U⟩
   .exact absurd rfl h
   .cases U;simp(disch:=omega)[c69,v,A,z]at b;refine⟨_,_,b.symm,uF (f:=⟨f.s,zG f.holds ⟨o.client,o.handle,q.ino⟩,f.jy⟩) (a:=⟨0,q.ino,0,0,0,[],[]⟩) ⟨i.s.mono aa,Ni i.hs h5,by simp only[Nj];omega,i.qs,i.ql⟩ (uh aa) _⟩
  .have z:=qO (n:=95) af E
   simp(disch:=omega)[c69,v,A,z]at b;exact⟨_,_,b.symm,iK aa _⟩
 .simp(disch:=omega)[c69,v]at b;exact⟨_,_,b.symm,iK aa _⟩
def s70:pV 70 120:=λ{n} L {k f o} h hk K B0 B1 B2 B3 N M p2 G=>by
 have H:=K.r;generalize b:(gV.fk n).x 70 _ _=res;rw[p70 L,iR]at b;have z:=abA (n:=120) af f.s.now h.s.w.wf.jh (vV h.s.w).len f.holds (by have:=h.hl;omega) false o.client o.handle
 have A:=WF.close h.s.w f.holds o.client o.handle;have hl:=nX h.hs f.s.now o.client o.handle;have i:=N2 f.s.now f.holds o.client o.handle;generalize ajg f.s.now f.holds o.client o.handle=r at *
 let⟨t,l,e⟩:=r;dsimp only at i;simp only[Tv,dQ]at z A hl;have hs:pU l:=by rw[hl];exact h.hs.filter _
 have y:l.length<=64:=by rw[hl];exact bQ (bG _ _) h.hl
 clear hl
 by_cases E:e=0
 .subst E;have q:=uB (n:=120) af
  let⟨s',F,v⟩:=UF (n:=120) af h.s aa A
  simp only[Sv,Sc,Tv]at F;simp(disch:=omega)[c70,z,q,F]at b;exact⟨_,_,b.symm,uF (f:=⟨s',l,f.jy⟩) (a:=Az) ⟨v,hs,y,h.qs,h.ql⟩ (uh aa) _⟩
 .have q:=qO (n:=120) af E
  simp(disch:=omega)[c70,z,q]at b;exact⟨_,_,b.symm,iK aa _⟩
def ad7(c:Int)(b:ax):∀s:Tr.Tree×List Ho×Bool,s.2.2=false->(b.foldl (gf c) s).2.2=false:=by
 induction b with
 |nil=>exact λs h=>h
 |cons x b i =>
  intro s h;rw[cE];exact i _ (by simp[gf,h])
def Ky(c:Int)(b:ax):∀(t:Tr.Tree)(l:List Ho),pU l->pU (sQ c b t l).2/\(sQ c b t l).2.length<=l.length:=by
 induction b with
 |nil=>exact λt l h=>⟨h,aT _⟩
 |cons x b i =>
  intro t l h;have hl:=nX h t c x;have h1:pU (ajg t l c x).2.1:=by rw[hl];exact h.filter _
  have h2:=Ad t l c x;let⟨h3,h4⟩:=i (ajg t l c x).1 (ajg t l c x).2.1 h1;exact⟨h3,bQ h4 h2⟩
def s78:pV 78 126:=λ{n} K {k f o} i hk H B0 B1 B2 B3 M L p2 F=>by
 have G:=H.r;generalize h:(gV.fk n).x 78 _ _=res;rw[p78 K,iR]at h;have E:=ag3 (n:=126) af f.s.now i.s.w.wf.jh (vV i.s.w) f.holds (by have:=i.hl;omega) false o.client
 have v:=WF.gone o.client (zj f.holds o.client) f.holds i.s.w;let⟨hs,q⟩:=Ky o.client (zj f.holds o.client) f.s.now f.holds i.hs;have hg:=QM o.client (zj f.holds o.client) (f.s.now,f.holds,false);have z:=ad7 o.client (zj f.holds o.client) (f.s.now,f.holds,false) rfl;simp only at hg;rw[<-hg]at v hs q;generalize(zj f.holds o.client).foldl (gf o.client) (f.s.now,f.holds,false)=r at *
 let⟨t,l,b⟩:=r;simp only[Tv]at E v hs q z;subst z;let⟨s',A,y⟩:=UF (n:=126) af i.s aa v
 simp only[Sv,Sc,Tv]at A;simp(disch:=omega)[c78,E,A]at h;exact⟨_,_,h.symm,uF (f:=⟨s',l,f.jy⟩) (a:=Az) ⟨y,hs,bQ q i.hl,i.qs,i.ql⟩ (uh aa) _⟩
def s77:pV 77 111:=λ{n} F {k f o} h hk E B0 B1 B2 B3 H G p2 z=>by
 have A:=E.r;generalize b:(gV.fk n).x 77 _ _=res;rw[p77 F,iR]at b;let⟨s',e,q,l,y⟩:=ahA (n:=111) af h.s o.n aa
 simp only[Sv,Sc]at q
 by_cases v:e=0
 .subst v;have i:=uB (n:=111) af
  simp(disch:=omega)[c77,q,i]at b;exact⟨_,_,b.symm,uF (f:=⟨s',f.holds,f.jy⟩) (a:=Az) ⟨l.mono aa,h.hs,h.hl,h.qs,h.ql⟩ (uh aa) _⟩
 .have i:=qO (n:=111) af v
  simp(disch:=omega)[c77,q,i]at b;exact⟨_,_,b.symm,iK aa _⟩
def s75:pV 75 98:=λ{n} L {k f o} h hk H B0 B1 B2 B3 T S p2 E=>by
 have G:=H.r;let⟨r,Y,_,i,F⟩:=GV (n:=98) af h o.path [] (B0:=B0) (B1:=B1) (B2:=B2) (B3:=B3) (o:=o) (a:=Az)
 simp only[oB,Wc,Fc,Sc,Oc,Ac,aM,aN,aX]at i;generalize b:(gV.fk n).x 75 _ _=res;rw[p75 L,iR]at b
 rcases F with rfl | ⟨e,rfl,Q⟩
 .let⟨P,O,N,M⟩:=mb h.s.w (jQ f.s.now o.path).1;have K:=Re.j6 h.s.w (jQ f.s.now o.path).1;generalize iq f.s.now (jQ f.s.now o.path).1=q at *
  simp only[Nd]at i;let⟨s',a,e,y,v,A⟩:=ahE (n:=98) af h.s q.ino
  simp only[Sv,Sc]at y
  by_cases z:e=0
  .subst z;have l:=uB (n:=98) af
   simp(disch:=omega)[c75,i,y,l]at b;exact⟨_,_,b.symm,uF (f:=⟨s',f.holds,f.jy⟩) (a:=⟨0,0,0,a,0,[],[]⟩) ⟨v.mono aa,h.hs,h.hl,h.qs,h.ql⟩ (uh aa) _⟩
  .have l:=qO (n:=98) af z
   simp(disch:=omega)[c75,i,y,l]at b;exact⟨_,_,b.symm,iK aa _⟩
 .simp(disch:=omega)[c75,i]at b;exact⟨_,_,b.symm,iK aa _⟩
def PM{t:Tr.Tree}{l:List Qu}(hs:mh l)(hl:l.length<=16)(i a b:Int):mh (tY t l i a b).1/\(tY t l i a b).1.length<=16:=by
 rcases yT t (l:=l) i a b with⟨_,h,_⟩ | ⟨_,_,h⟩ | ⟨_,_,_,_,h1,h⟩
 .rw[h];exact⟨hs,hl⟩
 .rw[h];exact⟨Ex hs i,bQ (yg l i) hl⟩
 .rw[h];refine⟨EA hs _,?_⟩;have h2:=IL hs ⟨i,a,b⟩;have h3:=yg l i;simp only at h2⊢
  rcases h1 with h1 | h1
  .have:=IG h1;omega
  .omega
def s74:pV 74 151:=λ{n} U {k f o} i hk S B0 B1 B2 B3 P O p2 E=>by
 have Q:=S.r;let⟨r,Y1,K,v,F⟩:=GV (n:=151) af i o.path [] (B0:=B0) (B1:=B1) (B2:=B2) (B3:=B3) (o:=o) (a:=Az)
 simp only[oB,Wc,Fc,Sc,Oc,Ac,aM,aN,aX]at v;generalize h:(gV.fk n).x 74 _ _=res;rw[p74 U,iR]at h
 rcases F with rfl | ⟨e,rfl,M⟩
 .let⟨hN1,hN2,X,W⟩:=mb i.s.w (jQ f.s.now o.path).1;have T:=Re.j6 i.s.w (jQ f.s.now o.path).1;generalize iq f.s.now (jQ f.s.now o.path).1=q at *
  simp only[Nd]at v;have A:=ahF (n:=151) af f.s.now i.s.w f.jy i.qs (by have:=i.ql;omega) q.ino o.n o.m
  let⟨h1,h2⟩:=PM (t:=f.s.now) i.qs i.ql q.ino o.n o.m;have y:=Xk f.s.now f.jy q.ino o.n o.m;generalize tY f.s.now f.jy q.ino o.n o.m=r at *
  let⟨l,e⟩:=r;dsimp only at y;simp only[Tv]at A h1 h2
  by_cases N:e=0
  .subst N;have z:=uB (n:=151) af
   let⟨r,H,L,F⟩:=JT (n:=151) af i hk P O p2 E (o:=o) (a:=Az) (Y:=Y1++[.var (Nc q)]) (by rw[cg,K];rfl) i.s.w h1 h2
   simp only[oB,Wc,Fc,Sc,Oc,Ac,Tv,aM,aN,aX]at L
   rcases F with⟨rfl,f',b,es,Z,G,rfl,h1,h2,h3⟩ | ⟨⟨e,rfl,M⟩,Y,rfl⟩
   .simp(disch:=omega)[c74,v,A,z,L]at h;exact⟨_,_,h.symm,qS (a:=⟨0,q.ino,0,0,0,[],[]⟩) G (uh aa) (ak h1) h2 h3⟩
   .simp(disch:=omega)[c74,v,A,z,L]at h;exact⟨_,_,h.symm,iK aa _⟩
  .have z:=qO (n:=151) af N
   simp(disch:=omega)[c74,v,A,z]at h;exact⟨_,_,h.symm,iK aa _⟩
 .simp(disch:=omega)[c74,v]at h;exact⟨_,_,h.symm,iK aa _⟩
end Go.Proofs.YtahlmpbhfljalaaGreatDoor
