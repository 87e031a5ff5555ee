/- Part of the proof that TopRetriesCard holds. -/
import Derived.Test.YtghgbehknhmnaaaGreatDoorV30d
set_option linter.all false
namespace Go.Proofs.YtghgbehknhmnaaaGreatDoor
open Go.Am Go.Tr Go.Am.Nm Go.Lib
def abl{n:Nat}(F:57<n)(t:Tr.Tree)(w:lM t){i:Int}(K:jF t i=0){X:AH}{k:Nat}(B:Bx X k t):
  ∃E,E.all gd=true/\eT (en.cz n) 236 [.ptr k 0 0 0,I i] X=some (I (depth t i),X++E):=by
 rw[ph 236 rfl F rfl,b6];let⟨q,A,r⟩:=nS.1 K;let⟨d,b,z,_⟩:=w.dep _ _ A r;have H:=r6 w b;rw[k8 b af]
 have hl:=(nc w).len;have y:=acu (n:=57) ah
 have h:=λe0 h0=>ade (n:=41) ah t w B e0 h0 b [i] ak
 have M:([i]++mP t d i).length=d+1:=by simp[pP]
 generalize[i]++mP t d i=l at *
 refine⟨[.row 0 1 (l.map I)],rfl,?_⟩;have v:=λY h0=>B.pl.tail (L:=X.length+1) (R:=[X.length]) af ai h0 Y
 have o:=jr X;have G:=B.lt;have x:¬k=X.length:=af
 rw[M]at h;simp(disch:=omega)[afe,y,b6,R5,v,o];have h':=λe0 h0=>h e0 h0
 simp only[aR,bt,bN,aP]at h';rw[h' _ (by simp(disch:=omega)[x])]
 simp(disch:=omega)
def JA{t:Tr.Tree}{i:Int}(h:jF t i=0):∃q,find t.nodes i=some q/\q.kind=2/\kD t i=q:=by
 let⟨q,b,hk⟩:=nS.1 h;exact⟨q,b,hk,by unfold kD;rw[b];simp[hk]⟩
def abo{n:Nat}(U:58<n)(t:Tr.Tree)(w:lM t)(i:Int)(s:au){X:AH}{k:Nat}(B:Bx X k t):
  ∃Y,eT (en.cz n) 172 [.ptr k 0 0 0,I i,.str s] X=some (I (enter j4 t i s),Y)/\Gw X Y k t:=by
 rw[ph 172 rfl U rfl,b6];have hl:=(nc w).len;let⟨Y,b,G⟩:=Qg (n:=58) ah t w.wf.jL hl i B
 have h:=UG (n:=58) ah s
 unfold enter
 by_cases K:jF t i=0
 .obtain⟨q, P, hk, A⟩ := JA K;rw[K, A]at b;rw[A];have M := jI P;have y := (w.wf.dir _ _ P hk).2;have L : q.b7.length <= 1000 := by have := y.len; omega
  have l:=Ms (n:=58) ah q y.jL L s
  have B2:Bx (Y++[.var (Nc q)]) k t:=G.bx.app rfl;let⟨E,Z,o⟩:=abl (n:=58) ah t w K B2
  have O:=B2.get;have N:=G.bx.lt;have H:Gw X (Y++[.var (Nc q)]) k t:=G.trans (Gw.same G.bx rfl);have T:Gw X (Y++[.var (Nc q)]++E) k t:=H.trans (Gw.same B2 Z);unfold full;rw[M];simp only[Nd,Nc]at b l o O H T;have Q:lP gr q.b7 s<=q.b7.length:=lK _ _;generalize lP gr q.b7 s=c at *
  generalize(jB q s).isSome=v at *
  cases S:j4 s with
  |false =>
   rw[S]at h;refine⟨_,?_,H⟩;simp(disch:=omega)[GC,b,ca 189,h]
  |true =>
   rw[S]at h;cases v with
   |true =>
    refine⟨_,?_,H⟩;simp(disch:=omega)[GC,b,ca 189,h,ca 190,l]
   |false =>
    by_cases r:64<=q.b7.length
    .refine⟨_,?_,H⟩;simp(disch:=omega)[GC,b,ca 189,h,ca 190,l,r]
    .refine⟨_,?_,T⟩
     by_cases x:12<=depth t i
     .simp(disch:=omega)[GC,b,ca 189,h,ca 190,l,r,o,x]
     .have W:k<Y.length:=G.bx.lt;have z:=G.bx.get
      by_cases F:1099511627776<=t.ek
      .simp(disch:=omega)[GC,b,ca 189,h,ca 190,l,r,o,x,F,z,jk]
      .simp(disch:=omega)[GC,b,ca 189,h,ca 190,l,r,o,x,F,z,jk]
 .refine⟨Y++[.var (Nc (kD t i))],?_,G.trans (Gw.same G.bx rfl)⟩;have N:=G.bx.lt;simp only[Nd,Nc]at b⊢;generalize jF t i=e at *
  simp(disch:=omega)[GC,b,K]
def Kh{n:Nat}(Q:64<n)(t:Tr.Tree)(w:lC t.nodes)(hl:t.nodes.length<=1000){i:Int}{q:Tr.Node}(K:find t.nodes i=some q)(hs:sr gr q.b7)(H:q.b7.length<=1000){s:au}(O:jB q s=none)
  (W:0<=t.ek) (U:t.ek<=4398046511104) (of:Int) {X:AH} {k:Nat} (B:Bx X k t) :
  ∃Y,eT (en.cz n) 174 [.ptr k 0 0 0,I i,.str s,I of] X=some (.jg [],Y)/\Gw X Y k (iY gr t i s of):=by
 rw[ph 174 rfl Q rfl,b6];have E:=DB (n:=64) ah t w hl i B
 rw[iX K,K]at E;have h:=Ms (n:=64) ah q hs H s
 have M:=U1 (n:=64) ah
 have N:=aiO (n:=64) ah
 have S:=B.lt;have hk:=B.get;unfold iY;rw[iX K];have l:=NI jM hs (e:=⟨s,of,t.ek⟩) O;rw[O]at h;have P:lP gr q.b7 s<=q.b7.length:=lK _ _;simp only at l;rw[l];generalize lP gr q.b7 s=c at *
 obtain⟨r,b⟩:∃r:Tr.Tree,r=⟨t.fn,t.nodes,t.next,t.ek+1⟩:=⟨_,rfl⟩;obtain⟨v,y⟩:∃v:Tr.Node,v={q with fe:=false,b7:=q.b7.take c++(⟨s,of,t.ek⟩:Tr.Ent)::q.b7.drop c}:=⟨_,rfl⟩
 rw[<-b,<-y];have L:Bx (X.set k (.var (Tb r))++[.var (Nc q),.var (Nc v),.me 1 3 (v.b7.map En)]) k r:=(B.set r).app rfl;let⟨Y,o,G⟩:=EZ (n:=v) (m:=64) ah r (by rw[b];exact w) (by rw[b];exact hl) L
 refine⟨Y,?_,G.bx,bH ai G.le,λj T z=>?_⟩
 .subst b y;simp only[Nd,Nc,Tb,List.map_append,bN]at E h o;simp only[gq,eH]at E h;have F:=jr X;have x:∀A:AV,List.take (q.b7.length+1) (List.take c (List.map En q.b7)++A::List.drop c (List.map En q.b7))=List.take c (List.map En q.b7)++A::List.drop c (List.map En q.b7):=λA=>aO ak
  simp only[List.map_take,List.map_drop,En]at o x;simp(disch:=omega)[afB,F,x,E,ca 190,h,M,N,jd,kO,hk,kM,jk,o]
 .rw[G.old j ak z,aJ (an T),aH (Ne.symm z)]
def iT{Y:AH}{j:Nat}{A:AB}(h:Y[j]? = some A)(b:j<Y.length):Y[j]=A:=by
 rw[aD b]at h;exact bp h
def aif{n:Nat}(hn:65<n)(t:Tr.Tree)(w:lM t)(i:Int)(s:au)(kind:Int):
  (en.cz n).p 118 [Tv t,I i,.str s,I kind]=some (.jg [Tv (Tr.add j4 gr t i s kind).1,I (Tr.add j4 gr t i s kind).2.1,I (Tr.add j4 gr t i s kind).2.2]):=by
 rw[pp 118 rfl hn rfl,b8,b6];have hl:=(nc w).len;unfold add
 by_cases hk:kind≠1/\kind≠2
 .rw[if_pos hk];let⟨k1,k2⟩:=hk;simp(disch:=omega)[Ce,k1,k2]
 .rw[if_neg hk];have B:Bx [.var [.b9 false [],.int .i64 0,.int .i64 0],.var (Tb t)] 1 t:=⟨rfl,rfl⟩;let⟨Y,l,G⟩:=abo (n:=65) ah t w i s B
  have b:=G.old 0 ai ai
  have A:=G.bx.get;have L:=G.le;simp only[Tb,bF,aR,bt]at l b L;have b:=iT b
  by_cases M:enter j4 t i s=0
  .rw[if_neg (show ¬(enter j4 t i s≠0)from λh=>h M)]
   rw[M]at l
   by_cases c1:200<=t.nodes.length
   .rw[if_pos (show 200<=t.nodes.length\/1099511627776<=t.next from .inl c1)]
    rcases(by omega:kind=1\/kind=2)with rfl | rfl
    .simp(disch:=omega)[Ce,l,b,A]
    .simp(disch:=omega)[Ce,l,b,A]
   .by_cases S : 1099511627776 <= t.next
    .rw[if_pos (show 200<=t.nodes.length\/1099511627776<=t.next from .inr S)]
     rcases(by omega:kind=1\/kind=2)with rfl | rfl
     .simp(disch:=omega)[Ce,l,b,A,S]
     .simp(disch:=omega)[Ce,l,b,A,S]
    .rw[if_neg (show ¬(200<=t.nodes.length\/1099511627776<=t.next) by omega)]
     let⟨p,W,p2,po3,U,po5,po6,po7⟩:=rq M;obtain⟨o,q⟩:∃o:Tr.Tree,o=⟨t.fn,t.nodes,t.next+1,t.ek⟩:=⟨_,rfl⟩;obtain⟨y,z⟩:∃y:Tr.Node,y=⟨t.next,kind,1,true,[],true,[],if kind=2 then i else 0⟩:=⟨_,rfl⟩
     rw[<-q,<-z];have F:lC o.nodes:=by rw[q];exact w.wf.jL
     have hl1:o.nodes.length<=1000:=by rw[q];exact hl
     have B1:Bx (Y.set 1 (.var (Tb o))++[.var (Nc y)]) 1 o:=(G.bx.set o).app rfl;let⟨Y2,K,N⟩:=EZ (m:=65) ah o F hl1 y B1
     have X:lC (iP o y).nodes:=nO F
     have hl2:(iP o y).nodes.length<=1000:=by
      have h1:=tY F y;have h2:o.nodes.length<200:=by rw[q];simp only;omega
      omega
     have hpos:=w.wf.pos _ _ W
     have Z:find (iP o y).nodes i=some p:=by
      rw[kr F,z,q];simp only;rw[if_neg af]
      exact W
     have PG:=(w.wf.dir _ _ W p2).2;have hno:jB p s=none:=cD.2 λe hem=>by simpa using U e hem
     have PJ:(iP o y).ek=t.ek:=by unfold iP;rw[q]
     have akf:=w.wf.Ld;have ak6:=w.wf.XN;let⟨Y3,H,T⟩:=Kh (n:=65) ah (iP o y) X hl2 Z PG.jL af hno af af t.next N.bx
     have E:=N.old 0 ai ai
     have v:=N.old Y.length ai af
     have x:=T.old 0 (by have:=N.le;simp at this;omega) ai
     have r:=T.old Y.length (by have:=N.le;simp at this;omega) af
     have O:=N.le;have ak1:=T.le;rw[E]at x;rw[v]at r;have e0:(Y.set 1 (.var (Tb o))++[.var (Nc y)])[0]? = Y[0]? := nP af ai
     have e2:(Y.set 1 (.var (Tb o))++[.var (Nc y)])[Y.length]? = some (.var (Nc y)):=by rw[kM af];simp
     rw[e0]at E x;rw[e2]at v r;have P:Y[0]? = some (.var [.b9 false [],.int .i64 0,.int .i64 0]):=by rw[aD af,b]
     rw[P]at E x;simp only[aT,dG,aR,bt]at O;have E:=iT E;have v:=iT v;have x:=iT x;have r:=iT r;have Q:=T.bx.get;have n1:¬Y=[]:=λh=>by rw[h]at L;simp at L
     have n2:¬0=Y.length:=af
     have n3:¬Y.length=0:=af
     have n4:¬ []=Y:=λh=>n1 h.symm
     generalize iY gr (iP o y) i s t.next=t3 at *
     rcases(by omega:kind=1\/kind=2)with rfl | rfl
     .subst q;rw[if_neg ah]at z
      subst z;simp only[Nd,Nc,Tb,aP]at K H v r;simp(disch:=omega)[Ce,l,A,S,kM,jk,K,v,H,x,Q,r,n2]
     .subst q;rw[if_pos rfl]at z;subst z;simp only[Nd,Nc,Tb,aP]at K H v r;simp(disch:=omega)[Ce,l,A,S,kM,jk,K,v,H,x,Q,r,n2]
  .rw[if_pos M];generalize enter j4 t i s=e at *
   rcases(by omega:kind=1\/kind=2)with rfl | rfl
   .simp(disch:=omega)[Ce,l,M,b]
   .simp(disch:=omega)[Ce,l,M,b]
variable{n:Nat}
def Qk(L:47<n)(t:Tr.Tree)(w:lM t)(i:Int)(s:au):
  (en.cz n).p 122 [Tv t,I i,.str s]=some (.jg [I (Tr.look j4 t i s).1,I (Tr.look j4 t i s).2]):=by
 rw[pp 122 rfl L rfl,b8,b6];have hl:=(nc w).len;have B:Bx [.var (Tb t)] 0 t:=⟨rfl,rfl⟩;let⟨Y,b,G⟩:=Qg (n:=47) ah t w.wf.jL hl i B
 have o:=UG (n:=47) ah s
 have E:=G.le;simp only[Tb,aR,bt]at b E;unfold Tr.look
 by_cases x:jF t i=0
 .let⟨q,K,hk,v⟩:=JA x;rw[x,v]at b;rw[v,if_neg (show ¬(jF t i≠0)from λh=>h x)]
  have r:=(w.wf.dir _ _ K hk).2;have y:q.b7.length<=1000:=by have:=r.len;omega
  have l:=Ms (n:=47) ah q r.jL y s
  have A:=ur jM r.jL s;unfold jB at l⊢;simp only[Nd]at b l;generalize lP gr q.b7 s=c at *
  cases H:j4 s with
  |false =>
   rw[H]at o;rw[if_pos rfl];simp(disch:=omega)[OY,b,ca 189,o]
  |true =>
   rw[H]at o;rw[if_neg (show ¬(true=false) by decide)]
   rcases A with⟨N,M,z⟩ | ⟨z,_⟩
   .obtain⟨e,F⟩:∃e,e=q.b7[c]:=⟨_,rfl⟩;rw[z,<-F]at l⊢;simp(disch:=omega)[OY,b,ca 189,o,ca 190,l,<-F]
   .rw[z]at l⊢;simp(disch:=omega)[OY,b,ca 189,o,ca 190,l]
 .rw[if_pos x];simp only[Nd]at b;generalize jF t i=e at *
  simp(disch:=omega)[OY,b,x]
def Hf(Q:129<n)(t:Tr.Tree)(w:lC t.nodes)(hl:t.nodes.length<=1000){i:Int}{q:Tr.Node}(E:find t.nodes i=some q)(hs:sr gr q.b7)(A:q.b7.length<=1000){s:au}{e:Tr.Ent}(K:jB q s=some e)
  {X:AH} {k:Nat} (B:Bx X k t) :
  ∃Y,eT (en.cz n) 186 [.ptr k 0 0 0,I i,.str s] X=some (.jg [],Y)/\Gw X Y k (left t i s):=by
 rw[ph 186 rfl Q rfl,b6];have y:=DB (n:=129) ah t w hl i B
 rw[iX E,E]at y;have b:=Ms (n:=129) ah q hs A s
 have N:=U1 (n:=129) ah
 have M:=aiL (n:=129) ah
 have S:=B.lt;unfold left;rw[iX E];have r:=ur jM hs s;have v:=λh H=>K5 jM hs (s:=s) h H
 unfold nF at v;rw[K]at b;unfold jB at K;rw[K]at r;generalize lP gr q.b7 s=c at *
 rcases r with⟨U,H,O⟩ | ⟨O,_⟩
 .rw[v U H];obtain⟨l,o⟩:∃l:Tr.Node,l={q with fe:=false,b7:=q.b7.take c++q.b7.drop (c+1)}:=⟨_,rfl⟩
  rw[<-o];have L:Bx (X++[.var (Nc q),.var (Nc l),.me 1 3 (l.b7.map En)]) k t:=B.app rfl;let⟨Y,x,G⟩:=EZ (n:=l) (m:=129) ah t w hl L
  refine⟨Y,?_,G.bx,bH ai G.le,λj T F=>?_⟩
  .subst o;have P:=jr X;simp only[Nd,Nc,List.map_append,List.map_take,List.map_drop]at y b x;simp only[eH]at y b;have z:List.take (c+(q.b7.length-(c+1))) (List.take c (List.map En q.b7)++List.drop (c+1) (List.map En q.b7))=List.take c (List.map En q.b7)++List.drop (c+1) (List.map En q.b7):=aO ak
   simp(disch:=omega)[afx,z,y,ca 190,b,N,M,jd,kP,x]
  .rw[G.old j ak F,aJ (an T)]
 .cases O
def ahi(x:108<n)(t:Tr.Tree)(w:lC t.nodes)(hl:t.nodes.length<=1000){i:Int}{q:Tr.Node}(h:find t.nodes i=some q){X:AH}{k:Nat}(B:Bx X k t):
  ∃Y,eT (en.cz n) 241 [.ptr k 0 0 0,I i] X=some (.jg [],Y)/\Gw X Y k (kj t i):=by
 rw[acr x,b6];have r:=Ki (n:=108) ah t w hl i X B.pl k B.at_
 have y:=B.lt;have hk:=B.get;have o:=U0 (n:=108) ah
 have l:=acp (n:=108) ah
 unfold kj;rw[h]at r
 rcases pN w i with⟨E,z,_⟩ | ⟨A,_⟩
 .rw[yZ w E z];generalize jK t.nodes i=c at *
  refine⟨X.set k (.var (Tb ⟨false,t.nodes.take c++t.nodes.drop (c+1),t.next,t.ek⟩))++[.me 1 6 ((t.nodes.take c++t.nodes.drop (c+1)).map Nd)],?_,Gw.of B _ _ rfl⟩;have v:=jr X;have b:List.take (c+(t.nodes.length-(c+1))) (List.take c (List.map Nd t.nodes)++List.drop (c+1) (List.map Nd t.nodes))=List.take c (List.map Nd t.nodes)++List.drop (c+1) (List.map Nd t.nodes):=aO ak
  simp(disch:=omega)[RV,r,b,hk,o,l,jd,kP,lV,kM,zV,pR,jk];simp[Tb]
 .rw[A]at h;cases h
def UA(y:130<n)(t:Tr.Tree)(w:lC t.nodes)(hl:t.nodes.length<=1000){i:Int}{q:Tr.Node}(v:find t.nodes i=some q)(A : -4398046511104<=q.links/\q.links<=4398046511104){X:AH}{k:Nat}(B:Bx X k t):
  ∃Y,eT (en.cz n) 187 [.ptr k 0 0 0,Nd q] X=some (.jg [],Y)/\Gw X Y k (unnamed t i):=by
 rw[ph 187 rfl y rfl,b6];have r:=jI v;have z:=B.lt;have x:Bx (X++[.var (Nc q)]) k t:=B.app rfl;unfold unnamed;rw[iX v]
 by_cases o:q.kind=2
 .rw[if_pos o];let⟨Y,h,G⟩:=ahi (n:=130) ah t w hl v x
  refine⟨Y,?_,(Gw.same B rfl).trans G⟩;subst r;simp only[Nc,o]at h;simp(disch:=omega)[Yu,o,h]
 .rw[if_neg o];have b:Bx (X++[.var (Nc {q with links:=q.links-1})]) k t:=B.app rfl
  let⟨Y,l,G⟩:=EZ (n:={q with links:=q.links-1}) (m:=130) ah t w hl b
  refine⟨Y,?_,(Gw.same B rfl).trans G⟩;simp only[Nc,Nd]at l;simp(disch:=omega)[Yu,o,l]
def aid(hn:131<n)(t:Tr.Tree)(w:lM t)(i:Int)(s:au):
  (en.cz n).p 121 [Tv t,I i,.str s]=some (.jg [Tv (Tr.un j4 t i s).1,I (Tr.un j4 t i s).2.1,I (Tr.un j4 t i s).2.2]):=by
 rw[pp 121 rfl hn rfl,b8,b6];have hl:=(nc w).len;have b:=Qk (n:=131) ah t w i s
 unfold Tr.un
 by_cases K:(Tr.look j4 t i s).2=0
 .rw[if_neg (show ¬((Tr.look j4 t i s).2≠0)from λh=>h K)]
  rw[K]at b;obtain⟨p,e,r,p2,Z,o,q⟩:=zD (x:=(Tr.look j4 t i s).1) (by rw[<-K])
  rw[<-q]at b⊢;obtain⟨he,_⟩:=kV o;obtain⟨⟨z,L⟩,hx1,N⟩:=mV w r he;have B:Bx [.var [.b9 false [],.int .i64 0,.int .i64 0],.var (Tb t)] 1 t:=⟨rfl,rfl⟩;have l:=DB (n:=131) ah t w.wf.jL hl e.ino B
  rw[iX L,L]at l;rw[iX L]
  by_cases M:0<z.b7.length
  .rw[if_pos M];simp only[Tv,Nd,Nc,Tb,eH]at b l;simp(disch:=omega)[Sf,ca 122,b,l,M]
  .rw[if_neg M];have y:=(w.wf.dir _ _ r p2).2;have O:p.b7.length<=1000:=by have:=y.len;omega
   have B1:Bx [.var [.b9 false [],.int .i64 0,.int .i64 0],.var (Tb t),.var (Nc z),.var (Nc z)] 1 t:=⟨rfl,rfl⟩;obtain⟨Y,H,G⟩:=Hf (n:=131) ah t w.wf.jL hl r y.jL O o B1
   have W:=w.wf.left jM r p2 o;have v:find (left t i s).nodes e.ino=some z:=by rw[pK w.wf.jL r,if_neg N];exact L
   have Q:(left t i s).nodes.length<=1000:=by have:=W.len;omega
   have P : -4398046511104<=z.links/\z.links<=4398046511104:=(IB w i s).2 z (by rw[<-q];exact v)
   obtain⟨Y2,F,U⟩:=UA (n:=131) ah (left t i s) W.jL Q v P G.bx
   have hA0:=iT (G.old 0 ai ai)
   have E:=iT (G.old 3 ai ai)
   have A:=G.le;have T:=iT ((U.old 0 (by simp at A;omega) ai).trans (G.old 0 ai ai))
   have X:=U.le;have S:=U.bx.get;simp only[aR,bt]at A;generalize unnamed (left t i s) e.ino=u at *
   simp only[Tv,Nd,Nc,Tb,eH]at b l H F E;simp(disch:=omega)[Sf,ca 122,b,l,M,H,E,F,T,S]
 .rw[if_pos K];generalize(Tr.look j4 t i s).2=e at *
  simp only[Tv]at b;simp(disch:=omega)[Sf,ca 122,b,K]
def ahJ{n:Nat}(A:134<n)(t:Tr.Tree)(hs:lC t.nodes)(hl:t.nodes.length<=1000)(i:Int)(d:au)(E:d.length<=140737488355328):
  (en.cz n).p 215 [Tv t,I i,.b9 false (d.map B)]=some (.jg [Tv (put t i d).1,I (put t i d).2]):=by
 rw[pp 215 rfl A rfl,b8,b6];have B0:Bx [.var [.b9 false [],.int .i64 0,.int .i64 0],.var (Tb t)] 1 t:=⟨rfl,rfl⟩;have h:=DB (n:=134) ah t hs hl i B0
 have o:=acy (n:=134) ah
 unfold put;cases l:find t.nodes i with
 |none =>
  have e:iS t i=jo:=by unfold iS;rw[l];rfl
  rw[e,l]at h;simp only[Tb,Nc,Nd,jo,aP]at h;simp(disch:=omega)[OT,h]
 |some q =>
  rw[iX l,l]at h;simp only[Tb,Nc,Nd]at h
  by_cases x:q.kind=2
  .simp(disch:=omega)[OT,h,x]
  .by_cases z : 4096 < d.length
   .simp(disch:=omega)[OT,h,x,z]
   .have B1:Bx [.var [.b9 false [],.int .i64 0,.int .i64 0],.var (Tb t),.var (Nc q),.var (Nc {q with fd:=false,data:=d}),.me 0 1 (d.map B)] 1 t:=⟨rfl,rfl⟩
    let⟨Y,y,G⟩:=EZ (m:=134) ah t hs hl {q with fd:=false,data:=d} B1
    have b:=G.old 0 ai ai
    have v:=G.bx.get;have r:=G.le;simp only[Tb,Nc,Nd,bF,aR,bt]at y b r;have b:=iT b;simp(disch:=omega)[OT,h,x,z,o,jd,y,b,v]
def Bx.Uw{X:AH}{k:Nat}{t:Tr.Tree}(h:Bx X k t){j:Nat}(b:j≠k){A:AB}(i:gd A=true):Bx (X.set j A) k t :=
 ⟨IJ h.pl j i,by rw[aH b];exact h.at_⟩
def aie{n:Nat}(hn:126<n)(t:Tr.Tree)(w:lM t)(i to:Int)(s:au)(hlk:∀q,find t.nodes i=some q->-4398046511104<=q.links/\q.links<=4398046511104):
  (en.cz n).p 120 [Tv t,I i,I to,.str s]=some (.jg [Tv (Tr.ln j4 gr t i to s).1,I (Tr.ln j4 gr t i to s).2]):=by
 rw[pp 120 rfl hn rfl,b8,b6];have hl:=(nc w).len;have hs:=w.wf.jL;have B0:Bx [.var [.b9 false [],.int .i64 0,.int .i64 0],.var (Tb t)] 1 t:=⟨rfl,rfl⟩;have l:=DB (n:=126) ah t hs hl i B0
 unfold ln;cases z:find t.nodes i with
 |none =>
  have e:iS t i=jo:=by unfold iS;rw[z];rfl
  rw[e,z]at l;simp only[Tb,Nc,Nd,jo,aP]at l;simp(disch:=omega)[Lq,l]
 |some q =>
  have hq1:=hlk q z;have X:=(fk z).2;rw[iX z,z]at l;simp only
  by_cases c1:q.kind=1/\q.links=0
  .let⟨k1,k2⟩:=c1;rw[if_pos (show q.kind=1/\q.links=0 from⟨k1,k2⟩)]
   simp only[Tb,Nc,Nd]at l;simp(disch:=omega)[Lq,l,k1,k2]
  rw[if_neg c1]
  by_cases F:q.kind=2
  .rw[if_pos F];simp only[Tb,Nc,Nd]at l;simp(disch:=omega)[Lq,l,F]
  rw[if_neg F];have B1:Bx [.var [.b9 false [],.int .i64 0,.int .i64 0],.var (Tb t),.var (Nc q),.var (Nc q)] 1 t:=⟨rfl,rfl⟩;let⟨Y,o,G⟩:=abo (n:=126) ah t w to s B1
  have E:=G.old 0 ai ai
  have K:=G.old 3 ai ai
  have hY1:=G.bx.get;have r:=G.le;simp only[bF,cB]at E K;have hb1:(decide (q.kind=1)&&decide (q.links=0))=false:=by simpa using c1
  by_cases H:enter j4 t to s=0
  .rw[if_neg (show ¬(enter j4 t to s≠0)from λh=>h H)]
   rw[H]at o;let⟨p,Q,p2,po3,U,po5,po6,po7⟩:=rq H;obtain⟨b,y⟩:∃b:Tr.Node,b={q with links:=q.links+1}:=⟨_,rfl⟩
   have hni:b.ino=i:=by rw[y];exact X
   rw[<-y];have B2:=G.bx.Uw (j:=3) ah (A:=.var (Nc b)) rfl
   let⟨Y2,P,T⟩:=EZ (m:=126) ah t hs hl b B2
   have W:lC (iP t b).nodes:=nO hs
   have hl2:(iP t b).nodes.length<=1000:=by
    have h1:=tY hs b;have h2:=w.wf.len;omega
   have hne:to≠i:=λe=>by
    rw[e,z]at Q;cases Q;exact F p2
   have Z:find (iP t b).nodes to=some p:=by
    rw[kr hs,hni,if_neg hne];exact Q
   have PG:=(w.wf.dir _ _ Q p2).2;have hno:jB p s=none:=cD.2 λe hem=>by simpa using U e hem
   have akf:=w.wf.Ld;have PJ:(iP t b).ek=t.ek:=rfl;let⟨Y3,O,S⟩:=Kh (n:=126) ah (iP t b) W hl2 Z PG.jL af hno af af i T.bx
   have v:=(T.trans S).old 0 (by simp;simp at r;omega) ai
   rw[aH ah,E]at v
   have hC1:=S.bx.get;have N:0<Y3.length:=by
    have:=T.le;have:=S.le;simp at *
    omega
   have alb:1<Y3.length:=by
    have:=T.le;have:=S.le;simp at *
    omega
   have v:=iT v N;have x:=iT K (by simp at r;omega)
   have ak8:3<Y.length:=by simp at r;omega
   generalize iY gr (iP t b) to s i=t3 at *
   subst y;simp only[Tb,Nc,Nd]at l o P O x;simp(disch:=omega)[Lq,l,F,o,x,P,O,v,hC1]
  .rw[if_pos H];have L:0<Y.length:=by simp at r;omega
   have M:=iT E L;generalize enter j4 t to s=e at *
   simp only[Tb,Nc,Nd]at l o;simp(disch:=omega)[Lq,l,F,o,H,M]
def Cz(x n:Tr.Node):Int:=if x.kind=2/\n.kind≠2 then 73 else if x.kind≠2/\n.kind=2 then 72 else if 0<n.b7.length then 74 else 0
def ahQ{n:Nat}(i:133<n)(x y:Tr.Node):(en.cz n).p 193 [Nd x,Nd y]=some (I (Cz x y)):=by
 rw[pp 193 rfl i rfl,b8,b6];unfold Cz
 by_cases h:x.kind=2
 .by_cases b : y.kind = 2
  .by_cases c3:0<y.b7.length
   .simp(disch:=omega)[Ii,h,b,c3]
   .simp(disch:=omega)[Ii,h,b,c3]
  .simp(disch:=omega)[Ii,h,b]
 .by_cases b : y.kind = 2
  .simp(disch:=omega)[Ii,h,b]
  .by_cases c3:0<y.b7.length
   .simp(disch:=omega)[Ii,h,b,c3]
   .simp(disch:=omega)[Ii,h,b,c3]
def JV(t:Tr.Tree)(i:Int)(s:au):Int⊕Int:=if (Tr.look j4 t i s).2=0 then .inl (Tr.look j4 t i s).1 else .inr (Tr.look j4 t i s).2
def mO(t:Tr.Tree)(p:au):Int×Int:=match Nm.split p with
 |none=>(0,60)
 |some l=>match mg (JV t) l 1 with
  | .inl i=>(i,0)
  | .inr e=>(0,e)
def xH{α A C E:Type}(g:A->α->A⊕C)(h:C->E):∀(l:List α)(s:A),mg (λi x=>Sum.elim Sum.inl (λe=>Sum.inr (h e)) (g i x)) l s=Sum.elim Sum.inl (λe=>Sum.inr (h e)) (mg g l s)
 | [],s=>rfl
 |a::l,s=>by
  simp only[mg];cases g s a with
  |inl j=>exact xH g h l j
  |inr e=>rfl
def aju{n:Nat}(z:47<n)(t:Tr.Tree)(w:lM t)(l:List au)(hl:l.length<=1000)(f:Bool)(e0:Env)(h2:e0 2 = .iV (Tb t))(q:e0 19 = .b9 f (l.map AV.str))(o:e0 20=I (l.length:Int)):
  iter (round (en.cz n) [8,21] [(.exit 0,[8]),(.ret,[4,5])] yd e0 0 []) ([I 1,I 0],[])=some (match mg (JV t) l 1 with
   | .inl i=>(.exit 0,[I i],[])
   | .inr e=>(.ret,[I 0,I e],[])):=by
 have:=xE (f:=round (en.cz n) [8,21] [(.exit 0,[8]),(.ret,[4,5])] yd e0 0 []) (λk (i:Int)=>([I i,I (k:Int)],[])) l (λi s=>Sum.elim Sum.inl (λe=>Sum.inr ((.ret,[I 0,I e],[]):AX×List AV×AH)) (JV t i s)) (λi=>(.exit 0,[I i],[])) (λ_ _=>True)
  (λk hk i _=>by
   obtain⟨y,v⟩:∃y,y=l[k]:=⟨_,rfl⟩;rw[<-v];have h:=Qk z t w i y;unfold JV;simp only[Tv]at h;generalize Tr.look j4 t i y=r at *
   let⟨a,b⟩:=r
   by_cases x:b=0
   .subst x;simp only[if_pos,Sum.elim_inl];refine⟨trivial,?_⟩;simp(disch:=omega)[round_eq,yd,h2,q,o,<-v,ca 122,h]
   .simp only[if_neg x,Sum.elim_inr];simp(disch:=omega)[round_eq,yd,h2,q,o,<-v,ca 122,h,x])
  (λi _=>by simp(disch:=omega)[round_eq,yd,o]) 1 trivial
 refine this.trans ?_;rw[xH (JV t) (λe=>((.ret,[I 0,I e],[]):AX×List AV×AH))]
 cases mg (JV t) l 1<;>rfl
def abG{n:Nat}(b:49<n)(t:Tr.Tree)(w:lM t)(p:au):(en.cz n).p 169 [Tv t,.str p]=some (.jg [I (mO t p).1,I (mO t p).2]):=by
 rw[pp 169 rfl b rfl,b8,b6];have h:=UJ (n:=49) ah p
 unfold spV at h;unfold mO;cases hs:Nm.split p with
 |none =>
  rw[hs]at h;simp only at h;simp(disch:=omega)[YA,ca 136,h]
 |some l =>
  rw[hs]at h;simp only at h;have hl:=vW hs;have o:=aju (n:=49) ah t w l af (decide (p=[47]))
  simp(disch:=omega)[YA,ca 136,h];rw[o _ aq aq aq]
  cases mg (JV t) l 1 with
  |inl i=>simp(disch:=omega)
  |inr e=>simp(disch:=omega)
def l92{n:Nat}(z:187<n)(t:Tr.Tree)(w:lM t)(l:List au)(hl:l.length<=1000)(x:∀y∈l,y.length<=1000000000)(f:Bool)(e0:Env)(h2:e0 2 = .iV (Tb t))(h6:e0 6 = .b9 f (l.map AV.str)):
  iter (round (en.cz n) [8,9] [(.exit 0,[8]),(.ret,[4,5])] C4 e0 0 []) ([I 1,I 0],[])=some (match mg (JV t) l 1 with
   | .inl i=>(.exit 0,[I i],[])
   | .inr e=>(.ret,[I 0,I e],[])):=by
 have:=xE (f:=round (en.cz n) [8,9] [(.exit 0,[8]),(.ret,[4,5])] C4 e0 0 []) (λk (i:Int)=>([I i,I (k:Int)],[])) l (λi s=>Sum.elim Sum.inl (λe=>Sum.inr ((.ret,[I 0,I e],[]):AX×List AV×AH)) (JV t i s)) (λi=>(.exit 0,[I i],[])) (λ_ _=>True)
  (λk hk i _=>by
   obtain⟨y,o⟩:∃y,y=l[k]:=⟨_,rfl⟩;have q:=x l[k] (aN hk);rw[<-o]at q⊢;have h:=Zp z t (nc w) i y af
   unfold JV;simp only[Tv]at h;generalize Tr.look j4 t i y=r at *
   let⟨a,b⟩:=r
   by_cases v:b=0
   .subst v;simp only[if_pos,Sum.elim_inl];refine⟨trivial,?_⟩;simp(disch:=omega)[round_eq,C4,h2,h6,<-o,h]
   .simp only[if_neg v,Sum.elim_inr];simp(disch:=omega)[round_eq,C4,h2,h6,<-o,h,v])
  (λi _=>by simp(disch:=omega)[round_eq,C4,h6]) 1 trivial
 refine this.trans ?_;rw[xH (JV t) (λe=>((.ret,[I 0,I e],[]):AX×List AV×AH))]
 cases mg (JV t) l 1<;>rfl
def s92{n:Nat}(r:189<n)(t:Tr.Tree)(w:lM t)(p:au)(q:p.length<=1000000000):(en.cz n).p 92 [Tv t,.str p]=some (.jg [I (mO t p).1,I (mO t p).2]):=by
 rw[pp 92 rfl r rfl,b8,b6];have h:=UN (n:=189) ah p q
 unfold spR at h;unfold mO;cases hs:Nm.split p with
 |none =>
  rw[hs]at h;simp only at h;simp(disch:=omega)[c92,ca 111,h]
 |some l =>
  rw[hs]at h;simp only at h;have hl:=vW hs;have o:=(rE hs).2.2;have v:=l92 (n:=189) ah t w l af (λy b=>by have:=MD (aM.1 o y b);omega) (decide (p=[47]))
  simp(disch:=omega)[c92,ca 111,h];rw[v _ aq aq]
  cases mg (JV t) l 1 with
  |inl i=>simp(disch:=omega)
  |inr e=>simp(disch:=omega)
def oq:∀l:au,oC (l.map B)=some l
 | []=>rfl
 |b::l=>by simp[oC,oq l]
def Dl{α:Type}[DecidableEq α]:∀ {a b:List α},a.length=b.length->((a.zip b).all (λx=>decide (x.1=x.2))=true↔a=b)
 | [],[],_=>ai
 |x::a,y::b,h=>by
  have:=Dl (a:=a) (b:=b) (an h)
  simp only[dZ,bU,aF,this,decide_eq_true_eq,dU]
def ajG{Γ:jE}(a b:List Tr.Ent)(hl:a.length=b.length)(v:a.length<=1000)(f g:Bool)(e0:Env)(h0:e0 0 = .b9 f (a.map En))(h1:e0 1 = .b9 g (b.map En)):
  iter (round Γ [5] [(.exit 0,[]),(.ret,[4])] tN e0 0 []) ([.int .i64 0],[])=some (if (a.zip b).all (λx=>decide (x.1=x.2))=true then(.exit 0,[],[])else(.ret,[.bool false],[])) :=
 wI (f:=round Γ [5] [(.exit 0,[]),(.ret,[4])] tN e0 0 []) (λi=>([.int .i64 i],[])) a b hl (λx y=>decide (x=y)) _ _
  (λi r q=>by
   obtain⟨x,l⟩:∃x,x=a[i]:=⟨_,rfl⟩;obtain⟨y,h⟩:∃y,y=b[i]:=⟨_,rfl⟩;rw[<-l,<-h];obtain⟨x1,x2,x3⟩:=x;obtain⟨y1,y2,y3⟩:=y
   by_cases n:x1=y1
   .by_cases o : x2 = y2
    .by_cases c3:x3=y3
     .simp(disch:=omega)[round_eq,tN,h0,h1,<-l,<-h,iU,n,o,c3]
     .simp(disch:=omega)[round_eq,tN,h0,h1,<-l,<-h,iU,n,o,c3]
    .simp(disch:=omega)[round_eq,tN,h0,h1,<-l,<-h,iU,n,o]
   .simp(disch:=omega)[round_eq,tN,h0,h1,<-l,<-h,iU,n])
  (by simp(disch:=omega)[round_eq,tN,h0])
variable{n:Nat}
def ah2(o:199<n)(a b:List Tr.Ent)(f g:Bool)(r:a.length<=1000)(q:b.length<=1000):
  (en.cz n).p 142 [.b9 f (a.map En),.b9 g (b.map En)]=some (.bool (decide (a=b))):=by
 rw[pp 142 rfl o rfl,b8,b6]
 by_cases hl:a.length=b.length
 .have l:=Dl hl;simp(disch:=omega)[YE,hl];rw[ajG a b hl af f g _ aq aq]
  by_cases i:a=b
  .rw[if_pos (l.2 i)];simp(disch:=omega)[i]
  .rw[if_neg (λh=>i (l.1 h))]
   simp(disch:=omega)[i]
 .have i:a≠b:=λh=>hl (by rw[h])
  simp(disch:=omega)[YE,i]
def jy(q:Tr.Node):Tr.Node:={q with fd:=true,fe:=true}
def s79(E:200<n)(x y:Tr.Node)(A:x.b7.length<=1000)(z:y.b7.length<=1000):
  (en.cz n).p 79 [Nd x,Nd y]=some (.bool (decide (jy x=jy y))):=by
 rw[pp 79 rfl E rfl,b8,b6];have r:=ah2 (n:=200) ah x.b7 y.b7 false false A z
 have o:=oq x.data;have q:=oq y.data
 have h:∀x y:Tr.Node,jy x=jy y↔x.ino=y.ino/\x.kind=y.kind/\x.links=y.links/\x.up=y.up/\x.data=y.data/\x.b7=y.b7:=λx y=>by
  unfold jy;rw[Tr.Node.mk.injEq]
  constructor
  .rintro⟨h1,h2,h3,_,h4,_,h5,h6⟩;exact⟨h1,h2,h3,h6,h4,h5⟩
  .rintro⟨h1,h2,h3,h6,h4,h5⟩;exact⟨h1,h2,h3,rfl,h4,rfl,h5,h6⟩
 have i:decide (jy x=jy y)=decide (x.ino=y.ino/\x.kind=y.kind/\x.links=y.links/\x.up=y.up/\x.data=y.data/\x.b7=y.b7):=decide_eq_decide.2 (h x y);rw[i];clear i h;obtain⟨x1,x2,x3,x4,x5,x6,x7,x8⟩:=x;obtain⟨y1,y2,y3,y4,y5,y6,y7,v⟩:=y;simp only at r o q
 by_cases b:x1=y1
 .by_cases l : x2 = y2
  .by_cases c3 : x3 = y3
   .by_cases c4 : x8 = v
    .by_cases c5:x5=y5
     .subst c5;simp(disch:=omega)[X4,b,l,c3,c4,o,j9,ca 142,r]
     .simp(disch:=omega)[X4,b,l,c3,c4,o,q,j9,c5]
    .simp(disch:=omega)[X4,b,l,c3,c4]
   .simp(disch:=omega)[X4,b,l,c3]
  .simp(disch:=omega)[X4,b,l]
 .simp(disch:=omega)[X4,b]
def ajH(E:200<n)(a b:List Tr.Node)(hl:a.length=b.length)(F:a.length<=1000)(v:∀q∈a,q.b7.length<=1000)(r:∀q∈b,q.b7.length<=1000)(f g:Bool)(e0:Env)(h0:e0 0 = .b9 f (a.map Nd))(h1:e0 1 = .b9 g (b.map Nd)):
  iter (round (en.cz n) [5] [(.exit 0,[]),(.ret,[4])] yu e0 0 []) ([.int .i64 0],[])=some (if (a.zip b).all (λx=>decide (jy x.1=jy x.2))=true then(.exit 0,[],[])else(.ret,[.bool false],[])) :=
 wI (f:=round (en.cz n) [5] [(.exit 0,[]),(.ret,[4])] yu e0 0 []) (λi=>([.int .i64 i],[])) a b hl (λx y=>decide (jy x=jy y)) _ _
  (λi A o=>by
   obtain⟨x,l⟩:∃x,x=a[i]:=⟨_,rfl⟩;obtain⟨y,h⟩:∃y,y=b[i]:=⟨_,rfl⟩;rw[<-l,<-h];have z:=s79 (n:=n) af x y (by rw[l];exact v _ (aN A)) (by rw[h];exact r _ (aN o))
   simp only[Nd]at z
   by_cases c:jy x=jy y
   .simp(disch:=omega)[round_eq,yu,h0,h1,<-l,<-h,z,c]
   .simp(disch:=omega)[round_eq,yu,h0,h1,<-l,<-h,z,c])
  (by simp(disch:=omega)[round_eq,yu,h0])
def wW:∀ {a b:List Tr.Node},a.length=b.length->((a.zip b).all (λx=>decide (jy x.1=jy x.2))=true↔a.map jy=b.map jy)
 | [],[],_=>ai
 |x::a,y::b,h=>by
  have:=wW (a:=a) (b:=b) (an h)
  simp only[dZ,bU,aF,this,decide_eq_true_eq,bN,dU]
def ah3(v:201<n)(a b:List Tr.Node)(y:a.length<=1000)(x:b.length<=1000)(o:∀q∈a,q.b7.length<=1000)(l:∀q∈b,q.b7.length<=1000)(f g:Bool):
  (en.cz n).p 141 [.b9 f (a.map Nd),.b9 g (b.map Nd)]=some (.bool (decide (a.map jy=b.map jy))):=by
 rw[pp 141 rfl v rfl,b8,b6]
 by_cases hl:a.length=b.length
 .have r:=wW hl;simp(disch:=omega)[YF,hl];rw[ajH ah a b hl af o l f g _ aq aq]
  by_cases i:a.map jy=b.map jy
  .rw[if_pos (r.2 i)];simp(disch:=omega)[i]
  .rw[if_neg (λh=>i (r.1 h))]
   simp(disch:=omega)[i]
 .have i:a.map jy≠b.map jy:=λh=>hl (by have:=congrArg List.length h;simpa using this)
  simp(disch:=omega)[YF,i]
def qO(a b:Tr.Tree):Bool:=decide (a.next=b.next)&&(decide (a.ek=b.ek)&&decide (a.nodes.map jy=b.nodes.map jy))
def s78(q:202<n)(a b:Tr.Tree)(l:Bt a)(i:Bt b):(en.cz n).p 78 [Tv a,Tv b]=some (.bool (qO a b)):=by
 rw[pp 78 rfl q rfl,b8,b6];have r:=ah3 (n:=202) ah a.nodes b.nodes l.len i.len l.b7 i.b7 false false
 unfold qO
 by_cases h:a.next=b.next
 .by_cases o:a.ek=b.ek
  .simp(disch:=omega)[c78,h,o,ca 141,r]
  .simp(disch:=omega)[c78,h,o]
 .simp(disch:=omega)[c78,h]
def s89{n:Nat}(i:5<n)(a b:au)(f g:Bool):(en.cz n).p 89 [.b9 f (a.map B),.b9 g (b.map B)]=some (.bool (decide (a=b))):=by
 rw[pp 89 rfl i rfl,b8,b6];have h1:=oq a;have h2:=oq b
 by_cases h:a=b
 .simp(disch:=omega)[c89,j9,h2,h]
 .simp(disch:=omega)[c89,j9,h1,h2,h]
def l90{Γ:jE}(a b:List Tr.Ent)(hl:a.length=b.length)(z:a.length<=1000)(f g:Bool)(e0:Env)(h0:e0 0 = .b9 f (a.map En))(h1:e0 1 = .b9 g (b.map En))(h:e0 12=I (a.length:Int)):
  iter (round Γ [13] [(.exit 0,[]),(.ret,[4])] za e0 0 []) ([.int .i64 0],[])=some (if (a.zip b).all (λx=>decide (x.1=x.2))=true then(.exit 0,[],[])else(.ret,[.bool false],[])) :=
 wI (f:=round Γ [13] [(.exit 0,[]),(.ret,[4])] za e0 0 []) (λi=>([.int .i64 i],[])) a b hl (λx y=>decide (x=y)) _ _
  (λi v r=>by
   obtain⟨x,n⟩:∃x,x=a[i]:=⟨_,rfl⟩;obtain⟨y,l⟩:∃y,y=b[i]:=⟨_,rfl⟩;rw[<-n,<-l];obtain⟨x1,x2,x3⟩:=x;obtain⟨y1,y2,y3⟩:=y
   by_cases o:x1=y1
   .by_cases q : x2 = y2
    .by_cases c3:x3=y3
     .simp(disch:=omega)[round_eq,za,h0,h1,h,<-n,<-l,iU,o,q,c3]
     .simp(disch:=omega)[round_eq,za,h0,h1,h,<-n,<-l,iU,o,q,c3]
    .simp(disch:=omega)[round_eq,za,h0,h1,h,<-n,<-l,iU,o,q]
   .simp(disch:=omega)[round_eq,za,h0,h1,h,<-n,<-l,iU,o])
  (by simp(disch:=omega)[round_eq,za,h])
def s90{n:Nat}(o:6<n)(a b:List Tr.Ent)(f g:Bool)(r:a.length<=1000)(q:b.length<=1000):
  (en.cz n).p 90 [.b9 f (a.map En),.b9 g (b.map En)]=some (.bool (decide (a=b))):=by
 rw[pp 90 rfl o rfl,b8,b6]
 by_cases hl:a.length=b.length
 .have l:=Dl hl;simp(disch:=omega)[c90,hl];rw[l90 a b hl af f g _ aq aq (by simp(disch:=omega)[hl])]
  by_cases i:a=b
  .rw[if_pos (l.2 i)];simp(disch:=omega)[i]
  .rw[if_neg (λh=>i (l.1 h))]
   simp(disch:=omega)[i]
 .have i:a≠b:=λh=>hl (by rw[h])
  simp(disch:=omega)[c90,i]
variable{n:Nat}
@[simp]def Hv(x:Ho):AV:=.agg [.int .i64 x.c,.int .i64 x.h,.int .i64 x.ino]
@[simp]def P8(l:List Ho):jw 3 (l.map Hv)=true:=by simp[jw]
def abp(b:12<n)(x:Ho):(en.cz n).p 254 [Hv x]=some (.agg [I x.c,I x.h]):=by
 rw[pp 254 rfl b rfl,b8,b6];simp(disch:=omega)[ae6]
def ahO(r:69<n)(c h:Int):(en.cz n).p 200 [.agg [I c,I h]]=some (.bool (Kx c h)):=by
 rw[pp 200 rfl r rfl,b8,b6];unfold Kx
 by_cases o:0<=c
 .by_cases q : c < 16
  .by_cases i : 0 <= h
   .by_cases l : h < 100
    .have b:h<=99:=by omega
     simp(disch:=omega)[Lm,o,q,i,l,b]
    .have b:¬h<=99:=by omega
     simp(disch:=omega)[Lm,o,q,i,l,b]
   .simp(disch:=omega)[Lm,o,q,i]
  .simp(disch:=omega)[Lm,o,q]
 .simp(disch:=omega)[Lm,o]
def ajj{Γ:jE}(a b:Int)(f:Bool)(e0:Env)(h3:e0 3 = .int .i64 0)(h6:e0 6 = .b9 f [I a,I b])(h:e0 7 = .int .i64 2):
  iter (round Γ [8] [(.exit 0,[]),(.ret,[2])] tG e0 0 []) ([.int .i64 0],[])=some (if a=0 then(if b=0 then(.exit 0,[],[])else(.ret,[I b],[]))else(.ret,[I a],[])):=by
 rw[iter_eq]
 by_cases l:a=0
 .by_cases i:b=0
  .subst l;subst i;simp(disch:=omega)[round_eq,tG,h3,h6,h];rw[iter_eq];simp(disch:=omega)[round_eq,tG,h3,h6,h];rw[iter_eq];simp(disch:=omega)[round_eq,tG,h]
  .subst l;simp(disch:=omega)[round_eq,tG,h3,h6,h,i];rw[iter_eq];simp(disch:=omega)[round_eq,tG,h3,h6,h,i]
 .simp(disch:=omega)[round_eq,tG,h3,h6,h,l]
def aht(o:13<n)(a b:Int)(f:Bool):(en.cz n).p 255 [.b9 f [I a,I b]]=some (I (if a≠0 then a else b)):=by
 rw[pp 255 rfl o rfl,b8,b6];have h:=ajj (Γ:=en.cz 13) a b f;simp(disch:=omega)[ae5];rw[h _ aq aq aq]
 by_cases i:a=0
 .by_cases l:b=0
  .simp(disch:=omega)[i,l]
  .simp(disch:=omega)[i,l]
 .simp(disch:=omega)[i]
def Ei(c h:Int)(x:Ho):Int:=if oa x.c c≠0 then oa x.c c else oa x.h h
def RK(c h:Int)(x:Ho):Ei c h x<0↔jx c h x=true:=by
 unfold Ei jx;rw[decide_eq_true_eq]
 by_cases h1:x.c=c
 .rw[if_neg (by simpa using(nj x.c c).2 h1),qt]
  omega
 .rw[if_pos (λh=>h1 ((nj x.c c).1 h)),qt]
  omega
def JH(c h:Int)(x:Ho):Ei c h x=0↔nZ c h x=true:=by
 unfold Ei nZ;rw[decide_eq_true_eq]
 by_cases h1:x.c=c
 .rw[if_neg (by simpa using(nj x.c c).2 h1),nj]
  omega
 .rw[if_pos (λh=>h1 ((nj x.c c).1 h)),nj]
  omega
def UE(i:14<n)(c h:Int)(x:Ho)(a b:Int):(en.cz n).p 202 [.agg [I c,I h],Hv x,.agg [I a,I b]]=some (I (Ei c h x)):=by
 rw[pp 202 rfl i rfl,b8,b6];have h1:=Zq (n:=14) ah x.c c
 have h2:=Zq (n:=14) ah x.h h
 have h3:=λf=>aht (n:=14) ah (oa x.c c) (oa x.h h) f
 have h4:=abp (n:=14) ah x
 unfold Ei;generalize oa x.c c=u at *
 generalize oa x.h h=v at *
 simp only[Hv]at h4;simp(disch:=omega)[afs,ca 254,h4,h1,h2,h3]
def ahM(l:15<n)(c h:Int)(x:Ho):(en.cz n).p 207 [.agg [I c,I h],Hv x]=some (.bool (nZ c h x)):=by
 rw[pp 207 rfl l rfl,b8,b6];have h4:=abp (n:=15) ah x
 simp only[Hv]at h4;unfold nZ;obtain⟨x1,x2,x3⟩:=x;simp only at h4
 by_cases i:x1=c
 .subst i
  by_cases b:x2=h
  .subst b;simp(disch:=omega)[RY,h4,iU]
  .simp(disch:=omega)[RY,h4,iU,b]
 .simp(disch:=omega)[RY,h4,iU,i]
def ajs(E:14<n)(l:List Ho)(hs:qh l)(hl:l.length<=1000)(f:Bool)(c h:Int)(e0:Env)(h0:e0 0 = .b9 f (l.map Hv))(h4:e0 4 = .iV [I c,I h])(h2:e0 2 = .fn (.func 202) [.agg [I c,I h]] [])(X:AH)(A:X.all gd=true):
  iter (round (en.cz n) [9,10] [(.exit 0,[9])] ya e0 X.length []) ([.int .i64 0,.int .i64 l.length],X)=some (.exit 0,[.int .i64 (kg (jx c h) l:Nat)],X) :=
 wH (f:=round (en.cz n) [9,10] [(.exit 0,[9])] ya e0 X.length []) (λi j=>([.int .i64 (i:Int),.int .i64 (j:Int)],X)) l.length (kg (jx c h) l) (lK _ _) (λc=>(.exit 0,[.int .i64 (c:Int)],X))
  (λa j G H=>by
   have y:=Jk (i:=a) (j:=j);obtain⟨m,v⟩:∃m,m=(a+j) / 2:=⟨_,rfl⟩;rw[<-v]at y⊢;have F:m<l.length:=af
   have b:=tv hs c h F;obtain⟨x,r⟩:∃x,x=l[m]:=⟨_,rfl⟩;rw[<-r]at b;have z:=UE (n:=n) E c h x c h;have q:=RK c h x;simp only[Hv]at z;generalize Ei c h x=ci at *
   by_cases h:m<kg (jx c h) l
   .have o:ci<0:=q.2 (b.1 h);simp(disch:=omega)[round_eq,ya,h0,h4,h2,wrap_u64,y,<-r,ca 202,z,h,o,jv _ _ X _ A]
   .have o:¬ci<0:=λh'=>h (b.2 (q.1 h'))
    simp(disch:=omega)[round_eq,ya,h0,h4,h2,wrap_u64,y,<-r,ca 202,z,h,o,jv _ _ X _ A])
  (λa K=>by simp(disch:=omega)[round_eq,ya]) _ 0 l.length rfl (aQ _) (lK _ _) (aU _)
def ahN(v:70<n)(l:List Ho)(hs:qh l)(hl:l.length<=1000)(f:Bool)(c h:Int)(X:AH)(r:X.all gd=true):
  eT (en.cz n) 201 [.b9 f (l.map Hv),.agg [I c,I h],.fn (.func 202) [.agg [I c,I h]] []] X=some (.jg [I (kg (jx c h) l:Nat),.bool (l.any (nZ c h))],X):=by
 rw[ph 201 rfl v rfl,b6];have h1:=λe0 h0 h1 h2=>ajs (n:=70) ah l hs hl f c h e0 h0 h1 h2 X r
 have o:=K8 hs c h;simp(disch:=omega)[aft,jv _ _ X _ r];rw[h1 _ aq aq aq]
 generalize kg (jx c h) l=k at *
 rcases o with⟨hk,q,o⟩ | ⟨o,q⟩
 .rw[o];obtain⟨x,i⟩:∃x,x=l[k]:=⟨_,rfl⟩;have hg:=UE (n:=70) ah c h x c h
  have b:=(JH c h x).2 (by rw[i];exact q)
  rw[b]at hg;simp only[Hv]at hg;simp(disch:=omega)[<-i,ca 202,hg]
 .rw[o]
  by_cases hk:k<l.length
  .obtain⟨x,i⟩:∃x,x=l[k]:=⟨_,rfl⟩;have hg:=UE (n:=70) ah c h x c h
   have b:¬Ei c h x=0:=λh'=>by
    have h1:=(JH c h x).1 h';have h2:=q hk;rw[i]at h1;rw[h1]at h2;cases h2
   generalize Ei c h x=ci at *
   simp only[Hv]at hg;simp(disch:=omega)[<-i,ca 202,hg,b]
  .simp(disch:=omega)
def DU(l:List Ho)(q:Ho->Bool):Int:=(l.find? q).elim (-1) λ_=>((l.findIdx q:Nat):Int)
def ajr{Γ:jE}(l:List Ho)(hl:l.length<=1000)(f:Bool)(g:FuncId)(first cap:List AV)(q:Ho->Bool)(X:AH)(r:X.all gd=true)(hg:∀x∈l,eT Γ g (first++Hv x::cap) X=some (.bool (q x),X))(e0:Env)(h0:e0 0 = .b9 f (l.map Hv))(n:e0 7 = .int .i64 l.length)(h1:e0 1 = .fn (.func g) first cap):
  iter (round Γ [8] [(.exit 0,[]),(.ret,[4])] xZ e0 X.length []) ([.int .i64 0],X)=some ((l.find? q).elim (.exit 0,[],X) λ_=>(.ret,[.int .i64 (l.findIdx q:Nat)],X)) :=
 pE (f:=round Γ [8] [(.exit 0,[]),(.ret,[4])] xZ e0 X.length []) (λi=>([.int .i64 (i:Int)],X)) l q (λk _=>(.ret,[.int .i64 (k:Int)],X)) (.exit 0,[],X)
  (λk hk=>by
   have h:=hg _ (aN hk);obtain⟨y,b⟩:∃y,y=l[k]:=⟨_,rfl⟩;rw[<-b]at h⊢;simp only[Hv]at h;cases o:q y with
   |true =>
    rw[o]at h;simp(disch:=omega)[round_eq,xZ,h0,n,h1,<-b,h]
   |false =>
    rw[o]at h;simp(disch:=omega)[round_eq,xZ,h0,n,h1,<-b,h,jv _ _ X _ r])
  (by simp(disch:=omega)[round_eq,xZ,n])
variable{n:Nat}
def abx(i:84<n)(l:List Ho)(hl:l.length<=1000)(f:Bool)(g:FuncId)(first cap:List AV)(q:Ho->Bool)(X:AH)(b:X.all gd=true)(hg:∀x∈l,eT (en.cz 84) g (first++Hv x::cap) X=some (.bool (q x),X)):
  eT (en.cz n) 206 [.b9 f (l.map Hv),.fn (.func g) first cap] X=some (I (DU l q),X):=by
 rw[ph 206 rfl i rfl,b6];have h:=ajr (Γ:=en.cz 84) l hl f g first cap q X b hg;unfold DU;simp(disch:=omega)[afr,jv _ _ X _ b];rw[h _ aq aq aq]
 cases l.find? q with
 |none=>simp(disch:=omega)
 |some y=>simp(disch:=omega)
def abE(v:106<n)(l:List Ho)(hl:l.length<=1000)(f:Bool)(g:FuncId)(first cap:List AV)(q:Ho->Bool)(X:AH)(z:X.all gd=true)(hg:∀x∈l,eT (en.cz 84) g (first++Hv x::cap) X=some (.bool (q x),X)):
  eT (en.cz n) 176 [.b9 f (l.map Hv),.fn (.func g) first cap] X=some (.bool (l.any q),X):=by
 rw[ph 176 rfl v rfl,b6];have h:=abx (n:=106) ah l hl f g first cap q X z hg
 unfold DU at h;cases b:l.find? q with
 |none =>
  rw[b]at h;have i:l.any q=false:=by
   rw[<-eE,cv]
   rintro⟨x,o,r⟩
   exact(cD.1 b x o) r
  simp(disch:=omega)[Yy,h,i]
 |some y =>
  rw[b]at h;have i:l.any q=true:=cv.2 ⟨y,bG b,cM b⟩;simp(disch:=omega)[Yy,h,i]
def ahs(b:20<n)(x:Ho)(i:Int)(X:AH)(k:Nat)(hk:X[k]? = some (.var [I i])):eT (en.cz n) 258 [Hv x,.ptr k 0 0 0] X=some (.bool (decide (x.ino=i)),X):=by
 rw[ph 258 rfl b rfl,b6];simp(disch:=omega)[ae4,hk]
def ahL(b:112<n)(l:List Ho)(hl:l.length<=1000)(f:Bool)(i:Int):(en.cz n).p 209 [.b9 f (l.map Hv),I i]=some (.bool (rU l i)):=by
 rw[pp 209 rfl b rfl,b8,b6];have h:=abE (n:=112) ah l hl f 258 [] [.ptr 0 0 0 0] (λx=>decide (x.ino=i)) [.var [I i]] rfl (λx _=>ahs (n:=84) ah x i _ 0 rfl)
 unfold rU;simp(disch:=omega)[afq,h]
def UD(i:71<n)(q:Tr.Node):(en.cz n).p 203 [Nd q]=some (.bool (mS q)):=by
 rw[pp 203 rfl i rfl,b8,b6];unfold mS
 by_cases b:q.kind=1
 .by_cases h:q.links=0
  .simp(disch:=omega)[RZ,b,h]
  .simp(disch:=omega)[RZ,b,h]
 .simp(disch:=omega)[RZ,b]
def abm(b:84<n)(l:List Ho)(hl:l.length<=1000)(f:Bool)(c h:Int)(X:AH)(i:X.all gd=true):
  eT (en.cz n) 206 [.b9 f (l.map Hv),.fn (.func 207) [.agg [I c,I h]] []] X=some (I (DU l (nZ c h)),X) :=
 abx b l hl f 207 [.agg [I c,I h]] [] (nZ c h) X i (λx _=>by
  have h4:=ahM (n:=84) ah c h x
  simp only[Hv]at h4;simp(disch:=omega)[ca 207,h4])
def wB{l:List Ho}{q:Ho->Bool}{y:Ho}(b:l.find? q=some y):∃k:Nat,DU l q=k/\l.findIdx q=k/\k<l.length/\l[k]? = some y:=by
 have h:l.findIdx q<l.length:=cU ⟨y,bG b,cM b⟩;refine⟨l.findIdx q,by unfold DU;rw[b];rfl,rfl,h,?_⟩
 rw[lu];exact b
def ahK(r:85<n)(l:List Ho)(hl:l.length<=1000)(f:Bool)(c h:Int):(en.cz n).p 214 [.b9 f (l.map Hv),I c,I h]=some (.jg [I (FO l c h).1,I (FO l c h).2]):=by
 rw[pp 214 rfl r rfl,b8,b6];have b:=abm (n:=85) ah l hl f c h [] rfl
 unfold FO;cases q:l.find? (nZ c h)with
 |none =>
  have e:DU l (nZ c h) = -1:=by unfold DU;rw[q];rfl
  rw[e]at b;simp(disch:=omega)[Yq,b]
 |some y =>
  let⟨k,e,_,hk,o⟩:=wB q;have i:y=l[k]:=by rw[aD hk]at o;exact(bp o).symm
  rw[e]at b;simp(disch:=omega)[Yq,b,<-i]
def aia(L:74<n)(t:Tr.Tree)(K:lC t.nodes)(A:t.nodes.length<=1000)(l:List Ho)(hs:qh l)(hl:l.length<=1000)(f:Bool)(c h i:Int):
  (en.cz n).p 127 [Tv t,.b9 f (l.map Hv),I c,I h,I i]=some (.jg [.b9 (f && !decide ((qm t l c h i).2=0)) ((qm t l c h i).1.map Hv),I (qm t l c h i).2]):=by
 rw[pp 127 rfl L rfl,b8,b6];have v:=ahO (n:=74) ah c h
 have r:=BW (n:=74) ah t K A i
 have E:=acs (n:=74) ah
 have F:=aiX (n:=74) ah
 have M:=lK (jx c h) l;unfold qm;cases hk:Kx c h with
 |false =>
  rw[hk]at v;simp(disch:=omega)[GI,ca 200,v]
 |true =>
  rw[hk]at v;unfold lq at r;have y:=λX N=>ahN (n:=74) ah l hs hl f c h X N
  generalize l.any (nZ c h)=u at *
  cases G:find t.nodes i with
  |none =>
   have b:=y [.var [I c,I h],.var [.int .i64 0,.int .i64 0,.int .i64 0,.b9 false [],.b9 false [],.int .i64 0]] rfl;rw[G]at r;simp only[bQ,Tv,Nd,jo,aP]at r;generalize kg (jx c h) l=k at *
   simp(disch:=omega)[GI,ca 200,v,ca 182,r,b]
  |some q =>
   have b:=y [.var [I c,I h],.var [.int .i64 q.ino,.int .i64 q.kind,.int .i64 q.links,.b9 false (q.data.map B),.b9 false (q.b7.map En),.int .i64 q.up]] rfl;have x:=UD (n:=74) ah q
   rw[G]at r;simp only[bB,Tv,Nd]at r x
   show _=some (AV.jg [.b9 (f && !decide ((if mS q=true then(l,(70:Int))else if q.kind=2 then(l,72)else if u=true then(l,71)else if 64<=l.length then(l,76)else(uF l ⟨c,h,i⟩,0)).2=0)) ((if mS q=true then(l,(70:Int))else if q.kind=2 then(l,72)else if u=true then(l,71)else if 64<=l.length then(l,76)else(uF l ⟨c,h,i⟩,0)).1.map Hv),I (if mS q=true then(l,(70:Int))else if q.kind=2 then(l,72)else if u=true then(l,71)else if 64<=l.length then(l,76)else(uF l ⟨c,h,i⟩,0)).2])
   generalize mS q=o at *
   cases o with
   |true =>
    generalize kg (jx c h) l=k at *
    simp(disch:=omega)[GI,ca 200,v,ca 182,r,b,ca 203,x]
   |false =>
    by_cases z:q.kind=2
    .rw[z]at r b x;generalize kg (jx c h) l=k at *
     simp(disch:=omega)[GI,ca 200,v,ca 182,r,b,ca 203,x,z]
    .cases u with
     |true =>
      generalize kg (jx c h) l=k at *
      simp(disch:=omega)[GI,ca 200,v,ca 182,r,b,ca 203,x,z]
     |false =>
      by_cases H:64<=l.length
      .generalize kg (jx c h) l=k at *
       simp(disch:=omega)[GI,ca 200,v,ca 182,r,b,ca 203,x,z,H]
      .unfold uF;simp only;generalize kg (jx c h) l=k at *
       simp(disch:=omega)[GI,ca 200,v,ca 182,r,b,ca 203,x,z,H,E,F,jd,kO];rw[aO ak]
def Fg(l:List Ho)(c h:Int)(k:Nat)(hk:l.findIdx (nZ c h)=k):(pq l c h).map Hv=(l.map Hv).take k++(l.map Hv).drop (k+1):=by
 unfold pq;rw[hk];simp
def EL(l:List Ho){k:Nat}(hk:k<l.length):((l.map Hv).take k++(l.map Hv).drop (k+1)).take (k+(l.length-(k+1)))=(l.map Hv).take k++(l.map Hv).drop (k+1):=by
 grind
def abS{n:Nat}(Q:113<n)(t:Tr.Tree)(N:lC t.nodes)(H:t.nodes.length<=1000)(l:List Ho)(hl:l.length<=1000)(f:Bool)(c h:Int):
  (en.cz n).p 128 [Tv t,.b9 f (l.map Hv),I c,I h]=some (.jg [Tv (js t l c h).1,.b9 (f && !decide ((js t l c h).2.2=0)) ((js t l c h).2.1.map Hv),I (js t l c h).2.2]):=by
 rw[pp 128 rfl Q rfl,b8,b6];have F:=abm (n:=113) ah l hl f c h [.var [.b9 false (t.nodes.map Nd),.int .i64 t.next,.int .i64 t.ek],.var [.b9 false [],.int .i64 0,.int .i64 0]] rfl
 have E:=acs (n:=113) ah
 have A:=aiW (n:=113) ah
 unfold js;cases P:l.find? (nZ c h)with
 |none =>
  have e:DU l (nZ c h) = -1:=by unfold DU;rw[P];rfl
  rw[e]at F;simp(disch:=omega)[Lp,F]
 |some y =>
  let⟨k,e,T,hk,M⟩:=wB P;have v:y=l[k]:=by rw[aD hk]at M;exact(bp M).symm
  have z:=Fg l c h k T;have x:=EL l hk
  have K:(pq l c h).length<=1000:=by
   have:=congrArg List.length z;simp at this;omega
  rw[e]at F;have i:=BW (n:=113) ah t N H y.ino
  have G:=ahL (n:=113) ah (pq l c h) K false y.ino
  have L:=abD (n:=113) ah t N H y.ino
  rw[z]at G;show _=some (AV.jg [Tv (if Jh t y.ino=true/\rU (pq l c h) y.ino=false then(free t y.ino).1 else t),.b9 (f && !decide ((0:Int)=0)) ((pq l c h).map Hv),I 0])
  rw[z];generalize rU (pq l c h) y.ino=S at *
  clear z K;have b:Jh t y.ino=(find t.nodes y.ino).elim false mS:=rfl;generalize Jh t y.ino=o at *
  unfold lq at i;cases O:find t.nodes y.ino with
  |none =>
   rw[O]at i b;have b:o=false:=b;subst b;simp only[bQ,Tv,Nd,jo,aP]at i;simp(disch:=omega)[Lp,F,<-v,E,A,jd,kP,x,ca 182,i]
  |some q =>
   have r:=UD (n:=113) ah q
   rw[O]at i b;have b:o=mS q:=b;rw[<-b]at r;clear b;simp only[bB,Tv,Nd]at i r L⊢;cases o with
   |false=>simp(disch:=omega)[Lp,F,<-v,E,A,jd,kP,x,ca 182,i,ca 203,r]
   |true =>
    cases S with
    |true=>simp(disch:=omega)[Lp,F,<-v,E,A,jd,kP,x,ca 182,i,ca 203,r,ca 209,G]
    |false=>simp(disch:=omega)[Lp,F,<-v,E,A,jd,kP,x,ca 182,i,ca 203,r,ca 209,G,ca 178,L]
def ajy{Γ:jE}(l:List Ho)(hl:l.length<=1000)(f:Bool)(c h:Int)(e0:Env)(h0:e0 0 = .b9 f (l.map Hv))(h1:e0 1=I c)(h2:e0 2=I h):
  iter (round Γ [7] [(.exit 0,[]),(.ret,[6])] vF e0 0 []) ([.int .i64 0],[])=some ((l.find? (nZ c h)).elim (.exit 0,[],[]) λ_=>(.ret,[.int .i64 (l.findIdx (nZ c h):Nat)],[])) :=
 pE (f:=round Γ [7] [(.exit 0,[]),(.ret,[6])] vF e0 0 []) (λi=>([.int .i64 (i:Int)],[])) l (nZ c h) (λk _=>(.ret,[.int .i64 (k:Int)],[])) (.exit 0,[],[])
  (λk hk=>by
   obtain⟨y,b⟩:∃y,y=l[k]:=⟨_,rfl⟩;rw[<-b];unfold nZ
   by_cases n:y.c=c
   .by_cases o:y.h=h
    .simp(disch:=omega)[round_eq,vF,h0,h1,h2,<-b,n,o]
    .simp(disch:=omega)[round_eq,vF,h0,h1,h2,<-b,n,o]
   .simp(disch:=omega)[round_eq,vF,h0,h1,<-b,n])
  (by simp(disch:=omega)[round_eq,vF,h0])
def UH{n:Nat}(b:230<n)(l:List Ho)(hl:l.length<=1000)(f:Bool)(c h:Int):(en.cz n).p 161 [.b9 f (l.map Hv),I c,I h]=some (I (DU l (nZ c h))):=by
 rw[pp 161 rfl b rfl,b8,b6];have h1:=ajy (Γ:=en.cz 230) l hl f c h;unfold DU;simp(disch:=omega)[afH];rw[h1 _ aq aq aq]
 cases l.find? (nZ c h)with
 |none=>simp(disch:=omega)
 |some y=>simp(disch:=omega)
def HY(l:List Ho)(i:Int):Nat:=(l.filter λx=>decide (x.ino=i)).length
def OK(l:List Ho)(i:Int):((HY l i:Nat):Int)=0↔rU l i=false:=by
 unfold HY rU;rw[<-eE,cv]
 constructor
 .rintro h ⟨x,b,n⟩
  have h0:(l.filter λx=>decide (x.ino=i)).length=0:=af
  have:=bY (p:=λx:Ho=>decide (x.ino=i)) |>.2 ⟨b,n⟩
  rw[dP]at h0;rw[h0]at this;cases this
 .intro h
  have:(l.filter λx=>decide (x.ino=i))=[]:=by
   rw[gN];exact λx b n=>h ⟨x,b,n⟩
  rw[this];rfl
def ajv{Γ:jE}(l:List Ho)(hl:l.length<=1000)(f:Bool)(i:Int)(e0:Env)(h0:e0 0 = .b9 f (l.map Hv))(h1:e0 1=I i):
  iter (round Γ [5,6] [(.exit 0,[5])] yh e0 0 []) ([.int .i64 0,.int .i64 0],[])=some (.exit 0,[.int .i64 (HY l i:Nat)],[]):=by
 have:=kN (f:=round Γ [5,6] [(.exit 0,[5])] yh e0 0 []) (λk (m:Nat)=>([.int .i64 (m:Int),.int .i64 (k:Int)],[])) l (λm x=>if x.ino=i then m+1 else m) (λm=>(.exit 0,[.int .i64 (m:Int)],[])) (λk m=>m<=k)
  (λk hk m o=>by
   obtain⟨y,h⟩:∃y,y=l[k]:=⟨_,rfl⟩;rw[<-h]
   by_cases b:y.ino=i
   .refine⟨by simp[b];omega,?_⟩
    simp(disch:=omega)[round_eq,yh,h0,h1,<-h,b]
   .refine⟨by simp[b];omega,?_⟩
    simp(disch:=omega)[round_eq,yh,h0,h1,<-h,b])
  (λm o=>by simp(disch:=omega)[round_eq,yh,h0]) 0 (aU _)
 have key:∀(l:List Ho)(m:Nat),l.foldl (λm x=>if x.ino=i then m+1 else m) m=m+HY l i:=by
  intro l
  induction l with
  |nil=>intro m;rfl
  |cons x l n =>
   intro m;rw[bJ,n];unfold HY;rw[bM]
   by_cases b:x.ino=i
   .simp[b];omega
   .simp[b]
 rw[key,bV]at this
 simpa using this
def ahY{n:Nat}(b:235<n)(l:List Ho)(hl:l.length<=1000)(f:Bool)(i:Int):(en.cz n).p 165 [.b9 f (l.map Hv),I i]=some (I (HY l i:Nat)):=by
 rw[pp 165 rfl b rfl,b8,b6];have h:=ajv (Γ:=en.cz 235) l hl f i;simp(disch:=omega)[afF];rw[h _ aq aq]
 simp(disch:=omega)
def abL{n:Nat}(r:229<n)(t:Tr.Tree)(v:Bt t)(i:Int):(en.cz n).p 160 [Tv t,I i]=some (.bool (Jh t i)):=by
 rw[pp 160 rfl r rfl,b8,b6];have b:=pT (n:=229) ah t v i
 unfold Jh mS;unfold lq at b;cases l:find t.nodes i with
 |none =>
  rw[l]at b;simp only[bQ,Tv,Nd]at b;simp(disch:=omega)[OW,ca 100,b]
 |some q =>
  rw[l]at b;simp only[bB,Tv,Nd]at b
  by_cases h:q.kind=1
  .by_cases o:q.links=0
   .simp(disch:=omega)[OW,ca 100,b,h,o]
   .simp(disch:=omega)[OW,ca 100,b,h,o]
  .simp(disch:=omega)[OW,ca 100,b,h]
end Go.Proofs.YtghgbehknhmnaaaGreatDoor
