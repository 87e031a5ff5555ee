/- Part of the proof that TopTwoPartsCard holds. -/
import Derived.Test.YtghgbehknhmnaaaGreatDoorV30d
import Derived.Test.YtghgbehknhmnaaaGreatDoorH30f
set_option linter.all false
namespace Go.Proofs.YtghgbehknhmnaaaGreatDoor
open Go.Am Go.Tr Go.Am.Nm Go.Lib
def abl{n:Nat}(F:57<n)(t:Tr.Tree)(w:lM t){i:Int}(K:jF t i=0){X:AH}{k:Nat}(B:Bx X k t):
  ∃E,E.all gd=true/\eT (en.cz n) 236 [.ptr k 0 0 0,I i] X=some (I (depth t i),X++E):=by
 rw[ph 236 rfl F rfl,b6];let⟨q,A,r⟩:=nS.1 K;let⟨d,b,z,_⟩:=w.dep _ _ A r;have H:=r6 w b;rw[k8 b af]
 have hl:=(nc w).len;have y:=acu (n:=57) ah
 have h:=λe0 h0=>ade (n:=41) ah t w B e0 h0 b [i] ak
 have M:([i]++mP t d i).length=d+1:=by simp[pP]
 generalize[i]++mP t d i=l at *
 refine⟨[.row 0 1 (l.map I)],rfl,?_⟩;have v:=λY h0=>B.pl.tail (L:=X.length+1) (R:=[X.length]) af ai h0 Y
 have o:=jr X;have G:=B.lt;have x:¬k=X.length:=af
 rw[M]at h;simp(disch:=omega)[afe,y,b6,R5,v,o];have h':=λe0 h0=>h e0 h0
 simp only[aS,bt,bN,aN]at h';rw[h' _ (by simp(disch:=omega)[x])]
 simp(disch:=omega)
def JA{t:Tr.Tree}{i:Int}(h:jF t i=0):∃q,find t.nodes i=some q/\q.kind=2/\kD t i=q:=by
 let⟨q,b,hk⟩:=nS.1 h;exact⟨q,b,hk,by unfold kD;rw[b];simp[hk]⟩
def abo{n:Nat}(U:58<n)(t:Tr.Tree)(w:lM t)(i:Int)(s:au){X:AH}{k:Nat}(B:Bx X k t):
  ∃Y,eT (en.cz n) 172 [.ptr k 0 0 0,I i,.str s] X=some (I (enter j4 t i s),Y)/\Gw X Y k t:=by
 rw[ph 172 rfl U rfl,b6];have hl:=(nc w).len;let⟨Y,b,G⟩:=Qg (n:=58) ah t w.wf.jL hl i B
 have h:=UG (n:=58) ah s
 unfold enter
 by_cases K:jF t i=0
 .obtain⟨q, P, hk, A⟩ := JA K;rw[K, A]at b;rw[A];have M := jI P;have y := (w.wf.dir _ _ P hk).2;have L : q.b7.length <= 1000 := by have := y.len; omega
  have l:=Ms (n:=58) ah q y.jL L s
  have B2:Bx (Y++[.var (Nc q)]) k t:=G.bx.app rfl;let⟨E,Z,o⟩:=abl (n:=58) ah t w K B2
  have O:=B2.get;have N:=G.bx.lt;have H:Gw X (Y++[.var (Nc q)]) k t:=G.trans (Gw.same G.bx rfl);have T:Gw X (Y++[.var (Nc q)]++E) k t:=H.trans (Gw.same B2 Z);unfold full;rw[M];simp only[Nd,Nc]at b l o O H T;have Q:lP gr q.b7 s<=q.b7.length:=lK _ _;generalize lP gr q.b7 s=c at *
  generalize(jB q s).isSome=v at *
  cases S:j4 s with
  |false =>
   rw[S]at h;refine⟨_,?_,H⟩;simp(disch:=omega)[GC,b,ca 189,h]
  |true =>
   rw[S]at h;cases v with
   |true =>
    refine⟨_,?_,H⟩;simp(disch:=omega)[GC,b,ca 189,h,ca 190,l]
   |false =>
    by_cases r:64<=q.b7.length
    .refine⟨_,?_,H⟩;simp(disch:=omega)[GC,b,ca 189,h,ca 190,l,r]
    .refine⟨_,?_,T⟩
     by_cases x:12<=depth t i
     .simp(disch:=omega)[GC,b,ca 189,h,ca 190,l,r,o,x]
     .have W:k<Y.length:=G.bx.lt;have z:=G.bx.get
      by_cases F:1099511627776<=t.ek
      .simp(disch:=omega)[GC,b,ca 189,h,ca 190,l,r,o,x,F,z,jk]
      .simp(disch:=omega)[GC,b,ca 189,h,ca 190,l,r,o,x,F,z,jk]
 .refine⟨Y++[.var (Nc (kD t i))],?_,G.trans (Gw.same G.bx rfl)⟩;have N:=G.bx.lt;simp only[Nd,Nc]at b⊢;generalize jF t i=e at *
  simp(disch:=omega)[GC,b,K]
def Kh{n:Nat}(Q:64<n)(t:Tr.Tree)(w:lC t.nodes)(hl:t.nodes.length<=1000){i:Int}{q:Tr.Node}(K:find t.nodes i=some q)(hs:sr gr q.b7)(H:q.b7.length<=1000){s:au}(O:jB q s=none)
  (W:0<=t.ek) (U:t.ek<=4398046511104) (of:Int) {X:AH} {k:Nat} (B:Bx X k t) :
  ∃Y,eT (en.cz n) 174 [.ptr k 0 0 0,I i,.str s,I of] X=some (.jg [],Y)/\Gw X Y k (iY gr t i s of):=by
 rw[ph 174 rfl Q rfl,b6];have E:=DB (n:=64) ah t w hl i B
 rw[iX K,K]at E;have h:=Ms (n:=64) ah q hs H s
 have M:=U1 (n:=64) ah
 have N:=aiO (n:=64) ah
 have S:=B.lt;have hk:=B.get;unfold iY;rw[iX K];have l:=NI jM hs (e:=⟨s,of,t.ek⟩) O;rw[O]at h;have P:lP gr q.b7 s<=q.b7.length:=lK _ _;simp only at l;rw[l];generalize lP gr q.b7 s=c at *
 obtain⟨r,b⟩:∃r:Tr.Tree,r=⟨t.fn,t.nodes,t.next,t.ek+1⟩:=⟨_,rfl⟩;obtain⟨v,y⟩:∃v:Tr.Node,v={q with fe:=false,b7:=q.b7.take c++(⟨s,of,t.ek⟩:Tr.Ent)::q.b7.drop c}:=⟨_,rfl⟩
 rw[<-b,<-y];have L:Bx (X.set k (.var (Tb r))++[.var (Nc q),.var (Nc v),.me 1 3 (v.b7.map En)]) k r:=(B.set r).app rfl;let⟨Y,o,G⟩:=EZ (n:=v) (m:=64) ah r (by rw[b];exact w) (by rw[b];exact hl) L
 refine⟨Y,?_,G.bx,bJ ai G.le,λj T z=>?_⟩
 .subst b y;simp only[Nd,Nc,Tb,List.map_append,bN]at E h o;simp only[gv,eG]at E h;have F:=jr X;have x:∀A:AV,List.take (q.b7.length+1) (List.take c (List.map En q.b7)++A::List.drop c (List.map En q.b7))=List.take c (List.map En q.b7)++A::List.drop c (List.map En q.b7):=λA=>aO ak
  simp only[List.map_take,List.map_drop,En]at o x;simp(disch:=omega)[afB,F,x,E,ca 190,h,M,N,jd,kO,hk,kM,jk,o]
 .rw[G.old j ak z,aJ (an T),aI (Ne.symm z)]
def iT{Y:AH}{j:Nat}{A:AB}(h:Y[j]? = some A)(b:j<Y.length):Y[j]=A:=by
 rw[aH b]at h;exact bB h
def aif{n:Nat}(hn:65<n)(t:Tr.Tree)(w:lM t)(i:Int)(s:au)(kind:Int):
  (en.cz n).p 118 [Tv t,I i,.str s,I kind]=some (.jg [Tv (Tr.add j4 gr t i s kind).1,I (Tr.add j4 gr t i s kind).2.1,I (Tr.add j4 gr t i s kind).2.2]):=by
 rw[pp 118 rfl hn rfl,b8,b6];have hl:=(nc w).len;unfold add
 by_cases hk:kind≠1/\kind≠2
 .rw[if_pos hk];let⟨k1,k2⟩:=hk;simp(disch:=omega)[Ce,k1,k2]
 .rw[if_neg hk];have B:Bx [.var [.b9 false [],.int .i64 0,.int .i64 0],.var (Tb t)] 1 t:=⟨rfl,rfl⟩;let⟨Y,l,G⟩:=abo (n:=65) ah t w i s B
  have b:=G.old 0 ai ai
  have A:=G.bx.get;have L:=G.le;simp only[Tb,bH,aS,bt]at l b L;have b:=iT b
  by_cases M:enter j4 t i s=0
  .rw[if_neg (show ¬(enter j4 t i s≠0)from λh=>h M)]
   rw[M]at l
   by_cases c1:200<=t.nodes.length
   .rw[if_pos (show 200<=t.nodes.length\/1099511627776<=t.next from .inl c1)]
    rcases(by omega:kind=1\/kind=2)with rfl | rfl
    .simp(disch:=omega)[Ce,l,b,A]
    .simp(disch:=omega)[Ce,l,b,A]
   .by_cases S : 1099511627776 <= t.next
    .rw[if_pos (show 200<=t.nodes.length\/1099511627776<=t.next from .inr S)]
     rcases(by omega:kind=1\/kind=2)with rfl | rfl
     .simp(disch:=omega)[Ce,l,b,A,S]
     .simp(disch:=omega)[Ce,l,b,A,S]
    .rw[if_neg (show ¬(200<=t.nodes.length\/1099511627776<=t.next) by omega)]
     let⟨p,W,p2,po3,U,po5,po6,po7⟩:=rq M;obtain⟨o,q⟩:∃o:Tr.Tree,o=⟨t.fn,t.nodes,t.next+1,t.ek⟩:=⟨_,rfl⟩;obtain⟨y,z⟩:∃y:Tr.Node,y=⟨t.next,kind,1,true,[],true,[],if kind=2 then i else 0⟩:=⟨_,rfl⟩
     rw[<-q,<-z];have F:lC o.nodes:=by rw[q];exact w.wf.jL
     have hl1:o.nodes.length<=1000:=by rw[q];exact hl
     have B1:Bx (Y.set 1 (.var (Tb o))++[.var (Nc y)]) 1 o:=(G.bx.set o).app rfl;let⟨Y2,K,N⟩:=EZ (m:=65) ah o F hl1 y B1
     have X:lC (iP o y).nodes:=nO F
     have hl2:(iP o y).nodes.length<=1000:=by
      have h1:=tY F y;have h2:o.nodes.length<200:=by rw[q];simp only;omega
      omega
     have hpos:=w.wf.pos _ _ W
     have Z:find (iP o y).nodes i=some p:=by
      rw[kr F,z,q];simp only;rw[if_neg af]
      exact W
     have PG:=(w.wf.dir _ _ W p2).2;have hno:jB p s=none:=cD.2 λe hem=>by simpa using U e hem
     have PJ:(iP o y).ek=t.ek:=by unfold iP;rw[q]
     have akf:=w.wf.Ld;have ak6:=w.wf.XN;let⟨Y3,H,T⟩:=Kh (n:=65) ah (iP o y) X hl2 Z PG.jL af hno af af t.next N.bx
     have E:=N.old 0 ai ai
     have v:=N.old Y.length ai af
     have x:=T.old 0 (by have:=N.le;simp at this;omega) ai
     have r:=T.old Y.length (by have:=N.le;simp at this;omega) af
     have O:=N.le;have ak1:=T.le;rw[E]at x;rw[v]at r;have e0:(Y.set 1 (.var (Tb o))++[.var (Nc y)])[0]? = Y[0]? := nP af ai
     have e2:(Y.set 1 (.var (Tb o))++[.var (Nc y)])[Y.length]? = some (.var (Nc y)):=by rw[kM af];simp
     rw[e0]at E x;rw[e2]at v r;have P:Y[0]? = some (.var [.b9 false [],.int .i64 0,.int .i64 0]):=by rw[aH af,b]
     rw[P]at E x;simp only[aU,dG,aS,bt]at O;have E:=iT E;have v:=iT v;have x:=iT x;have r:=iT r;have Q:=T.bx.get;have n1:¬Y=[]:=λh=>by rw[h]at L;simp at L
     have n2:¬0=Y.length:=af
     have n3:¬Y.length=0:=af
     have n4:¬ []=Y:=λh=>n1 h.symm
     generalize iY gr (iP o y) i s t.next=t3 at *
     rcases(by omega:kind=1\/kind=2)with rfl | rfl
     .subst q;rw[if_neg ah]at z
      subst z;simp only[Nd,Nc,Tb,aN]at K H v r;simp(disch:=omega)[Ce,l,A,S,kM,jk,K,v,H,x,Q,r,n2]
     .subst q;rw[if_pos rfl]at z;subst z;simp only[Nd,Nc,Tb,aN]at K H v r;simp(disch:=omega)[Ce,l,A,S,kM,jk,K,v,H,x,Q,r,n2]
  .rw[if_pos M];generalize enter j4 t i s=e at *
   rcases(by omega:kind=1\/kind=2)with rfl | rfl
   .simp(disch:=omega)[Ce,l,M,b]
   .simp(disch:=omega)[Ce,l,M,b]
variable{n:Nat}
def Qk(L:47<n)(t:Tr.Tree)(w:lM t)(i:Int)(s:au):
  (en.cz n).p 122 [Tv t,I i,.str s]=some (.jg [I (Tr.look j4 t i s).1,I (Tr.look j4 t i s).2]):=by
 rw[pp 122 rfl L rfl,b8,b6];have hl:=(nc w).len;have B:Bx [.var (Tb t)] 0 t:=⟨rfl,rfl⟩;let⟨Y,b,G⟩:=Qg (n:=47) ah t w.wf.jL hl i B
 have o:=UG (n:=47) ah s
 have E:=G.le;simp only[Tb,aS,bt]at b E;unfold Tr.look
 by_cases x:jF t i=0
 .let⟨q,K,hk,v⟩:=JA x;rw[x,v]at b;rw[v,if_neg (show ¬(jF t i≠0)from λh=>h x)]
  have r:=(w.wf.dir _ _ K hk).2;have y:q.b7.length<=1000:=by have:=r.len;omega
  have l:=Ms (n:=47) ah q r.jL y s
  have A:=ur jM r.jL s;unfold jB at l⊢;simp only[Nd]at b l;generalize lP gr q.b7 s=c at *
  cases H:j4 s with
  |false =>
   rw[H]at o;rw[if_pos rfl];simp(disch:=omega)[OY,b,ca 189,o]
  |true =>
   rw[H]at o;rw[if_neg (show ¬(true=false) by decide)]
   rcases A with⟨N,M,z⟩ | ⟨z,_⟩
   .obtain⟨e,F⟩:∃e,e=q.b7[c]:=⟨_,rfl⟩;rw[z,<-F]at l⊢;simp(disch:=omega)[OY,b,ca 189,o,ca 190,l,<-F]
   .rw[z]at l⊢;simp(disch:=omega)[OY,b,ca 189,o,ca 190,l]
 .rw[if_pos x];simp only[Nd]at b;generalize jF t i=e at *
  simp(disch:=omega)[OY,b,x]
def Hf(Q:129<n)(t:Tr.Tree)(w:lC t.nodes)(hl:t.nodes.length<=1000){i:Int}{q:Tr.Node}(E:find t.nodes i=some q)(hs:sr gr q.b7)(A:q.b7.length<=1000){s:au}{e:Tr.Ent}(K:jB q s=some e)
  {X:AH} {k:Nat} (B:Bx X k t) :
  ∃Y,eT (en.cz n) 186 [.ptr k 0 0 0,I i,.str s] X=some (.jg [],Y)/\Gw X Y k (left t i s):=by
 rw[ph 186 rfl Q rfl,b6];have y:=DB (n:=129) ah t w hl i B
 rw[iX E,E]at y;have b:=Ms (n:=129) ah q hs A s
 have N:=U1 (n:=129) ah
 have M:=aiL (n:=129) ah
 have S:=B.lt;unfold left;rw[iX E];have r:=ur jM hs s;have v:=λh H=>K5 jM hs (s:=s) h H
 unfold nF at v;rw[K]at b;unfold jB at K;rw[K]at r;generalize lP gr q.b7 s=c at *
 rcases r with⟨U,H,O⟩ | ⟨O,_⟩
 .rw[v U H];obtain⟨l,o⟩:∃l:Tr.Node,l={q with fe:=false,b7:=q.b7.take c++q.b7.drop (c+1)}:=⟨_,rfl⟩
  rw[<-o];have L:Bx (X++[.var (Nc q),.var (Nc l),.me 1 3 (l.b7.map En)]) k t:=B.app rfl;let⟨Y,x,G⟩:=EZ (n:=l) (m:=129) ah t w hl L
  refine⟨Y,?_,G.bx,bJ ai G.le,λj T F=>?_⟩
  .subst o;have P:=jr X;simp only[Nd,Nc,List.map_append,List.map_take,List.map_drop]at y b x;simp only[eG]at y b;have z:List.take (c+(q.b7.length-(c+1))) (List.take c (List.map En q.b7)++List.drop (c+1) (List.map En q.b7))=List.take c (List.map En q.b7)++List.drop (c+1) (List.map En q.b7):=aO ak
   simp(disch:=omega)[afx,z,y,ca 190,b,N,M,jd,kP,x]
  .rw[G.old j ak F,aJ (an T)]
 .cases O
def ahi(x:108<n)(t:Tr.Tree)(w:lC t.nodes)(hl:t.nodes.length<=1000){i:Int}{q:Tr.Node}(h:find t.nodes i=some q){X:AH}{k:Nat}(B:Bx X k t):
  ∃Y,eT (en.cz n) 241 [.ptr k 0 0 0,I i] X=some (.jg [],Y)/\Gw X Y k (kj t i):=by
 rw[acr x,b6];have r:=Ki (n:=108) ah t w hl i X B.pl k B.at_
 have y:=B.lt;have hk:=B.get;have o:=U0 (n:=108) ah
 have l:=acp (n:=108) ah
 unfold kj;rw[h]at r
 rcases pN w i with⟨E,z,_⟩ | ⟨A,_⟩
 .rw[yZ w E z];generalize jK t.nodes i=c at *
  refine⟨X.set k (.var (Tb ⟨false,t.nodes.take c++t.nodes.drop (c+1),t.next,t.ek⟩))++[.me 1 6 ((t.nodes.take c++t.nodes.drop (c+1)).map Nd)],?_,Gw.of B _ _ rfl⟩;have v:=jr X;have b:List.take (c+(t.nodes.length-(c+1))) (List.take c (List.map Nd t.nodes)++List.drop (c+1) (List.map Nd t.nodes))=List.take c (List.map Nd t.nodes)++List.drop (c+1) (List.map Nd t.nodes):=aO ak
  simp(disch:=omega)[RV,r,b,hk,o,l,jd,kP,lV,kM,zV,pR,jk];simp[Tb]
 .rw[A]at h;cases h
def UA(y:130<n)(t:Tr.Tree)(w:lC t.nodes)(hl:t.nodes.length<=1000){i:Int}{q:Tr.Node}(v:find t.nodes i=some q)(A : -4398046511104<=q.links/\q.links<=4398046511104){X:AH}{k:Nat}(B:Bx X k t):
  ∃Y,eT (en.cz n) 187 [.ptr k 0 0 0,Nd q] X=some (.jg [],Y)/\Gw X Y k (unnamed t i):=by
 rw[ph 187 rfl y rfl,b6];have r:=jI v;have z:=B.lt;have x:Bx (X++[.var (Nc q)]) k t:=B.app rfl;unfold unnamed;rw[iX v]
 by_cases o:q.kind=2
 .rw[if_pos o];let⟨Y,h,G⟩:=ahi (n:=130) ah t w hl v x
  refine⟨Y,?_,(Gw.same B rfl).trans G⟩;subst r;simp only[Nc,o]at h;simp(disch:=omega)[Yu,o,h]
 .rw[if_neg o];have b:Bx (X++[.var (Nc {q with links:=q.links-1})]) k t:=B.app rfl
  let⟨Y,l,G⟩:=EZ (n:={q with links:=q.links-1}) (m:=130) ah t w hl b
  refine⟨Y,?_,(Gw.same B rfl).trans G⟩;simp only[Nc,Nd]at l;simp(disch:=omega)[Yu,o,l]
def aid(hn:131<n)(t:Tr.Tree)(w:lM t)(i:Int)(s:au):
  (en.cz n).p 121 [Tv t,I i,.str s]=some (.jg [Tv (Tr.un j4 t i s).1,I (Tr.un j4 t i s).2.1,I (Tr.un j4 t i s).2.2]):=by
 rw[pp 121 rfl hn rfl,b8,b6];have hl:=(nc w).len;have b:=Qk (n:=131) ah t w i s
 unfold Tr.un
 by_cases K:(Tr.look j4 t i s).2=0
 .rw[if_neg (show ¬((Tr.look j4 t i s).2≠0)from λh=>h K)]
  rw[K]at b;obtain⟨p,e,r,p2,Z,o,q⟩:=zD (x:=(Tr.look j4 t i s).1) (by rw[<-K])
  rw[<-q]at b⊢;obtain⟨he,_⟩:=kV o;obtain⟨⟨z,L⟩,hx1,N⟩:=mV w r he;have B:Bx [.var [.b9 false [],.int .i64 0,.int .i64 0],.var (Tb t)] 1 t:=⟨rfl,rfl⟩;have l:=DB (n:=131) ah t w.wf.jL hl e.ino B
  rw[iX L,L]at l;rw[iX L]
  by_cases M:0<z.b7.length
  .rw[if_pos M];simp only[Tv,Nd,Nc,Tb,eG]at b l;simp(disch:=omega)[Sf,ca 122,b,l,M]
  .rw[if_neg M];have y:=(w.wf.dir _ _ r p2).2;have O:p.b7.length<=1000:=by have:=y.len;omega
   have B1:Bx [.var [.b9 false [],.int .i64 0,.int .i64 0],.var (Tb t),.var (Nc z),.var (Nc z)] 1 t:=⟨rfl,rfl⟩;obtain⟨Y,H,G⟩:=Hf (n:=131) ah t w.wf.jL hl r y.jL O o B1
   have W:=w.wf.left jM r p2 o;have v:find (left t i s).nodes e.ino=some z:=by rw[pK w.wf.jL r,if_neg N];exact L
   have Q:(left t i s).nodes.length<=1000:=by have:=W.len;omega
   have P : -4398046511104<=z.links/\z.links<=4398046511104:=(IB w i s).2 z (by rw[<-q];exact v)
   obtain⟨Y2,F,U⟩:=UA (n:=131) ah (left t i s) W.jL Q v P G.bx
   have hA0:=iT (G.old 0 ai ai)
   have E:=iT (G.old 3 ai ai)
   have A:=G.le;have T:=iT ((U.old 0 (by simp at A;omega) ai).trans (G.old 0 ai ai))
   have X:=U.le;have S:=U.bx.get;simp only[aS,bt]at A;generalize unnamed (left t i s) e.ino=u at *
   simp only[Tv,Nd,Nc,Tb,eG]at b l H F E;simp(disch:=omega)[Sf,ca 122,b,l,M,H,E,F,T,S]
 .rw[if_pos K];generalize(Tr.look j4 t i s).2=e at *
  simp only[Tv]at b;simp(disch:=omega)[Sf,ca 122,b,K]
def ahJ{n:Nat}(A:134<n)(t:Tr.Tree)(hs:lC t.nodes)(hl:t.nodes.length<=1000)(i:Int)(d:au)(E:d.length<=140737488355328):
  (en.cz n).p 215 [Tv t,I i,.b9 false (d.map B)]=some (.jg [Tv (put t i d).1,I (put t i d).2]):=by
 rw[pp 215 rfl A rfl,b8,b6];have B0:Bx [.var [.b9 false [],.int .i64 0,.int .i64 0],.var (Tb t)] 1 t:=⟨rfl,rfl⟩;have h:=DB (n:=134) ah t hs hl i B0
 have o:=acy (n:=134) ah
 unfold put;cases l:find t.nodes i with
 |none =>
  have e:iS t i=jo:=by unfold iS;rw[l];rfl
  rw[e,l]at h;simp only[Tb,Nc,Nd,jo,aN]at h;simp(disch:=omega)[OT,h]
 |some q =>
  rw[iX l,l]at h;simp only[Tb,Nc,Nd]at h
  by_cases x:q.kind=2
  .simp(disch:=omega)[OT,h,x]
  .by_cases z : 4096 < d.length
   .simp(disch:=omega)[OT,h,x,z]
   .have B1:Bx [.var [.b9 false [],.int .i64 0,.int .i64 0],.var (Tb t),.var (Nc q),.var (Nc {q with fd:=false,data:=d}),.me 0 1 (d.map B)] 1 t:=⟨rfl,rfl⟩
    let⟨Y,y,G⟩:=EZ (m:=134) ah t hs hl {q with fd:=false,data:=d} B1
    have b:=G.old 0 ai ai
    have v:=G.bx.get;have r:=G.le;simp only[Tb,Nc,Nd,bH,aS,bt]at y b r;have b:=iT b;simp(disch:=omega)[OT,h,x,z,o,jd,y,b,v]
def Bx.Uw{X:AH}{k:Nat}{t:Tr.Tree}(h:Bx X k t){j:Nat}(b:j≠k){A:AB}(i:gd A=true):Bx (X.set j A) k t :=
 ⟨IJ h.pl j i,by rw[aI b];exact h.at_⟩
def aie{n:Nat}(hn:126<n)(t:Tr.Tree)(w:lM t)(i to:Int)(s:au)(hlk:∀q,find t.nodes i=some q->-4398046511104<=q.links/\q.links<=4398046511104):
  (en.cz n).p 120 [Tv t,I i,I to,.str s]=some (.jg [Tv (Tr.ln j4 gr t i to s).1,I (Tr.ln j4 gr t i to s).2]):=by
 rw[pp 120 rfl hn rfl,b8,b6];have hl:=(nc w).len;have hs:=w.wf.jL;have B0:Bx [.var [.b9 false [],.int .i64 0,.int .i64 0],.var (Tb t)] 1 t:=⟨rfl,rfl⟩;have l:=DB (n:=126) ah t hs hl i B0
 unfold ln;cases z:find t.nodes i with
 |none =>
  have e:iS t i=jo:=by unfold iS;rw[z];rfl
  rw[e,z]at l;simp only[Tb,Nc,Nd,jo,aN]at l;simp(disch:=omega)[Lq,l]
 |some q =>
  have hq1:=hlk q z;have X:=(fk z).2;rw[iX z,z]at l;simp only
  by_cases c1:q.kind=1/\q.links=0
  .let⟨k1,k2⟩:=c1;rw[if_pos (show q.kind=1/\q.links=0 from⟨k1,k2⟩)]
   simp only[Tb,Nc,Nd]at l;simp(disch:=omega)[Lq,l,k1,k2]
  rw[if_neg c1]
  by_cases F:q.kind=2
  .rw[if_pos F];simp only[Tb,Nc,Nd]at l;simp(disch:=omega)[Lq,l,F]
  rw[if_neg F];have B1:Bx [.var [.b9 false [],.int .i64 0,.int .i64 0],.var (Tb t),.var (Nc q),.var (Nc q)] 1 t:=⟨rfl,rfl⟩;let⟨Y,o,G⟩:=abo (n:=126) ah t w to s B1
  have E:=G.old 0 ai ai
  have K:=G.old 3 ai ai
  have hY1:=G.bx.get;have r:=G.le;simp only[bH,cA]at E K;have hb1:(decide (q.kind=1)&&decide (q.links=0))=false:=by simpa using c1
  by_cases H:enter j4 t to s=0
  .rw[if_neg (show ¬(enter j4 t to s≠0)from λh=>h H)]
   rw[H]at o;let⟨p,Q,p2,po3,U,po5,po6,po7⟩:=rq H;obtain⟨b,y⟩:∃b:Tr.Node,b={q with links:=q.links+1}:=⟨_,rfl⟩
   have hni:b.ino=i:=by rw[y];exact X
   rw[<-y];have B2:=G.bx.Uw (j:=3) ah (A:=.var (Nc b)) rfl
   let⟨Y2,P,T⟩:=EZ (m:=126) ah t hs hl b B2
   have W:lC (iP t b).nodes:=nO hs
   have hl2:(iP t b).nodes.length<=1000:=by
    have h1:=tY hs b;have h2:=w.wf.len;omega
   have hne:to≠i:=λe=>by
    rw[e,z]at Q;cases Q;exact F p2
   have Z:find (iP t b).nodes to=some p:=by
    rw[kr hs,hni,if_neg hne];exact Q
   have PG:=(w.wf.dir _ _ Q p2).2;have hno:jB p s=none:=cD.2 λe hem=>by simpa using U e hem
   have akf:=w.wf.Ld;have PJ:(iP t b).ek=t.ek:=rfl;let⟨Y3,O,S⟩:=Kh (n:=126) ah (iP t b) W hl2 Z PG.jL af hno af af i T.bx
   have v:=(T.trans S).old 0 (by simp;simp at r;omega) ai
   rw[aI ah,E]at v
   have hC1:=S.bx.get;have N:0<Y3.length:=by
    have:=T.le;have:=S.le;simp at *
    omega
   have alb:1<Y3.length:=by
    have:=T.le;have:=S.le;simp at *
    omega
   have v:=iT v N;have x:=iT K (by simp at r;omega)
   have ak8:3<Y.length:=by simp at r;omega
   generalize iY gr (iP t b) to s i=t3 at *
   subst y;simp only[Tb,Nc,Nd]at l o P O x;simp(disch:=omega)[Lq,l,F,o,x,P,O,v,hC1]
  .rw[if_pos H];have L:0<Y.length:=by simp at r;omega
   have M:=iT E L;generalize enter j4 t to s=e at *
   simp only[Tb,Nc,Nd]at l o;simp(disch:=omega)[Lq,l,F,o,H,M]
def Cz(x n:Tr.Node):Int:=if x.kind=2/\n.kind≠2 then 73 else if x.kind≠2/\n.kind=2 then 72 else if 0<n.b7.length then 74 else 0
def ahQ{n:Nat}(i:133<n)(x y:Tr.Node):(en.cz n).p 193 [Nd x,Nd y]=some (I (Cz x y)):=by
 rw[pp 193 rfl i rfl,b8,b6];unfold Cz
 by_cases h:x.kind=2
 .by_cases b : y.kind = 2
  .by_cases c3:0<y.b7.length
   .simp(disch:=omega)[Ii,h,b,c3]
   .simp(disch:=omega)[Ii,h,b,c3]
  .simp(disch:=omega)[Ii,h,b]
 .by_cases b : y.kind = 2
  .simp(disch:=omega)[Ii,h,b]
  .by_cases c3:0<y.b7.length
   .simp(disch:=omega)[Ii,h,b,c3]
   .simp(disch:=omega)[Ii,h,b,c3]
def JV(t:Tr.Tree)(i:Int)(s:au):Int⊕Int:=if (Tr.look j4 t i s).2=0 then .inl (Tr.look j4 t i s).1 else .inr (Tr.look j4 t i s).2
def mO(t:Tr.Tree)(p:au):Int×Int:=match Nm.split p with
 |none=>(0,60)
 |some l=>match mg (JV t) l 1 with
  | .inl i=>(i,0)
  | .inr e=>(0,e)
def xH{α A C E:Type}(g:A->α->A⊕C)(h:C->E):∀(l:List α)(s:A),mg (λi x=>Sum.elim Sum.inl (λe=>Sum.inr (h e)) (g i x)) l s=Sum.elim Sum.inl (λe=>Sum.inr (h e)) (mg g l s)
 | [],s=>rfl
 |a::l,s=>by
  simp only[mg];cases g s a with
  |inl j=>exact xH g h l j
  |inr e=>rfl
def aju{n:Nat}(z:47<n)(t:Tr.Tree)(w:lM t)(l:List au)(hl:l.length<=1000)(f:Bool)(e0:Env)(h2:e0 2 = .iV (Tb t))(q:e0 19 = .b9 f (l.map AV.str))(o:e0 20=I (l.length:Int)):
  iter (round (en.cz n) [8,21] [(.exit 0,[8]),(.ret,[4,5])] yd e0 0 []) ([I 1,I 0],[])=some (match mg (JV t) l 1 with
   | .inl i=>(.exit 0,[I i],[])
   | .inr e=>(.ret,[I 0,I e],[])):=by
 have:=xE (f:=round (en.cz n) [8,21] [(.exit 0,[8]),(.ret,[4,5])] yd e0 0 []) (λk (i:Int)=>([I i,I (k:Int)],[])) l (λi s=>Sum.elim Sum.inl (λe=>Sum.inr ((.ret,[I 0,I e],[]):AX×List AV×AH)) (JV t i s)) (λi=>(.exit 0,[I i],[])) (λ_ _=>True)
  (λk hk i _=>by
   obtain⟨y,v⟩:∃y,y=l[k]:=⟨_,rfl⟩;rw[<-v];have h:=Qk z t w i y;unfold JV;simp only[Tv]at h;generalize Tr.look j4 t i y=r at *
   let⟨a,b⟩:=r
   by_cases x:b=0
   .subst x;simp only[if_pos,Sum.elim_inl];refine⟨trivial,?_⟩;simp(disch:=omega)[round_eq,yd,h2,q,o,<-v,ca 122,h]
   .simp only[if_neg x,Sum.elim_inr];simp(disch:=omega)[round_eq,yd,h2,q,o,<-v,ca 122,h,x])
  (λi _=>by simp(disch:=omega)[round_eq,yd,o]) 1 trivial
 refine this.trans ?_;rw[xH (JV t) (λe=>((.ret,[I 0,I e],[]):AX×List AV×AH))]
 cases mg (JV t) l 1<;>rfl
def abG{n:Nat}(b:49<n)(t:Tr.Tree)(w:lM t)(p:au):(en.cz n).p 169 [Tv t,.str p]=some (.jg [I (mO t p).1,I (mO t p).2]):=by
 rw[pp 169 rfl b rfl,b8,b6];have h:=UJ (n:=49) ah p
 unfold spV at h;unfold mO;cases hs:Nm.split p with
 |none =>
  rw[hs]at h;simp only at h;simp(disch:=omega)[YA,ca 136,h]
 |some l =>
  rw[hs]at h;simp only at h;have hl:=vW hs;have o:=aju (n:=49) ah t w l af (decide (p=[47]))
  simp(disch:=omega)[YA,ca 136,h];rw[o _ aq aq aq]
  cases mg (JV t) l 1 with
  |inl i=>simp(disch:=omega)
  |inr e=>simp(disch:=omega)
def l92{n:Nat}(z:187<n)(t:Tr.Tree)(w:lM t)(l:List au)(hl:l.length<=1000)(x:∀y∈l,y.length<=1000000000)(f:Bool)(e0:Env)(h2:e0 2 = .iV (Tb t))(h6:e0 6 = .b9 f (l.map AV.str)):
  iter (round (en.cz n) [8,9] [(.exit 0,[8]),(.ret,[4,5])] C4 e0 0 []) ([I 1,I 0],[])=some (match mg (JV t) l 1 with
   | .inl i=>(.exit 0,[I i],[])
   | .inr e=>(.ret,[I 0,I e],[])):=by
 have:=xE (f:=round (en.cz n) [8,9] [(.exit 0,[8]),(.ret,[4,5])] C4 e0 0 []) (λk (i:Int)=>([I i,I (k:Int)],[])) l (λi s=>Sum.elim Sum.inl (λe=>Sum.inr ((.ret,[I 0,I e],[]):AX×List AV×AH)) (JV t i s)) (λi=>(.exit 0,[I i],[])) (λ_ _=>True)
  (λk hk i _=>by
   obtain⟨y,o⟩:∃y,y=l[k]:=⟨_,rfl⟩;have q:=x l[k] (aP hk);rw[<-o]at q⊢;have h:=Zp z t (nc w) i y af
   unfold JV;simp only[Tv]at h;generalize Tr.look j4 t i y=r at *
   let⟨a,b⟩:=r
   by_cases v:b=0
   .subst v;simp only[if_pos,Sum.elim_inl];refine⟨trivial,?_⟩;simp(disch:=omega)[round_eq,C4,h2,h6,<-o,h]
   .simp only[if_neg v,Sum.elim_inr];simp(disch:=omega)[round_eq,C4,h2,h6,<-o,h,v])
  (λi _=>by simp(disch:=omega)[round_eq,C4,h6]) 1 trivial
 refine this.trans ?_;rw[xH (JV t) (λe=>((.ret,[I 0,I e],[]):AX×List AV×AH))]
 cases mg (JV t) l 1<;>rfl
def s92{n:Nat}(r:189<n)(t:Tr.Tree)(w:lM t)(p:au)(q:p.length<=1000000000):(en.cz n).p 92 [Tv t,.str p]=some (.jg [I (mO t p).1,I (mO t p).2]):=by
 rw[pp 92 rfl r rfl,b8,b6];have h:=UN (n:=189) ah p q
 unfold spR at h;unfold mO;cases hs:Nm.split p with
 |none =>
  rw[hs]at h;simp only at h;simp(disch:=omega)[c92,ca 111,h]
 |some l =>
  rw[hs]at h;simp only at h;have hl:=vW hs;have o:=(rE hs).2.2;have v:=l92 (n:=189) ah t w l af (λy b=>by have:=MD (aM.1 o y b);omega) (decide (p=[47]))
  simp(disch:=omega)[c92,ca 111,h];rw[v _ aq aq]
  cases mg (JV t) l 1 with
  |inl i=>simp(disch:=omega)
  |inr e=>simp(disch:=omega)
def s89{n:Nat}(i:5<n)(a b:au)(f g:Bool):(en.cz n).p 89 [.b9 f (a.map B),.b9 g (b.map B)]=some (.bool (decide (a=b))):=by
 rw[pp 89 rfl i rfl,b8,b6];have h1:=oq a;have h2:=oq b
 by_cases h:a=b
 .simp(disch:=omega)[c89,j9,h2,h]
 .simp(disch:=omega)[c89,j9,h1,h2,h]
def l90{Γ:jE}(a b:List Tr.Ent)(hl:a.length=b.length)(z:a.length<=1000)(f g:Bool)(e0:Env)(h0:e0 0 = .b9 f (a.map En))(h1:e0 1 = .b9 g (b.map En))(h:e0 12=I (a.length:Int)):
  iter (round Γ [13] [(.exit 0,[]),(.ret,[4])] za e0 0 []) ([.int .i64 0],[])=some (if (a.zip b).all (λx=>decide (x.1=x.2))=true then(.exit 0,[],[])else(.ret,[.bool false],[])) :=
 wI (f:=round Γ [13] [(.exit 0,[]),(.ret,[4])] za e0 0 []) (λi=>([.int .i64 i],[])) a b hl (λx y=>decide (x=y)) _ _
  (λi v r=>by
   obtain⟨x,n⟩:∃x,x=a[i]:=⟨_,rfl⟩;obtain⟨y,l⟩:∃y,y=b[i]:=⟨_,rfl⟩;rw[<-n,<-l];obtain⟨x1,x2,x3⟩:=x;obtain⟨y1,y2,y3⟩:=y
   by_cases o:x1=y1
   .by_cases q : x2 = y2
    .by_cases c3:x3=y3
     .simp(disch:=omega)[round_eq,za,h0,h1,h,<-n,<-l,iU,o,q,c3]
     .simp(disch:=omega)[round_eq,za,h0,h1,h,<-n,<-l,iU,o,q,c3]
    .simp(disch:=omega)[round_eq,za,h0,h1,h,<-n,<-l,iU,o,q]
   .simp(disch:=omega)[round_eq,za,h0,h1,h,<-n,<-l,iU,o])
  (by simp(disch:=omega)[round_eq,za,h])
def s90{n:Nat}(o:6<n)(a b:List Tr.Ent)(f g:Bool)(r:a.length<=1000)(q:b.length<=1000):
  (en.cz n).p 90 [.b9 f (a.map En),.b9 g (b.map En)]=some (.bool (decide (a=b))):=by
 rw[pp 90 rfl o rfl,b8,b6]
 by_cases hl:a.length=b.length
 .have l:=Dl hl;simp(disch:=omega)[c90,hl];rw[l90 a b hl af f g _ aq aq (by simp(disch:=omega)[hl])]
  by_cases i:a=b
  .rw[if_pos (l.2 i)];simp(disch:=omega)[i]
  .rw[if_neg (λh=>i (l.1 h))]
   simp(disch:=omega)[i]
 .have i:a≠b:=λh=>hl (by rw[h])
  simp(disch:=omega)[c90,i]
def s88{n:Nat}(A:7<n)(x y:Tr.Node)(z:x.b7.length<=1000)(v:y.b7.length<=1000):
  (en.cz n).p 88 [Nd x,Nd y]=some (.bool (decide (jy x=jy y))):=by
 rw[pp 88 rfl A rfl,b8,b6];have q:=s90 (n:=7) ah x.b7 y.b7 false false z v
 have o:=s89 (n:=7) ah x.data y.data false false
 have h:∀x y:Tr.Node,jy x=jy y↔x.ino=y.ino/\x.kind=y.kind/\x.links=y.links/\x.up=y.up/\x.data=y.data/\x.b7=y.b7:=λx y=>by
  unfold jy;rw[Tr.Node.mk.injEq]
  constructor
  .rintro⟨h1,h2,h3,_,h4,_,h5,h6⟩;exact⟨h1,h2,h3,h6,h4,h5⟩
  .rintro⟨h1,h2,h3,h6,h4,h5⟩;exact⟨h1,h2,h3,rfl,h4,rfl,h5,h6⟩
 have i:decide (jy x=jy y)=decide (x.ino=y.ino/\x.kind=y.kind/\x.links=y.links/\x.up=y.up/\x.data=y.data/\x.b7=y.b7):=decide_eq_decide.2 (h x y);rw[i];clear i h;obtain⟨x1,x2,x3,x4,x5,x6,x7,x8⟩:=x;let⟨y1,y2,y3,y4,y5,y6,y7,r⟩:=y;simp only at q o
 by_cases b:x1=y1
 .by_cases l : x2 = y2
  .by_cases c3 : x3 = y3
   .by_cases c4 : x8 = r
    .by_cases c5:x5=y5
     .subst c5;simp(disch:=omega)[X2,b,l,c3,c4,ca 89,o,ca 90,q]
     .simp(disch:=omega)[X2,b,l,c3,c4,ca 89,o,c5]
    .simp(disch:=omega)[X2,b,l,c3,c4]
   .simp(disch:=omega)[X2,b,l,c3]
  .simp(disch:=omega)[X2,b,l]
 .simp(disch:=omega)[X2,b]
def l91{n:Nat}(K:7<n)(a b:List Tr.Node)(hl:a.length=b.length)(L:a.length<=1000)(E:∀q∈a,q.b7.length<=1000)(A:∀q∈b,q.b7.length<=1000)(f g:Bool)(e0:Env)(l:e0 15 = .b9 f (a.map Nd))(h1:e0 1 = .b9 g (b.map Nd))(h2:e0 2 = .fn (.func 88) [] [])(h:e0 16=I (a.length:Int)):
  iter (round (en.cz n) [17] [(.exit 0,[]),(.ret,[6])] C5 e0 0 []) ([.int .i64 0],[])=some (((a.zip b).find? λz=>!decide (jy z.1=jy z.2)).elim (.exit 0,[],[]) λz=>(.ret,[.bool false],[.var (Nc z.1),.var (Nc z.2)])) :=
 pE (f:=round (en.cz n) [17] [(.exit 0,[]),(.ret,[6])] C5 e0 0 []) (λi=>([.int .i64 (i:Int)],[])) (a.zip b) (λz=>!decide (jy z.1=jy z.2)) (λ_ z=>(.ret,[.bool false],[.var (Nc z.1),.var (Nc z.2)])) (.exit 0,[],[])
  (λi G=>by
   have H:i<a.length:=by rw[List.length_zip]at G;omega
   have v:i<b.length:=af
   rw[List.getElem_zip];obtain⟨x,r⟩:∃x,x=a[i]:=⟨_,rfl⟩;obtain⟨y,o⟩:∃y,y=b[i]:=⟨_,rfl⟩;rw[<-r,<-o];have F:=s88 (n:=n) af x y (by rw[r];exact E _ (aP H)) (by rw[o];exact A _ (aP v))
   simp only[Nd]at F
   by_cases c:jy x=jy y
   .simp(disch:=omega)[round_eq,C5,l,h1,h2,h,<-r,<-o,ca 88,F,c]
   .simp(disch:=omega)[round_eq,C5,l,h1,h2,h,<-r,<-o,ca 88,F,c])
  (by
   have e:(a.zip b).length=a.length:=by rw[List.length_zip];omega
   rw[e];simp(disch:=omega)[round_eq,C5,h])
def s91{n:Nat}(x:99<n)(a b:List Tr.Node)(E:a.length<=1000)(A:b.length<=1000)(r:∀q∈a,q.b7.length<=1000)(o:∀q∈b,q.b7.length<=1000)(f g:Bool):
  ∃Y,eT (en.cz n) 91 [.b9 f (a.map Nd),.b9 g (b.map Nd),.fn (.func 88) [] []] []=some (.bool (decide (a.map jy=b.map jy)),Y):=by
 rw[ph 91 rfl x rfl,b6]
 by_cases hl:a.length=b.length
 .have v:=wW hl;simp(disch:=omega)[c91,hl];rw[l91 (n:=99) ah a b hl af r o f g _ aq aq aq (by simp(disch:=omega)[hl])]
  cases l:(a.zip b).find? λz=>!decide (jy z.1=jy z.2)with
  |none =>
   have i:a.map jy=b.map jy:=v.1 (aM.2 λz y=>by simpa using cD.1 l z y)
   simp(disch:=omega)[i]
  |some z =>
   have i:a.map jy≠b.map jy:=λh=>by
    have h1:=aM.1 (v.2 h) z (bI l);have h2:=cL l;simp only[h1]at h2;cases h2
   simp(disch:=omega)[i]
 .have i:a.map jy≠b.map jy:=λh=>hl (by have:=congrArg List.length h;simpa using this)
  simp(disch:=omega)[c91,i]
def s40{n:Nat}(r:100<n)(a b:Tr.Tree)(o:Bt a)(l:Bt b):(en.cz n).p 40 [Tv a,Tv b]=some (.bool (qO a b)):=by
 rw[pp 40 rfl r rfl,b8,b6];let⟨Y,h⟩:=s91 (n:=100) ah a.nodes b.nodes o.len l.len o.b7 l.b7 false false
 unfold qO
 by_cases i:a.next=b.next
 .by_cases q:a.ek=b.ek
  .simp(disch:=omega)[c40,i,q,h]
  .simp(disch:=omega)[c40,i,q]
 .simp(disch:=omega)[c40,i]
end Go.Proofs.YtghgbehknhmnaaaGreatDoor
namespace Go.Tr
structure tW where
 from_:Int
 till:Int
 node:Node
structure qI where
 id:Int
 ino:Int
 at_:Int
structure j5 where
 now:Tree
 tick:Int
 since:ay
 jU:List tW
 taken:List qI
 next:Int
structure FS where
 s:j5
 holds:List Ho
 jG:List Qu
structure lX where
 kind:Int
 client:Int
 path:au
 to:au
 n:Int
 m:Int
 handle:Int
 data:au
structure nH where
 err:Int
 ino:Int
 kind:Int
 n:Int
 m:Int
 names:List au
 data:au
end Go.Tr
namespace Go.Proofs.YtghgbehknhmnaaaGreatDoor
open Go.Am Go.Tr Go.Am.Nm Go.Lib
@[simp]def Pv(p:tW):AV:=.agg [.int .i64 p.from_,.int .i64 p.till,.int .i64 p.node.ino,.int .i64 p.node.kind,.int .i64 p.node.links,.b9 false (p.node.data.map B),.b9 false (p.node.b7.map En),.int .i64 p.node.up]
@[simp]def Xv(x:qI):AV:=.agg [.int .i64 x.id,.int .i64 x.ino,.int .i64 x.at_]
abbrev Sc(s:j5):List AV:=[.b9 false (s.now.nodes.map Nd),.int .i64 s.now.next,.int .i64 s.now.ek,.int .i64 s.tick,.b9 false (s.since.map I),.b9 false (s.jU.map Pv),.b9 false (s.taken.map Xv),.int .i64 s.next]
@[simp]def Sv(s:j5):AV:=.agg (Sc s)
abbrev Fc(f:FS):List AV:=Sc f.s++[.b9 false (f.holds.map Hv),.b9 false (f.jG.map Qv)]
@[simp]def Fv(f:FS):AV:=.agg (Fc f)
abbrev Oc(o:lX):List AV:=[.int .i64 o.kind,.int .i64 o.client,.str o.path,.str o.to,.int .i64 o.n,.int .i64 o.m,.int .i64 o.handle,.b9 false (o.data.map B)]
@[simp]def Ov(o:lX):AV:=.agg (Oc o)
abbrev Ac(a:nH):List AV:=[.int .i64 a.err,.int .i64 a.ino,.int .i64 a.kind,.int .i64 a.n,.int .i64 a.m,.b9 false (a.names.map AV.str),.b9 false (a.data.map B)]
@[simp]def Av(a:nH):AV:=.agg (Ac a)
attribute [simp] Sc Fc Oc Ac
@[simp]def agk(a b c d:AV)(l:List AV):Am.shape 3 true (a::b::c::d::l)=some (.agg [a,b,c]):=by simp[Am.shape]
@[simp]def agj(a b c d e f g h i:AV)(l:List AV):Am.shape 8 true (a::b::c::d::e::f::g::h::i::l)=some (.agg [a,b,c,d,e,f,g,h]):=by simp[Am.shape]
@[simp]def abf(a b c d e f g h i j k:AV)(l:List AV):Am.shape 10 true (a::b::c::d::e::f::g::h::i::j::k::l)=some (.agg [a,b,c,d,e,f,g,h,i,j]):=by simp[Am.shape]
@[simp]def akK(l:List tW):jw 8 (l.map Pv)=true:=by simp[jw]
@[simp]def akG(l:List qI):jw 3 (l.map Xv)=true:=by simp[jw]
structure sF(n:Nat)(s:j5):Prop where
 w:lM s.now
 sn:s.since.length=s.now.nodes.length
 tk:0<=s.tick/\s.tick<=n
 pl:s.jU.length<=200*n
 pe:∀p∈s.jU,p.node.b7.length<=64/\p.node.data.length<=4096
 tl:s.taken.length<=16
 nx:1<=s.next/\s.next<=1099511627776
structure mF(n:Nat)(f:FS):Prop where
 s:sF n f.s
 hs:qh f.holds
 hl:f.holds.length<=64
 qs:mE f.jG
 ql:f.jG.length<=16
def sF.mono{n m:Nat}{s:j5}(h:sF n s)(b:n<=m):sF m s :=
 ⟨h.w,h.sn,⟨h.tk.1,by have:=h.tk.2;omega⟩,by have:=h.pl;omega,h.pe,h.tl,h.nx⟩
def mF.mono{n m:Nat}{f:FS}(h:mF n f)(b:n<=m):mF m f:=⟨h.s.mono b,h.hs,h.hl,h.qs,h.ql⟩
variable{n:Nat}
def ahq(b:21<n)(x:Tr.Node)(i:Int)(X:AH):eT (en.cz n) 260 [Nd x,I i] X=some (I (oa x.ino i),X):=by
 have h:=Zq (n:=21) ah x.ino i
 have h2:(en.cz n).p 260 [Nd x,I i]=some (I (oa x.ino i)):=by
  rw[pp 260 rfl b rfl,b8,b6];simp(disch:=omega)[ae3,ca 82,h]
 simp only[Nd]at h2;simp(disch:=omega)[ca 260,h2]
def Ks(l:List Tr.Node)(i:Int):Int:=if (find l i).isSome=true then(jK l i:Nat)else -1
def UX{l:List Tr.Node}(hs:lC l)(i:Int): -1<=Ks l i/\Ks l i<l.length:=by
 unfold Ks
 rcases pN hs i with⟨n,h,b⟩ | ⟨b,h⟩
 .rw[b];simp;omega
 .rw[b];simp;omega
def abw(o:102<n){l:List Tr.Node}(hs:lC l)(hl:l.length<=1000)(i:Int):(en.cz n).p 211 [.b9 false (l.map Nd),I i]=some (I (Ks l i)):=by
 rw[pp 211 rfl o rfl,b8,b6];have h:=SR (n:=102) ah hs hl i 260 (X:=[]) rfl λx _=>ahq ah x i []
 unfold Ks;cases b:(find l i).isSome with
 |true =>
  rw[b]at h;simp(disch:=omega)[Yr,h]
 |false =>
  rw[b]at h;simp(disch:=omega)[Yr,h]
def abv(q:103<n)(x y:Tr.Node)(o:x.b7.length<=1000)(l:y.b7.length<=1000):∃b,(en.cz n).p 212 [Nd x,Nd y]=some (.bool b):=by
 rw[pp 212 rfl q rfl,b8,b6];have r:=s90 (n:=103) ah x.b7 y.b7 false false o l
 have h1:=oq x.data;have h2:=oq y.data;refine⟨decide (x.ino=y.ino)&&decide (x.kind=y.kind)&&decide (x.links=y.links)&&decide (x.up=y.up)&&decide (x.data=y.data)&&decide (x.b7=y.b7),?_⟩
 by_cases h:x.ino=y.ino
 .by_cases i : x.kind = y.kind
  .by_cases c3 : x.links = y.links
   .by_cases c4 : x.up = y.up
    .by_cases c5:x.data=y.data
     .simp(disch:=omega)[Ih,h,i,c3,c4,c5,j9,h2,ca 90,r]
     .simp(disch:=omega)[Ih,h,i,c3,c4,c5,j9,h1,h2]
    .simp(disch:=omega)[Ih,h,i,c3,c4]
   .simp(disch:=omega)[Ih,h,i,c3]
  .simp(disch:=omega)[Ih,h,i]
 .simp(disch:=omega)[Ih,h]
def v7(l:List qI)(a b:Int):Bool:=l.any λx=>decide (a<=x.at_)&&decide (x.at_<b)
def ahp(o:22<n)(x:qI)(a b:Int)(X:AH)(i j:Nat)(h:X[i]? = some (.var [I a]))(q:X[j]? = some (.var [I b])):
  eT (en.cz n) 262 [Xv x,.ptr i 0 0 0,.ptr j 0 0 0] X=some (.bool (decide (a<=x.at_)&&decide (x.at_<b)),X):=by
 rw[ph 262 rfl o rfl,b6]
 by_cases l:a<=x.at_
 .simp(disch:=omega)[Yh,h,q,l]
 .simp(disch:=omega)[Yh,h,l]
def abu(h:28<n){l:List qI}(hl:l.length<=1000)(a b:Int):(en.cz n).p 213 [.b9 false (l.map Xv),I a,I b]=some (.bool (v7 l a b)):=by
 rw[pp 213 rfl h rfl,b8,b6];let⟨Z,_,h1⟩:=GB (Γ:=en.cz 26) (z:=3) (cs:=λx:qI=>[I x.id,I x.ino,I x.at_]) (λ_=>rfl) (l:=l) af (X:=[.var [I a],.var [I b]]) rfl (xk _ (cs:=λx:qI=>[I x.id,I x.ino,I x.at_]) (λ_=>rfl) l false) 262 [] [.ptr 0 0 0 0,.ptr 1 0 0 0] (λx=>decide (a<=x.at_)&&decide (x.at_<b)) λx _=>⟨[],rfl,ahp ah x a b _ 0 1 rfl rfl⟩
 have h1:eT (en.cz 27) 297 [.b9 false (l.map Xv),.fn (.func 262) [] [.ptr 0 0 0 0,.ptr 1 0 0 0]] [.var [I a],.var [I b]]=_:=(aiA ah _ _).trans h1
 have h2:eT (en.cz 28) 261 [.b9 false (l.map Xv),.fn (.func 262) [] [.ptr 0 0 0 0,.ptr 1 0 0 0]] [.var [I a],.var [I b]]=_:=(aiI ah _ _).trans (cfG h1)
 unfold v7;simp(disch:=omega)[afp,h2]
variable{X:AH}
def UF{n:Nat}(r:41<n)(t:Tr.Tree)(w:lM t){i:Int}{d:Nat}(q:uA t i d){k:Nat}(B:Bx X k t):
  eT (en.cz n) 191 [.ptr k 0 0 0,I i] X=some (.own X.length 0 0 (d+1),X++[.row 0 1 ((i::mP t d i).map I)]):=by
 rw[acu r,b6];have x:=r6 w q;have h:=λe0 h0=>ade (n:=41) ah t w B e0 h0 q [i] ak
 have y:([i]++mP t d i).length=d+1:=by simp[pP]
 rw[y]at h;have l:=λY h0=>B.pl.tail (L:=X.length+1) (R:=[X.length]) af ai h0 Y
 have b:=jr X;have v:=B.lt;have o:¬k=X.length:=af
 simp(disch:=omega)[R5,l,b];have h':=λe0 h0=>h e0 h0
 simp only[aS,bt,bN,aN]at h';rw[h' _ (by simp(disch:=omega)[o])]
 simp(disch:=omega)
def Iz{t:Tr.Tree}{i:Int}{d:Nat}(b:uA t i d)(o:Int):∀ {k:Nat},d<k->wU t k i o=(i::mP t d i).contains o:=by
 induction b with
 |root =>
  intro k hk;obtain⟨k,rfl⟩:∃j,k=j+1:=⟨k-1,af⟩
  simp only[wU,mP]
  by_cases h:(1:Int)=o
  .simp[h]
  .have h':¬o=1:=λe=>h e.symm
   simp[h,h']
 | @up i q d v r h1 b l =>
  intro k hk;obtain⟨k,rfl⟩:∃j,k=j+1:=⟨k-1,af⟩
  have n:BT t i=q.up:=zO v;simp only[wU,mP,n];rw[l af]
  by_cases h:i=o
  .simp[h]
  .have h':¬o=i:=λe=>h e.symm
   simp[h,h',h1]
def ajk{Γ:jE}(l:ay)(hl:l.length<=1000)(o:Int)(e0:Env)(h0:e0 0 = .b9 false (l.map I))(h1:e0 1=I o)(n:e0 7=I (l.length:Int)):
  iter (round Γ [8] [(.exit 0,[]),(.ret,[4])] xO e0 0 []) ([I 0],[])=some ((l.find? λx=>decide (x=o)).elim (.exit 0,[],[]) λ_=>(.ret,[I (l.findIdx λx=>decide (x=o):Nat)],[])) :=
 pE (f:=round Γ [8] [(.exit 0,[]),(.ret,[4])] xO e0 0 []) (λi=>([I (i:Int)],[])) l (λx=>decide (x=o)) (λk _=>(.ret,[I (k:Int)],[])) (.exit 0,[],[])
  (λk hk=>by
   obtain⟨y,b⟩:∃y,y=l[k]:=⟨_,rfl⟩;rw[<-b]
   by_cases h:y=o
   .simp(disch:=omega)[round_eq,xO,h0,h1,n,<-b,h]
   .have h':¬o=y:=λe=>h e.symm
    simp(disch:=omega)[round_eq,xO,h0,h1,n,<-b,h,h'])
  (by simp(disch:=omega)[round_eq,xO,n])
def abA{n:Nat}(r:43<n)(l:ay)(hl:l.length<=1000)(o:Int):(en.cz n).p 192 [.b9 false (l.map I),I o]=some (.bool (l.contains o)):=by
 have i:(en.cz 43).p 249 [.b9 false (l.map I),I o]=some (I (EC l λx=>decide (x=o))):=by
  rw[aiK ah,b8,b6]
  have h:=ajk (Γ:=en.cz 42) l hl o;unfold EC;simp(disch:=omega)[Yj];rw[h _ aq aq aq]
  cases l.find? λx=>decide (x=o)with
  |none=>simp(disch:=omega)
  |some y=>simp(disch:=omega)
 let⟨_,_,q⟩:=DT l λx=>decide (x=o)
 have v:(l.any λx=>decide (x=o))=l.contains o:=by
  rw[ef];simp
 rw[v]at q;generalize(EC l λx=>decide (x=o))=j at *
 generalize l.contains o=b at *
 rw[pp 192 rfl r rfl,b8,b6]
 by_cases c:0<=j
 .have:=q.1 c;simp(disch:=omega)[Yt,ca 249,i,c,this]
 .have:b=false:=by
   cases b with
   |false=>rfl
   |true=>exact absurd (q.2 rfl) c
  simp(disch:=omega)[Yt,ca 249,i,c,this]
def yX(t:Tr.Tree)(ino at_ own:Int)(q:Tr.Node):Bool:=decide (q.kind=2)&&(below t q.ino ino&&(decide (12<at_+depth t q.ino-own)||(decide (at_+depth t q.ino-own=12)&&decide (0<q.b7.length))))
def ahu{n:Nat}(T:44<n)(t:Tr.Tree)(w:lM t){q:Tr.Node}(S:q∈t.nodes)(ino at_ own:Int)(ha:0<=at_/\at_<=1000)(W:0<=own/\own<=1000){k:Nat}(B:Bx X k t)(a b c d:Nat)(h1:X[a]? = some (.var [.ptr k 0 0 0]))(h2:X[b]? = some (.var [I at_]))(h3:X[c]? = some (.var [I own]))(h4:X[d]? = some (.var [I ino])):
  ∃Z,Z.all gd=true/\eT (en.cz n) 251 [Nd q,.ptr a 0 0 0,.ptr b 0 0 0,.ptr c 0 0 0,.ptr d 0 0 0] X=some (.bool (yX t ino at_ own q),X++Z):=by
 generalize o:eT (en.cz n) 251 _ _=res;rw[ph 251 rfl T rfl,b6]at o;unfold yX;have N:=(aD.1 h1).1;have M:=(aD.1 h2).1;have L:=(aD.1 h3).1;have H:=(aD.1 h4).1;have h1:=iT h1 N;have h2:=iT h2 M;have h3:=iT h3 L;have h4:=iT h4 H
 by_cases y:q.kind=2
 .let⟨i,h,O,_⟩:=w.dep _ _ (jN w.wf.jL S) y;have G:=r6 w h;have Q:=w.wf.len;have z:=UF (n:=44) ah t w h B
  have E:=abA (n:=44) ah (q.ino::mP t i q.ino) (by simp[pP];omega) ino
  have U:below t q.ino ino=(q.ino::mP t i q.ino).contains ino:=Iz h ino af
  have K:=k8 h af
  have A:((q.ino::mP t i q.ino).map I).length=i+1:=by simp[pP]
  rw[U,K];generalize Y:(q.ino::mP t i q.ino).map I=m at *
  generalize(q.ino::mP t i q.ino).contains ino=bb at *
  have l:m.take (i+1)=m:=aO af
  refine⟨[.me 0 1 m],rfl,?_⟩;rw[<-o];cases bb with
  |false=>simp(disch:=omega)[Ig,y,h1,h2,h3,h4,z,A,l,ca 192,E,jk]
  |true =>
   by_cases P:12<at_+(i:Int)-own
   .have x:12<at_+((i:Int)+1)-1-own:=by omega
    simp(disch:=omega)[Ig,y,h1,h2,h3,h4,z,A,l,ca 192,E,P,x,jk]
   .have x:¬12<at_+((i:Int)+1)-1-own:=by omega
    by_cases v:at_+(i:Int)-own=12
    .have r:at_+((i:Int)+1)-1-own=12:=by omega
     by_cases F:0<q.b7.length
     .simp(disch:=omega)[Ig,y,h1,h2,h3,h4,z,A,l,ca 192,E,v,r,F,jk]
     .simp(disch:=omega)[Ig,y,h1,h2,h3,h4,z,A,l,ca 192,E,v,r,F,jk]
    .have r:¬at_+((i:Int)+1)-1-own=12:=by omega
     simp(disch:=omega)[Ig,y,h1,h2,h3,h4,z,A,l,ca 192,E,P,x,v,r,jk]
 .refine⟨[],rfl,?_⟩;rw[<-o,cC];simp(disch:=omega)[Ig,y]
def Ma{Y:AH}(b:oE X)(h:Y.all (ve (X.length+Y.length))=true):oE (X++Y):=by
 unfold oE at b⊢;rw[aU,cq,aF];exact⟨Dx af b,h⟩
def abz{n:Nat}(M:144<n)(t:Tr.Tree)(w:lM t){ino:Int}(H:jF t ino=0)(at_:Int)(P:0<=at_/\at_<=1000){k:Nat}(B:Bx X k t):
  ∃Y,eT (en.cz n) 194 [.ptr k 0 0 0,I ino,I at_] X=some (.bool (t.nodes.any (yX t ino at_ (depth t ino))),Y)/\Gw X Y k t:=by
 have o:=B.lt;have K:=w.wf.len;have hk:=B.get o;have B1:Bx (X++[.var [.ptr k 0 0 0],.var [I ino],.var [I at_]]) k t:=⟨Ma B.pl (by simp[ve,uI,AV.jW];omega),by rw[aJ o];exact B.at_⟩
 let⟨E,S,i⟩:=abl (n:=144) ah t w H B1
 let⟨T,x,y⟩:=nS.1 H;let⟨v,h,_⟩:=w.dep _ _ x y;have O:=r6 w h;have A:=k8 h af
 have B2:Bx (X++([.var [.ptr k 0 0 0],.var [I ino],.var [I at_]]++(E++[.var [I (depth t ino)]]))) k t:=by
  have:=(B1.app S).app (Y:=[.var [I (depth t ino)]]) rfl
  simpa using this
 simp only[aK,aL]at B2;rw[A]at B2 i⊢
 let⟨Z,Q,F⟩:=GB (Γ:=en.cz 142) (z:=6) (cs:=Nc) (λ_=>rfl) (l:=t.nodes) af B2.pl (xk _ (cs:=Nc) (λ_=>rfl) t.nodes false) 251 [] [.ptr X.length 0 0 0,.ptr (X.length+2) 0 0 0,.ptr (X.length+(E.length+1+1+1)) 0 0 0,.ptr (X.length+1) 0 0 0] (yX t ino at_ v) λq L=>ahu ah t w L ino at_ v P af B2 _ _ _ _ ai (by rw[aQ af];simp) (by rw[aQ af];simp) (by rw[aQ af];simp)
 have F:=(aiB (n:=143) ah _ _).trans F
 have r:=(aiJ (n:=144) ah _ _).trans (cfG F)
 have r:eT (en.cz 144) 250 [.b9 false (t.nodes.map Nd),.fn (.func 251) [] [.ptr X.length 0 0 0,.ptr (X.length+2) 0 0 0,.ptr (X.length+(E.length+1+1+1)) 0 0 0,.ptr (X.length+1) 0 0 0]] _=_:=r
 have G:Gw X (X++AB.var [.ptr k 0 0 0] :: .var [I ino] :: .var [I at_]::(E ++ .var [I v]::Z)) k t:=by
  refine⟨?_,ai,λj N _=>by rw[aJ N]⟩
  have:=B2.app Q
  simpa using this
 refine⟨_,?_,G⟩;generalize t.nodes.any (yX t ino at_ v)=b at *
 simp only[cM,aK,aL]at r i;rw[ph 194 rfl M rfl,b6];simp(disch:=omega)[afv,i,r,hk,jk]
def CW{t:Tr.Tree}(ino at_:Int):t.nodes.any (yX t ino at_ (depth t ino))=decide (12<high t ino at_):=by
 rw[ef,ct,decide_eq_true_eq];unfold high;rw[F9 (λn:Tr.Node=>n.kind=2/\below t n.ino ino=true) (λn=>at_+depth t n.ino-depth t ino+if 0<n.b7.length then 1 else 0) 12 t.nodes 0]
 constructor
 .rintro⟨q,b,h⟩
  right;simp only[yX,aF,bR,decide_eq_true_eq]at h;refine⟨q,b,⟨h.1,h.2.1⟩,?_⟩
  rcases h.2.2 with h | ⟨h,h'⟩
  .split<;>omega
  .rw[if_pos h'];omega
 .rintro(h | ⟨q,b,⟨h1,h2⟩,h3⟩)
  .omega
  .refine⟨q,b,?_⟩;simp only[yX,aF,bR,decide_eq_true_eq];refine⟨h1,h2,?_⟩;split at h3
   .by_cases h:12<at_+(depth t q.ino:Int)-depth t ino
    .exact .inl h
    .exact .inr ⟨af,by assumption⟩
   .exact .inl af
end Go.Proofs.YtghgbehknhmnaaaGreatDoor
