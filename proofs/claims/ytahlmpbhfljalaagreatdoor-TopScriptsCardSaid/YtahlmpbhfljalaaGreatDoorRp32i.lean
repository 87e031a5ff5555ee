/- Part of the proof that TopScriptsCard holds. -/
import Derived.Test.YtahlmpbhfljalaaGreatDoorReE
import Derived.Test.YtahlmpbhfljalaaGreatDoorX32i
set_option linter.all false
namespace Go.Proofs.YtahlmpbhfljalaaGreatDoor
open Go.Am Go.Tr Go.Am.Nm
structure xR where
 w:aq
 n:Int
 s:aq
@[simp]def Fl(f:xR):AV:=.agg [.str f.w,.int .i64 f.n,.str f.s]
def ue(f:xR):aq:=if f.n≠0 then 32::(f.w++61::Lib.itoa f.n)else if f.s≠[]then 32::(f.w++61::f.s)else[]
def kL(first:aq)(l:List xR):aq:=first++l.flatMap ue
structure Il(f:xR):Prop where
 n:Re.qE f.n
 w:f.w.length<=1000
 s:f.s.length<=68719476736
def FE{f:xR}(h:Il f):(ue f).length<=137438953472:=by
 have h1:=Re.kV h.n;have h2:=h.w;have h3:=h.s;unfold ue;split
 .simp only[aK,aG];omega
 .split
  .simp only[aK,aG];omega
  .simp
def Mm{n:Nat}(b:5<n){x:Int}(h:Re.qE x):(gV.fk n).p 28 [I x]=some (.str (Lib.itoa x)):=by
 rw[p28 b];show (if Re.qE x then some (AV.str (I9 x))else none)=_
 rw[if_pos h,Fi h]
def Hp{l:List xR}{i:Nat}(b:i<l.length)(first:aq):kL first (l.take (i+1))=kL first (l.take i)++ue l[i]:=by
 rw[bu b];simp only[kL,cL,bZ,cZ,b9,bV]
def BE{l:List xR}(h:∀f∈l,Il f)(first:aq):(kL first l).length<=first.length+l.length*137438953472:=by
 induction l with
 |nil=>simp[kL]
 |cons f l b =>
  have h1:=b λg hg=>h g (by simp[hg])
  have h2:=FE (h f ah)
  simp only[kL,bZ,aG,aK]at h1⊢;omega
def acT{first:aq}{fl:Bool}{l:List xR}(hl:l.length<=100)(Y:first.length<=68719476736)(K:∀f∈l,Il f)(e0:Env)(h5:e0 5 = .ptr 0 0 0 0)(A:e0 10 = .en fl (l.map Fl))(q:e0 11=I (l.length:Int))(L:Nat)(h:AH)(X:u7 oJ 5 h 0 [] first):
  ∃y,(∃h',u7 oJ 5 h' 0 [] (kL first l)/\y=(AX.exit 0,[],h'))/\iter (jY (gV.fk 8) [12] [(.exit 0,[])] Ag e0 L) ([I 0],h)=some y :=
 ji (f := jY (gV.fk 8) [12] [(.exit 0, [])] Ag e0 L) l.length (λi (x : AH) => ([I (i : Int)], x)) (λy => ∃ h', u7 oJ 5 h' 0 [] (kL first l) /\ y = (AX.exit 0, [], h')) (λi x => u7 oJ 5 x 0 [] (kL first (l.take i)))
  (λi x N F=>by
   left;obtain⟨f,o⟩:∃f,f=l[i]:=⟨_,rfl⟩;have H:=Hp N first;rw[<-o]at H;have b:Il f:=o▸K _ (aU N);have M:=BE (l:=l.take i) (λg hg=>K g (dK hg)) first
   have P:(l.take i).length<=l.length:=by rw[bI];omega
   have Q:=b.w;have S:=b.s;have T:=Re.kV b.n;have O:=F.lt;have U:=FE b;have v:=F.grow [.var [.str f.w,I f.n,.str f.s]];rw[H]
   by_cases r:f.n=0
   .by_cases hs : f.s = []
    .have e0:ue f=[]:=by simp[ue,r,hs]
     rw[e0,b9];exact⟨x++[.var [.str f.w,I f.n,.str f.s]],v,by simp(disch:=omega)[ia,Ag,h5,A,q,<-o,r,hs,ny]⟩
    .have e0:ue f=32::(f.w++61::f.s):=by simp[ue,r,hs]
     let⟨h',G,z,_⟩:=yD v (32::(f.w++61::f.s)) (by rw[<-e0];omega)
     have E:=(UY (n:=8) af _ _).trans G
     rw[r]at E;exact⟨h',by rw[e0];exact z,by simp(disch:=omega)[ia,Ag,h5,A,q,<-o,r,hs,E,ny]⟩
   .have e0:ue f=32::(f.w++61::Lib.itoa f.n):=by simp[ue,r]
    let⟨h',G,z,_⟩:=yD v (32::(f.w++61::Lib.itoa f.n)) (by rw[<-e0];omega)
    have E:=(UY (n:=8) af _ _).trans G
    have W:=Mm (n:=8) af b.n
    exact⟨h',by rw[e0];exact z,by simp(disch:=omega)[ia,Ag,h5,A,q,<-o,r,W,E,ny]⟩)
  (λx F=>⟨_,⟨x,ak F,rfl⟩,by simp(disch:=omega)[ia,Ag,q]⟩) (bp _) h (by simpa[kL]using X)
def PU{n:Nat}(r:8<n)(first:aq)(fl:Bool)(l:List xR)(hl:l.length<=100)(v:first.length<=68719476736)(h:∀f∈l,Il f):(gV.fk n).p 29 [.str first,.en fl (l.map Fl)]=some (.str (kL first l)):=by
 rw[pp 29 rfl r rfl,gd,b6];have i:=BE h first;have x:u7 oJ 5 [.var (rL 0 106 [.kG,.yl])] 0 [] []:=.inl ⟨rfl,106,none,rfl,.inr ⟨rfl,af⟩⟩
 let⟨h1,q,b,_⟩:=yD x first (by simp only[aR];omega)
 have z:=(UY (n:=8) af _ _).trans q
 simp(disch:=omega)[c29,z];generalize hx:iter _ _=o
 obtain⟨_,⟨h',F,rfl⟩,rfl⟩:∃y,(∃h',u7 oJ 5 h' 0 [] (kL first l)/\y=(AX.exit 0,[],h'))/\o=some y:=by
  rw[<-hx];exact acT (fl:=fl) hl v h _ an an an _ _ b
 let⟨G,A⟩:=LX F aa
 have E:=(p43 (n:=8) af _ h').trans A
 simp(disch:=omega)[E]
abbrev Er(e:Int):Prop:=-9223372036854775808<=e/\e<=9223372036854775807
def DT(q:Tr.Node):Prop:=Er q.ino/\Er q.kind/\Er q.links/\∀e∈q.ek,e.name.length<=1000
def zX(t:Tr.Tree)(i:Int):Er (jK t i):=by
 unfold jK;split
 .decide
 .split<;>decide
def FN(t:Tr.Tree)(i:Int)(s:aq):Er (enter mT t i s):=by
 unfold enter;have:=zX t i
 repeat' split
 all_goals omega
def Xn(t:Tr.Tree)(i:Int)(s:aq)(kind:Int)(b:Er t.next):Er (add mT ij t i s kind).2.1/\Er (add mT ij t i s kind).2.2:=by
 unfold add;have:=FN t i s
 repeat' split
 all_goals (dsimp only;omega)
def aeJ(t:Tr.Tree)(i to:Int)(s:aq):Er (ln mT ij t i to s).2:=by
 unfold ln;have:=FN t to s
 repeat' split
 all_goals (dsimp only;omega)
def yu(t:Tr.Tree)(i:Int)(s:aq):Er (Tr.look mT t i s).2:=by
 unfold Tr.look;have:=zX t i
 repeat' split
 all_goals (dsimp only;omega)
def aeH(t:Tr.Tree)(i:Int)(s:aq):Er (Tr.un mT t i s).2.2:=by
 unfold Tr.un;have:=yu t i s
 repeat' split
 all_goals (dsimp only;omega)
def N3(t:Tr.Tree)(x:Tr.Node)(y:Int):Er (Tr.kM t x y):=by
 unfold Tr.kM
 repeat' split
 all_goals omega
def aeI(t:Tr.Tree)(f:Int)(s:aq)(to:Int)(b:aq):Er (mv mT ij t f s to b).2.2:=by
 unfold mv;have:=yu t f s;have:=zX t to;have:=N3 t (iq t (Tr.look mT t f s).1) (zl t to b);simp only
 repeat' split
 all_goals (dsimp only;omega)
def Xl(t:Tr.Tree)(i:Int)(d:aq):Er (put t i d).2:=by
 unfold put
 repeat' split
 all_goals (dsimp only;omega)
def Q4(t:Tr.Tree)(l:List Ho)(c h i:Int):Er (rY t l c h i).2:=by
 unfold rY
 repeat' split
 all_goals (dsimp only;omega)
def N2(t:Tr.Tree)(l:List Ho)(c h:Int):Er (ajg t l c h).2.2:=by
 unfold ajg
 repeat' split
 all_goals (dsimp only;omega)
def Xm(l:List Ho)(c h:Int):Er (Ks l c h).2:=by
 unfold Ks
 repeat' split
 all_goals (dsimp only;omega)
def Xk(t:Tr.Tree)(l:List Qu)(i n b:Int):Er (tY t l i n b).2:=by
 unfold tY;have:=zX t i
 repeat' split
 all_goals (dsimp only;omega)
def aeG(t:Tr.Tree):∀(l:List aq)(i:Int)(e:Int),qw (Pp t) l i = .inr e->Er e:=by
 intro l
 induction l with
 |nil=>intro i e h;cases h
 |cons x l n =>
  intro i e h;simp only[qw]at h;split at h
  .exact n _ _ h
  .rename_i y b;cases h;unfold Pp at b;split at b
   .cases b
   .cases b;exact yu t i x
def Jo(t:Tr.Tree)(p:aq):Er (jQ t p).2:=by
 unfold jQ;split
 .dsimp only;omega
 .rename_i l _;split
  .dsimp only;omega
  .rename_i e b;exact aeG t _ _ _ b
def CV{t:Tr.Tree}(w:nB t){q:Tr.Node}(l:q∈t.nodes):DT q:=by
 have b:=jt w.wf.jh l;have h:=Re.j6 w q.ino;rw[iy b]at h;refine⟨h.1,?_,h.2.1,λe i=>?_⟩
 .rcases w.wf.kind _ _ b with h | h<;>rw[h]<;>decide
 .have:=(w.wf.dir _ _ b (qY w.wf b i)).2.nm e i;unfold mT at this;simp only[aC,decide_eq_true_eq]at this;omega
def mb{t:Tr.Tree}(w:nB t)(i:Int):DT (iq t i):=by
 unfold iq;cases b:find t.nodes i with
 |none=>exact⟨af,af,af,λe h=>by simp[jb]at h⟩
 |some q=>exact CV w (gZ b).1
def Jp{t:Tr.Tree}(w:nB t):Er t.next:=by
 let⟨r,b,_⟩:=w.wf.root;have h1:=w.wf.pos _ _ b;have h2:=w.bg.nx;omega
def FM{t:Tr.Tree}(w:nB t)(i:Int)(s:aq):Er (Tr.look mT t i s).1:=by
 unfold Tr.look;have l:=Jp w;split
 .dsimp only;omega
 split
 .dsimp only;omega
 split
 .dsimp only;omega
 .rename_i e q;dsimp only;have b:e∈(uf t i).ek:=bN q;unfold uf at b;cases h:find t.nodes i with
  |none=>rw[h]at b;simp[jb]at b
  |some p =>
   rw[h]at b;dsimp only at b;split at b
   .let⟨⟨n,o⟩,_⟩:=kW w h b;have:=w.wf.pos _ _ o;omega
   .simp[jb]at b
def Xj{t:Tr.Tree}(w:nB t)(i:Int)(s:aq):Er (Tr.un mT t i s).2.1:=by
 unfold Tr.un;have:=FM w i s
 repeat' split
 all_goals (dsimp only;omega)
def Pm(n:Int):Er (IntKind.i64.wrap n):=by
 have e:IntKind.i64.wrap n=if decide (n%18446744073709551616>=9223372036854775808)=true then n%18446744073709551616-18446744073709551616 else n%18446744073709551616:=rfl
 rw[e];split
 .rename_i h;simp only[decide_eq_true_eq]at h;omega
 .rename_i h;simp only[decide_eq_true_eq]at h;omega
end Go.Proofs.YtahlmpbhfljalaaGreatDoor
namespace Go.Tr
structure Ba where
 from_:Int
 till:Int
 node:Node
structure uX where
 id:Int
 ino:Int
 at_:Int
structure lM where
 now:Tree
 tick:Int
 since:ax
 lU:List Ba
 taken:List uX
 next:Int
structure FS where
 s:lM
 holds:List Ho
 jy:List Qu
structure rB where
 kind:Int
 client:Int
 path:aq
 to:aq
 n:Int
 m:Int
 handle:Int
 data:aq
structure uZ where
 err:Int
 ino:Int
 kind:Int
 n:Int
 m:Int
 names:List aq
 data:aq
end Go.Tr
namespace Go.Proofs.YtahlmpbhfljalaaGreatDoor
open Go.Am Go.Tr Go.Am.Nm Go.Lib
@[simp]def Pv(p:Ba):AV:=.agg [.int .i64 p.from_,.int .i64 p.till,.int .i64 p.node.ino,.int .i64 p.node.kind,.int .i64 p.node.links,.en false (p.node.data.map B),.en false (p.node.ek.map En),.int .i64 p.node.up]
@[simp]def Xv(x:uX):AV:=.agg [.int .i64 x.id,.int .i64 x.ino,.int .i64 x.at_]
abbrev Sc(s:lM):List AV:=[.en false (s.now.nodes.map Nd),.int .i64 s.now.next,.int .i64 s.now.gr,.int .i64 s.tick,.en false (s.since.map I),.en false (s.lU.map Pv),.en false (s.taken.map Xv),.int .i64 s.next]
@[simp]def Sv(s:lM):AV:=.agg (Sc s)
abbrev Fc(f:FS):List AV:=Sc f.s++[.en false (f.holds.map Hv),.en false (f.jy.map Qv)]
@[simp]def Fv(f:FS):AV:=.agg (Fc f)
abbrev Oc(o:rB):List AV:=[.int .i64 o.kind,.int .i64 o.client,.str o.path,.str o.to,.int .i64 o.n,.int .i64 o.m,.int .i64 o.handle,.en false (o.data.map B)]
@[simp]def Ov(o:rB):AV:=.agg (Oc o)
abbrev Ac(a:uZ):List AV:=[.int .i64 a.err,.int .i64 a.ino,.int .i64 a.kind,.int .i64 a.n,.int .i64 a.m,.en false (a.names.map AV.str),.en false (a.data.map B)]
@[simp]def Av(a:uZ):AV:=.agg (Ac a)
attribute [simp] Sc Fc Oc Ac
@[simp]def afU(a b c d:AV)(l:List AV):Am.shape 3 true (a::b::c::d::l)=some (.agg [a,b,c]):=by simp[Am.shape]
@[simp]def afT(a b c d e f g h i:AV)(l:List AV):Am.shape 8 true (a::b::c::d::e::f::g::h::i::l)=some (.agg [a,b,c,d,e,f,g,h]):=by simp[Am.shape]
@[simp]def aa9(a b c d e f g h i j k:AV)(l:List AV):Am.shape 10 true (a::b::c::d::e::f::g::h::i::j::k::l)=some (.agg [a,b,c,d,e,f,g,h,i,j]):=by simp[Am.shape]
@[simp]def akn(l:List Ba):iU 8 (l.map Pv)=true:=by simp[iU]
@[simp]def akl(l:List uX):iU 3 (l.map Xv)=true:=by simp[iU]
structure A9(n:Nat)(s:lM):Prop where
 w:nB s.now
 sn:s.since.length=s.now.nodes.length
 tk:0<=s.tick/\s.tick<=n
 pl:s.lU.length<=200*n
 pe:∀p∈s.lU,p.node.ek.length<=64/\p.node.data.length<=4096/\DT p.node
 tl:s.taken.length<=16
 nx:1<=s.next/\s.next<=1099511627776
structure uY(n:Nat)(f:FS):Prop where
 s:A9 n f.s
 hs:pU f.holds
 hl:f.holds.length<=64
 qs:mh f.jy
 ql:f.jy.length<=16
def A9.mono{n m:Nat}{s:lM}(h:A9 n s)(b:n<=m):A9 m s :=
 ⟨h.w,h.sn,⟨h.tk.1,by have:=h.tk.2;omega⟩,by have:=h.pl;omega,h.pe,h.tl,h.nx⟩
def uY.mono{n m:Nat}{f:FS}(h:uY n f)(b:n<=m):uY m f:=⟨h.s.mono b,h.hs,h.hl,h.qs,h.ql⟩
def HH(w:aq)(n:Int):ue ⟨w,n,[]⟩=(Re.DQ w n).flatMap λp=>32::Re.E8 p:=by
 unfold ue Re.DQ
 by_cases h:n=0<;>simp[h,Re.E8]
def HF(w s:aq):ue ⟨w,0,s⟩=(Re.I6 w s).flatMap λp=>32::Re.E8 p:=by
 unfold ue Re.I6
 by_cases h:s=[]<;>simp[h,Re.E8]
structure OpR(o:rB):Prop where
 kind:Re.qE o.kind
 client:Re.qE o.client
 n:Re.qE o.n
 m:Re.qE o.m
 handle:Re.qE o.handle
 path:o.path.length<=1000000
 to:o.to.length<=1000000
 data:o.data.length<=1000000
def U9(o:rB):aq:=Re.text (Re.vq o.kind) (Re.qT o.client o.path o.to o.n o.m o.handle o.data)
def SF(o:rB):List xR:=[⟨Re.qI,o.client,[]⟩,⟨Re.Bc,0,Re.esc o.path⟩,⟨Re.YW,0,Re.esc o.to⟩,⟨Re.wN,o.n,[]⟩,⟨Re.wM,o.m,[]⟩,⟨Re.qH,o.handle,[]⟩,⟨Re.nR,0,Re.esc o.data⟩]
def MJ(o:rB):U9 o=kL (Re.vq o.kind) (SF o):=by
 simp only[U9,Re.text,Re.qT,kL,SF,bZ,cZ,cL,HH,HF]
def i0:Re.qE 0:=af
def FL{s:aq}(h:s.length<=1000000):(Re.esc s).length<=68719476736:=by
 have:=Re.mq s;omega
def Va{o:rB}(h:OpR o):∀f∈SF o,Il f:=by
 intro f b;simp only[SF,aY,dz,or_false]at b
 rcases b with rfl | rfl | rfl | rfl | rfl | rfl | rfl
 .exact⟨h.client,ah,ah⟩
 .exact⟨i0,ah,FL h.path⟩
 .exact⟨i0,ah,FL h.to⟩
 .exact⟨h.n,ah,ah⟩
 .exact⟨h.m,ah,ah⟩
 .exact⟨h.handle,ah,ah⟩
 .exact⟨i0,ah,FL h.data⟩
def CR{k:Int}(h:Re.qE k):(Re.vq k).length<=30:=by
 unfold Re.vq;split
 .rename_i h1;have:∀j:Fin 18,(Re.jw.getD j.val []).length<=30:=by decide
  exact this ⟨k.toNat,aa⟩
 .have:=Re.kV h;simp only[aG,aK,aR];omega
def rp9{n:Nat}(l:12<n){o:rB}(h:OpR o)(fl:Bool):(gV.fk n).p 9 [.agg [I o.kind,I o.client,.str o.path,.str o.to,I o.n,I o.m,I o.handle,.en fl (o.data.map B)]]=some (.str (U9 o)):=by
 rw[p9 l,gd,b6];have h0:=Mm (n:=12) af h.kind
 have h1:=GW (n:=12) af o.path (by have:=h.path;omega)
 have h2:=GW (n:=12) af o.to (by have:=h.to;omega)
 have h3:=GW (n:=12) af o.data (by have:=h.data;omega)
 have h4:=PU (n:=12) af (Re.vq o.kind) true (SF o) (by simp[SF]) (by have:=CR h.kind;omega) (Va h)
 rw[<-MJ]at h4;simp only[SF,bF,aX,Fl]at h4;have r:=h.data;have b:=Re.kV h.kind
 by_cases hk:0<o.kind/\o.kind<18
 .have q:o.kind=1\/o.kind=2\/o.kind=3\/o.kind=4\/o.kind=5\/o.kind=6\/o.kind=7\/o.kind=8\/o.kind=9\/o.kind=10\/o.kind=11\/o.kind=12\/o.kind=13\/o.kind=14\/o.kind=15\/o.kind=16\/o.kind=17:=by omega
  rcases q with e | e | e | e | e | e | e | e | e | e | e | e | e | e | e | e | e
  all_goals
   rw[e]at h0 h4 b;rw[e];simp only[Re.vq,Re.jw]at h4;simp at h4;simp(disch:=omega)[c9,ca 28,h0,h1,h2,h3,h4,jo]
 .have e:Re.vq o.kind=Re.O5++Lib.itoa o.kind:=by unfold Re.vq;rw[if_neg hk]
  rw[e]at h4;simp only[Re.O5,aM,aN]at h4
  by_cases i:0<o.kind
  .have:¬o.kind<18:=λh=>hk ⟨i,h⟩
   simp(disch:=omega)[c9,ca 28,h0,h1,h2,h3,h4,jo]
  .simp(disch:=omega)[c9,ca 28,h0,h1,h2,h3,h4,jo]
structure AnR(a:uZ):Prop where
 err:Re.qE a.err
 ino:Re.qE a.ino
 kind:Re.qE a.kind
 n:Re.qE a.n
 m:Re.qE a.m
 names:a.names.length<=1000
 nml:∀s∈a.names,s.length<=1000
 data:a.data.length<=1000000
def Ig(a:uZ):aq:=Re.text (Re.lX a.err) (Re.nY a.ino a.kind a.n a.m a.names a.data)
def yb(a:uZ):List xR:=[⟨Re.DX,a.ino,[]⟩,⟨Re.xl,a.kind,[]⟩,⟨Re.wN,a.n,[]⟩,⟨Re.wM,a.m,[]⟩]
def JD(a:uZ):Ig a=kL (kL (Re.lX a.err) (yb a)++(if a.names=[]then[]else 32::(Re.lg++61::Lib.join (a.names.map Re.esc) [44]))) [⟨Re.nR,0,Re.esc a.data⟩]:=by
 simp only[Ig,Re.text,Re.nY,kL,yb,bZ,cZ,cL,HH,HF,bV,b9,aN]
 by_cases h:a.names=[]
 .simp[h]
 .simp[h,Re.E8]
def RV{a:uZ}(h:AnR a):∀f∈yb a,Il f:=by
 intro f b;simp only[yb,aY,dz,or_false]at b
 rcases b with rfl | rfl | rfl | rfl
 .exact⟨h.ino,ah,ah⟩
 .exact⟨h.kind,ah,ah⟩
 .exact⟨h.n,ah,ah⟩
 .exact⟨h.m,ah,ah⟩
def vQ{k:Int}(h:Re.qE k):(Re.lX k).length<=30:=by
 unfold Re.lX;have:=Re.kV h;split
 .decide
 .simp only[aG,aK,aR];omega
def jA{f:xR}(h:Re.qE f.n):(ue f).length<=f.w.length+f.s.length+30:=by
 have h1:=Re.kV h;unfold ue;split
 .simp only[aK,aG];omega
 .split
  .simp only[aK,aG];omega
  .simp
def OU{a:uZ}(h:AnR a):(kL (Re.lX a.err) (yb a)).length<=400:=by
 have i:=vQ h.err;have l1:=jA (f:=⟨Re.DX,a.ino,[]⟩) h.ino;have l2:=jA (f:=⟨Re.xl,a.kind,[]⟩) h.kind;have b:=jA (f:=⟨Re.wN,a.n,[]⟩) h.n;have l5:=jA (f:=⟨Re.wM,a.m,[]⟩) h.m;simp only[kL,yb,bZ,cZ,aG,aR];simp only[aK,aR]at l1 l2 b l5;omega
def EW{α β:Type}(f:α->β):∀(l:List α)(a:List β),l.foldl (λa x=>a++[f x]) a=a++l.map f
 | [],a=>ah
 |x::l,a=>by rw[cE,EW f l];simp
def acX{fl:Bool}(names:List aq)(hl:names.length<=1000)(hs:∀s∈names,s.length<=1000)(e0:Env)(o:e0 31 = .en fl (names.map AV.str))(l:e0 32=I (names.length:Int)):
  iter (round (gV.fk 183) [5,33] [(.exit 0,[5])] Ga e0 1 [0]) ([.own 0 0 0 0,I 0],[.row 0 1 []])=some (.exit 0,[.own 0 0 0 names.length],[.row 0 1 ((names.map Re.esc).map AV.str)]):=by
 have:=sR (f:=round (gV.fk 183) [5,33] [(.exit 0,[5])] Ga e0 1 [0]) (λi (b:List aq)=>([.own 0 0 0 b.length,I (i:Int)],[.row 0 1 (b.map AV.str)])) names (λa x=>a++[Re.esc x]) (λb=>(.exit 0,[.own 0 0 0 b.length],[.row 0 1 (b.map AV.str)])) (λi b=>b.length=i)
  (λi q b h=>by
   obtain⟨x,hx⟩:∃x,x=names[i]:=⟨_,rfl⟩;have h1:=GW (n:=183) af x (by have:=hs x (hx▸aU q);omega)
   rw[<-hx];exact⟨by simp[h],by simp(disch:=omega)[round_eq,Ga,o,l,<-hx,ca 30,h1,h]⟩)
  (λb h=>by simp(disch:=omega)[round_eq,Ga,l]) [] rfl
 rw[EW]at this
 simpa using this
def qW{l:List aq}(h:∀s∈l,s.length<=1000):(Lib.join (l.map Re.esc) [44]).length<=l.length*3001:=by
 induction l with
 |nil=>simp[Lib.join]
 |cons x l b =>
  have h1:=b λs hs=>h s (by simp[hs])
  have h2:=Re.mq x;have h3:=h x ah
  cases l with
  |nil=>simp[Lib.join,List.intercalate];omega
  |cons y l =>
   have e:Lib.join ((x::y::l).map Re.esc) [44]=Re.esc x++44::Lib.join ((y::l).map Re.esc) [44]:=by
    simp[Lib.join,List.intercalate,List.intersperse]
   rw[e];simp only[aG,aK]at h1⊢;omega
def abJ{n:Nat}(x:183<n){a:uZ}(h:AnR a)(f1 G:Bool):(gV.fk n).p 12 [.agg [I a.err,I a.ino,I a.kind,I a.n,I a.m,.en f1 (a.names.map AV.str),.en G (a.data.map B)]]=some (.str (Ig a)):=by
 rw[pp 12 rfl x rfl,gd,b6];have h0:=Mm (n:=183) af h.err
 have h3:=GW (n:=183) af a.data (by have:=h.data;omega)
 have v:=vQ h.err;have h4:=λfl=>PU (n:=183) af (Re.lX a.err) fl (yb a) (by simp[yb]) aa (RV h)
 have y:=qW h.nml;have l:=h.names;have A:=h.data;have E:=OU h
 have h5:=λfl=>PU (n:=183) af (kL (Re.lX a.err) (yb a)++(if a.names=[]then[]else 32::(Re.lg++61::Lib.join (a.names.map Re.esc) [44]))) fl [⟨Re.nR,0,Re.esc a.data⟩] ah (by
  have:(if a.names=[]then[]else 32::(Re.lg++61::Lib.join (a.names.map Re.esc) [44])).length<=3001010:=by
   split
   .simp
   .simp only[aK,aG,aR];omega
  rw[aG];omega) (by
  intro f r;simp only[aY,dz,or_false]at r;subst r;exact⟨i0,ah,FL h.data⟩)
 have F:∀fl,xA [.en fl ((a.names.map Re.esc).map AV.str),.str [44]]=some (.str (Lib.join (a.names.map Re.esc) [44])):=λfl=>BH fl _ _ aj aa
 have o:∀fl,(gV.fk 183).p 38 [.en fl ((a.names.map Re.esc).map AV.str),.str [44]]=some (.str (Lib.join (a.names.map Re.esc) [44])):=λfl=>by rw[p38 af];exact F fl
 rw[<-JD]at h5;generalize kL (Re.lX a.err) (yb a)=H at h4 h5 E;simp only[yb,bF,aX,Fl]at h4 h5;simp only[eL]at o;have loop:=λe0=>acX (fl:=f1) a.names l h.nml e0
 have z:=Re.kV h.err
 by_cases i:a.names=[]
 .simp only[i,aX,if_true,b9,aR]at *
  by_cases b:a.err=0
  .have e:Re.lX a.err=[111,107]:=by simp[Re.lX,b]
   rw[e]at h4;simp(disch:=omega)[c12,b,ca 29,h4];rw[loop _ an an]
   simp(disch:=omega)[ca 30,h3,jo,ca 29,h5]
  .have e:Re.lX a.err=[101,114,114,111,114]++Lib.itoa a.err:=by simp[Re.lX,b]
   rw[e]at h4;simp only[aM,aN]at h4;simp(disch:=omega)[c12,b,ca 28,h0,ca 29,h4];rw[loop _ an an]
   simp(disch:=omega)[ca 30,h3,jo,ca 29,h5]
 .simp only[i,if_false,Re.lg,aM,aN]at h5;have q:0<a.names.length:=fJ.2 i
  by_cases b:a.err=0
  .have e:Re.lX a.err=[111,107]:=by simp[Re.lX,b]
   rw[e]at h4;simp(disch:=omega)[c12,b,ca 29,h4];rw[loop _ an an]
   simp(disch:=omega)[ca 30,h3,jo,ca 29,h5,ca 38,o]
  .have e:Re.lX a.err=[101,114,114,111,114]++Lib.itoa a.err:=by simp[Re.lX,b]
   rw[e]at h4;simp only[aM,aN]at h4;simp(disch:=omega)[c12,b,ca 28,h0,ca 29,h4];rw[loop _ an an]
   simp(disch:=omega)[ca 30,h3,jo,ca 29,h5,ca 38,o]
def xX(p:Re.KV):xR:=⟨p.1,Re.wm p.2,p.2⟩
variable{n i:Nat}
def UI(b:13<n)(s:aq)(hs:s.length<=281474976710656):∃e,(gV.fk n).p 26 [.str s]=some (.iV [I (Re.wm s),e]):=by
 rw[p26 b]
 show ∃e,(if s.length<=281474976710656 then(match Lib.atoiAll s with
  | .ok v=>some (AV.iV [.int .i64 v,.kg])
  | .range=>some (.iV [.int .i64 (Lib.atoiSat s),.dead])
  |_=>some (.iV [.int .i64 0,.dead]))else none)=_
 rw[if_pos hs];unfold Re.wm;cases Lib.atoiAll s<;>exact⟨_,rfl⟩
def ahN(b:15<n)(s p:aq)(hs:s.length<4294967281):(gV.fk n).p 51 [.str s,.str p]=some (.iV [.str (Lib.cut s p).1,.str (Lib.cut s p).2.1,.bool (Lib.cut s p).2.2]):=by
 rw[p51 b];show (if s.length<4294967281 then _ else none)=_
 rw[if_pos hs]
def abF(b:14<n)(s:aq)(c:UInt8)(hs:s.length<4294967281):(gV.fk n).p 36 [.str s,.str [c]]=some (.en true ((Lib.split s [c]).map .str)):=by
 rw[p36 b];show (if s.length<4294967281 then _ else none)=_
 rw[if_pos hs]
def abG(b:21<n)(s p:aq):(gV.fk n).p 27 [.str s,.str p]=some (.str (Lib.trimPrefix s p)):=by
 rw[p27 b];rfl
def Sb(v0:AB)(first:aq)(l:List xR)(x:AH):Prop:=(l=[]/\x=[v0,.var [.str first,.en true []]])\/(l≠[]/\∃v,x=[v0,.var [.str first,.own 2 v 0 l.length],.row v 3 (l.map Fl)])
def VQ{first:aq}{kv:List Re.KV}{p:Re.KV}(h:p∈kv):(Re.E8 p).length<=(Re.text first kv).length:=by
 obtain⟨a,b,rfl⟩:=List.append_of_mem h;simp only[Re.text,cL,bZ,aG,aK];omega
def acU{fl:Bool}{first:aq}{kv:List Re.KV}(hk:Re.Aw kv)(A:(Re.text first kv).length<4294967281)(hl:kv.length<=1000)(v0:AB)(e0:Env)(h4:e0 4 = .ptr 1 0 0 0)(h:e0 19 = .en fl (kv.map (AV.str∘Re.E8)))(b:e0 20=I (kv.length:Int)):
  ∃y,(∃h',Sb v0 first (kv.map xX) h'/\y=(AX.exit 0,[],h'))/\iter (jY (gV.fk 16) [21] [(.exit 0,[])] Ck e0 2) ([I 0],[v0,.var [.str first,.en true []]])=some y :=
 ji (f:=jY (gV.fk 16) [21] [(.exit 0,[])] Ck e0 2) kv.length (λi (x:AH)=>([I (i:Int)],x)) (λy=>∃h',Sb v0 first (kv.map xX) h'/\y=(AX.exit 0,[],h')) (λi x=>Sb v0 first ((kv.take i).map xX) x)
  (λi x E q=>by
   left;obtain⟨p,o⟩:∃p,p=kv[i]:=⟨_,rfl⟩;have z:p∈kv:=o▸aU E;have H:=VQ (first:=first) z;have K:(Re.E8 p).length=p.1.length+1+p.2.length:=by simp[Re.E8];omega
   have r:=ahN (n:=16) af (Re.E8 p) [61] aa
   rw[Re.XD hk z]at r;let⟨e,F⟩:=UI (n:=16) af p.2 aa
   have G:(kv.take (i+1)).map xX=(kv.take i).map xX++[xX p]:=by
    rw[bu E,<-o];simp
   have M:((kv.take i).map xX).length<=1000:=aj
   rw[G];generalize(kv.take i).map xX=l at *
   rcases q with⟨rfl,rfl⟩ | ⟨L,v,rfl⟩
   .exact⟨_,.inr ⟨ah,0,rfl⟩,by simp(disch:=omega)[ia,Ck,h4,h,b,<-o,ca 51,r,ca 26,F,xX]⟩
   .exact⟨_,.inr ⟨ah,v+1,rfl⟩,by simp(disch:=omega)[ia,Ck,h4,h,b,<-o,ca 51,r,ca 26,F,xX]⟩)
  (λx q=>⟨_,⟨x,ak q,rfl⟩,by simp(disch:=omega)[ia,Ck,b]⟩) (bp _) _ (.inl ⟨ah,rfl⟩)
def abH(l:16<n){first:aq}{kv:List Re.KV}(q:32∉first)(hk:Re.Aw kv)(h:(Re.text first kv).length<4294967281)(hl:kv.length<=1000):
  ∃fl,(gV.fk n).p 23 [.str (Re.text first kv)]=some (.agg [.str first,.en fl ((kv.map xX).map Fl)]):=by
 generalize b:(gV.fk n).p 23 _=res;rw[pp 23 rfl l rfl,gd,b6]at b;have h1:=abF (n:=16) af (Re.text first kv) 32 h
 rw[Re.GL q hk]at h1;simp only[bF,eL]at h1;have i:iU 1 (kv.map (AV.str∘Re.E8))=true:=by simp[iU]
 simp(disch:=omega)[c23,ca 36,h1,i]at b;generalize hx:iter _ _=o at b
 obtain⟨_,⟨h',r,rfl⟩,rfl⟩:∃y,(∃h',Sb (.var [.str [],.en false []]) first (kv.map xX) h'/\y=(AX.exit 0,[],h'))/\o=some y:=by
  rw[<-hx];exact acU (fl:=true) hk h hl _ _ an an an
 rcases r with⟨h0,rfl⟩ | ⟨h0,v,rfl⟩
 .simp(disch:=omega)[h0]at b;rw[h0];exact⟨true,b.symm⟩
 .simp(disch:=omega)at b;exact⟨false,ak b.symm⟩
def vE(l:List xR)(w:aq):Option xR:=l.find? λf=>decide (f.w=w)
def NS{α:Type}{p:α->Bool}{l:List α}(b:i<l.length)(h0:(l.take i).find? p=none)(h:p l[i]=true):l.find? p=some l[i]:=by
 have e:l=l.take i++l[i]::l.drop (i+1):=by
  rw[<-bz b,cF]
 have n:l.find? p=(l.take i++l[i]::l.drop (i+1)).find? p:=congrArg (List.find? p) e;rw[n,fU,h0,List.find?_cons_of_pos h];rfl
def KD{α:Type}{p:α->Bool}{l:List α}(b:i<l.length)(h0:(l.take i).find? p=none)(h:p l[i]=false):(l.take (i+1)).find? p=none:=by
 rw[bu b,fU,h0];simp[h]
def acR{fl:Bool}(l:List xR)(hl:l.length<=1000)(w:aq)(e0:Env)(h1:e0 1 = .str w)(h4:e0 4 = .ptr 0 0 0 0)(x:e0 9 = .en fl (l.map Fl))(b:e0 10=I (l.length:Int)):
  ∃y,((∃f G,vE l w=some f/\y=(AX.ret,[AV.bool true],AB.var [.str f.w,I f.n,.str f.s]::G))\/(vE l w=none/\y=(AX.exit 0,[],[AB.var [.str [],I 0,.str []]])))/\
   iter (round (gV.fk 17) [11] [(.exit 0,[]),(.ret,[5])] Ci e0 1 []) ([I 0],[.var [.str [],I 0,.str []]])=some y :=
 ji (f:=round (gV.fk 17) [11] [(.exit 0,[]),(.ret,[5])] Ci e0 1 []) l.length (λi (_:Unit)=>([I (i:Int)],[.var [.str [],I 0,.str []]])) (λy=>(∃f G,vE l w=some f/\y=(AX.ret,[AV.bool true],AB.var [.str f.w,I f.n,.str f.s]::G))\/(vE l w=none/\y=(AX.exit 0,[],[AB.var [.str [],I 0,.str []]])))
  (λi _=>(l.take i).find? (λf=>decide (f.w=w))=none)
  (λi _ r o=>by
   obtain⟨f,h⟩:∃f,f=l[i]:=⟨_,rfl⟩
   by_cases q:f.w=w
   .have v:=NS (p:=λf=>decide (f.w=w)) r o (by rw[<-h];simpa using q)
    rw[<-h]at v;exact .inr ⟨_,.inl ⟨f,[.var [.str f.w,I f.n,.str f.s]],v,rfl⟩,by simp(disch:=omega)[round_eq,Ci,h1,h4,x,b,<-h,q]⟩
   .exact .inl ⟨(),KD r o (by rw[<-h];simpa using q),by simp(disch:=omega)[round_eq,Ci,h1,h4,x,b,<-h,q]⟩)
  (λ_ o=>⟨_,.inr ⟨by rw[eM]at o;exact o,rfl⟩,by simp(disch:=omega)[round_eq,Ci,b]⟩) (bp _) () ah
def Dk(o:Option xR):AV:=o.elim (.iV [Fl ⟨[],0,[]⟩,.bool false]) λf=>.iV [Fl f,.bool true]
def UH(h:17<n)(first:aq)(fl:Bool)(l:List xR)(hl:l.length<=1000)(w:aq):(gV.fk n).p 35 [.agg [.str first,.en fl (l.map Fl)],.str w]=some (Dk (vE l w)):=by
 rw[pp 35 rfl h rfl,gd,b6];simp(disch:=omega)[c35];generalize hx:iter _ _=o
 obtain⟨_,⟨f,G,b,rfl⟩ | ⟨b,rfl⟩,rfl⟩:∃y,((∃f G,vE l w=some f/\y=(AX.ret,[AV.bool true],AB.var [.str f.w,I f.n,.str f.s]::G))\/(vE l w=none/\y=(AX.exit 0,[],[AB.var [.str [],I 0,.str []]])))/\o=some y:=by
  rw[<-hx];exact acR (fl:=fl) l hl w _ an an an an
 .rw[b];simp(disch:=omega)[Dk]
 .rw[b];simp(disch:=omega)[Dk]
def Qd(l:List xR)(w:aq):Int:=(vE l w).elim 0 xR.n
def IA(l:List xR)(w:aq):aq:=(vE l w).elim [] xR.s
def Eu(b:18<n)(first:aq)(fl:Bool)(l:List xR)(hl:l.length<=1000)(w:aq):(gV.fk n).p 24 [.agg [.str first,.en fl (l.map Fl)],.str w]=some (I (Qd l w)):=by
 rw[pp 24 rfl b rfl,gd,b6];have h:=UH (n:=18) af first fl l hl w
 unfold Qd;cases hg:vE l w with
 |none =>
  rw[hg]at h;simp only[Dk,Option.elim,Fl]at h;simp(disch:=omega)[c24,ca 35,h]
 |some f =>
  rw[hg]at h;simp only[Dk,Option.elim,Fl]at h;simp(disch:=omega)[c24,ca 35,h]
def Oe:∀k:Fin 16,Lib.indexByte Od (Re.hx k.val)=(k.val:Int):=af
def aeQ(c:UInt8):Lib.indexByte Od (Re.hx (c.toNat / 16))=((c.toNat / 16:Nat):Int):=Oe ⟨c.toNat / 16,by have:=c.toNat_lt;omega⟩
def aeP(c:UInt8):Lib.indexByte Od (Re.hx (c.toNat%16))=((c.toNat%16:Nat):Int):=Oe ⟨c.toNat%16,aa⟩
variable{s:aq}
def KF{k:Nat}(hk:k<s.length):Re.esc s=Re.esc (s.take k)++(Re.e1 s[k]++Re.esc (s.drop (k+1))):=by
 have e:s=s.take k++s[k]::s.drop (k+1):=by rw[<-bz hk,cF]
 conv=>lhs;rw[e]
 simp only[Re.esc,cL,bZ]
def OH(c:UInt8):bin .shl (I ((c.toNat:Int) / 16)) (.int .u64 4)=some (I ((c.toNat:Int) / 16*16)):=by
 have h:IntKind.i64.wrap ((c.toNat:Int) / 16*2 ^ min (4:Int).toNat IntKind.i64.bits)=(c.toNat:Int) / 16*16:=nZ (p:=λk=>IntKind.i64.wrap ((k:Int) / 16*2 ^ min (4:Int).toNat IntKind.i64.bits)=(k:Int) / 16*16) (by decide +kernel) c
 show (if (4:Int)<0 then none else some (AV.int .i64 (IntKind.i64.wrap ((c.toNat:Int) / 16*2 ^ min (4:Int).toNat IntKind.i64.bits))))=_
 rw[if_neg af,h]
def Ia(c:UInt8):bin .and (I ((c.toNat:Int)%16)) (I 15)=some (I ((c.toNat:Int)%16)):=by
 have h:IntKind.i64.wrap ((BitVec.ofInt IntKind.i64.bits ((c.toNat:Int)%16) &&& BitVec.ofInt IntKind.i64.bits 15).toNat:Nat)=(c.toNat:Int)%16:=nZ (p:=λk=>IntKind.i64.wrap ((BitVec.ofInt IntKind.i64.bits ((k:Int)%16) &&& BitVec.ofInt IntKind.i64.bits 15).toNat:Nat)=(k:Int)%16) (by decide +kernel) c
 show some (AV.int .i64 (IntKind.i64.wrap ((BitVec.ofInt IntKind.i64.bits ((c.toNat:Int)%16) &&& BitVec.ofInt IntKind.i64.bits 15).toNat:Nat)))=_;rw[h]
def RN(c:UInt8):bin .or (I ((c.toNat:Int) / 16*16)) (I ((c.toNat:Int)%16))=some (I (c.toNat:Int)):=by
 have h:IntKind.i64.wrap ((BitVec.ofInt IntKind.i64.bits ((c.toNat:Int) / 16*16) ||| BitVec.ofInt IntKind.i64.bits ((c.toNat:Int)%16)).toNat:Nat)=(c.toNat:Int):=nZ (p:=λk=>IntKind.i64.wrap ((BitVec.ofInt IntKind.i64.bits ((k:Int) / 16*16) ||| BitVec.ofInt IntKind.i64.bits ((k:Int)%16)).toNat:Nat)=(k:Int)) (by decide +kernel) c
 show some (AV.int .i64 (IntKind.i64.wrap ((BitVec.ofInt IntKind.i64.bits ((c.toNat:Int) / 16*16) ||| BitVec.ofInt IntKind.i64.bits ((c.toNat:Int)%16)).toNat:Nat)))=_;rw[h]
def agI(c:UInt8):IntKind.u8.wrap (c.toNat:Int)=(c.toNat:Int):=nZ (p:=λk=>IntKind.u8.wrap (k:Int)=(k:Int)) (by decide +kernel) c
def acQ(hs:s.length<=1000000)(e0:Env)(h0:e0 0 = .str (Re.esc s)):
  iter (round (gV.fk 19) [3,4] [(.exit 0,[3])] Ch e0 1 [0]) ([.own 0 0 0 0,I 0],[.row 0 1 []])=some (.exit 0,[.own 0 0 0 s.length],[.row 0 1 (s.map B)]):=by
 have O:=Re.mq s
 have := sR (f := round (gV.fk 19) [3, 4] [(.exit 0, [3])] Ch e0 1 [0]) (λi (a : aq) => ([.own 0 0 0 a.length, I ((Re.esc (s.take i)).length : Int)], [.row 0 1 (a.map B)])) s (λa x => a ++ [x]) (λa => (.exit 0, [.own 0 0 0 a.length], [.row 0 1 (a.map B)])) (λi a => a.length = i)
  (λi F a H=>by
   obtain⟨c,G⟩:∃c,c=s[i]:=⟨_,rfl⟩;have b:=KF F;have r:=FK F;rw[<-G]at b r;have L:(s.take i).length<=s.length:=by rw[bI];omega
   generalize Re.esc (s.take i)=A at *
   generalize Re.esc (s.drop (i+1))=D at *
   generalize Re.esc s=S at *
   refine⟨by simp[H],?_⟩
   rw[r,<-G]
   by_cases v:Re.zF c=true
   .have e:Re.e1 c=[c]:=by simp[Re.e1,v]
    rw[e]at b r⊢;have M:A.length<S.length:=by rw[b];simp
    have hx:S[A.length]=c:=by simp[b]
    have E:c.toNat≠37:=λh=>by
     have:c=37:=UInt8.toNat_inj.1 h;rw[this]at v;exact absurd v af
    simp(disch:=omega)[round_eq,Ch,h0,hx,E]
   .have e:Re.e1 c=[37,Re.hx (c.toNat / 16),Re.hx (c.toNat%16)]:=by simp[Re.e1,v]
    rw[e]at b r⊢;have M:A.length+2<S.length:=by rw[b];simp
    have hx:S[A.length]=37:=by simp[b]
    have z:S[A.length+1]=Re.hx (c.toNat / 16):=by simp[b]
    have y:S[A.length+2]=Re.hx (c.toNat%16):=by simp[b]
    have q:=UG (n:=19) af Od (Re.hx (c.toNat / 16))
    have o:=UG (n:=19) af Od (Re.hx (c.toNat%16))
    rw[aeQ]at q;rw[aeP]at o;have N:((A.length:Int)+2).toNat=A.length+2:=aa
    simp(disch:=omega)[round_eq,Ch,h0,hx,z,y,N,q,o,OH,Ia,RN,agI])
  (λa H=>by simp(disch:=omega)[round_eq,Ch,h0]) [] rfl
 have e:∀(l a:aq),l.foldl (λa x=>a++[x]) a=a++l:=λl=>by
  induction l with
  |nil=>simp
  |cons x l K=>intro a;rw[cE,K];simp
 rw[e]at this
 simpa[Re.esc]using this
def abE{n:Nat}(b:19<n)(hs:s.length<=1000000):(gV.fk n).p 37 [.str (Re.esc s)]=some (.str s):=by
 rw[pp 37 rfl b rfl,gd,b6];simp(disch:=omega)[c37];rw[acQ hs _ an]
 simp(disch:=omega)[jo]
def PV{n:Nat}(i:20<n)(first:aq)(fl:Bool)(l:List xR)(hl:l.length<=1000)(w:aq)(hs:s.length<=1000000)(b:IA l w=Re.esc s):(gV.fk n).p 25 [.agg [.str first,.en fl (l.map Fl)],.str w]=some (.str s):=by
 rw[pp 25 rfl i rfl,gd,b6];have h:=UH (n:=20) af first fl l hl w
 have h2:=abE (n:=20) af hs
 rw[<-b]at h2;unfold IA at h2;cases hg:vE l w with
 |none =>
  rw[hg]at h h2;simp only[Dk,Option.elim,Fl]at h h2;simp(disch:=omega)[c25,ca 35,h,ca 37,h2]
 |some f =>
  rw[hg]at h h2;simp only[Dk,Option.elim,Fl]at h h2;simp(disch:=omega)[c25,ca 35,h,ca 37,h2]
def Dj(kv:List Re.KV)(w:aq):vE (kv.map xX) w=(Re.q6 kv w).map xX:=by
 unfold vE Re.q6
 induction kv with
 |nil=>rfl
 |cons p l b =>
  by_cases h:p.1=w
  .simp[xX,h]
  .rw[bF,dD (by simp[xX,h]),dD (by simp[h]),b]
def IY(kv:List Re.KV)(w:aq):Qd (kv.map xX) w=Re.nU kv w:=by
 unfold Qd Re.nU;rw[Dj];cases Re.q6 kv w<;>rfl
def vf(kv:List Re.KV)(w:aq):IA (kv.map xX) w=Re.uk kv w:=by
 unfold IA Re.uk;rw[Dj];cases Re.q6 kv w<;>rfl
def Qa{o:rB}(h:OpR o):(U9 o).length<=10000000:=by
 have q:=CR h.kind;have e1:=Re.mq o.path;have v:=Re.mq o.to;have r:=Re.mq o.data;have b1:=h.path;have y:=h.to;have x:=h.data;have l1:=jA (f:=⟨Re.qI,o.client,[]⟩) h.client;have l2:=jA (f:=⟨Re.Bc,0,Re.esc o.path⟩) i0;have l:=jA (f:=⟨Re.YW,0,Re.esc o.to⟩) i0;have i:=jA (f:=⟨Re.wN,o.n,[]⟩) h.n;have l5:=jA (f:=⟨Re.wM,o.m,[]⟩) h.m;have l6:=jA (f:=⟨Re.qH,o.handle,[]⟩) h.handle;have b:=jA (f:=⟨Re.nR,0,Re.esc o.data⟩) i0;rw[MJ]
 simp only[kL,SF,bZ,cZ,aG,aR];simp only[aK,aR]at l1 l2 l i l5 l6 b;omega
def Pa(o:rB):List Re.KV:=Re.qT o.client o.path o.to o.n o.m o.handle o.data
def pJ(w:aq)(n:Int):(Re.DQ w n).length<=1:=by
 unfold Re.DQ;split<;>simp
def yp(w s:aq):(Re.I6 w s).length<=1:=by
 unfold Re.I6;split<;>simp
def Qm(o:rB):(Pa o).length<=1000:=by
 have:=pJ Re.qI o.client;have:=yp Re.Bc (Re.esc o.path);have:=yp Re.YW (Re.esc o.to);have:=pJ Re.wN o.n;have:=pJ Re.wM o.m;have:=pJ Re.qH o.handle;have:=yp Re.nR (Re.esc o.data);simp only[Pa,Re.qT,aG,aR];omega
def aiL{W:aq}{h:AH}(e0:Env)(o:Int)(n:e0 25 = .agg (Re.jw.map AV.str))(h4:e0 4 = .ptr 1 0 0 0)(fl:Bool)(l:List xR)(A:h=[.var [I 0,I 0,.str [],.str [],I 0,I 0,I 0,.en false []],.var [.str W,.en fl (l.map Fl)]]):
  ∃y,y=(AX.exit 0,[I (Re.oO W Re.jw 0 o)],h)/\iter (round (gV.fk 182) [7,26] [(.exit 0,[7])] HU e0 2 []) ([I o,I 0],h)=some y :=
 ji (f:=round (gV.fk 182) [7,26] [(.exit 0,[7])] HU e0 2 []) Re.jw.length (λi (k:Int)=>([I k,I (i:Int)],h)) (λy=>y=(AX.exit 0,[I (Re.oO W Re.jw 0 o)],h)) (λi k=>Re.oO W (Re.jw.drop i) i k=Re.oO W Re.jw 0 o)
  (λi k z b=>by
   left;obtain⟨w,x⟩:∃w,w=Re.jw[i]:=⟨_,rfl⟩;rw[bz z,<-x]at b;simp only[Re.oO]at b;refine⟨_,b,?_⟩;subst A;have q:Re.jw.length=18:=rfl
   have r:(Re.jw.map AV.str).drop i = .str w::(Re.jw.drop (i+1)).map AV.str:=by
    rw[<-List.map_drop,bz z,<-x];rfl
   by_cases v:w=W
   .by_cases h0:0<i
    .simp(disch:=omega)[round_eq,HU,n,h4,r,v,h0,Am.shape]
    .simp(disch:=omega)[round_eq,HU,n,h4,r,v,h0,Am.shape]
   .simp(disch:=omega)[round_eq,HU,n,h4,r,v,Am.shape])
  (λk b=>⟨_,rfl,by
   have q:Re.jw.length=18:=rfl;rw[eZ]at b;simp only[Re.oO]at b;rw[<-b];simp(disch:=omega)[round_eq,HU,q]⟩) (bp _) o ah
def rp8{n:Nat}(N:182<n){o:rB}(h:OpR o):(gV.fk n).p 8 [.str (U9 o)]=some (.iV [Ov o,I 0]):=by
 rw[p8 N,gd,b6];have hl:=Qa h;have q:=Qm o;have Q:=CR h.kind;have A:=rp9 (n:=182) af h false
 let⟨fl,r⟩:=abH (n:=182) af (first:=Re.vq o.kind) (kv:=Pa o) (Re.U8 _) (Re.acu _ _ _ _ _ _ _) (by show (U9 o).length<_;omega) q
 have E:Re.text (Re.vq o.kind) (Pa o)=U9 o:=rfl;rw[E]at r;have b:((Pa o).map xX).length<=1000:=by simpa using q
 have n1:=Eu (n:=182) af (Re.vq o.kind) fl _ b Re.qI
 have z:=Eu (n:=182) af (Re.vq o.kind) fl _ b Re.wN
 have x:=Eu (n:=182) af (Re.vq o.kind) fl _ b Re.wM
 have v:=Eu (n:=182) af (Re.vq o.kind) fl _ b Re.qH
 rw[IY]at n1 z x v;have q1:Re.nU (Pa o) Re.qI=o.client:=Re.J5 _ _ _ _ _ _ _ h.client;have L:Re.nU (Pa o) Re.wN=o.n:=Re.aiB _ _ _ _ _ _ _ h.n;have K:Re.nU (Pa o) Re.wM=o.m:=Re.aiC _ _ _ _ _ _ _ h.m;have H:Re.nU (Pa o) Re.qH=o.handle:=Re.J4 _ _ _ _ _ _ _ h.handle;rw[q1]at n1;rw[L]at z;rw[K]at x;rw[H]at v;have G:=PV (n:=182) af (Re.vq o.kind) fl _ b Re.Bc h.path (by rw[vf];exact Re.P8 ..)
 have t2:=PV (n:=182) af (Re.vq o.kind) fl _ b Re.YW h.to (by rw[vf];exact Re.acs ..)
 have t3:=PV (n:=182) af (Re.vq o.kind) fl _ b Re.nR h.data (by rw[vf];exact Re.P9 ..)
 have O:=abG (n:=182) af (Re.vq o.kind) Re.O5
 let⟨e,P⟩:=UI (n:=182) af (Lib.trimPrefix (Re.vq o.kind) Re.O5) (by
  have:(Lib.trimPrefix (Re.vq o.kind) Re.O5).length<=(Re.vq o.kind).length:=by
   unfold Lib.trimPrefix;split<;>simp
  omega)
 have hk:Re.oO (Re.vq o.kind) Re.jw 0 (Re.wm (Lib.trimPrefix (Re.vq o.kind) Re.O5))=o.kind:=Re.Kj h.kind;generalize Re.wm (Lib.trimPrefix (Re.vq o.kind) Re.O5)=F at *
 generalize Re.vq o.kind=W at *
 generalize(Pa o).map xX=l at *
 have i:Am.shape 18 true (Re.jw.map AV.str)=some (.agg (Re.jw.map AV.str)):=rfl;simp only[Re.jw,bF,aX]at i;simp(disch:=omega)[c8,ca 23,r,ca 27,O,ca 26,P,i];generalize hx:iter _ _=M
 obtain⟨_,rfl,rfl⟩:∃y,y=(AX.exit 0,[I (Re.oO W Re.jw 0 F)],[.var [I 0,I 0,.str [],.str [],I 0,I 0,I 0,.en false []],.var [.str W,.en fl (l.map Fl)]])/\M=some y:=by
  rw[<-hx];exact aiL (W:=W) _ F (by simp(disch:=omega)[Re.jw]) an fl l rfl
 rw[hk];simp(disch:=omega)[ca 24,n1,z,x,v,ca 25,G,t2,t3,a9,A]
def Sd(v0 v1 v3:AB)(e i k n m:Int)(d:AV)(l:List aq)(x:AH):Prop :=
 (l=[]/\x=[v0,v1,.var [I e,I i,I k,I n,I m,.en true [],d],v3])\/(l≠[]/\∃v,x=[v0,v1,.var [I e,I i,I k,I n,I m,.own 4 v 0 l.length,d],v3,.row v 1 (l.map AV.str)])
def acY{fl:Bool}{b:List aq}(hl:b.length<=1000)(hs:∀s∈b,s.length<=1000)(v0 v1 v3:AB)(e i k n m:Int)(d:AV)(e0:Env)(E:e0 8 = .ptr 2 0 0 0)(q:e0 45 = .en fl ((b.map Re.esc).map AV.str))(o:e0 46=I (b.length:Int)):
  ∃y,(∃h',Sd v0 v1 v3 e i k n m d b h'/\y=(AX.exit 0,[],h'))/\iter (jY (gV.fk 184) [47] [(.exit 0,[])] Cn e0 4) ([I 0],[v0,v1,.var [I e,I i,I k,I n,I m,.en true [],d],v3])=some y :=
 ji (f:=jY (gV.fk 184) [47] [(.exit 0,[])] Cn e0 4) b.length (λj (x:AH)=>([I (j:Int)],x)) (λy=>∃h',Sd v0 v1 v3 e i k n m d b h'/\y=(AX.exit 0,[],h')) (λj x=>Sd v0 v1 v3 e i k n m d (b.take j) x)
  (λj x z r=>by
   left;obtain⟨s,h⟩:∃s,s=b[j]:=⟨_,rfl⟩;have H:s∈b:=h▸aU z;have A:=abE (n:=184) af (s:=s) (by have:=hs s H;omega)
   have F:b.take (j+1)=b.take j++[s]:=by rw[bu z,<-h]
   have K:(b.take j).length<=1000:=aj
   rw[F];generalize b.take j=l at *
   rcases r with⟨rfl,rfl⟩ | ⟨G,v,rfl⟩
   .exact⟨_,.inr ⟨ah,0,rfl⟩,by simp(disch:=omega)[ia,Cn,E,q,o,<-h,A]⟩
   .exact⟨_,.inr ⟨ah,v+1,rfl⟩,by simp(disch:=omega)[ia,Cn,E,q,o,<-h,A]⟩)
  (λx r=>⟨_,⟨x,ak r,rfl⟩,by simp(disch:=omega)[ia,Cn,o]⟩) (bp _) _ (.inl ⟨ah,rfl⟩)
def Kh(a:uZ):List Re.KV:=Re.nY a.ino a.kind a.n a.m a.names a.data
def Qn(a:uZ):(Kh a).length<=1000:=by
 have:=pJ Re.DX a.ino;have:=pJ Re.xl a.kind;have:=pJ Re.wN a.n;have:=pJ Re.wM a.m;have:=yp Re.nR (Re.esc a.data);have:(if a.names=[]then[]else[(Re.lg,Lib.join (a.names.map Re.esc) [44])]:List Re.KV).length<=1:=by split<;>simp
 simp only[Kh,Re.nY,aG,aR];omega
def OT{a:uZ}(h:AnR a):(Ig a).length<=10000000:=by
 have l:=vQ h.err;have r:=Re.mq a.data;have v:=h.data;have q:=qW h.nml;have o:=h.names;have l1:=jA (f:=⟨Re.DX,a.ino,[]⟩) h.ino;have l2:=jA (f:=⟨Re.xl,a.kind,[]⟩) h.kind;have i:=jA (f:=⟨Re.wN,a.n,[]⟩) h.n;have l5:=jA (f:=⟨Re.wM,a.m,[]⟩) h.m;have b:=jA (f:=⟨Re.nR,0,Re.esc a.data⟩) i0
 have l8:(if a.names=[]then[]else 32::(Re.lg++61::Lib.join (a.names.map Re.esc) [44])).length<=3001010:=by
  split
  .simp
  .simp only[aK,aG,aR];omega
 rw[JD];simp only[kL,yb,bZ,cZ,aG,aR];simp only[aK,aR]at l1 l2 i l5 b;omega
def ahQ{n:Nat}(T:184<n){a:uZ}(h:AnR a):∃fl,(gV.fk n).p 11 [.str (Ig a)]=some (.iV [.agg [I a.err,I a.ino,I a.kind,I a.n,I a.m,.en fl (a.names.map AV.str),.en false (a.data.map B)],I 0]):=by
 rw[pp 11 rfl T rfl,gd,b6];have hl:=OT h;have x:=Qn a;have Y:=vQ h.err;have z:=λf1=>abJ (n:=184) af h f1 false
 let⟨fl,q⟩:=abH (n:=184) af (first:=Re.lX a.err) (kv:=Kh a) (Re.RU _) (Re.YL _ _ _ _ _ _) (by show (Ig a).length<_;omega) x
 have L:Re.text (Re.lX a.err) (Kh a)=Ig a:=rfl;rw[L]at q;have b:((Kh a).map xX).length<=1000:=by simpa using x
 have n1:=Eu (n:=184) af (Re.lX a.err) fl _ b Re.DX
 have F:=Eu (n:=184) af (Re.lX a.err) fl _ b Re.xl
 have E:=Eu (n:=184) af (Re.lX a.err) fl _ b Re.wN
 have A:=Eu (n:=184) af (Re.lX a.err) fl _ b Re.wM
 rw[IY]at n1 F E A;have q1:Re.nU (Kh a) Re.DX=a.ino:=Re.RT _ _ _ _ _ _ h.ino;have Q:Re.nU (Kh a) Re.xl=a.kind:=Re.OR _ _ _ _ _ _ h.kind;have P:Re.nU (Kh a) Re.wN=a.n:=Re.afH _ _ _ _ _ _ h.n;have O:Re.nU (Kh a) Re.wM=a.m:=Re.afI _ _ _ _ _ _ h.m;rw[q1]at n1;rw[Q]at F;rw[P]at E;rw[O]at A;have t3:=PV (n:=184) af (Re.lX a.err) fl _ b Re.nR h.data (by rw[vf];exact Re.OS ..)
 have M:=abG (n:=184) af (Re.lX a.err) Re.Lu
 let⟨e,K⟩:=UI (n:=184) af (Lib.trimPrefix (Re.lX a.err) Re.Lu) (by
  have:(Lib.trimPrefix (Re.lX a.err) Re.Lu).length<=(Re.lX a.err).length:=by
   unfold Lib.trimPrefix;split<;>simp
  omega)
 rw[Re.N1 h.err]at K;have r:=UH (n:=184) af (Re.lX a.err) fl _ b Re.lg
 have i:vE ((Kh a).map xX) Re.lg=(Re.q6 (Kh a) Re.lg).map xX:=Dj _ _;have H:Re.q6 (Kh a) Re.lg=if a.names=[]then none else some (Re.lg,Lib.join (a.names.map Re.esc) [44]):=Re.Lb ..
 rw[H]at i;generalize Re.lX a.err=W at *
 generalize(Kh a).map xX=l at *
 by_cases h0:a.names=[]
 .rw[if_pos h0]at i;rw[i]at r;simp only[Dk,gp,Option.elim,Fl]at r;have o:=z true;rw[h0]at o;simp only[aX]at o;refine⟨true,?_⟩;rw[h0];simp(disch:=omega)[c11,ca 23,q,ca 27,M,ca 26,K,ca 35,r,n1,F,E,A,t3,ca 12,o]
 .rw[if_neg h0]at i;rw[i]at r;simp only[Dk,cB,Option.elim,Fl,xX]at r;have U:=qW h.nml;have G:=h.names;have N:=abF (n:=184) af (Lib.join (a.names.map Re.esc) [44]) 44 aa
  rw[Re.ET h0]at N;refine⟨false,?_⟩;simp(disch:=omega)[c11,ca 23,q,ca 27,M,ca 26,K,ca 35,r,n1,F,E,A,t3,ca 36,N];generalize hx:iter _ _=S
  obtain⟨_,⟨h',X,rfl⟩,rfl⟩:∃y,(∃h',Sd (.var [I 0,I 0,I 0,I 0,I 0,.en false [],.en false []]) (.var [.str W,.en fl (l.map Fl)]) (.var [.str Re.lg,I (Re.wm (Lib.join (a.names.map Re.esc) [44])),.str (Lib.join (a.names.map Re.esc) [44])]) a.err a.ino a.kind a.n a.m (.en false (a.data.map B)) a.names h'/\y=(AX.exit 0,[],h'))/\S=some y:=by
   rw[<-hx];exact acY (fl:=true) G h.nml (.var [I 0,I 0,I 0,I 0,I 0,.en false [],.en false []]) (.var [.str W,.en fl (l.map Fl)]) (.var [.str Re.lg,I (Re.wm (Lib.join (a.names.map Re.esc) [44])),.str (Lib.join (a.names.map Re.esc) [44])]) a.err a.ino a.kind a.n a.m (.en false (a.data.map B)) _ an an an
  rcases X with⟨h1,_⟩ | ⟨_,v,rfl⟩
  .exact absurd h1 h0
  .simp(disch:=omega)[ca 12,z]
variable{s:aq}
def abD{n:Nat}(y:192<n){h:AH}{b:Nat}{tl:List AV}{path:aq}{q:Tr.Node}(x:u7 oJ 5 h b tl s)(H:path.length<=100000)(r:Re.qE q.ino)(hl:Re.qE q.links)(E:q.data.length<=1000000)
  (hs:s.length+(Re.nA path q).length<=140737488355328) :
  ∃h',rF (gV.fk n) 42 [.ptr b 0 0 0,.str path,Nd q] h=some (.iV [],h')/\u7 oJ 5 h' b tl (s++Re.nA path q)/\mj h h' b:=by
 have h1:=Mm (n:=192) af r
 have h2:=GW (n:=192) af q.data aa
 have A:=Re.kV r
 have h3:=PU (n:=192) af (path++[32,102,105,108,101,32]++Lib.itoa q.ino) true [⟨Re.Cx,q.links,[]⟩,⟨Re.nR,0,Re.esc q.data⟩] ah (by simp only[aG,aK,aR];omega) (by
  intro f v;simp only[aY,dz,or_false]at v
  rcases v with rfl | rfl
  .exact⟨hl,ah,ah⟩
  .exact⟨i0,ah,FL E⟩)
 have e:kL (path++[32,102,105,108,101,32]++Lib.itoa q.ino) [⟨Re.Cx,q.links,[]⟩,⟨Re.nR,0,Re.esc q.data⟩]++[10]=Re.nA path q:=by
  simp only[Re.nA,Re.text,kL,bZ,cZ,cL,HH,HF]
 simp only[bF,aX,Fl]at h3;let⟨h',o,l,G⟩:=yD x (Re.nA path q) hs;rw[<-e]at o;have i:=congrArg List.length e;rw[aG]at i;simp only[aK,aR]at i;generalize kL (path++[32,102,105,108,101,32]++Lib.itoa q.ino) [⟨Re.Cx,q.links,[]⟩,⟨Re.nR,0,Re.esc q.data⟩]=T at *
 simp only[bV,aM,aN]at h3;have F:=(UY (n:=192) af _ h).trans o
 refine⟨h',?_,l,G⟩;rw[ph 42 rfl y rfl,b6];have z:=x.lt;simp(disch:=omega)[c42,h1,h2,h3,jo,F]
structure Cq(es:List (Int×AV))(h:AH)(s:aq):Prop where
 bd:u7 oJ 5 h 1 [.kZ 0] s
 mp:h[0]? = some (.mp .i64 es)
def Cq.grow{es:List (Int×AV)}{h:AH}(T:Cq es h s)(X:AH):Cq es (h++X) s:=⟨T.bd.grow X,by rw[aI (az.1 T.mp).1];exact T.mp⟩
def Cq.keep{es:List (Int×AV)}{h h':AH}{s':aq}(T:Cq es h s)(b:u7 oJ 5 h' 1 [.kZ 0] s')(K:mj h h' 1):Cq es h' s':=⟨b,K.2 0 _ af T.mp (λ_ _ h=>by cases h)⟩
def y8{Γ:ja}{f:FuncId}{F:AF}{g:FuncId}(hg:g≠f)(args:List AV)(h:AH)(k:Nat):rF (kT Γ f F k) g args h=rF Γ g args h:=by
 unfold rF;simp only[yZ hg,UO hg]
def afM(t:Tr.Tree)(es:List (Int×AV)):Prop:=∀i,jO es i (.agg [.int .i64 0,.int .i64 0,.int .i64 0,.en false [],.en false [],.int .i64 0])=Nd (iq t i)
def KC{α:Type}(f:α->aq){l:List α}{j:Nat}(b:j<l.length):(l.take (j+1)).flatMap f=(l.take j).flatMap f++f l[j]:=by
 rw[bu b];simp only[cL,bZ,cZ,b9]
def QW{α:Type}(f:α->aq)(l:List α)(j:Nat):((l.take j).flatMap f).length<=(l.flatMap f).length:=by
 have:l.flatMap f=(l.take j).flatMap f++(l.drop j).flatMap f:=by rw[<-cL,cF]
 rw[this,aG];omega
def zZ(t:Tr.Tree)(k:Nat)(path:aq)(e:Tr.Ent):aq :=
 if (iq t e.ino).kind=2 then Re.FO (Re.esc (path++47::e.name)) (iq t e.ino).ino++Re.ug t k (iq t e.ino).ino (path++47::e.name)else Re.nA (Re.esc (path++47::e.name)) (iq t e.ino)
theorem RP(t:Tr.Tree)(k:Nat)(i:Int)(path:aq):Re.ug t (k+1) i path=(iq t i).ek.flatMap (zZ t k path):=rfl
def Below(t:Tr.Tree)(es:List (Int×AV))(k:Nat):Prop:=∀(i:Int)(path:aq)(d:Nat)(h:AH)(s:aq),rK t i d->12<=d+k->path.length+40*k<=1000->Cq es h s->
 s.length+(Re.ug t (k+1) i path).length<=140737488355328->∃h',jU (kT (gV.fk 193) 41 GC k) GC [.ptr 1 0 0 0,I i,.str path] h=some (.iV [],h')/\Cq es h' (s++Re.ug t (k+1) i path)/\mj h h' 1
def IW(h:mT s=true):s.length<=32:=by
 unfold mT at h;simp only[aC,decide_eq_true_eq]at h;exact h.1.2.1
def An{t:Tr.Tree}(w:nB t){es:List (Int×AV)}(hM:afM t es)(k:Nat)(ih:∀H,k=H+1->Below t es H):Below t es k:=by
 intro i path d h s hd hk hp hT hb;rw[RP]at hb⊢;obtain⟨l,hl⟩:∃l,l=(iq t i).ek:=⟨_,rfl⟩;rw[<-hl]at hb⊢;have hll:l.length<=64:=by rw[hl];exact(Re.j6 w i).2.2.2
 have P:=hM i;obtain⟨q0,W⟩:∃q0,q0=iq t i:=⟨_,rfl⟩;rw[<-W]at P hl
 have loop:∀e0:Env,e0 0 = .ptr 1 0 0 0->e0 2 = .str path->e0 16 = .en false (l.map En)->e0 17=I (l.length:Int)->
   ∃y,(∃h',Cq es h' (s++l.flatMap (zZ t k path))/\mj h h' 1/\y=(AX.exit 0,[],h'))/\iter (jY (kT (gV.fk 193) 41 GC k) [18] [(.exit 0,[])] Cg e0 h.length) ([I 0],h)=some y:=λe0 h0 h2 h16 h17 =>
  ji (f := jY (kT (gV.fk 193) 41 GC k) [18] [(.exit 0, [])] Cg e0 h.length) l.length (λj (x : AH) => ([I (j : Int)], x)) (λy => ∃ h', Cq es h' (s ++ l.flatMap (zZ t k path)) /\ mj h h' 1 /\ y = (AX.exit 0, [], h'))
   (λj x=>Cq es x (s++(l.take j).flatMap (zZ t k path))/\mj h x 1)
   (λj x hj hI=>by
    left;let⟨T,K⟩:=hI;obtain⟨e,he⟩:∃e,e=l[j]:=⟨_,rfl⟩;have hft:=KC (zZ t k path) hj;have M:=QW (zZ t k path) l (j+1);rw[<-he]at hft;rw[hft]at M⊢;rw[aG]at M;obtain⟨q,hq⟩:∃q,q=iq t e.ino:=⟨_,rfl⟩;have L:=hM e.ino;rw[<-hq]at L;have E:=Re.j6 w e.ino;rw[<-hq]at E;have hnm:e.name.length<=32:=by
     have hm:e∈(iq t i).ek:=by rw[<-W,<-hl,he];exact aU hj
     unfold iq at hm;cases hf:find t.nodes i with
     |none=>rw[hf]at hm;simp[jb]at hm
     |some p =>
      rw[hf]at hm;exact IW ((w.wf.dir _ _ hf (qY w.wf hf hm)).2.nm e hm)
    obtain⟨p,A⟩:∃p,p=path++47::e.name:=⟨_,rfl⟩;have hpl:p.length<=1033+0:=by rw[A];simp only[aG,aK];omega
    have hE:=GW (n:=193) af p aa
    have hel:=Re.mq p;have Q:=T.bd.lt;have S:0<x.length:=aa
    have hin:=Mm (n:=193) af E.1
    let⟨a,c,Y⟩:=T.bd.head;have hmp:=T.mp;have z:=(az.1 Y).2;have r:=(az.1 hmp).2;have T1:=T.grow [.gone,.var (Nc q)]
    by_cases b:q.kind=2
    .have N:zZ t k path e=Re.FO (Re.esc p) q.ino++Re.ug t k q.ino p:=by unfold zZ;rw[<-hq,if_pos b,<-A]
     rw[N]at M⊢;rw[aG]at M;let⟨h1,hw,hB1,G⟩:=yD T1.bd (Re.FO (Re.esc p) q.ino) (by rw[aG];omega)
     have T2:=T1.keep hB1 G;obtain⟨p0,X,v⟩:∃p0,find t.nodes i=some p0/\e∈p0.ek:=Re.N4 (by rw[<-W,<-hl,he];exact aU hj)
     obtain⟨n1,O⟩:∃n1,find t.nodes e.ino=some n1:=by
      cases hf:find t.nodes e.ino with
      |some n1=>exact⟨n1,rfl⟩
      |none =>
       rw[hq]at b;unfold iq at b;rw[hf]at b;simp[jb]at b
     have U:q=n1:=by rw[hq];exact iy O
     let⟨hup,ajr⟩:=Re.FU w X v O (U▸b)
     have hdc:rK t q.ino (d+1):=by
      rw[U,iI O];exact .up O (U▸b) ajr (by rw[hup];exact hd)
     let⟨d',hd1,hd2,hd3⟩:=w.dep _ _ X (qY w.wf X v);have hdd:=hd1.inj hd
     have ajC:d≠12:=λh=>by
      have:=hd3 (hdd.trans h);rw[this]at v;exact absurd v ah
     obtain⟨H,rfl⟩:∃H,k=H+1:=⟨k-1,aa⟩
     have hv:h1[x.length+1]? = some (.var (Nc q)):=G.2 _ _ aa (by rw[aQ aa];simp) (λ_ _ h=>by cases h)
     have hvl:=(az.1 hv).1;have hv2:=(az.1 hv).2;let⟨h3,hrun,T3,K3⟩:=ih H rfl q.ino p (d+1) h1 _ hdc aa (by rw[A];simp only[aG,aK];omega) T2 (by simp only[aG];omega)
     have hC:rF (kT (gV.fk 193) 41 GC (H+1)) 41 [.ptr 1 0 0 0,I q.ino,.str p] h1=_:=(oz H _ _).trans hrun;have hW:=((y8 (Γ:=gV.fk 193) (f:=41) (F:=GC) (g:=40) af _ _ (H+1)).trans (UY (n:=193) af _ _)).trans hw
     have Z:(kT (gV.fk 193) 41 GC (H+1)).p 30 [.str p]=_:=(yZ af _ _).trans hE
     have hI':(kT (gV.fk 193) 41 GC (H+1)).p 28 [I q.ino]=_:=(yZ af _ _).trans hin
     have hil:=Re.kV E.1;have akw:path.length<=1000:=aa
     simp only[Re.FO,bV,aM,aN]at hW;simp only[Nd,b]at L;simp only[Nc,b]at hW hv2;refine⟨h3,⟨by rw[<-bV,<-bV];exact T3,K.trans ((mj.grow _).trans (G.trans K3))⟩,?_⟩
     simp(disch:=omega)[ia,Cg,h0,h2,h16,h17,<-he,agp,ny,Q,S,z,r,L,b,<-A,Z,hI',hW,hvl,hv2,hC]
    .have N:zZ t k path e=Re.nA (Re.esc p) q:=by unfold zZ;rw[<-hq,if_neg b,<-A]
     rw[N]at M⊢;let⟨h1,hw,hB1,G⟩:=abD (n:=193) af (path:=Re.esc p) (q:=q) T1.bd aa E.1 E.2.1 (by have:=E.2.2.1;omega) (by rw[aG];omega)
     have T2:=T1.keep hB1 G;have hW:=(y8 (Γ:=gV.fk 193) (f:=41) (F:=GC) (g:=42) af _ _ k).trans hw
     have Z:(kT (gV.fk 193) 41 GC k).p 30 [.str p]=_:=(yZ af _ k).trans hE
     simp only[Nd]at hW L;refine⟨h1,⟨by rw[<-bV];exact T2,K.trans ((mj.grow _).trans G)⟩,?_⟩
     simp(disch:=omega)[ia,Cg,h0,h2,h16,h17,<-he,agp,ny,Q,S,z,r,L,b,<-A,Z,hW])
   (λx hI=>⟨_,⟨x,ak hI.1,hI.2,rfl⟩,by simp(disch:=omega)[ia,Cg,h17]⟩) (bp _) h ⟨ak hT,mj.refl⟩
 let⟨a,c,Y⟩:=hT.bd.head;have Q:=hT.bd.lt;have S:0<h.length:=aa
 have z:=(az.1 Y).2;have r:=(az.1 hT.mp).2;simp only[Nd]at P;rw[<-hl]at P;generalize o:jU _ _ _ _=res;rw[b6]at o;simp(disch:=omega)[GC,Q,S,z,r,P]at o;generalize hx:iter _ _=o1 at o
 obtain⟨_,⟨h',T',K',rfl⟩,rfl⟩:∃y,(∃h',Cq es h' (s++l.flatMap (zZ t k path))/\mj h h' 1/\y=(AX.exit 0,[],h'))/\o1=some y:=by
  rw[<-hx];exact loop _ an an an an
 simp(disch:=omega)at o;exact⟨h',o.symm,T',K'⟩
def Gm{t:Tr.Tree}(w:nB t){es:List (Int×AV)}(b:afM t es):∀k,Below t es k
 |0=>An w b 0 λi h=>by cases h
 |k+1=>An w b (k+1) λi h=>by cases h;exact Gm w b k
def Kc{es:List (Int×AV)}{n:Int}{v z:AV}(i:Int):jO (lF es n v) i z=if i=n then v else jO es i z:=by
 induction es with
 |nil =>
  by_cases h:i=n
  .simp[lF,jO,h]
  .have:¬n=i:=λe=>h e.symm
   simp[lF,jO,h,this]
 |cons p l o =>
  unfold lF
  by_cases b:p.1=n
  .rw[if_pos b]
   by_cases h:i=n
   .simp[jO,h]
   .have h1:¬n=i:=λe=>h e.symm
    have h2:¬p.1=i:=λe=>h (e.symm.trans b)
    simp[jO,h,h1,h2]
  .rw[if_neg b]
   by_cases h:p.1=i
   .have:¬i=n:=λe=>b (h.trans e)
    simp[jO,h,this]
   .simp only[jO]at o⊢;rw[dD (by simp[h]),dD (by simp[h])]
    exact o
def Ik(l:List Tr.Node)(es:List (Int×AV)):Prop:=∀i,jO es i (.agg [.int .i64 0,.int .i64 0,.int .i64 0,.en false [],.en false [],.int .i64 0])=Nd ((find l i).getD jb)
def Ik.put{l:List Tr.Node}{es:List (Int×AV)}(h:Ik l es){q:Tr.Node}(o:find l q.ino=none):Ik (l++[q]) (lF es q.ino (Nd q)):=by
 intro i;rw[Kc];unfold find at *
 rw[fU]
 by_cases b:i=q.ino
 .subst b;rw[o];simp
 .rw[if_neg b,h i];have:¬q.ino=i:=λe=>b e.symm
  unfold find;cases List.find? (λn=>decide (n.ino=i)) l<;>simp[this]
def NR{l:List Tr.Node}(hs:kI l){i:Nat}(h:i<l.length):find (l.take i) l[i].ino=none:=by
 unfold find;rw[cv];intro x hx;simp only[decide_eq_true_eq];intro e;have b:=aW.1 hs;obtain⟨j,n,rfl⟩:=List.mem_take_iff_getElem.1 hx;have:=b j i aa h aa
 omega
def acW{t:Tr.Tree}(w:nB t)(e0:Env)(h3:e0 3 = .ptr 1 0 0 0)(n:e0 12 = .en false (t.nodes.map Nd))(b:e0 13=I (t.nodes.length:Int)):
  ∃y,(∃h' es,Ik t.nodes es/\Cq es h' []/\y=(AX.exit 0,[],h'))/\iter (jY (gV.fk 194) [14] [(.exit 0,[])] F0 e0 2) ([I 0],[.mp .i64 [],.var [.bt 1 0 108 none,.yl,.kZ 0]])=some y :=
 ji (f:=jY (gV.fk 194) [14] [(.exit 0,[])] F0 e0 2) t.nodes.length (λj (x:List (Int×AV)×AH)=>([I (j:Int)],.mp .i64 x.1 :: .var [.bt 1 0 108 none,.yl,.kZ 0]::x.2)) (λy=>∃h' es,Ik t.nodes es/\Cq es h' []/\y=(AX.exit 0,[],h'))
  (λj x=>Ik (t.nodes.take j) x.1)
  (λj x r h=>by
   left;let⟨es,G⟩:=x;obtain⟨q,l⟩:∃q,q=t.nodes[j]:=⟨_,rfl⟩;have o:=NR w.wf.jh r;rw[<-l]at o;have hl:=w.wf.len;refine⟨(lF es q.ino (Nd q),G++[.var (Nc q)]),?_,?_⟩
   .rw[bu r,<-l];exact h.put o
   .simp(disch:=omega)[ia,F0,h3,n,b,<-l])
  (λx h=>⟨_,⟨.mp .i64 x.1 :: .var [.bt 1 0 108 none,.yl,.kZ 0]::x.2,x.1,by rw[eM]at h;exact h,⟨.inl ⟨rfl,108,none,rfl,.inr ⟨rfl,af⟩⟩,rfl⟩,rfl⟩,by simp(disch:=omega)[ia,F0,b]⟩) (bp _) ([],[]) (λi=>rfl)
def acV{t:Tr.Tree}(w:nB t){es:List (Int×AV)}{s:aq}(hs:s.length<=2000000000){h:AH}(P:Cq es h s)(L:Nat)(e0:Env)(h3:e0 3 = .ptr 1 0 0 0)(v:e0 33 = .en false (t.nodes.map Nd))(l:e0 34=I (t.nodes.length:Int)):
  ∃y,(∃h',Cq es h' (s++(t.nodes.filter Re.loose).flatMap (Re.nA [45]))/\y=(AX.exit 2,[],h'))/\iter (jY (gV.fk 194) [35] [(.exit 2,[])] Ah e0 L) ([I 0],h)=some y :=
 ji (f := jY (gV.fk 194) [35] [(.exit 2, [])] Ah e0 L) t.nodes.length (λj (x : AH) => ([I (j : Int)], x)) (λy => ∃ h', Cq es h' (s ++ (t.nodes.filter Re.loose).flatMap (Re.nA [45])) /\ y = (AX.exit 2, [], h'))
  (λj x=>Cq es x (s++((t.nodes.take j).filter Re.loose).flatMap (Re.nA [45]))/\(((t.nodes.take j).filter Re.loose).flatMap (Re.nA [45])).length<=16000*j)
  (λj x N G=>by
   left;let⟨T,M⟩:=G;obtain⟨q,z⟩:∃q,q=t.nodes[j]:=⟨_,rfl⟩;have hl:=w.wf.len;have b:=Re.j6 w q.ino;have E:q∈t.nodes:=z▸aU N;rw[iy (jt w.wf.jh E)]at b;have S:=Re.zT (path:=[45]) ah b.1 b.2.1 b.2.2.1
   have O:(t.nodes.take (j+1)).filter Re.loose=(t.nodes.take j).filter Re.loose++(if Re.loose q=true then[q]else[]):=by
    rw[bu N,<-z,cV]
    by_cases h:Re.loose q=true<;>simp[h]
   have o:=T.bd.lt;have r:0<x.length:=aa
   have A:=T.grow [.var (Nc q)];rw[O]
   by_cases hk:q.kind=1
   .by_cases h0 : q.links = 0
    .have i:Re.loose q=true:=by simp[Re.loose,hk,h0]
     rw[if_pos i];simp only[cL,bZ,cZ,b9];let⟨h1,K,H,F⟩:=abD (n:=194) af (path:=[45]) (q:=q) A.bd ah b.1 b.2.1 (by have:=b.2.2.1;omega) (by rw[aG];omega)
     have Q:=A.keep H F;simp only[Nd,Nc,hk,h0]at K;refine⟨h1,⟨by rw[<-bV];exact Q,by rw[aG];omega⟩,?_⟩
     simp(disch:=omega)[ia,Ah,h3,v,l,<-z,ny,o,r,hk,h0,K]
    .have i:Re.loose q=false:=by simp[Re.loose,hk,h0]
     rw[i];simp only[bq,if_false,b9];exact⟨_,⟨A,aa⟩,by simp(disch:=omega)[ia,Ah,h3,v,l,<-z,ny,o,r,hk,h0]⟩
   .have i:Re.loose q=false:=by simp[Re.loose,hk]
    rw[i];simp only[bq,if_false,b9];exact⟨_,⟨A,aa⟩,by simp(disch:=omega)[ia,Ah,h3,v,l,<-z,ny,o,r,hk]⟩)
  (λx G=>⟨_,⟨x,ak G.1,rfl⟩,by simp(disch:=omega)[ia,Ah,l]⟩) (bp _) h ⟨ak P,ah⟩
def ahP{n:Nat}(H:194<n){t:Tr.Tree}(w:nB t):(gV.fk n).p 15 [Tv t]=some (.str (Re.Iv t)):=by
 have l:=Re.LC w (λs h=>IW h)
 have b:=l;unfold Re.Iv at b;simp only[aG,aK,aR]at b;rw[pp 15 rfl H rfl,gd,b6];simp(disch:=omega)[c15];generalize hx:iter _ _=G
 obtain⟨_,⟨h1,es,O,T,rfl⟩,rfl⟩:∃y,(∃h' es,Ik t.nodes es/\Cq es h' []/\y=(AX.exit 0,[],h'))/\G=some y:=by
  rw[<-hx];exact acW w _ an an an
 let⟨h2,r,A,z⟩:=yD T.bd [47,32,100,105,114,32,49,10] ah
 have x:=(UY (n:=194) af _ _).trans r
 have S:=T.keep A z
 let⟨h3,q,E,P⟩:=Gm w (es:=es) O 13 1 [] 0 h2 _ .root af ah S (by
  have i:Re.ug t (13+1) 1 []=Re.ug t 14 1 []:=rfl;rw[i];simp only[aG,aK,aR];omega)
 have v:=(p41 (n:=194) af _ _).trans q
 have K:=T.bd.lt;have i:Re.ug t (13+1) 1 []=Re.ug t 14 1 []:=rfl;rw[i]at E;let⟨a,c,L⟩:=E.bd.head;simp(disch:=omega)[x,v];generalize o:iter _ _=F
 obtain⟨_,⟨h4,Q,rfl⟩,rfl⟩:∃y,(∃h',Cq es h' ([]++[47,32,100,105,114,32,49,10]++Re.ug t 14 1 []++(t.nodes.filter Re.loose).flatMap (Re.nA [45]))/\y=(AX.exit 2,[],h'))/\F=some y:=by
  rw[<-o];exact acV w (by simp only[aG,aK,aR];omega) E _ _ an an an
 let⟨h5,M⟩:=LX Q.bd (by simp only[aG,aK,aR];omega)
 have N:=(p43 (n:=194) af _ h4).trans M
 simp(disch:=omega)[N];exact⟨rfl,rfl⟩
variable{n:Nat}
def ag6(b:41<n)(x:Tr.Node)(i:Int)(X:AH):rF (gV.fk n) 313 [Nd x,I i] X=some (I (ow x.ino i),X):=by
 have h:=Mc (n:=41) af x.ino i
 have h2:(gV.fk n).p 313 [Nd x,I i]=some (I (ow x.ino i)):=by
  rw[pp 313 rfl b rfl,gd,b6];simp(disch:=omega)[ae8,ca 217,h]
 simp only[Nd]at h2;simp(disch:=omega)[ca 313,h2]
def JZ(l:List Tr.Node)(i:Int):Int:=if (find l i).isSome=true then(jf l i:Nat)else -1
def UU{l:List Tr.Node}(hs:kI l)(i:Int): -1<=JZ l i/\JZ l i<l.length:=by
 unfold JZ
 rcases oD hs i with⟨n,h,b⟩ | ⟨b,h⟩
 .rw[b];simp;omega
 .rw[b];simp;omega
def abo(o:103<n){l:List Tr.Node}(hs:kI l)(hl:l.length<=1000)(i:Int):(gV.fk n).p 229 [.en false (l.map Nd),I i]=some (I (JZ l i)):=by
 rw[pp 229 rfl o rfl,gd,b6];have h:=Sx (n:=103) af hs hl i 313 (X:=[]) rfl λx _=>ag6 af x i []
 unfold JZ;cases b:(find l i).isSome with
 |true =>
  rw[b]at h;simp(disch:=omega)[c229,h]
 |false =>
  rw[b]at h;simp(disch:=omega)[c229,h]
def abn(r:104<n)(x y:Tr.Node)(hx:x.ek.length<=1000)(q:y.ek.length<=1000):∃b,(gV.fk n).p 230 [Nd x,Nd y]=some (.bool b):=by
 rw[pp 230 rfl r rfl,gd,b6];have v:=abj (n:=104) af x.ek y.ek false false hx q
 have h1:=jo x.data;have h2:=jo y.data;refine⟨decide (x.ino=y.ino)&&decide (x.kind=y.kind)&&decide (x.links=y.links)&&decide (x.up=y.up)&&decide (x.data=y.data)&&decide (x.ek=y.ek),?_⟩
 by_cases l:x.ino=y.ino
 .by_cases c2 : x.kind = y.kind
  .by_cases h : x.links = y.links
   .by_cases i : x.up = y.up
    .by_cases o:x.data=y.data
     .simp(disch:=omega)[HX,l,c2,h,i,o,mw,h2,ca 275,v]
     .simp(disch:=omega)[HX,l,c2,h,i,o,mw,h1,h2]
    .simp(disch:=omega)[HX,l,c2,h,i]
   .simp(disch:=omega)[HX,l,c2,h]
  .simp(disch:=omega)[HX,l,c2]
 .simp(disch:=omega)[HX,l]
def vj(l:List uX)(a b:Int):Bool:=l.any λx=>decide (a<=x.at_)&&decide (x.at_<b)
def ag5(o:42<n)(x:uX)(a b:Int)(X:AH)(i j:Nat)(h:X[i]? = some (.var [I a]))(q:X[j]? = some (.var [I b])):
  rF (gV.fk n) 315 [Xv x,.ptr i 0 0 0,.ptr j 0 0 0] X=some (.bool (decide (a<=x.at_)&&decide (x.at_<b)),X):=by
 rw[ph 315 rfl o rfl,b6]
 by_cases l:a<=x.at_
 .simp(disch:=omega)[X5,h,q,l]
 .simp(disch:=omega)[X5,h,l]
def abm(h:48<n){l:List uX}(hl:l.length<=1000)(a b:Int):(gV.fk n).p 231 [.en false (l.map Xv),I a,I b]=some (.bool (vj l a b)):=by
 rw[pp 231 rfl h rfl,gd,b6];let⟨Z,_,h1⟩:=ixG (Γ:=gV.fk 46) (z:=3) (cs:=λx:uX=>[I x.id,I x.ino,I x.at_]) (λ_=>rfl) (l:=l) aa (X:=[.var [I a],.var [I b]]) rfl (CN _ (cs:=λx:uX=>[I x.id,I x.ino,I x.at_]) (λ_=>rfl) l false) 315 [] [.ptr 0 0 0 0,.ptr 1 0 0 0] (λx=>decide (a<=x.at_)&&decide (x.at_<b)) λx _=>⟨[],rfl,ag5 af x a b _ 0 1 rfl rfl⟩
 have h1:rF (gV.fk 47) 356 [.en false (l.map Xv),.fn (.func 315) [] [.ptr 0 0 0 0,.ptr 1 0 0 0]] [.var [I a],.var [I b]]=_:=(ah6 af _ _).trans h1
 have h2:rF (gV.fk 48) 314 [.en false (l.map Xv),.fn (.func 315) [] [.ptr 0 0 0 0,.ptr 1 0 0 0]] [.var [I a],.var [I b]]=_:=(aic af _ _).trans (cfG h1)
 unfold vj;simp(disch:=omega)[afo,h2]
def s21(b:2<n)(t:Tr.Tree)(hl:t.nodes.length<=1000):(gV.fk n).p 21 [Tv t]=some (Sv ⟨t,0,List.replicate t.nodes.length 0,[],[],1⟩):=by
 rw[pp 21 rfl b rfl,gd,b6];simp(disch:=omega)[c21]
variable{n:Nat}
def ahE(z:97<n){s:lM}{k:Nat}(h:A9 k s)(i:Int):∃s' a e,(gV.fk n).p 132 [Sv s,I i]=some (.iV [Sv s',I a,I e])/\A9 k s'/\-9223372036854775808<=a/\a<=9223372036854775807/\0<=e/\e<=200:=by
 rw[pp 132 rfl z rfl,gd,b6];have b:=AD (n:=97) af s.now h.w.wf.jh (vV h.w).len i
 have r:=ain (n:=97) af
 have x:=h.tl;unfold ud at b;cases v:find s.now.nodes i with
 |none =>
  rw[v]at b;simp only[dI,Tv,Nd,jb,aX]at b;refine⟨s,0,70,?_,h,aa⟩
  simp(disch:=omega)[KX,ca 199,b]
 |some q =>
  rw[v]at b;simp only[cG,Tv,Nd]at b
  by_cases o:q.kind=2
  .by_cases c2 : 16 <= s.taken.length
   .refine⟨s,0,76,?_,h,aa⟩
    simp(disch:=omega)[KX,ca 199,b,o]
   .by_cases l : 1099511627776 <= s.next
    .refine⟨s,0,76,?_,h,aa⟩
     simp(disch:=omega)[KX,ca 199,b,o,l]
    .have y:=h.nx;refine⟨⟨s.now,s.tick,s.since,s.lU,s.taken++[⟨s.next,i,s.tick⟩],s.next+1⟩,s.next,0,?_,⟨h.w,h.sn,h.tk,h.pl,h.pe,aj,by simp only;omega⟩,aa⟩
     simp(disch:=omega)[KX,ca 199,b,o,l,r,iL]
  .refine⟨s,0,73,?_,h,aa⟩
   simp(disch:=omega)[KX,ca 199,b,o]
def ahk(b:33<n)(x:uX)(i:Int)(X:AH)(k:Nat)(hk:X[k]? = some (.var [I i])):rF (gV.fk n) 241 [Xv x,.ptr k 0 0 0] X=some (.bool (decide (x.id≠i)),X):=by
 rw[ph 241 rfl b rfl,b6];simp(disch:=omega)[afl,hk]
def ahi(q:49<n)(p:Ba){l:List uX}(hl:l.length<=1000)(X:AH)(k b:Nat)(hk:X[k]? = some (.var [.own b 0 0 l.length]))(o:X[b]? = some (.row 0 3 (l.map Xv))\/X[b]? = some (.lu 0 3 (l.map Xv))):
  rF (gV.fk n) 243 [Pv p,.ptr k 0 0 0] X=some (.bool (vj l p.from_ p.till),X.set b (.lu 0 3 (l.map Xv))):=by
 rw[ph 243 rfl q rfl,b6];have h:=abm (n:=49) af hl p.from_ p.till
 rcases o with o | o
 .simp(disch:=omega)[Yj,hk,o,ca 231,h]
 .have e:X.set b (.lu 0 3 (l.map Xv))=X:=by
   apply dm;intro i;rw[eU];split
   .rename_i r;subst r;rw[o,if_pos (az.1 o).1]
   .rfl
  rw[e];simp(disch:=omega)[Yj,hk,o,ca 231,h]
def ahj(r:109<n){l:List uX}(hl:l.length<=1000){ps:List Ba}(o:ps.length<=1000000)(a0 i a2:List AV)(h0:a0.all (yd 5)=true)(h1:i.all (yd 5)=true)(h2:a2.all (yd 5)=true):
  ∃A,(A=AB.row 0 3 (l.map Xv)\/A=AB.lu 0 3 (l.map Xv))/\rF (gV.fk n) 242 [.en false (ps.map Pv),.fn (.func 243) [] [.ptr 4 0 0 0]] [.var a0,.var i,.var a2,.row 0 3 (l.map Xv),.var [.own 3 0 0 l.length]] =
   some (.own 5 0 0 (ps.filter λp=>vj l p.from_ p.till).length,[.var a0,.var i,.var a2,A,.var [.own 3 0 0 l.length],.row 0 8 ((ps.filter λp=>vj l p.from_ p.till).map Pv)]):=by
 have hs:∀A:AB,Ax 5 A=true->tT [.var a0,.var i,.var a2,A,.var [.own 3 0 0 l.length]]:=λA b=>by
  show List.all _ (Ax 5)=true;simp only[cm,gT,b];simp[Ax,h0,h1,h2,yd]
 let⟨y,q,h⟩:=Su (Γ:=gV.fk 109) (z:=8) (bytes:=96) (zero:=[I 0,I 0,I 0,I 0,I 0,.en false [],.en false [],I 0]) (cs:=λp:Ba=>[I p.from_,I p.till,I p.node.ino,I p.node.kind,I p.node.links,.en false (p.node.data.map B),.en false (p.node.ek.map En),I p.node.up]) af (λ_=>rfl) (λ_=>rfl) rfl rfl (l:=ps) o false
  (λX=>∃A,(A=AB.row 0 3 (l.map Xv)\/A=AB.lu 0 3 (l.map Xv))/\X=[.var a0,.var i,.var a2,A,.var [.own 3 0 0 l.length]]) ⟨_,.inl rfl,rfl⟩ (λv h1=>by obtain⟨A,b,rfl⟩:=h1;exact⟨hs A (by rcases b with rfl | rfl<;>rfl),rfl⟩) 243 [] [.ptr 4 0 0 0] (λp=>vj l p.from_ p.till) (by simp[j8]) λx _ v h1 Y=>by
   obtain⟨A,b,rfl⟩:=h1;exact⟨_,⟨_,.inr rfl,rfl⟩,ahi af x aa _ 4 3 rfl (by rcases b with rfl | rfl;exact .inl rfl;exact .inr rfl)⟩
 obtain⟨A,b,rfl⟩:=q;exact⟨A,b,(ph 242 rfl r rfl _ _).trans h⟩
def ahA(y:110<n){s:lM}{k:Nat}(h:A9 k s)(i:Int)(hk:k<=1000):∃s' e,(gV.fk n).p 137 [Sv s,I i]=some (.iV [Sv s',I e])/\A9 k s'/\0<=e/\e<=200:=by
 have q:=h.tl;have r:=h.pl;obtain⟨_,rfl,h1⟩:=Su (Γ:=gV.fk 108) (z:=3) (bytes:=24) (zero:=[I 0,I 0,I 0]) (cs:=λx:uX=>[I x.id,I x.ino,I x.at_]) af (λ_=>rfl) (λ_=>rfl) rfl rfl (l:=s.taken) aa false (X:=[.var (Sc s),.var [I i],.var [.en false [],I 0,I 0,I 0,.en false [],.en false [],.en false [],I 0]]) (λX=>X=_) rfl (λK h1=>by subst h1;exact⟨rfl,rfl⟩) 241 [] [.ptr 1 0 0 0] (λx=>decide (x.id≠i)) (by simp[j8]) λx _ K h1 Y=>⟨_,rfl,by subst h1;exact ahk af x i _ 1 rfl⟩
 have h1:rF (gV.fk 110) 240 [.en false (s.taken.map Xv),.fn (.func 241) [] [.ptr 1 0 0 0]] [.var (Sc s),.var [I i],.var [.en false [],I 0,I 0,I 0,.en false [],.en false [],.en false [],I 0]]=some (.own 3 0 0 (s.taken.filter λx=>decide (x.id≠i)).length,[.var (Sc s),.var [I i],.var [.en false [],I 0,I 0,I 0,.en false [],.en false [],.en false [],I 0],.row 0 3 ((s.taken.filter λx=>decide (x.id≠i)).map Xv)]):=(ail (n:=110) af _ _).trans h1
 have F:(s.taken.filter λx=>decide (x.id≠i)).length<=s.taken.length:=bG _ _
 have o:(s.taken.filter λx=>decide (x.id≠i)).length<=16:=aa
 generalize(s.taken.filter λx=>decide (x.id≠i))=l at *
 generalize b:(gV.fk n).p 137 _=res;rw[pp 137 rfl y rfl,gd,b6]at b
 by_cases H:l.length=s.taken.length
 .simp(disch:=omega)[RG,h1,H]at b;exact⟨s,100,b.symm,h,aa⟩
 .let⟨A,G,h2⟩:=ahj (n:=110) af (l:=l) aa (ps:=s.lU) aa [.en false (s.now.nodes.map Nd),I s.now.next,I s.now.gr,I s.tick,.en false (s.since.map I),.en false (s.lU.map Pv),.own 3 0 0 l.length,I s.next] [I i] [.en false [],I 0,I 0,I 0,.en false [],.en false [],.en false [],I 0] rfl rfl rfl
  have E:(s.lU.filter λp=>vj l p.from_ p.till).length<=s.lU.length:=bG _ _
  refine⟨{s with taken:=l,lU:=s.lU.filter λp=>vj l p.from_ p.till},0,?_,⟨h.w,h.sn,h.tk,by simp only;omega,λp v=>h.pe p (bU.1 v).1,o,h.nx⟩,aa⟩
  rw[<-b]
  rcases G with rfl | rfl
  .simp(disch:=omega)[RG,h1,h2]
  .simp(disch:=omega)[RG,h1,h2]
def mA{t:Tr.Tree}(w:nB t){q:Tr.Node}(b:q∈t.nodes):q.ek.length<=64/\q.data.length<=4096/\DT q:=by
 refine⟨by have:=w.bg.ek q b;omega,?_⟩
 rcases w.yj b with⟨_,_,_,h,_⟩ | ⟨_,h,_⟩
 .exact⟨h,CV w b⟩
 .rw[h];exact⟨ah,CV w b⟩
def RZ(s:lM)(i:Nat)(ps:List Ba):Prop:=ps.length<=s.lU.length+i/\∀p∈ps,p.node.ek.length<=64/\p.node.data.length<=4096/\DT p.node
def RZ.more{s:lM}{i:Nat}{ps:List Ba}(h:RZ s i ps){q:Tr.Node}(n:q.ek.length<=64/\q.data.length<=4096/\DT q)(a b:Int):RZ s (i+1) (ps++[⟨a,b,q⟩]):=by
 refine⟨by have:=h.1;simp;omega,λp l=>?_⟩
 rcases aZ.1 l with l | l
 .exact h.2 p l
 .rw[bS.1 l];exact n
def RZ.stay{s:lM}{i:Nat}{ps:List Ba}(h:RZ s i ps):RZ s (i+1) ps:=⟨by have:=h.1;omega,h.2⟩
abbrev Z8:List AV:=[.en false [],I 0,I 0,I 0,.en false [],.en false [],.en false [],I 0]
variable{s:lM}
section
variable{n:Nat}
def adf{k:Nat}(h:A9 k s)(e0:Env)(h2:e0 2 = .iw (Sc s))(h3:e0 3 = .iw (Sc s)):∃y,y=(AX.exit 0,[],[])/\iter (round (gV.fk 190) [5] [(.exit 0,[]),(.ret,[4])] FY e0 0 []) ([I 0],[])=some y :=
 ji (f:=round (gV.fk 190) [5] [(.exit 0,[]),(.ret,[4])] FY e0 0 []) s.since.length (λi (_:Unit)=>([I (i:Int)],[])) (λy=>y=(AX.exit 0,[],[])) (λ_ _=>True)
  (λi _ b _=>by
   have h4:=h.sn;have h5:=h.w.wf.len;obtain⟨x,hx⟩:∃x,x=s.since[i]:=⟨_,rfl⟩;exact .inl ⟨(),trivial,by simp(disch:=omega)[round_eq,FY,h2,h3,<-hx]⟩)
  (λ_ _=>⟨_,rfl,by simp(disch:=omega)[round_eq,FY,h2]⟩) (bp _) () trivial
def ade{k:Nat}(h:A9 k s)(hk:k<=400)(e0:Env)(h2:e0 2 = .iw (Sc s))(h3:e0 3 = .iw (Sc s)):∃y,y=(AX.exit 2,[],[])/\iter (round (gV.fk 190) [6] [(.exit 2,[]),(.ret,[4])] FX e0 0 []) ([I 0],[])=some y :=
 ji (f:=round (gV.fk 190) [6] [(.exit 2,[]),(.ret,[4])] FX e0 0 []) s.lU.length (λi (_:Unit)=>([I (i:Int)],[])) (λy=>y=(AX.exit 2,[],[])) (λ_ _=>True)
  (λi _ o _=>by
   have h4:=h.pl;have l:=(h.pe _ (aU o)).1;obtain⟨x,hx⟩:∃x,x=s.lU[i]:=⟨_,rfl⟩;rw[<-hx]at l;have b:=s46 (n:=190) af x.node x.node aa aa
   simp only[Nd,decide_true]at b;exact .inl ⟨(),trivial,by simp(disch:=omega)[round_eq,FX,h2,h3,<-hx,ca 46,b]⟩)
  (λ_ _=>⟨_,rfl,by simp(disch:=omega)[round_eq,FX,h2]⟩) (bp _) () trivial
def adb{k:Nat}(h:A9 k s)(e0:Env)(h2:e0 2 = .iw (Sc s))(h3:e0 3 = .iw (Sc s)):∃y,y=(AX.exit 4,[],[])/\iter (round (gV.fk 190) [9] [(.exit 4,[]),(.ret,[4])] FW e0 0 []) ([I 0],[])=some y :=
 ji (f:=round (gV.fk 190) [9] [(.exit 4,[]),(.ret,[4])] FW e0 0 []) s.taken.length (λi (_:Unit)=>([I (i:Int)],[])) (λy=>y=(AX.exit 4,[],[])) (λ_ _=>True)
  (λi _ b _=>by
   have h4:=h.tl;obtain⟨x,hx⟩:∃x,x=s.taken[i]:=⟨_,rfl⟩;exact .inl ⟨(),trivial,by simp(disch:=omega)[round_eq,FW,h2,h3,<-hx,iO]⟩)
  (λ_ _=>⟨_,rfl,by simp(disch:=omega)[round_eq,FW,h2]⟩) (bp _) () trivial
def s39(l:190<n){k:Nat}(h:A9 k s)(hk:k<=400):(gV.fk n).p 39 [Sv s,Sv s]=some (.bool true):=by
 have i:=s83 (n:=190) af s.now s.now (vV h.w) (vV h.w)
 have hs:yV s.now s.now=true:=by simp[yV]
 rw[hs]at i;simp only[Tv]at i;generalize b:(gV.fk n).p 39 _=res;rw[pp 39 rfl l rfl,gd,b6]at b;simp(disch:=omega)[c39,ca 83,i]at b;generalize hx:iter _ _=o at b;obtain⟨_,rfl,rfl⟩:∃y,_/\o=some y:=by rw[<-hx];exact adf h _ an an
 simp(disch:=omega)at b;generalize hx:iter _ _=o at b;obtain⟨_,rfl,rfl⟩:∃y,_/\o=some y:=by rw[<-hx];exact ade h hk _ an an
 simp(disch:=omega)at b;generalize hx:iter _ _=o at b;obtain⟨_,rfl,rfl⟩:∃y,_/\o=some y:=by rw[<-hx];exact adb h _ an an
 simp(disch:=omega)at b;exact b.symm
def adi{f:FS}{k:Nat}(h:uY k f)(e0:Env)(h2:e0 2 = .iw (Fc f))(h3:e0 3 = .iw (Fc f)):∃y,y=(AX.exit 0,[],[])/\iter (round (gV.fk 191) [5] [(.exit 0,[]),(.ret,[4])] F8 e0 0 []) ([I 0],[])=some y :=
 ji (f:=round (gV.fk 191) [5] [(.exit 0,[]),(.ret,[4])] F8 e0 0 []) f.holds.length (λi (_:Unit)=>([I (i:Int)],[])) (λy=>y=(AX.exit 0,[],[])) (λ_ _=>True)
  (λi _ b _=>by
   have h4:=h.hl;obtain⟨x,hx⟩:∃x,x=f.holds[i]:=⟨_,rfl⟩;exact .inl ⟨(),trivial,by simp(disch:=omega)[round_eq,F8,h2,h3,<-hx,iO]⟩)
  (λ_ _=>⟨_,rfl,by simp(disch:=omega)[round_eq,F8,h2]⟩) (bp _) () trivial
def adh{f:FS}{k:Nat}(h:uY k f)(e0:Env)(h2:e0 2 = .iw (Fc f))(h3:e0 3 = .iw (Fc f)):∃y,y=(AX.exit 2,[],[])/\iter (round (gV.fk 191) [6] [(.exit 2,[]),(.ret,[4])] F7 e0 0 []) ([I 0],[])=some y :=
 ji (f:=round (gV.fk 191) [6] [(.exit 2,[]),(.ret,[4])] F7 e0 0 []) f.jy.length (λi (_:Unit)=>([I (i:Int)],[])) (λy=>y=(AX.exit 2,[],[])) (λ_ _=>True)
  (λi _ b _=>by
   have h4:=h.ql;obtain⟨x,hx⟩:∃x,x=f.jy[i]:=⟨_,rfl⟩;exact .inl ⟨(),trivial,by simp(disch:=omega)[round_eq,F7,h2,h3,<-hx,iO]⟩)
  (λ_ _=>⟨_,rfl,by simp(disch:=omega)[round_eq,F7,h2]⟩) (bp _) () trivial
def s14(l:191<n){f:FS}{k:Nat}(h:uY k f)(hk:k<=400):(gV.fk n).p 14 [Fv f,Fv f]=some (.bool true):=by
 have i:=s39 (n:=191) af h.s hk
 simp only[Sv,Sc]at i;generalize b:(gV.fk n).p 14 _=res;rw[pp 14 rfl l rfl,gd,b6]at b;simp(disch:=omega)[c14,ca 39,i]at b;generalize hx:iter _ _=o at b;obtain⟨_,rfl,rfl⟩:∃y,_/\o=some y:=by rw[<-hx];exact adi h _ an an
 simp(disch:=omega)at b;generalize hx:iter _ _=o at b;obtain⟨_,rfl,rfl⟩:∃y,_/\o=some y:=by rw[<-hx];exact adh h _ an an
 simp(disch:=omega)at b;exact b.symm
end
end Go.Proofs.YtahlmpbhfljalaaGreatDoor
