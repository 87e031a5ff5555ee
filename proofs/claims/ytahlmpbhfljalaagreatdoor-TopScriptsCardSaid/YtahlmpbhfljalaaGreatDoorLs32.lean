/- Part of the proof that TopScriptsCard holds. -/
import Derived.Test.YtahlmpbhfljalaaGreatDoorDo32b
import Derived.Test.YtahlmpbhfljalaaGreatDoorHd32
set_option linter.all false
namespace Go.Proofs.YtahlmpbhfljalaaGreatDoor
open Go.Am Go.Tr Go.Am.Nm
@[simp]def ako(l:List rB):iU 8 (l.map Ov)=true:=by simp[iU]
abbrev OpI(o:rB):Prop:=Er o.kind/\Er o.client/\Er o.n/\Er o.m/\Er o.handle
section
variable{n:Nat}
def ahO(i:0<n)(o:rB):∃b,(gV.fk n).p 16 [Ov o]=some (.bool b)/\(b=false->o.path.length<=1000/\o.to.length<=1000/\o.data.length<=5000):=by
 generalize h:(gV.fk n).p 16 _=res;rw[pp 16 rfl i rfl,gd,b6]at h
 by_cases l:5000<o.data.length
 .simp(disch:=omega)[c16]at h;exact⟨true,h.symm,ah⟩
 by_cases c2:1000<o.path.length
 .simp(disch:=omega)[c16]at h;exact⟨true,h.symm,ah⟩
 by_cases c3:1000<o.to.length
 .simp(disch:=omega)[c16]at h;exact⟨true,h.symm,ah⟩
 .simp(disch:=omega)[c16]at h;exact⟨false,h.symm,λ_=>⟨aa,aa,aa⟩⟩
def aiM(l:List rB)(hl:l.length<=1000000)(f:Bool)(e0:Env)(h0:e0 0 = .en f (l.map Ov)):
  ∃y,((y=(AX.exit 0,[],[])/\∀o∈l,o.path.length<=1000/\o.to.length<=1000/\o.data.length<=5000)\/∃H,y=(AX.ret,[AV.bool true],H))/\iter (round (gV.fk 1) [3] [(.exit 0,[]),(.ret,[2])] KU e0 0 []) ([I 0],[])=some y :=
 ji (f := round (gV.fk 1) [3] [(.exit 0, []), (.ret, [2])] KU e0 0 []) l.length (λi (_ : Unit) => ([I (i : Int)], [])) (λy => (y = (AX.exit 0, [], []) /\ ∀ o ∈ l, o.path.length <= 1000 /\ o.to.length <= 1000 /\ o.data.length <= 5000) \/ ∃ H, y = (AX.ret, [AV.bool true], H)) (λi _ => ∀ j (q : j < l.length), j < i -> l[j].path.length <= 1000 /\ l[j].to.length <= 1000 /\ l[j].data.length <= 5000)
  (λi _ F v=>by
   obtain⟨x,hx⟩:∃x,x=l[i]:=⟨_,rfl⟩;let⟨b,r,E⟩:=ahO (n:=1) af x
   simp only[Ov,Oc]at r;cases b with
   |true=>exact .inr ⟨_,.inr ⟨_,rfl⟩,by simp(disch:=omega)[round_eq,KU,h0,<-hx,ca 16,r];rfl⟩
   |false=>exact .inl ⟨(),λj q A=>by
     by_cases h:j=i
     .subst h;rw[<-hx];exact E rfl
     .exact v j q aa,by simp(disch:=omega)[round_eq,KU,h0,<-hx,ca 16,r]⟩)
  (λ_ v=>⟨_,.inl ⟨rfl,λo z=>by
   obtain⟨j,q,rfl⟩:=bn.1 z;exact v j q q⟩,by simp(disch:=omega)[round_eq,KU,h0]⟩) (bp _) () (λ_ _ h=>absurd h (Nat.not_lt_zero _))
def rp6(r:1<n)(l:List rB)(hl:l.length<=9223372036854775807)(f:Bool):∃b,(gV.fk n).p 6 [.en f (l.map Ov)]=some (.bool b)/\(b=false->l.length<=50/\∀o∈l,o.path.length<=1000/\o.to.length<=1000/\o.data.length<=5000):=by
 generalize h:(gV.fk n).p 6 _=res;rw[p6 r,gd,b6]at h
 by_cases v:50<l.length
 .simp(disch:=omega)[c6]at h;exact⟨true,h.symm,ah⟩
 .simp(disch:=omega)[c6]at h;generalize hx:iter _ _=i at h;obtain⟨_,⟨rfl,q⟩ | ⟨H,rfl⟩,rfl⟩:∃y,_/\i=some y:=by rw[<-hx];exact aiM l aa f _ an
  .simp(disch:=omega)at h;exact⟨false,h.symm,λ_=>⟨aa,q⟩⟩
  .simp(disch:=omega)at h;exact⟨true,h.symm,ah⟩
def rp7(b:4<n):∃f,(gV.fk n).p 7 []=some (Fv f)/\uY 0 f:=by
 have h1:=s22 (n:=4) af
 have h2:=s21 (n:=4) af CW af
 refine⟨⟨⟨CW,0,List.replicate CW.nodes.length 0,[],[],1⟩,[],[]⟩,?_,?_⟩
 .rw[p7 b,gd,b6];simp only[Tv,Sv,Sc,aX]at h1 h2;simp(disch:=omega)[c7,ca 22,h1,ca 21,h2]
 .exact⟨⟨WF.new,ah,ah,ah,ah,ah,ah⟩,by simp[pU],ah,by simp[mh],ah⟩
def abI(q:185<n)(a:uZ)(hl:a.names.length<=1000)(v:a.data.length<=1000000)(f1 l h b:Bool):(gV.fk n).p 13 [.agg [I a.err,I a.ino,I a.kind,I a.n,I a.m,.en f1 (a.names.map AV.str),.en l (a.data.map B)],.agg [I a.err,I a.ino,I a.kind,I a.n,I a.m,.en h (a.names.map AV.str),.en b (a.data.map B)]]=some (.bool true):=by
 have loop:∀e0:Env,e0 2 = .iw [I a.err,I a.ino,I a.kind,I a.n,I a.m,.en f1 (a.names.map AV.str),.en l (a.data.map B)]->e0 3 = .iw [I a.err,I a.ino,I a.kind,I a.n,I a.m,.en h (a.names.map AV.str),.en b (a.data.map B)]->
   ∃y,y=(AX.exit 0,[],[])/\iter (round (gV.fk 185) [5] [(.exit 0,[]),(.ret,[4])] F9 e0 0 []) ([I 0],[])=some y:=λe0 h2 h3 =>
  ji (f:=round (gV.fk 185) [5] [(.exit 0,[]),(.ret,[4])] F9 e0 0 []) a.names.length (λi (_:Unit)=>([I (i:Int)],[])) (λy=>y=(AX.exit 0,[],[])) (λ_ _=>True)
   (λi _ r _=>.inl ⟨(),trivial,by simp(disch:=omega)[round_eq,F9,h2,h3]⟩)
   (λ_ _=>⟨_,rfl,by simp(disch:=omega)[round_eq,F9,h2]⟩) (bp _) () trivial
 rw[pp 13 rfl q rfl,gd,b6];simp(disch:=omega)[c13,jo];generalize hx:iter _ _=o;obtain⟨_,rfl,rfl⟩:∃y,y=(AX.exit 0,[],[])/\o=some y:=by rw[<-hx];exact loop _ an an
 simp(disch:=omega)
end
def YM{a:uZ}(h:TG a):AnR a:=⟨h.r.1,h.r.2.1,h.r.2.2.1,h.r.2.2.2.1,h.r.2.2.2.2,h.n,h.nl,by have:=h.d;omega⟩
def aiN{l:List rB}(hl:l.length<=50)(S:∀o∈l,OpI o)(O:∀o∈l,o.path.length<=1000/\o.to.length<=1000/\o.data.length<=5000)(fl:Bool){x:FS}(G:uY 0 x)(e0:Env)(h0:e0 0 = .en fl (l.map Ov))(h4:e0 4 = .ptr 0 0 0 0)(h5:e0 5 = .ptr 1 0 0 0):
  ∃y,(∃f,uY 50 f/\y=(AX.exit 0,[],[AB.var (Fc f),.var (Fc f)]))/\iter (round (gV.fk 195) [6] [(.exit 0,[]),(.ret,[2])] Ot e0 2 []) ([I 0],[.var (Fc x),.var (Fc x)])=some y :=
 ji (f:=round (gV.fk 195) [6] [(.exit 0,[]),(.ret,[2])] Ot e0 2 []) l.length (λi (g:FS)=>([I (i:Int)],[AB.var (Fc g),.var (Fc g)])) (λy=>∃f,uY 50 f/\y=(AX.exit 0,[],[AB.var (Fc f),.var (Fc f)])) (λi g=>uY i g)
  (λi g P hg=>by
   left;obtain⟨o,r⟩:∃o,o=l[i]:=⟨_,rfl⟩;have L:o∈l:=r▸aU P;let⟨b1,X,W⟩:=O o L;have b:=S o L;have H:Ook o:=⟨b1,X,W,b⟩;have v:OpR o:=⟨b.1,b.2.1,b.2.2.1,b.2.2.2.1,b.2.2.2.2,aa,aa,aa⟩
   let⟨T,a,M,F,Q⟩:=s10 (n:=195) af hg aa H
   have h:=YM Q;have N:=rp9 (n:=195) af v false
   have K:=rp8 (n:=195) af v
   have A:=abJ (n:=195) af h false false
   let⟨U,E⟩:=ahQ (n:=195) af h
   have z:=abI (n:=195) af a h.names h.data false false false false
   have q:=abI (n:=195) af a h.names h.data false false U false
   simp only[Fv,Fc,Sc,Ov,Oc,Av,Ac,aM,aN]at M K;exact⟨T,F,by simp(disch:=omega)[round_eq,Ot,h0,h4,h5,<-r,a9,N,a8,K,M,a10,ca 12,A,ca 11,E,ca 13,z,q]⟩)
  (λg hg=>⟨_,⟨g,hg.mono hl,rfl⟩,by simp(disch:=omega)[round_eq,Ot,h0]⟩) (bp _) x G
def rp3{n:Nat}(F:195<n)(l:List rB)(hl:l.length<=9223372036854775807)(H:∀o∈l,OpI o)(fl:Bool):(gV.fk n).p 3 [.en fl (l.map Ov)]=some (.bool true):=by
 have h5:=rp5 (n:=195) af
 let⟨b,z,G⟩:=rp6 (n:=195) af l hl fl
 let⟨K,x,r⟩:=rp7 (n:=195) af
 simp only[Fv,Fc,Sc,aM,aN]at x;rw[p3 F,gd,b6];cases b with
 |true=>simp(disch:=omega)[c3,a5,h5,a6,z]
 |false =>
  let⟨h,E⟩:=G rfl;simp(disch:=omega)[c3,a5,h5,a6,z,a7,x];generalize hx:iter _ _=A
  obtain⟨_,⟨f,v,rfl⟩,rfl⟩:∃y,(∃f,uY 50 f/\y=(AX.exit 0,[],[AB.var (Fc f),.var (Fc f)]))/\A=some y:=by
   rw[<-hx];exact aiN h H E fl r _ an an an
  have q:=s14 (n:=195) af v af
  have i:=ahP (n:=195) af v.s.w
  simp only[Fv,Fc,Sc,Tv,aM,aN]at q i;simp(disch:=omega)[q,i]
open Go.Am Go.Am.Nm Go.Tr Go.Deep
def aa5{c:Int}(h:IntKind.u8.min<=c/\c<=IntKind.u8.max):∃b:UInt8,c=(b.toNat:Int):=by
 let⟨l,c2⟩:=h;have e1:IntKind.u8.min=0:=rfl;have i:IntKind.u8.max=255:=rfl;refine⟨UInt8.ofNat c.toNat,?_⟩;rw[UInt8.toNat_ofNat_of_lt' (show c.toNat<2 ^ 8 by omega)]
 omega
def Gg:∀ {l:ax},(∀n∈l,IntKind.u8.min<=n/\n<=IntKind.u8.max)->∃r:aq,l.map (AV.int .u8)=r.map B
 | [],_=>⟨[],rfl⟩
 |n::l,h=>by
  let⟨b,o⟩:=aa5 (h n cr);let⟨r,h1⟩:=Gg (l:=l) λm i=>h m (bD _ i)
  exact⟨b::r,by rw[bF,bF,h1,o]⟩
abbrev Qb:List TD:=[.i .i64,.i .i64,.s,.s,.i .i64,.i .i64,.i .i64,.l false [.i .u8]]
def acv{cs:List AV}(h:Gy Qb cs):∃o:rB,AV.agg cs=Ov o/\OpI o:=by
 obtain⟨a,r,rfl,h1,h⟩:=h.cons;obtain⟨b,r,rfl,h2,h⟩:=h.cons;obtain⟨c,r,rfl,h3,h⟩:=h.cons;obtain⟨d,r,rfl,h4,h⟩:=h.cons;obtain⟨e,r,rfl,h5,h⟩:=h.cons;obtain⟨g,r,rfl,z,h⟩:=h.cons;obtain⟨i,r,rfl,y,h⟩:=h.cons;obtain⟨j,r,rfl,x,h⟩:=h.cons;have:=h.nil;subst this;have e1:IntKind.i64.min = -9223372036854775808:=rfl;have G:IntKind.i64.max=9223372036854775807:=rfl;obtain⟨a,rfl,F⟩:=h1.int;obtain⟨b,rfl,q⟩:=h2.int;obtain⟨c,rfl,_⟩:=h3.str;obtain⟨d,rfl,_⟩:=h4.str;obtain⟨e,rfl,E⟩:=h5.int
 obtain⟨g,rfl,hg⟩:=z.int;obtain⟨i,rfl,A⟩:=y.int;obtain⟨l,rfl,_,v⟩:=x.ints;let⟨r,n⟩:=Gg v;exact⟨⟨a,b,c,d,e,g,i,r⟩,by rw[n];rfl,(by show Er a/\Er b/\Er e/\Er g/\Er i;omega)⟩
def aiT(args:List AV)(h:pO [(false,[.l true Qb])] args):(gV.fk 272).p 3 args=some (.bool true):=by
 obtain⟨a,r,rfl,h1,h⟩:=h.inv;have:=h.ajc;subst this;obtain⟨l,rfl,hl,b⟩:=h1.one.aj7 Ov OpI (λ_=>acv)
 exact rp3 af l (by simpa[maxLen]using hl) b false
end Go.Proofs.YtahlmpbhfljalaaGreatDoor
