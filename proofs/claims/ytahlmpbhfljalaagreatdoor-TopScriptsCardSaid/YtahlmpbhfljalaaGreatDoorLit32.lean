/- Part of the proof that TopScriptsCard holds. -/
import Derived.Test.YtahlmpbhfljalaaGreatDoorProg
import Derived.Test.YtahlmpbhfljalaaGreatDoorAmGs
import Derived.KernelRfl
set_option linter.all false
namespace Go.Am.Z
abbrev z0:List AV:=[.int .i64 0,.int .i64 0,.int .i64 0,.en false [],.en false [],.int .i64 0]
abbrev z1:List AV:=[.en false [],.int .i64 0,.int .i64 0]
abbrev z2:List AV:=[.int .i64 0,.int .i64 0,.int .i64 0,.int .i64 0,.int .i64 0,.en false [],.en false []]
abbrev z3:List AV:=[.en false [],.int .i64 0,.int .i64 0,.int .i64 0,.en false [],.en false [],.en false [],.int .i64 0,.en false [],.en false []]
abbrev z4:List AV:=[.str [],.int .i64 0,.str []]
abbrev z5:AV:=.agg [.int .i64 0,.int .i64 0,.int .i64 0,.en false [],.en false [],.int .i64 0]
abbrev z6:List AV:=[.en false [],.int .i64 0,.int .i64 0,.int .i64 0,.en false [],.en false [],.en false [],.int .i64 0]
abbrev z7:AV:=.agg [.int .i64 0,.int .i64 0,.int .i64 0]
abbrev z8:List AV:=[.int .i64 0,.int .i64 0,.int .i64 0]
abbrev z9:List AV:=[.int .i64 0,.int .i64 0]
abbrev z10:List AV:=[.str [],.int .i64 0,.int .i64 0]
abbrev z11:List AV:=[.int .i64 0,.int .i64 0,.int .i64 0,.int .i64 0,.int .i64 0,.en false [],.en false [],.int .i64 0]
abbrev z12:AV:=.agg [.str [],.int .i64 0,.int .i64 0]
abbrev z13:List AV:=[.int .i64 0,.int .i64 0,.str [],.str [],.int .i64 0,.int .i64 0,.int .i64 0,.en false []]
abbrev z14:AV:=.agg [.int .i64 0,.int .i64 0,.int .i64 0,.int .i64 0,.int .i64 0,.en false [],.en false [],.int .i64 0]
abbrev z15:List AV:=[.int .i64 0,.int .i64 0,.int .i64 0,.int .i64 0,.str [],.str [],.int .i64 0,.int .i64 0,.int .i64 0,.en false [],.int .i64 0,.int .i64 0,.int .i64 0,.int .i64 0,.int .i64 0,.en false [],.en false []]
abbrev z16:List AV:=[.en true []]
abbrev z17:List AV:=[.str [],.en false []]
abbrev z18:AV:=.agg [.str [],.int .i64 0,.str []]
abbrev e(x y:AC):Prop:=∀ {Γ:ja} {V:aA} {ρ:Type} (k:AX->St->Option ρ) (s:St),eval Γ x V ρ k s=eval Γ y V ρ k s
def f1(x:Nat)(k:Nat->AC):AC:=match x+1 with
 |0=>.skip
 |n+1=>k n
def pk{α:Type}:Nat->List (Nat×α)->(Nat->Nat->α->AC)->AC
 |_,[],_=>.skip
 |v,(w,h)::l,k=>cond (Nat.ble w v) (pk (v-w) l k) (k v w h)
def g{α:Type}(R:Nat)(T:List (Nat×α))(N:Nat)(k:α->Nat->AC):AC:=pk (N%R) T λv w a=>f1 (N / R*w+v) (k a)
def un(r N:Nat)(k:Nat->Nat->AC):AC:=f1 (N / r) (k (N%r))
def esc(q:Nat)(R:Nat)(T:aB)(N:Nat)(k:Nat->Nat->AC):AC:=g R T N λa N=>cond (Nat.beq a q) (un 512 N k) (k a N)
def gs(e N:Nat)(k:Nat->Nat->AC):AC:=g 701 [(324,30),(67,31),(29,32),(26,2),(20,33),(19,3),(19,34),(18,5),(16,0),(15,1),(15,4),(13,35),(12,6),(12,7),(12,29),(11,8),(9,9),(9,10),(9,36),(7,11),(7,12),(6,13),(5,14),(4,15),(2,16),(2,17),(2,18),(2,21),(1,19),(1,20),(1,22),(1,23),(1,24),(1,25),(1,26),(1,27),(1,28)] N λa N=>cond (Nat.ble 30 a) (k (e-(a-30)) N) (cond (Nat.beq a 29) (un 512 N k) (k a N))
def gx(e N:Nat)(k:Nat->Nat->AC):AC:=g 700 [(75,4),(62,6),(50,5),(43,7),(42,8),(38,10),(36,11),(35,9),(29,12),(28,59),(22,13),(19,2),(18,14),(17,3),(14,15),(13,60),(11,17),(10,16),(8,18),(7,21),(7,24),(6,19),(6,20),(6,22),(6,25),(5,23),(5,26),(4,27),(4,28),(3,1),(3,30),(3,31),(3,33),(3,34),(3,35),(3,40),(3,41),(3,54),(3,61),(2,0),(2,29),(2,32),(2,36),(2,37),(2,38),(2,39),(2,42),(2,44),(2,46),(2,47),(2,48),(2,49),(2,53),(2,55),(2,56),(1,43),(1,45),(1,50),(1,51),(1,52),(1,57),(1,58),(1,62),(1,66),(1,70),(1,73),(1,76)] N λa N=>cond (Nat.ble 60 a) (f1 (e+a-58) λd=>k d N) (cond (Nat.beq a 59) (un 512 N λd N=>f1 d λd=>k d N) (k a N))
def pe(e:Nat):Nat->Nat->(Nat->Nat->AC)->AC
 |0=>gs e
 |1=>un 512
 |2=>esc 9 701 [(247,0),(163,1),(71,2),(54,9),(44,4),(39,3),(30,5),(25,6),(14,7),(14,8)]
 |3=>esc 8 701 [(333,1),(165,3),(87,8),(76,6),(28,7),(11,2),(1,0)]
 |4=>esc 8 699 [(351,0),(157,1),(98,8),(42,2),(15,3),(13,4),(9,5),(7,6),(7,7)]
 |_=>λN k=>un 2 N λq N=>match q with
  |0=>gs e N λx=>k (2*x)
  |_=>esc 8 699 [(351,0),(157,1),(98,8),(42,2),(15,3),(13,4),(9,5),(7,6),(7,7)] N λx=>k (2*x+1)
def pn(e:Nat):au->Nat->au->(au->Nat->AC)->AC
 | [],N,a,k=>k a N
 |q::l,N,a,k=>pe e q N λx N=>pn e l N (a++[x]) k
def pf(e:Nat):au->Nat->au->(au->Nat->AC)->AC
 | [],N,a,k=>k a N
 |q::l,N,a,k =>
  let r (m:au):AC:=un 32 N λn N=>pn e (List.replicate n m).flatten N a λa N=>pf e l N a k
  match q with
  |5=>r [8]
  |6=>r [2,3,8]
  |7=>r [2,8]
  |9=>r [1]
  |q=>pe e q N λx N=>pf e l N (a++[x]) k
def pr:au->aB
 |a::b::l=>(a,b)::pr l
 |_=>[]
def ou(e:Nat):Nat->Nat->List (AX×au)->(List (AX×au)->Nat->AC)->AC
 |0,N,o,k=>k o N
 |n+1,N,o,k=>un 16 N λx N=>pf e [9] N [] λl N=>ou e n N (o++[(cond (Nat.beq x 15) .ret (.exit x),l)]) k
def tt(x:au)(i:Nat):AO:=.t (x.getD i 0)
abbrev IE:=Nat×au×(au->j5)
section
variable(i:Nat->Int)(z:Nat->List AV)(y:Nat->AV)
def ag(v:Nat):AO:=cond (Nat.beq (v%2) 0) (.t (v / 2)) (.c (.int .i64 (i (v / 2))))
def gg(l:au):List AO:=l.map (ag i)
def p2:au->List (Nat×AO)
 |a::b::l=>(a,ag i b)::p2 l
 |_=>[]
def p3:au->List (Nat×Nat×AO)
 |a::b::c::l=>(a,b,ag i c)::p3 l
 |_=>[]
def ki(x:au)(j:Nat):AO:=.c (.int .i64 (i (x.getD j 0)))
def cc(f:BinOp):IE:=(1,[0,4],λx=>.bin f (tt x 0) (ki i x 1))
def bb(f:BinOp):IE:=(1,[0,0],λx=>.bin f (tt x 0) (tt x 1))
def IT0:List (Nat×IE):=[
(129,(0,[],λ_=>.no)),
(94,(1,[0],λx=>.mv (tt x 0))),
(71,(4,[0],λx=>.mv (tt x 0))),
(55,(1,[2,0],λx=>.B4 (x.getD 0 0) (tt x 1))),
(28,(1,[3,0],λx=>.load (x.getD 0 0) false (tt x 1))),
(26,(2,[3,0,0],λx=>.store (x.getD 0 0) (tt x 1) (tt x 2))),
(25,(3,[],λ_=>.no)),
(21,(1,[0,2],λx=>.ext (tt x 0) (x.getD 1 0))),
(21,(1,[3,0],λx=>.load (x.getD 0 0) true (tt x 1))),
(17,(4,[4],λx=>.mv (ki i x 0))),
(17,(1,[3,0],λx=>.oN (x.getD 0 0) false (tt x 1))),
(14,(5,[],λ_=>.no)),
(13,(4,[2],λx=>.alloc (z (x.getD 0 0)))),
(12,(1,[1,0,0],λx=>.call (x.getD 0 0) [tt x 1,tt x 2])),
(12,(1,[0],λx=>.len false (tt x 0))),
(11,(1,[3,0,0],λx=>.DS (x.getD 0 0) (tt x 1) (tt x 2))),
(9,(1,[3,0],λx=>.oN (x.getD 0 0) true (tt x 1))),
(9,(1,[4],λx=>.mv (ki i x 0))),
(8,cc i .add),
(8,(1,[0],λx=>.Ez (tt x 0))),
(8,(1,[],λ_=>.mv (.c (.bool false)))),
(7,(1,[0],λx=>.J8 (tt x 0))),
(7,bb .lss),
(6,(7,[],λ_=>.no)),
(5,cc i .eql),
(5,(1,[2,6],λx=>.build (z (x.getD 0 0)) (p3 i (x.drop 1)))),
(4,(8,[],λ_=>.no)),
(4,cc i .neq),
(4,(1,[1,0],λx=>.call (x.getD 0 0) [tt x 1])),
(3,(1,[2,2,0,0],λx=>.app (x.getD 0 0) (x.getD 1 0) (tt x 2) (tt x 3))),
(3,(1,[0],λx=>.un .not (tt x 0))),
(3,(1,[1,0,0,0],λx=>.call (x.getD 0 0) [tt x 1,tt x 2,tt x 3])),
(3,cc i .geq),
(3,bb .eql),
(3,bb .neq),
(2,(1,[0],λx=>.box (tt x 0))),
(2,cc i .lss),
(2,cc i .gtr),
(2,(1,[1,0],λx=>.kY (x.getD 0 0) [tt x 1])),
(2,(1,[2],λx=>.alloc (z (x.getD 0 0)))),
(2,(1,[],λ_=>.mv (.c (.en false [])))),
(2,(1,[],λ_=>.mv (.c (.bool true)))),
(2,(1,[3,2,2,7],λx=>.DD (x.getD 0 0) (y (x.getD 1 0)) (x.getD 2 0) (p2 i (x.drop 3)))),
(1,(6,[],λ_=>.no)),
(1,(1,[1,0,0],λx=>.kY (x.getD 0 0) [tt x 1,tt x 2])),
(1,(1,[1,0,0,0,0],λx=>.call (x.getD 0 0) [tt x 1,tt x 2,tt x 3,tt x 4])),
(1,(1,[0],λx=>.len true (tt x 0))),
(1,bb .add),
(1,bb .sub),
(1,cc i .sub),
(1,(1,[1,0,0,0],λx=>.kY (x.getD 0 0) [tt x 1,tt x 2,tt x 3])),
(1,(1,[1,0,0,0,0],λx=>.kY (x.getD 0 0) [tt x 1,tt x 2,tt x 3,tt x 4])),
(1,bb .geq),
(1,bb .leq),
(1,bb .gtr),
(1,cc i .leq),
(1,(1,[],λ_=>.mv (.c (.str [])))),
(1,(1,[1,5],λx=>.call (x.getD 0 0) (gg i (x.drop 1)))),
(1,(1,[1,5],λx=>.kY (x.getD 0 0) (gg i (x.drop 1)))),
(1,(1,[8,5],λx=>.jS (ag i (x.getD 0 0)) (gg i (x.drop 1)))),
(1,(1,[1,5],λx=>.Hi (.func (x.getD 0 0)) [] (gg i (x.drop 1)))),
(1,(1,[3,2,2,7],λx=>.Pg (x.getD 0 0) (y (x.getD 1 0)) (x.getD 2 0) (p2 i (x.drop 3)))),
(1,(2,[8,8,1],λx=>.sx .i64 (ag i (x.getD 0 0)) (ag i (x.getD 1 0)) (.c (.fn (.func (x.getD 2 0)) [] [])))),
(1,(2,[3,0,8,1],λx=>.nE (x.getD 0 0) (tt x 1) (ag i (x.getD 2 0)) (x.getD 3 0))),
(1,(1,[3,0,1],λx=>.nw (x.getD 0 0) false (tt x 1) (x.getD 2 0))),
(1,(1,[3,0,1],λx=>.nw (x.getD 0 0) true (tt x 1) (x.getD 2 0))),
(1,(1,[0],λx=>.conv .i64 (tt x 0)))]
def I_:Nat->Nat->Nat->List j5->Nat->(IT->Nat->Nat->List j5->AC)->AC
 |0,_,_,_,_,_=>.skip
 |j+1,N,e,u,D,k=>g 708 (IT0 i z y) N λ(q,l,m) N =>
  let p (o:j5) (u:List j5) (D N:Nat):AC:=match D with
   |0=>f1 (e+1) λd=>I_ j N d u 0 λr=>k (.op (some d) o r)
   |d+1=>I_ j N (cond (Nat.ble d e) e d) u 0 λr=>k (.op (some d) o r)
  match q with
  |0=>k .nil N e u
  |1=>pf e l N [] λx=>p (m x) u D
  |2=>pf e l N [] λx N=>I_ j N e u 0 λr=>k (.op none (m x) r)
  |3=>gx e N λd N=>I_ j N e u (d+1) k
  |4=>gx e N λd N=>pf e l N [] λx=>p (m x) u (d+1)
  |5=>match u with
   | []=>.skip
   |o::u=>p o u D N
  |6=>match u with
   | []=>.skip
   |o::u=>I_ j N e u 0 λr=>k (.op none o r)
  |q=>I_ j N e u 0 λa N h u=>f1 (h+1) λd=>I_ j N d u 0 λr=>k (.sc d (Nat.beq q 7) e (e+1) h a (.t h) r)
def A_:Nat->Nat->Nat->List j5->List AC->(AC->Nat->Nat->List j5->List AC->AC)->AC
 |0,_,_,_,_,_=>.skip
 |j+1,N,e,u,w,k=>g 700 [(298,0),(97,1),(79,2),(51,3),(45,5),(42,4),(20,6),(19,13),(14,8),(14,9),(9,11),(8,12),(3,7),(1,10)] N λq N=>match q with
  |0=>I_ i z y 999 N e u 0 λl N e u=>A_ j N e u w λc=>k (.seq (.ops l) c)
  |1=>A_ j N e u w λa N e u w=>A_ j N e u w λb=>k (.seq a b)
  |2=>k .ret N e u w
  |3=>gs e N λt N=>A_ j N e u w λc=>k (.cond (.t t) c .skip)
  |4=>I_ i z y 999 N e u 0 λl N e u=>k (.ops l) N e u w
  |5=>un 16 N λb N=>A_ j N e u w λc=>k (.block b c)
  |6=>gs e N λt N=>A_ j N e u w λa N e u w=>A_ j N e u w λb=>k (.cond (.t t) a b)
  |7=>match w with
   | []=>.skip
   |c::w=>k c N e u w
  |8=>k .skip N e u w
  |9=>un 16 N λb N=>k (.exit b) N e u w
  |10=>A_ j N e u w λc N e u w=>un 16 N λa N=>un 16 N λb N=>k (.QL c [(a,b)]) N e u w
  |11=>gs e N λt N=>un 16 N λb N=>A_ j N e u w λc=>k (.seq (.cond (.t t) .skip (.exit b)) c)
  |12=>I_ i z y 999 N e u 0 λl N e u=>pf e [1,5] N [] λx N=>f1 (e+1) λd=>I_ i z y 999 N d u 0 λr N e u=>k (.qk [(l,.call (some d) (x.getD 0 0) (gg i (x.drop 1)))] r) N e u w
  |_=>match w with
   | []=>.skip
   |c::w=>pf e [9] N [] λa N=>pf e [9] N [] λb N=>pf e [9] N [] λd N=>un 16 N λn N=>ou e n N [] λo N=>k (.loop a (pr b) (pr d) o c) N e u w
end
abbrev DA:Nat->Type
 |0=>AC
 |m+1=>AC->DA m
abbrev DO:Nat->Nat->Type
 |0,m=>DA m
 |n+1,m=>j5->DO n m
def ra:(m:Nat)->(List AC->AC)->DA m
 |0,k=>k []
 |m+1,k=>λc=>ra m λw=>k (c::w)
def ro:(n m:Nat)->(List j5->List AC->AC)->DO n m
 |0,m,k=>ra m (k [])
 |n+1,m,k=>λo=>ro n m λu=>k (o::u)
def D(n m e N:Nat)(i:Nat->Int)(z:Nat->List AV)(y:Nat->AV):DO n m:=ro n m λu w=>A_ i z y 999 N e u w λc _ _ _ _=>c
@[simp]def Zz:Nat->List AV
 |0=>z0
 |1=>z1
 |2=>z2
 |3=>z3
 |4=>z4
 |5=>z6
 |6=>z8
 |7=>z9
 |8=>z10
 |9=>z11
 |10=>z13
 |11=>z15
 |12=>z16
 |13=>z17
 |14=>[.me]
 |15=>[.int .i64 0]
 |16=>[.kU]
 |17=>[.str [],.int .i64 0,.str []]
 |18=>[]
 |19=>[.int .i64 0,.int .i64 0,.int .i64 0,.int .i64 0,.int .i64 0,.en true [],.en true []]
 |20=>[.kG,.yl,.me]
 |21=>[.str [],.en true []]
 |22=>[.int .u64 0]
 |23=>[.str []]
 |24=>[.en true [],.int .i64 0,.int .i64 0,.int .i64 0,.en true [],.en true [],.en true [],.int .i64 0]
 |_=>default
@[simp]def Zi:Nat->Int
 |0=>0
 |1=>1
 |2=>2
 |3=>-1
 |4=>70
 |5=>76
 |6=>12
 |7=>73
 |8=>72
 |9=>60
 |10=>16
 |11=>4096
 |12=>1099511627776
 |13=>64
 |14=>11
 |15=>71
 |16=>100
 |17=>10
 |18=>90
 |19=>74
 |20=>80
 |21=>5
 |22=>3
 |23=>4
 |24=>6
 |25=>7
 |26=>8
 |27=>9
 |28=>13
 |29=>15
 |30=>200
 |31=>18
 |32=>1000
 |33=>14
 |34=>17
 |35=>99
 |36=>91
 |37=>75
 |38=>50
 |39=>5000
 |40=>32
 |_=>default
@[simp]def Zy:Nat->AV
 |0=>z5
 |1=>z7
 |2=>(.int .i64 0)
 |3=>(.str [])
 |4=>z14
 |5=>z12
 |6=>z18
 |7=>(.int .u8 0)
 |8=>(.agg [.str [],.int .i64 0,.str []])
 |9=>(.agg [.int .i64 0,.int .i64 0])
 |10=>(.agg [.en false [],.int .i64 0,.int .i64 0,.int .i64 0,.en false [],.en false [],.en false [],.int .i64 0,.en false [],.en false []])
 |_=>default
abbrev w{α:Type}(x:(Nat->Int)->(Nat->List AV)->(Nat->AV)->α){y:(Nat->Int)->(Nat->List AV)->(Nat->AV)->α}(_:x=y:=by conv=>lhs;reduce):α:=y Zi Zz Zy
abbrev u(n r:Nat)(c:AC):AF:=⟨n,[.t r],c⟩
end Go.Am.Z
namespace Go.Proofs.YtahlmpbhfljalaaGreatDoor
open Go.Am
set_option maxRecDepth 100000
noncomputable section
open Go.Am.Z
def Ot:AC:=w (D 0 0 20 0x2530daf1d5bbbbadaa7c47940f92a05b7d72564b34598a242a8b26d7867cd9e3f81a2f907c4775c435dd141b9a0ac683ca349f125f28bde41e67795c850b7b8d21671366a2fc485e19c264908b9cf68ded8ec00ab010f071640f6597fd60ef9874de1af6df513a72667bd74695a70a23bb411dd7f9fd673c81f313fae91886695b0c14d6eb048f2e44a2ae7636a412f274eac00e0b40f1d40412e3e04002cf3f6a)
def c3:=u 92 2<|(w (D 0 1 1 0x546e3850dcf99fc453adbc67ad9f13d9dfc55703a91e005305a945dba98946058f3ade7561deb817906cd229ad3813d012c2398be402bde02347f3b48c98502c6800cfaf3b9ae28fe7d6cdd320369)) Ot
def c5:=u 39 0<|(w (D 4 0 0 0x97d97b55b1327b1c952ec432adc03305ad050e35795c84ae2d53cb346adf4e665248a42d084aca5f9e40f234ed33203c3546f533017e40be46c0374e33e850d3c8)) (.build z13 [(0,1,.c (.int .i64 2)),(2,1,.c (.str [47,97])),(4,1,.c (.int .i64 2))]) (.call 19 [.c (.str [98,101,103,105,110,32,48,58,32,109,97,107,101,32,112,97,116,104,61,47,97,32,110,61,50,10,101,110,100,32,48,58,32,111,107,32,105,110,111,61,50,32,107,105,110,100,61,50,10])]) (.bin .eql (.t 16) (.c (.str [111,107,32,105,110,111,61,50,32,107,105,110,100,61,50]))) (.bin .eql (.t 36) (.c (.str [47,32,100,105,114,32,49,10,47,97,32,100,105,114,32,50,10])))
def Lj:okF Tryz.prog 5 c5=true:=ai
def KU:AC:=w (D 0 0 6 0xdb7b4a10190f04b33c6dfaee848c7b6d7a04e7fb99644668d553cac2a3fd72)
def c6:=u 18 2<|(w (D 0 1 1 0x33b3c26481df464283d2815249eadfc7909775f4b2762a0884919583e06b)) KU
def c7:=AF.mk 4 [.cell 0 10 true]<|w (D 0 0 0 0x4f32e0229f68e32e76a3ab907e803f47b)
def HU:AC:=(w (D 1 0 26 0xba65d6741897be6b659d2247a866cbda652b85d79e180c45b62df440)) (.Nq 18 1 false (.t 25) (.t 26))
def c8:=AF.mk 63 [.cell 2 8 true,.t 3]<|(w (D 12 1 1 0x2522aa790daf788955e2d36e0339d6e8aa13ae199d2150957f588f1fbb72f7c12f9069d8b0c4a6ee708f0fe3313bb00961cb579d1658a4487705f9b6a603277e88fb7b7a99c7cb77f106bfd94d4608f5b32486d34d37ab4df9964c87828065edd3b95d74c064779ba5d38a5d0f7d78d7713891a2053bd6771ca57)) (.Hi (.func 24) [.t 14] []) (.Hi (.func 25) [.t 16] []) (.call 27 [.t 20,.c (.str [111,112])]) (.load 18 true (.c (.iw [.str [],.str [108,111,111,107],.str [109,97,107,101],.str [108,105,110,107],.str [117,110,108,105,110,107],.str [114,101,110,97,109,101],.str [108,105,115,116],.str [115,116,97,116],.str [111,112,101,110],.str [99,108,111,115,101],.str [114,101,97,100],.str [119,114,105,116,101],.str [99,117,116],.str [108,105,109,105,116],.str [116,97,107,101],.str [112,101,101,107],.str [100,114,111,112],.str [99,114,97,115,104]]))) (.jS (.t 41) [.c (.str [99,108,105,101,110,116])]) (.jS (.t 43) [.c (.str [112,97,116,104])]) (.jS (.t 45) [.c (.str [116,111])]) (.jS (.t 47) [.c (.str [110])]) (.jS (.t 49) [.c (.str [109])]) (.jS (.t 51) [.c (.str [104,97,110,100,108,101])]) (.jS (.t 53) [.c (.str [100,97,116,97])]) (.Sr (.t 54)) HU
def c9:=u 48 2<|(w (D 10 0 0 0x3d3d60db19ee33fe074c064eac1f04e0fdd7f5852d839847de3450fa70bc57694a16ba08fafd03bd84ce671643f66191d9846d7914c724eaa0c86b825cb6b636d4edc0a5316778ebd8d61eb41709093055a99)) (.bin .add (.c (.str [111,112])) (.t 6)) (.uK 18 1 (.c (.iw [.str [],.str [108,111,111,107],.str [109,97,107,101],.str [108,105,110,107],.str [117,110,108,105,110,107],.str [114,101,110,97,109,101],.str [108,105,115,116],.str [115,116,97,116],.str [111,112,101,110],.str [99,108,111,115,101],.str [114,101,97,100],.str [119,114,105,116,101],.str [99,117,116],.str [108,105,109,105,116],.str [116,97,107,101],.str [112,101,101,107],.str [100,114,111,112],.str [99,114,97,115,104]])) (.t 17)) (.build z4 [(0,1,.c (.str [99,108,105,101,110,116])),(1,1,.t 22),(2,1,.c (.str []))]) (.build z4 [(0,1,.c (.str [112,97,116,104])),(1,1,.c (.int .i64 0)),(2,1,.t 26)]) (.build z4 [(0,1,.c (.str [116,111])),(1,1,.c (.int .i64 0)),(2,1,.t 30)]) (.build z4 [(0,1,.c (.str [110])),(1,1,.t 33),(2,1,.c (.str []))]) (.build z4 [(0,1,.c (.str [109])),(1,1,.t 36),(2,1,.c (.str []))]) (.build z4 [(0,1,.c (.str [104,97,110,100,108,101])),(1,1,.t 39),(2,1,.c (.str []))]) (.Co (.t 42)) (.build z4 [(0,1,.c (.str [100,97,116,97])),(1,1,.c (.int .i64 0)),(2,1,.t 44)])
def Cn:AC:=w (D 0 0 47 0x8c2923d71eaf61fb558f4514c50ebee305a92310a5eb55b99c8c2815ac09ef)
def c11:=AF.mk 65 [.cell 2 7 true,.t 3]<|(w (D 10 1 1 0x28abf92eb03f764502f94fc57c3af48e4cc5992a4e06e29adee10ebaf83e1f7a858b5268807500773be4c2e2d885658fcb030c342d1ffd27afd3956bca9e438c3e259dfbbaa999909d25af7fa400c46b4cd0a345033f4a1311641a4548ec8b0b8b47f3f02399a9e47f39ae)) (.Hi (.func 24) [.t 15] []) (.call 27 [.t 19,.c (.str [101,114,114,111,114])]) (.ni (.t 25) [.c (.str [105,110,111])]) (.ni (.t 27) [.c (.str [107,105,110,100])]) (.ni (.t 29) [.c (.str [110])]) (.ni (.t 31) [.c (.str [109])]) (.kY 25 [.t 33,.c (.str [100,97,116,97])]) (.Sr (.t 34)) (.call 35 [.t 38,.c (.str [110,97,109,101,115])]) (.call 36 [.t 44,.c (.str [44])]) (.mV [47] [(12,12),(47,58)] [(.exit 0,[])] Cn)
def Ga:AC:=w (D 0 0 33 0x54a66d8cfd30a40fef92e6c8964e2c9380e87f7af7d8037cd0c126)
def c12:=u 59 2<|(w (D 11 1 0 0x1461ea98b2aede1e7880a43b2a537be86b5cc980c60ce90fd421cf41ea04c62dff5f801fc9129999c47bef90b3f6694bacf6b04b1ba1d5ebb09da48b7986ed756b2c7357b836a36924691002341b6b9465f2ee82d4961773c9e0f310aed3467a0a8)) (.mv (.c (.str [111,107]))) (.bin .add (.c (.str [101,114,114,111,114])) (.t 13)) (.build z4 [(0,1,.c (.str [105,110,111])),(1,1,.t 17),(2,1,.c (.str []))]) (.build z4 [(0,1,.c (.str [107,105,110,100])),(1,1,.t 20),(2,1,.c (.str []))]) (.build z4 [(0,1,.c (.str [110])),(1,1,.t 23),(2,1,.c (.str []))]) (.build z4 [(0,1,.c (.str [109])),(1,1,.t 26),(2,1,.c (.str []))]) (.mv (.c (.en true []))) (.call 38 [.t 47,.c (.str [44])]) (.bin .add (.c (.str [32,110,97,109,101,115,61])) (.t 48)) (.Co (.t 53)) (.build z4 [(0,1,.c (.str [100,97,116,97])),(1,1,.c (.int .i64 0)),(2,1,.t 55)]) Ga
def F9:AC:=w (D 0 0 56 0x898f10bdca107c4397f11acd00b95988850019763c5a8bb2a1bbabe5393f8714052256d58b590f25c3)
def c13:=u 75 4<|(w (D 2 1 1 0x398344fd52815293be5da5da027f9ec7677af9a824c4d48150c2b2de6c1dd58ac2a818bc0b86d80304d8f493276dff8a6895cee3789c21af6cde2a181472f64bb09feb40e1de5a048e5ba248293074b397d6079c47157d38)) (.Co (.t 50)) (.Co (.t 53)) F9
def F8:AC:=(w (D 1 0 30 0xde157d797f33327a04772c542056206eca31a2f6d29dbe0a07787d79c988678bf7d8676ede84d05)) (.seq true [0,0,0] (.t 42) (.t 47))
def F7:AC:=(w (D 1 0 48 0x6a440bf5ac0e04fccf5a9f7979511b5c6c7888ecd94d685346c39d39d2475a478f8e3c1f9bf32d874ec6c)) (.seq true [0,0,0] (.t 60) (.t 65))
def c14:=u 67 4<|(w (D 0 2 1 0x6669d5b3a22e6ada7d77c75e9e0b4d936c57953a8273f85ba027b57e107bb4841f3fbc50878ad265283d0dae6bfb113ed055dc5fe49d725595ff6a19e851b47d4132a650137f4e5460c9f56a4f32d33)) F8 F7
def F0:AC:=(w (D 1 0 14 0x7e279eb7f896a13440f8a2e2598315f48aad053313088164e04)) (.sx .i64 (.t 21) (.t 23) (.t 24))
def Ah:AC:=(w (D 1 0 35 0x18f68f760562bb98078149645893e0181ae636093bbc296ec8111462b3d183b)) (.call 42 [.t 47,.c (.str [45]),.t 48])
def c15:=u 55 2<|(w (D 4 2 0 0xd199a916dde30d61bdc85e487a6e3e5aac144f8351d2e1792f6b4a1b7375c597e31d5ba0bb626399b)) (.J9 .i64) (.OD 108 (.t 9)) (.call 40 [.t 28,.c (.str [47,32,100,105,114,32,49,10])]) (.call 41 [.t 30,.c (.int .i64 1),.c (.str [])]) (.mV [14] [(5,5),(14,25)] [(.exit 0,[])] F0) (.mV [35] [(7,7),(35,50)] [(.exit 2,[])] Ah)
def c16:=u 19 2<|w (D 0 0 0 0x3fc6384f54d6225f67cc1cb37bed32ddd4f96652af63008ee658ad83)
def Cm:AC:=w (D 0 0 10 0x6448f8e0cb63f4386b90174b0cf0f837d4c4f3683df3370d9b90d446cecb2ebdb152a606)
def c18:=u 27 4<|(w (D 0 1 3 0x2b00b483775f8be7bdb70af71e85c8a459379a58401e84bff2299e64805bf)) Cm
def c20:=u 14 4<|w (D 0 0 1 0xabc66f87b26aa076c288fadfb3623c44a1676edb3e5)
def c21:=AF.mk 9 [.cell 2 8 true]<|(w (D 1 0 0 0x4049998dbcae63703a4478d37d84125e8d014)) (.Z2 1 8 (.int .i64 0) (.t 6) (.t 6))
def c22:=AF.mk 4 [.cell 0 3 true]<|w (D 0 0 0 0x142d961d4e06f6be22ebd04779c2ce425bb4)
def Ck:AC:=(w (D 1 0 21 0x41e83146abeabbab59903eee530e6d60e26d2105f4044d1de7fbb9ecbbdd567617e624d01a2b6f045d39b8998e00076431705d3fe96a02feb32ed7a)) (.call 51 [.t 26,.c (.str [61])])
def c23:=AF.mk 47 [.cell 2 2 true]<|(w (D 3 1 1 0x63a10ef7e0e80f0975b67252c9d2ac7dc1c92ff78b4f65a0df20e8d53bdb411da)) (.call 36 [.t 12,.c (.str [32])]) (.DS 1 (.t 14) (.c (.int .i64 0))) (.yQ 1 (.t 18) (some (.c (.int .i64 1))) none none) (.mV [21] [(6,11),(21,45)] [(.exit 0,[])] Ck)
def c24:=u 15 4<|w (D 0 0 1 0xde3ce55a372ceeca1085bdb3ae4de9629f602b6144d953a)
def c25:=u 16 4<|w (D 0 0 1 0x5a18886a5e46e020f95ee87e6d0cdc74aceec294923675625e9124)
def Ag:AC:=(w (D 3 1 12 0x8f96f9cc5a6b12658496e0adc26e13c84ff403d8e0e30a6a509f7f70fa96c60134babe8cdab1d388ca60893f0a)) (.bin .neq (.t 31) (.c (.str []))) (.bin .add (.c (.str [32])) (.t 34)) (.bin .add (.t 35) (.c (.str [61]))) (.qk [(.op (some 20) (.B4 0 (.t 7)) (.op (some 21) (.load 1 false (.t 20)) (.op (some 22) (.bin .add (.c (.str [32])) (.t 21)) (.op (some 23) (.bin .add (.t 22) (.c (.str [61]))) (.op (some 24) (.B4 1 (.t 7)) (.op (some 25) (.load 1 false (.t 24)) (.op (some 26) (.kY 28 [.t 25]) (.op (some 27) (.bin .add (.t 23) (.t 26)) .nil))))))),.op (some 28) (.call 40 [.t 5,.t 27]))] .nil)
def c29:=u 43 4<|(w (D 1 1 3 0x15d6603b3a423ae2f703f1c5efb2ce32c25ed97d5)) (.xg 106 [.kG,.yl]) (.mV [12] [(7,7),(12,41)] [(.exit 0,[])] Ag)
def Cj:AC:=(w (D 1 1 8 0x9457bd8d19068217eee6370fc5cb8f81335d9d9295c4f0a9f7c71)) (.idxs (.t 11) (.t 12)) (.qk [(.op (some 18) (.mv (.t 5)) (.op (some 19) (.bin .shr (.t 18) (.c (.int .u64 4))) (.op (some 20) (.mv (.t 5)) (.op (some 21) (.bin .shr (.t 20) (.c (.int .u64 4))) (.op (some 22) (.bin .add (.t 21) (.c (.int .u8 1))) (.op (some 23) (.GR (.c (.str [48,49,50,51,52,53,54,55,56,57,97,98,99,100,101,102])) (some (.t 19)) (some (.t 22))) (.op (some 24) (.bin .add (.c (.str [37])) (.t 23)) (.op (some 25) (.mv (.t 5)) (.op (some 26) (.bin .and (.t 25) (.c (.int .u8 15))) (.op (some 27) (.mv (.t 5)) (.op (some 28) (.bin .and (.t 27) (.c (.int .u8 15))) (.op (some 29) (.bin .add (.t 28) (.c (.int .u8 1))) (.op (some 30) (.GR (.c (.str [48,49,50,51,52,53,54,55,56,57,97,98,99,100,101,102])) (some (.t 26)) (some (.t 29))) (.op (some 31) (.bin .add (.t 24) (.t 30)) .nil))))))))))))),.op (some 32) (.call 40 [.t 3,.t 31]))] .nil)
def c30:=u 35 2<|(w (D 1 1 1 0xafa17bd421d7ad93c88f9f57f69452aff)) (.xg 106 [.kG,.yl]) (.mV [8] [(4,5),(8,33)] [(.exit 0,[])] Cj)
def c33:=u 3 0<|(w (D 2 0 0 0x7176530434314f4e10d17156284184be90badec67fc67b8b67a73ec91b7dbe4b836a7ed0de3cb1ef4dc9c12a0e1e27c72c991489cb702e1690fce97cfae745f87729778010ef116297ffc9e)) (.mv (.c .me)) (.J9 .i64)
def c34:=AF.mk 8 []<|w (D 0 0 3 0xd04c95b6ea9d6)
def Ci:AC:=w (D 0 0 11 0x3f2cfff0275ecc20599e21f97ccad35e2fa732ad3d43b77dbf8c8401)
def c35:=AF.mk 22 [.cell 4 3 true,.t 5]<|(w (D 0 1 1 0xe999e4b36b613151497e25f6e3375e54d6da1425875f985b3a0362016c9a3f87a372)) Ci
def Ch:AC:=(w (D 10 0 5 0x5e169216935c65fd77f24e9d6e214c5ac113089a0439ed571d0772441880fd649998bc595e6a9d574fc9d866c346bf98284d9e6f9bde4b89d43cc66e3a)) (.idxs (.t 12) (.t 13)) (.bin .eql (.t 15) (.c (.int .u8 37))) (.idxs (.t 24) (.t 26)) (.kY 81 [.c (.str [48,49,50,51,52,53,54,55,56,57,97,98,99,100,101,102]),.t 27]) (.bin .shl (.t 28) (.c (.int .u64 4))) (.idxs (.t 30) (.t 32)) (.kY 81 [.c (.str [48,49,50,51,52,53,54,55,56,57,97,98,99,100,101,102]),.t 33]) (.bin .and (.t 34) (.c (.int .i64 15))) (.bin .or (.t 29) (.t 35)) (.conv .u8 (.t 36))
def c37:=u 46 2<|(w (D 2 1 1 0x903bd017a1d218b5fbe596da08d49f5df5d94d63309e8b)) (.mv (.c (.en true []))) (.Co (.t 44)) Ch
def FY:AC:=w (D 0 0 56 0x2b99ccc88fbef96b1c46ddf6e155de3ad39abe05543ce0dab6f25675ed5a57dbb04cd07387698a564c)
def FX:AC:=w (D 0 0 74 0x304c61ac6cbbef2f020c19ab79eadab9f31b89b71123c453ea17e81c6796d2d6f22ec1afabcb29a99119237ca642c72e75869d13b84aa4e558ea23b07b51099e254721c22546ad38ba026851a1228b00d92e56)
def FW:AC:=(w (D 1 0 111 0x1ef0e5f7a5fb27723eaf9d54c103a721be35c15fdec3ab33e2d6600af61558dae27b659527722ac91ad)) (.seq true [0,0,0] (.t 123) (.t 128))
def c39:=u 130 4<|(w (D 0 3 1 0x4236f1af45e12727066d6af1e5ee0176e2fb01731ff8fa87ae9009d5acf86ea597dd7754be85b61120affa98e639d7af315048f6fa2cfe002aaa778afe794b4f7e9e9dcbf0462bb5c3e0e6b8b09cd2c7832366b9a88039b83ff3a7c8e27c4099dda63293e59336207b21fa1711aee519443a7aae54bfcfb2)) FY FX FW
def Cg:AC:=.seq (.ops (.op (some 19) (.bin .lss (.t 18) (.t 17)) (.nil)))
 (.seq (.cond (.t 19) (.skip) (.exit 0))
 (.seq (.block 1 (.seq (.QL (.ops (.op (some 20) (.DS 3 (.t 16) (.t 18)) (.op (some 21) (.load 3 true (.t 20)) (.op (some 7) (.alloc [.str [],.int .i64 0,.int .i64 0]) (.op none (.store 3 (.t 7) (.t 21)) (.nil)))))) [(7,999)])
 (.seq (.ops (.op (some 22) (.mv (.t 0)) (.op (some 23) (.J8 (.t 22)) (.op (some 24) (.B4 2 (.t 23)) (.op (some 25) (.load 1 false (.t 24)) (.op (some 26) (.B4 1 (.t 7)) (.op (some 27) (.oN 1 false (.t 26)) (.op (some 28) (.uJ .i64 (.agg [.int .i64 0,.int .i64 0,.int .i64 0,.en false [],.en false [],.int .i64 0]) (.t 25) (.t 27)) (.op (some 29) (.mv (.t 2)) (.op (some 30) (.bin .add (.t 29) (.c (.str [47]))) (.op (some 31) (.B4 0 (.t 7)) (.op (some 32) (.oN 1 false (.t 31)) (.op (some 33) (.bin .add (.t 30) (.t 32)) (.op (some 8) (.alloc [.int .i64 0,.int .i64 0,.int .i64 0,.en false [],.en false [],.int .i64 0]) (.op none (.store 6 (.t 8) (.t 28)) (.op (some 9) (.mv (.t 33)) (.nil)))))))))))))))))
 (.seq (.seq (.ops (.op (some 34) (.B4 1 (.t 8)) (.op (some 35) (.load 1 false (.t 34)) (.op (some 36) (.bin .eql (.t 35) (.c (.int .i64 2))) (.nil)))))
 (.cond (.t 36) (.seq (.qk [(.op (some 37) (.mv (.t 0)) (.op (some 38) (.J8 (.t 37)) (.op (some 39) (.B4 0 (.t 38)) (.op (some 40) (.mv (.t 9)) (.op (some 41) (.kY 30 [(.t 40)]) (.op (some 42) (.bin .add (.t 41) (.c (.str [32,100,105,114,32]))) (.op (some 43) (.B4 0 (.t 8)) (.op (some 44) (.load 1 false (.t 43)) (.op (some 45) (.kY 28 [(.t 44)]) (.op (some 46) (.bin .add (.t 42) (.t 45)) (.op (some 47) (.bin .add (.t 46) (.c (.str [10]))) (.nil))))))))))),.op (some 48) (.call 40 [(.t 39),(.t 47)]))] (.nil))
 (.seq (.ops (.op (some 49) (.mv (.t 0)) (.op (some 50) (.B4 0 (.t 8)) (.op (some 51) (.load 1 false (.t 50)) (.op (some 52) (.mv (.t 9)) (.op (some 53) (.call 41 [(.t 49),(.t 51),(.t 52)]) (.nil)))))))
 (.exit 1))) (.skip)))
 (.qk [(.op (some 54) (.mv (.t 0)) (.op (some 55) (.mv (.t 9)) (.op (some 56) (.kY 30 [(.t 55)]) (.op (some 57) (.load 6 true (.t 8)) (.nil)))),.op (some 58) (.call 42 [(.t 54),(.t 56),(.t 57)]))] (.nil))))))
 (.ops (.op (some 59) (.bin .add (.t 18) (.c (.int .i64 1))) (.op (some 18) (.mv (.t 59)) (.nil))))))
def GC:=AF.mk 60 []<|(w (D 2 1 9 0x4c1ebe0cd09fe41a0f486e)) (.uJ .i64 z5 (.t 13) (.t 14)) (.WO 4 1 false (.t 15)) (.mV [18] [(7,9),(18,59)] [(.exit 0,[])] Cg)
def c42:=AF.mk 27 []<|(w (D 0 1 4 0x112d1dc)) (.qk [(.op (some 6) (.mv (.t 0)) (.op (some 7) (.J8 (.t 6)) (.op (some 8) (.B4 0 (.t 7)) (.op (some 9) (.mv (.t 1)) (.op (some 10) (.bin .add (.t 9) (.c (.str [32,102,105,108,101,32]))) (.op (some 11) (.B4 0 (.t 5)) (.op (some 12) (.oN 1 false (.t 11)) (.op (some 13) (.kY 28 [.t 12]) (.op (some 14) (.bin .add (.t 10) (.t 13)) (.op (some 15) (.B4 2 (.t 5)) (.op (some 16) (.oN 1 false (.t 15)) (.op (some 17) (.build [.str [],.int .i64 0,.str []] [(0,1,.c (.str [108,105,110,107,115])),(1,1,.t 16),(2,1,.c (.str []))]) (.op (some 18) (.B4 3 (.t 5)) (.op (some 19) (.oN 1 false (.t 18)) (.op (some 20) (.Co (.t 19)) (.op (some 21) (.kY 30 [.t 20]) (.op (some 22) (.build [.str [],.int .i64 0,.str []] [(0,1,.c (.str [100,97,116,97])),(1,1,.c (.int .i64 0)),(2,1,.t 21)]) (.op (some 23) (.Pg 3 (.agg [.str [],.int .i64 0,.str []]) 2 [(0,.t 17),(1,.t 22)]) (.op (some 24) (.kY 29 [.t 14,.t 23]) (.op (some 25) (.bin .add (.t 24) (.c (.str [10]))) .nil))))))))))))))))))),.op (some 26) (.call 40 [.t 8,.t 25]))] .nil)
def c46:=u 45 4<|(w (D 2 0 1 0x16e756900057c4b5f799d44a2136208b9f25a80f6dafea27504205e11108bd6c98403394d1c58ff9f6e08ef371d59ef6c82662c2702936e71c293c7)) (.Co (.t 33)) (.Co (.t 36))
def c48:=AF.mk 59 [.cell 2 17 true,.t 3]<|(w (D 6 0 1 0x8bdf9d37c6c9d647e467506bb6ef7462de35a8bfde7d303dfc1b98ce52464c7ec03ef2ed25c27f12f84d65ffdd064c813e1bb2c439426e8c188df1fcd89a7466e88e22a9ee893730b49a3208d6e73130cf0126261056f344f9d7be6e7f752985e3c3e689e2adf5b4126978f4b811cfc1bc2a09ac0ad4da9118477074ab222b961408d26c7)) (.call 51 [.t 15,.c (.str [58,32])]) (.call 51 [.t 21,.c (.str [32])]) (.bin .eql (.t 33) (.c (.str [98,101,103,105,110]))) (.store 1 (.t 37) (.c (.int .i64 1))) (.bin .eql (.t 33) (.c (.str [101,110,100]))) (.store 1 (.t 46) (.c (.int .i64 2)))
def akS:AC:=(w (D 0 2 8 0x39c2a2b59b47eb9670595a1d7b10e868a84c65eec627e66f8f541114000d8abac8d9c66c144c504)) (.qk [(.op (some 16) (.B4 1 (.t 5)) (.op (some 17) (.load 1 false (.t 16)) (.op (some 18) (.kY 28 [.t 17]) (.op (some 19) (.bin .add (.c (.str [98,101,103,105,110,32])) (.t 18)) (.op (some 20) (.bin .add (.t 19) (.c (.str [58,32]))) (.op (some 21) (.B4 2 (.t 5)) (.op (some 22) (.load 8 true (.t 21)) (.op (some 23) (.kY 9 [.t 22]) (.op (some 24) (.bin .add (.t 20) (.t 23)) (.op (some 25) (.bin .add (.t 24) (.c (.str [10]))) .nil))))))))),.op (some 26) (.call 40 [.t 3,.t 25]))] .nil) (.qk [(.op (some 29) (.B4 1 (.t 5)) (.op (some 30) (.load 1 false (.t 29)) (.op (some 31) (.kY 28 [.t 30]) (.op (some 32) (.bin .add (.c (.str [101,110,100,32])) (.t 31)) (.op (some 33) (.bin .add (.t 32) (.c (.str [58,32]))) (.op (some 34) (.B4 10 (.t 5)) (.op (some 35) (.load 7 true (.t 34)) (.op (some 36) (.kY 12 [.t 35]) (.op (some 37) (.bin .add (.t 33) (.t 36)) (.op (some 38) (.bin .add (.t 37) (.c (.str [10]))) .nil))))))))),.op (some 39) (.call 40 [.t 3,.t 38]))] .nil)
def c49:=u 42 2<|(w (D 1 1 1 0xea2ca51ad7ca419ba84624f2d54d4e09)) (.xg 106 [.kG,.yl]) (.mV [8] [(5,5),(8,40)] [(.exit 0,[])] akS)
def ae1:AC:=(w (D 2 0 22 0x4a63f0c22417c7fcad4cff9c3fc193095a1a08e6bf78ab4b09bacad33d5bfda)) (.bin .shl (.c (.int .u64 1)) (.t 31)) (.bin .or (.t 30) (.t 32))
def ae0:AC:=(w (D 2 0 47 0x2d4c5c1ab9c9ff927cd389950c5314d19ef9f3fb8cb14b73878ebe8ef5fc1833d7b9dbfc0b1f1f2013dba5888cd87)) (.bin .shl (.c (.int .u64 1)) (.t 66)) (.bin .or (.t 65) (.t 67))
def aeZ:AC:=(w (D 0 1 40 0x4a20a2180fcc7d8df1051ecd87da5237c42f897636070d39969dd8dd8ecd40ff4ff454f9a610)) ae0
def c50:=AF.mk 79 [.t 4,.t 5]<|(w (D 3 2 1 0x718c7b08666f6c0cb39c65f3e7e20e35277521ca13e34a253605d94859a1b75794c619919658258bae2fac4f76f8c4948d5d6e79c09c7c17d9369d648fc08cc472a34e695332d9aace10dc4a895930c42a2e48a5cf87b30fdd0e7d9dcd2c75c453e3d4444e28355a)) (.Z2 1 8 (.int .u64 0) (.t 36) (.t 36)) (.J9 .u64) (.jS (.t 74) [.t 75,.c (.int .u64 0)]) ae1 aeZ
def Tw:=u 24 2<|(w (D 7 0 1 0x42b9120a531f17c6ad6f9a7a855b98f5738f09bbbf08d)) (.bin .or (.t 3) (.c (.int .u8 32))) (.bin .geq (.t 4) (.c (.int .u8 97))) (.bin .or (.t 7) (.c (.int .u8 32))) (.bin .leq (.t 8) (.c (.int .u8 122))) (.bin .geq (.t 12) (.c (.int .u8 48))) (.bin .leq (.t 15) (.c (.int .u8 57))) (.call 81 [.c (.str [47,46,95,45]),.t 20])
def c62:=AF.mk 18 []<|w (D 0 0 2 0x2b10a361b039f0e77ecfa8dcd1b24e3014afeea6784791eb763dcba7875e91)
def c63:=AF.mk 55 []<|w (D 0 0 7 0x27d596ac24f9e69da77c62ad92dcd4afda7726c64722c089ccc0a1c4f4c5ed8da0a0e855f85ced2e1b75f40b588a51ec1fbd2b886fad3150784645f3ffceec41f7c6f0059e40bea81d209320a9c08d9b9ca72d928d047d8908631f)
def XX:=AF.mk 54 []<|w (D 0 0 6 0x49afd7bbc2cb98f753846df197d1e70ab91428a5cfa5660cc8f7f9f0696e2cf7ea32cac7e0932cc6658a99f1e1a279e5df2443b222a33f4d7fe55d3e5232ba6a7c8c44b4fe3ae540643d9a8551d4067298c5be3a1435944c8d)
def c65:=AF.mk 45 []<|w (D 0 0 7 0xbc2c1a6f77cfb5db7d23475ed47e5add2aaf8c2caeebed3474fe7a38e021d7ff10ea13acd0ea1ea8143afd8544f40b020375963d3b56d3581d0eaeb47b977a620e4285f5a9e3241)
def Tu:=AF.mk 74 []<|w (D 0 0 10 0x3babd558d2ed99cdfe06a26fd05f866dd4289f5cd9d6ff9ded54973f336bde003ec57d279d1d22d6d1fed20444f93c90e17608c002850ba73dcd3af042100e814a8093b473f90b46dee28e4017c43f5053556f72dac33b18ea40a0e5ae6c4802e48e1bfe5028a68423ba85b48665e0ccedc3a627db46209c6460618166cab3)
def c67:=AF.mk 45 []<|w (D 0 0 5 0x97cb41c42f40a9f395cca960ae6f39ebdba33190e5e72eaca24716b3a9e5ef21bcc634ded79ed6c5fefbde9f049879c3b48457a95924dd28f248f483dfb285e529b50acfa6a007305e)
def c68:=AF.mk 22 []<|w (D 0 0 2 0xf94f1bdd1f9eed62a8be072021708ff07d57068d7a5e76ae9903ee93d9f324ee9cf2c88054628235)
def c69:=AF.mk 52 []<|w (D 0 0 4 0xc87324d76c68a5db03fd770c4500081fb8f87a6209fcf3a12aa5e3b83176ae08eff781036fa0801bc628f77c23e1942c4b7253c8b4d8585fbb8538a5eda003e57f779e9fe55548a77a8d6dd281e9a2d74e6)
def c70:=AF.mk 49 []<|w (D 0 0 5 0x21516a6d5c0b20f76e0048f61f5885f844f32ace8d0f5b3daf50386ea3a1d27f757024cb5c8445160fb4b63f9e85e8c9362d1a8844e9d090975bcd28bb8417a40ba768f30072312f02)
def c71:=AF.mk 50 []<|(w (D 5 0 3 0x10df70c460848632b3ccd13b9115929c21f6eaa9e5c126e6f8adfb824cc037becc11018a6e5d83ee1e2ac50be93b8c58a6666dae71713ee83012961e6379e1a50efd0f26a24b1096038)) (.mm false [.t 27,.t 30]) (.yQ 1 (.t 22) (some (.t 31)) none none) (.mm false [.t 41,.t 43]) (.yQ 1 (.t 36) none (some (.t 44)) none) (.s5 129 [.t 45])
def c72:=AF.mk 64 []<|(w (D 4 0 4 0xa7dbdb2b1d9ba5690a50628dc699384e1b8944f8efee02ea969802e4fb6d3b2dcd9b7b307cf20a120583385df6568a05bb766c48a7987f3a794ae6a1628f764d34619b8e4d54af1d24942dc58f29b0ed2c51199779144fbf11ba3efcdfe04fefa)) (.mm true [.t 43,.c (.int .i64 0)]) (.OP 1 1 (.int .u8 0) (.t 39) (.t 44)) (.yQ 1 (.t 46) (some (.t 51)) none none) (.copy 1 (.t 52) (.t 57))
def c73:=AF.mk 21 []<|(w (D 2 0 2 0x1234682f3cd9b9f1580d5cb0ad9916ef1053b713cf95419f181116bf9050)) (.mm false [.t 14,.t 17]) (.yQ 1 (.t 9) none (some (.t 18)) none)
def c74:=AF.mk 56 []<|w (D 0 0 4 0xabe790e4fbab5610d492c80e2b9d69076f39bc5a57ad5b0e983a66959e114c250431056de579c065b3fdac8fe844a54432943f8bf7fd49b525ae8464bf8bc4773c0a41b05cb3191444032fd5c1685c6945d631fd3ed)
def c75:=AF.mk 37 []<|w (D 0 0 5 0xc47e69ed25f54111448c32ece6647031ca89aa963961a76cb5f8a181b831cfe147d79b16f2241792b574ca034d57c3e74791c67b07418b4285b0101fb2e1d297ef5)
def FV:AC:=(w (D 1 0 44 0xc2d83fbd1ff2dfb872167c2ba080125398b2a09b1dca18cf)) (.sx .i64 (.t 48) (.t 50) (.t 51))
def Ae:AC:=(w (D 1 0 58 0x6779a22a13d9e2b34b17b9a84403b254d5ac8aa8443c0a2eb681f6c6b4afd70f8096c1012bc2915fd2f8658864f33c5a73500cfac8c6227)) (.uJ .i64 z5 (.t 73) (.t 79))
def c76:=AF.mk 99 []<|(w (D 2 2 13 0x70e9ceb192968124af2fd1603605d16783ac3e2b47eb3bce8d5c0d0c005bee7c19a176a3964ed44a23fcf2962738b766a6a1bf232cacc08483fce759e9090c125e3b580c84f2bce0ce45f9b2b7411c3ed8b4ff84e7d923378e944cd744b297f2635a523354d948f384634a5757e29c08999cc307cf42ddbe78da6eed827a007fee26ccdae75e42c)) (.J9 .i64) (.uJ .i64 z5 (.t 53) (.t 54)) FV Ae
def c77:=AF.mk 25 []<|w (D 0 0 4 0x2f67bbc747c1e57d75c904e31ca08556a645c9a8ce9fb17780023602827e32edf2ebd16410426771830)
def c78:=AF.mk 40 []<|w (D 0 0 4 0x8ba22695fb2f61932ca70aa0c877e831ec503b04eab4787f3a3d7a24f38e855938c868d9acdb9025f73edb21d04ba610b3a7f8f219183a20)
def c79:=AF.mk 6 []<|(w (D 0 1 1 0x39ac89f58)) (.qk [(.op (some 4) (.mv (.t 0)) (.op (some 5) (.SK 41 (.t 4)) .nil),.mD (.t 5))] .nil)
def c81:=u 8 4<|w (D 0 0 3 0x58066ebcf6b33d0a4)
def aiH:okF Tryz.prog 81 c81=true:=ai
def c83:=u 24 4<|w (D 0 0 1 0x9548ed489ac51d17024926c57386f716c947043881a39d4f2ec9f075f48)
def xO:AC:=(w (D 1 0 10 0x425baf14ed9e8893e31ba8209a8af2bab82856704093c6943e67f75b54d109e9)) (.seq true [1,0,0] (.t 20) (.t 24))
def c95:=u 26 4<|(w (D 0 1 3 0x2b00b483775f8be7bdaabca13b2f884cacdbd195274a44be59e44e102c53d)) xO
def aeY:AC:=(w (D 2 0 10 0x55df191b9f529adfa09fb88525bc4b74c1595b23bcb34c57e4234014fe6fafa1b31420058f8ed5e9adec907382399cb1a0e090ac6d755700eedf573f43d1b717)) (.sx .i64 (.t 18) (.t 20) (.t 22)) (.uJ .i64 (.int .i64 0) (.t 29) (.t 31))
def c97:=u 38 2<|(w (D 2 1 1 0xba9154b135fcb540b9d5216744c83be9b13aba5ab72066b69d5e2832855ff964)) (.mv (.c (.en true []))) (.J9 .i64) aeY
def aeX:AC:=(w (D 6 1 28 0x1e56efb7141cbc6249c5f7b7be6b15996bd13841fc4abe898cf75feb19c378edc2d20fd198427d7d08eb64105890339240eb41e36a833b34a42a3f47b4207c18fba07064ba3328c869961381834dbb9195705fe57361c2fe4c67da45c0755ca82d4ecbebe5fe94f22272cfd056d0bdcef6f146d0cae1556cf662c2d9175)) (.bin .shr (.t 33) (.t 34)) (.bin .and (.t 35) (.c (.int .u64 1))) (.bin .eql (.t 36) (.c (.int .u64 1))) (.bin .andNot (.t 42) (.t 43)) (.bin .neq (.t 44) (.c (.int .u64 0))) (.yQ 1 (.t 84) none (some (.t 87)) none) (.qk [(.op (some 77) (.load 1 false (.t 8)) (.op (some 78) (.load 10 true (.t 14)) (.op (some 79) (.mv (.t 1)) (.op (some 80) (.mv (.t 12)) (.op (some 81) (.bin .shl (.c (.int .u64 1)) (.t 80)) (.op (some 82) (.bin .or (.t 79) (.t 81)) .nil))))),.op (some 83) (.jS (.t 77) [.t 78,.t 82]))] .nil)
def c98:=u 98 11<|(w (D 5 1 8 0x3cb57a1c837e2c78c634f78116978ecc229ef61950bc788fb1638afd0301214f05fbd4ac8b05be458e8f990c5536bf05606e1c2bb0362be29233bd9fdd)) (.bin .and (.t 16) (.t 17)) (.uJ .u64 (.en true []) (.t 21) (.t 22)) (.qn 1 false 3) (.uJ .u64 (.en true []) (.t 92) (.t 93)) (.sx .u64 (.t 90) (.t 91) (.t 97)) (.mV [28] [(11,15),(28,89)] [(.exit 0,[]),(.ret,[11])] aeX)
def c99:=u 9 4<|w (D 0 0 3 0xc587cfbd714547b53ab)
def aj3:=u 7 3<|w (D 0 0 1 0x3fc06f27458e9473378bda9bcac)
def aj2:=u 67 4<|(w (D 1 0 1 0x10071f0f084595e15b684d55e28f32d58c3c016b4baba37302aa4f0dffc79b11b330b9d8c545e069c1698bf981971b59d0afbc5b5b9349ab3651701876e7654cb8592f0df9e7d02280bf0365f23cd9bbba52134b2d0eebfcc3ec51752d01feedb259eb12e185a4)) (.mv (.c (.fn (.func 169) [] [])))
def aj1:=u 52 4<|w (D 0 0 1 0x7b56bfc2227b1d8b728afba0c4fefd6ba4a2f0fac706e6de6f2c9888d1cbb966afeae588a08562ccc78e1df01d1ae9e482984a354659a7a1c5b583faa64bf26a3)
def c109:=u 18 4<|(w (D 1 0 3 0x5543dca1cfc7c55b55368b25627f0451e6f43f)) (.GR (.t 11) none (some (.t 13)))
def acK:okF Tryz.prog 109 c109=true:=ai
def RH:=AF.mk 23 [.cell 4 6 true]<|w (D 0 0 3 0x83714d8ff8ba1842a196b702afc3831d001969a75ae266094d0b4ec05005d9)
def Oy:=AF.mk 33 [.t 4,.t 5]<|w (D 0 0 3 0x24cb38566980482568721371e8225e3d714501aef6982f07c8adb5b41b0837f03538baa652423f017a0d3f8e217152959c5cb)
def c116:=AF.mk 83 [.cell 8 3 true,.t 9,.t 10]<|w (D 0 0 3 0x3ae1675649b3e4e5e168ee29f952e9f0579e7c6d3e32f9c0c1f6defae1a9529b76d7f6cd4617d9f5aba0b58a3d1323ca4823c77a3e8c0455ad490c2691a3471211fee05f2ed9d5c36638e5e0eb54438eba7ab8621861d8488f38a7c43906e8c61c6f2ede77bb90a5b12c8ae63dd9e908c422a27b8501f28d8638a8ec20f170912ccca8c573d6acc44cc8067fbd)
def xd:AC:=w (D 0 0 15 0x1380d1e8c67b24c240868e8cbbf87f01ee0fed51ad4013aa645f8191b3ee9108f05aa3ab351076d89bb0c4ee1)
def uU:AC:=w (D 0 0 44 0x65ed66e1857c610e7627df6a84e04f97eb14f37f367f9fe2b7463b865a5b2da6705a05318a0f7611c0363e4e7ed3155e5ac8d)
def c117:=AF.mk 83 []<|(w (D 0 2 3 0x14489672218ea3fcf1099be353b55e6d063d757dec154bd394bbdd454fc45935484c0dfd4494d5a21f266d01b60079c7fd160c6b0bbf0df9915e8c4da19985c23af1581d5b2c13b0bf3702009e657e4d69800e143f6158c)) xd uU
def KZ:=AF.mk 66 [.cell 8 3 true,.t 9]<|w (D 0 0 3 0x1d70a74aebf4091c08ac11023a8dd9ef030d5b24b049f4d2b6c6d6701b67bf1a00be38bce46f4d59d43e417e2b83c95cb2999256a8550679321183344a0453afcbcb5e8ad6c120b88c0e461f73b99fabaa6998cb719dc2a031c4821d89c483a176856c97cc98bca374adfa1bbaeb9306cf1f67a8b5751)
def c119:=AF.mk 51 [.cell 6 3 true,.t 7,.t 8]<|w (D 0 0 2 0x1dfdb3d1485f9ee1c817c079a01e38c459ab21a20b571a5e78b0c7c4ffcaf2ce2328caf0ffc6029a49254942bfe9e5f556d877b493ee9d1ac4d95a56545354698fa3dfc47cb7ad8784b2d8ad55b4c738a7306bcf498ab632c45a41b51125)
def Ox:=AF.mk 40 [.t 6,.t 7]<|w (D 0 0 2 0x3c70e15f33226aa9976d78e48ac1c968f41853c99a987a6f84b063b4de62d943ec670816c8c55f178875e216a2cdf48923039f8c810927b03893689345611b83064ce1734b81c9606bec89)
def uT:=AF.mk 173 [.cell 10 3 true,.t 11,.t 12]<|w (D 0 0 4 0x12f185f4ca3ace4a5040be36af06152e8b03d1acbd638827435151b91f9d7296b00c7b2ad470dda1444675be4891cc1b70b81e8be4253d20ff9e23944165f088b8f094bc070727851183a7650f75fc028158dca626d831d1935e60dffe4b5592f6b3df08453fd15bbf24f22bec8369b3b51a6c5af76cb6ab0f7320f38f60f39dec08832fb3aa7601743666c4af8aa3b5386055de7a8216e62824d5467ebe7fff8c5cb359469c926017c0ae895e76c45a9e55794f747fd8ce3490d80ee8f6a644002e1fd24c3afc408956b060ad73e4615780b7e7ba3a46bcf3be53291465dda6efda28712c79fe05bdab6f97b981b2e40b11e5760b9e6afc6a3ef2f56b97273d5a550c72e867caa4ded29f2f32d623a1ac8114db266cc78828f0de0c1da5bafb1d1197946082336037a234e47f7fb7bfb64ffbbb3a627266f26856b1596d484921b239b646d49ca8093209230f6691274)
def HY:=AF.mk 58 [.t 8,.t 9,.t 10]<|(w (D 2 0 3 0x2a5f5336001ffc3f00a101945b736ec6b911b1084193d2ece3d6885cd5dcb47d0cb389fb5c55465be11bb52a0755e35e24334172ae2601a6412ccfafac81c0e92b55e73c3b5ee08cc22b8aaea57b74f49facf93a3905d3e66cd425a8b08d51df9bbeaf19c799ef401230a4)) (.call 215 [.t 40,.c (.fn (.func 216) [] [])]) (.yQ 3 (.t 47) none (some (.t 48)) (some (.t 49)))
def Ai:AC:=w (D 0 0 8 0x11a7c4d16208e03129c203a9eca9354d8b12ca697b10c57b056b5539)
def afC:=u 19 2<|(w (D 1 1 1 0xe1f671690bcab1452ef90c5e04d5d66b804ed5e2c7e7ea89793e2a5d47)) (.mv (.c (.en true []))) Ai
def c124:=u 10 2<|(w (D 1 0 0 0xa1239cbbcc807b88d7a1d0c43)) (.mm true [.t 5,.t 8])
def Gf:=AF.mk 68 [.t 10,.t 11]<|(w (D 1 0 4 0x4472eaf42772ddc6530aefed835396d4ec4f10c0a8591f1ac92bdf7b8feaab0d7f0800646f145882f20b3c134980846ff052cb7f911882b42aa83009485e3364decf9be84aeb25a47e0cd832d4eee79f40267095d0a022abf3ecc7b61f13751649416b50791acc6c701596f6c9d3cdf9599d45875ccb6079632b7abdc44b4ace17b194b9b0ae30327699303489d1409d2e7)) (.Hi (.func 220) [.t 33] [])
def KY:=AF.mk 62 [.cell 8 3 true,.t 9,.t 10]<|(w (D 1 0 3 0x7d1c10040b0b4be645a306c04c32f4bbee2b998b52b04629bc985578c2c095bccf4f6ca28f499c5617a3e9c2b48a2c586efa0fb133d3e542f66ef5847aed1f48256870bf582580c2f019f98b33c7e980781c7bcabf64469e7440432c6517431feda0da66e0c35c9698b47f)) (.Hi (.func 225) [.t 19] [])
def rq:AC:=w (D 0 0 34 0x7c297fc82351de20acbf0fd95e0c8079d8732eac6e627ed7a2afaa274e147a32de6b2c3dd1f3eda69afc80a3250a0029e7025a992e1daca1a8608af5a2bfcdbd8300306f4f486d3532f1440123576cd2a64ccecb9766742d6067d518a021ba7)
def pT:AC:=w (D 0 0 86 0x26d6a3458637cb9b2ae7e54fd0cd6fe75c6d178f533d14324a43b2056da5d3931e9e656dcbea0d6dcf4590e089c52e31dd0c3fa6a1370b807a0749adcd603a694b29938f6e2)
def c127:=AF.mk 123 [.cell 4 8 true]<|(w (D 1 2 1 0x9173182acf12277514d62c7957fff19070a349fa7d9d62ff50230c191a639d9109a1c2975b9883937d3168f968f2bc37215f5b273b7fed698dca83815c242c34a8de7aaa96f4b76d720902bc0)) (.o8 228 [.t 23]) (.mV [34] [(6,8),(34,82)] [(.exit 0,[])] rq) (.mV [86] [(10,12),(86,121)] [(.exit 2,[])] pT)
def Ow:=AF.mk 36 [.cell 2 6 true]<|w (D 0 0 1 0x7f5d0afc7b8475aaa608472f88cdda68738288a7e9d7dd47c9c973f4087c19b483b7b8fa2149d7fb1dd8188815dd7e2b62ca5033793a7)
def c130:=AF.mk 37 []<|w (D 0 0 8 0x4e83a04566ffcc0bfcabc212e0eac24066247f32cbe96abfe7cfc95efaf64ade428d159fc11dcbb1888f5b9516fa0c157cdb5783ddb)
def c131:=AF.mk 88 [.t 10,.t 11]<|(w (D 1 0 4 0x4ab2074402b6812a875215a10589ed42b755d586fd6798e1adb90856ac2cbee15983c3234614dc9247343389a057d7005fca24fa3b43b2be2a3c3809701979cd3d598d9f8e2a1984f82ca11f734dd2ed7434be7818863a78bacbb0ac2a5352f6a60cfda1c7d40cf3d383680bd8420982664921bbeb8bb7b6a8dc5b72ea98d6d4ac6f0d5e89757a45de8a10c0e824be8cb565ad0e818fcd6d7eac89df7ed8eb3f1050a92db83b264383e24e801adf21bd16d81cd4e0)) (.o8 197 [.t 82])
def KX:=AF.mk 56 [.cell 4 8 true,.t 5,.t 6]<|(w (D 1 0 1 0x10d2a322498d08a7be85a4d771fa2a8c0dbb78286d43e2d579a6429c438144e60ef5de385043edc907a159d2a02f19a31388fc5163ff550b561b7f2104325fc92004fcd7a91e652fa11d6bf96c9223dd242888556f3087994e4572ec43aba04599717121d74947550f05b18826ec00afd1da87eb3f9f788eaf6665eaf05443a72b3a72)) (.o8 237 [.t 40])
def xb:AC:=w (D 0 0 14 0x63467532956846cedc6802f2199d40e20c37aea36517b3083d162a23c03e6aa3319135b10252289486fbeceac7c)
def afB:=AF.mk 32 [.t 4,.t 5,.t 6]<|(w (D 0 1 1 0x3e32e81f3fc407fd766fffb437a4898c010796966541f654119994dd50e91024329352950)) xb
def YB:AC:=w (D 0 0 8 0x23963c17ec5f30664576d4bfeca3f1e4ac73f9236ab75ca)
def afA:=u 19 4<|(w (D 0 1 3 0x5664cd0db076177554bd126b13cca8953311bb638832)) YB
def afz:=u 8 3<|w (D 0 0 1 0x2d1cda6f3c47e57dd259e)
def RG:=AF.mk 26 [.cell 4 8 true,.t 5]<|w (D 0 0 1 0xa2b0bbaa3bc98c5ede10dbce54602b64fe88db1ad214ee25d3e4b9e1901d91ec352f943373a62ee4836f6a60663f35c312b2ef308250ea13dfa97c336dc524d0)
def w9:AC:=w (D 0 0 12 0x6a7c858babddd16931c279dd12ce7bef71b934f1760a8c798a1c4c273f37b46d7ca237c28a68fb317cc532c80b1)
def c138:=AF.mk 33 [.cell 6 3 true,.t 7]<|(w (D 0 1 2 0xcdf0b4cc7ecf7878009b2f99a67b57e0223fd113a56d802b2862db9618b075ce18)) w9
def YA:AC:=w (D 0 0 8 0x20002b892f2fd9ddf19a58db0096e7fff5173c03a050b8474175)
def c168:=u 19 4<|(w (D 0 1 3 0x5664cd0db076177554bd126b13cca8953311bb638832)) YA
def aj0:=u 28 4<|w (D 0 0 1 0xc43617c274de220ce8ae96d9ef562c87fd4d8e1c1044884ccc55b361b23fac7b1ee793f42d7bd7860d)
def RF:=u 26 4<|(w (D 1 0 1 0x9d9d0b454a1f4585cf65241802edd6351ca87c167a4a5be0822aef4b7c7451382)) (.mv (.c (.fn (.func 273) [] [])))
def Yz:AC:=w (D 0 0 13 0x242739ab570022152e63e51c7c91f33514c23cbf408fca57c02)
def c171:=u 26 4<|(w (D 0 1 3 0x3bab112cbe2ab094a6f3cb42744ec6641568903a5dc6ed2532041cc156b4d58e)) Yz
def Yy:AC:=w (D 0 0 17 0x2a0e20686d338af4e8c1a5ff53103062ae04e42fb215ba3a4faf4618fab8157132abbef15277f5058b22d92bbeede9b841e29947)
def ajZ:=u 32 6<|(w (D 0 1 5 0xb473a72330c6bce6c2722e2beba45a188dc2acb86f06405f979ed6242f0e1cad)) Yy
def Yx:AC:=(w (D 1 0 13 0x2dcc26a446a188e55ffe4d24af7d6dab2543c48322a53a3f4a)) (.seq true [0,0,0] (.t 19) (.t 23))
def c173:=u 26 4<|(w (D 0 1 3 0x3bab112cbe2ab094a6f3cb42744ec6641568903a5dc6ed2532041cc156b4d58e)) Yx
def Yw:AC:=(w (D 1 0 13 0x2dcc26a446a188e55ffe4d24af7d6dab2543c48322a53a3f4a)) (.seq true [0,0,0] (.t 19) (.t 23))
def ajY:=u 26 4<|(w (D 0 1 3 0x3bab112cbe2ab094a6f3cb42744ec6641568903a5dc6ed2532041cc156b4d58e)) Yw
def Yv:AC:=(w (D 1 0 13 0x2dcc26a446a188e55ffe4d24af7d6dab2543c48322a53a3f4a)) (.seq true [0,0,0] (.t 19) (.t 23))
def c175:=u 26 4<|(w (D 0 1 3 0x3bab112cbe2ab094a6f3cb42744ec6641568903a5dc6ed2532041cc156b4d58e)) Yv
def Yu:AC:=w (D 0 0 13 0x242739ab570022152e63e51c7c91f33514c23cbf408fca57c02)
def ajX:=u 26 4<|(w (D 0 1 3 0x3bab112cbe2ab094a6f3cb42744ec6641568903a5dc6ed2532041cc156b4d58e)) Yu
def Yt:AC:=w (D 0 0 13 0x242739ab570022152e63e51c7c91f33514c23cbf408fca57c02)
def ajW:=u 26 4<|(w (D 0 1 3 0x3bab112cbe2ab094a6f3cb42744ec6641568903a5dc6ed2532041cc156b4d58e)) Yt
def w8:AC:=w (D 0 0 21 0x3ed71174d2b3d541c1eab5fe68c0aa05db8b7551a5588e6e9ec307d2a37f722d4f587919c3)
def Ys:=AF.mk 37 [.t 4,.t 5]<|(w (D 0 1 1 0x72e6fadd3d5a858732c1ffc8b3e21e5c243b90201ae92df99b17b9658618e256996d9467f9b21afbb5a1148c5b86d635571b1291b63896)) w8
def afy:=AF.mk 19 [.cell 4 6 true]<|w (D 0 0 3 0x6c1d85af26d09c2ce6bcfe502b0300217075cd4829f9ed3bee6)
def RE:=AF.mk 31 [.t 2,.t 3,.t 4]<|(w (D 1 0 1 0xbce6895948ed39468d97ed4ded65f758131249ae6a315708bf1ad160ad0b9d6f93e6bdac16ecf36f21ddc185f078f8deed3fcd3)) (.yQ 1 (.t 27) none (some (.t 28)) none)
def FZ:=u 48 6<|w (D 0 0 5 0x7c63ec3e195fbd59b35d3255eff891850550512c9f170bbae84ebbbfb3807806af68c8d0c5e00e5a69b17fd5c8d71849badcf127468837ff307e0505e9e454e0943ef27ceee71f6457e6a51052ba4847d808)
def Yr:=AF.mk 45 []<|w (D 0 0 2 0xc2e7a1e77bb91da15582be137bcaf2f9c1d14f6fc85059030d0a758ec122e1729cb686fd2114ad3e15124b1d192cad5929541a3eb075cd020afc351a700f2e6903)
def afx:=AF.mk 51 []<|(w (D 1 0 12 0x1845b7a8f206b57c4a85202b81d8a0ef78556c2e56eb8fc6580c97583c69291243fc442d5b93167013be6443fcb72c3bc3af3c5922d9036f0239f53a1f0721a49f6627b664c5985423f21cb63)) (.o8 213 [.t 25])
def w6:AC:=w (D 0 0 9 0x6f595bf3633c4522af48ed524019cdd7d14827142c5fca94e05f402ed9a1581)
def afw:=u 22 2<|(w (D 1 1 0 0x39c86373bbad99ec7131a6bc621a2a76dbebd67df7c76214beee1c0fe1d2a0de)) (.mv (.c (.en true []))) w6
def c193:=u 9 4<|w (D 0 0 3 0xc587cfbd7beb8a4ca4e)
def c194:=u 8 3<|w (D 0 0 1 0x9cf0ff1e0430ea03c5f79)
def Ou:=AF.mk 39 [.cell 4 3 true,.t 5]<|w (D 0 0 1 0xcc6f14dd175b6c89670e1af82e5c048bfbc6e86a42a771bd65c06951bfd2e83e3516a68ca58f90f67ad02a2fa8c24e12e92d70937a39a635820e2750bf03ab0a5146adc8e7c5ca426272b76fbb615ca55f30731e)
def Yq:AC:=w (D 0 0 15 0x11a11b43a675df5947ea5f5bb6503f7e1472a907393dcaae8445a4e21db4d768dd821388378f40718e8145ce1623da)
def c196:=u 42 4<|(w (D 3 1 3 0x11ace52478a41949062cd93d57f9d6958a0426529d9f0643f0b674517193a60bed99e52d7d3e419555a861a)) (.yQ 3 (.t 36) (some (.t 37)) none none) (.XH 3 z7 (.t 38)) (.yQ 3 (.t 39) none (some (.t 40)) none) Yq
def c198:=u 15 3<|w (D 0 0 1 0x77a1fe975e64cfd09af03657d336c62baf7b3446a0848ac9)
def Yp:=AF.mk 13 [.cell 4 6 true,.t 5]<|w (D 0 0 1 0x2058b58effca0f059dd4deb658a794239003b4b4)
def tc:AC:=(w (D 2 0 35 0xc6813998e20c2ecb815c232c46b9a4b34b9b7bea3178e4a02c8cc73b25f411d59bc976c26859c84b712461d0f126eae85d9bfb37ec1fe04f63c9acc56666f9ad9b2f9959c4b1ed)) (.rG .i64 (.int .i64 0) (.t 47) (.t 49)) (.sx .i64 (.t 64) (.t 66) (.t 67))
def wZ:AC:=(w (D 0 1 19 0x1e18b035efad3a28542dd64015311ff3ab7981baa5de1407f773188325ab281ebd41103c9cf5859b50caa2064ff56f4b8309205ece1cfbec)) tc
def afv:=u 70 4<|(w (D 1 1 1 0xab0d7444ad5092280892303f6ef3624b1b7d6eaf69d580b58523ec186de4c9b884)) (.J9 .i64) wZ
def c201:=AF.mk 31 [.t 4,.t 5]<|(w (D 3 0 1 0x193f108ef3ca8325a9717573e2c55475385c09ed12005aa5c0e28a6295d80252eea23e15c96bf49f9b8ba2ef8ac86d20100d89d0cd6e901d39021359ee1a08b5)) (.J9 .i64) (.store 1 (.t 7) (.c (.int .i64 0))) (.Hh .i64 (.t 28))
def AY:=AF.mk 25 [.cell 4 6 true,.t 5]<|w (D 0 0 3 0xc88860e2ad8f9925e57560786ccdd9ae8de8c5ea19672d60c2ddffc35e7cde3a1f05b48ff7ac6)
def c203:=AF.mk 34 []<|w (D 0 0 10 0x59e7fb2860a54719e8d52b424b9df4abac6eb750ba68264f268078925ecaa89c06d5b5d830665631c41c2e5269f019c05c28a20baafb)
def Yo:=AF.mk 18 []<|w (D 0 0 2 0x423817013cbb8f84f85a1507b7829785099f82cbb85c5882d4b4ec)
def RD:=AF.mk 24 [.cell 4 6 true,.t 5]<|w (D 0 0 3 0xb9e7fe159d571d57b66928152cdc43f6dfef8b649512bfb7b8bad7bc386f2e9fe0c1ed065c44b65ba8c1ccea0bf36e7547eab125af8)
def afu:=AF.mk 12 [.t 4,.t 5]<|(w (D 1 0 1 0x2c9b08061635791a0a3031e1eb1f2)) (.call 298 [.t 7,.t 8,.c (.fn (.func 299) [] [])])
def akQ:AC:=w (D 0 0 9 0xdd6d69416c4c7b8b0270428a23e713a3e49f4b20df663939c93a398ea3214f2a430fa4b5362477156089129b93a7128678c77aa857719ce6c242d0)
def DC:=akQ
@[simp]def akR:e DC akQ:=λ_ _=>rfl
def c208:=u 44 4<|(w (D 1 1 3 0x224d21ead0af10bc3e8493937630507fff247e96612f4dd10ca19469a23eb)) (.K6 1 (.int .i64 0) 1 [(0,.t 8)]) DC
def Yn:=u 9 4<|w (D 0 0 3 0xc587cfbd88bc1972e1f)
def c210:=u 28 4<|w (D 0 0 1 0xab47dd9b258adf8b61bf8bbabbe8b1ef8638def0f4692d48b7719193f888cf862d21c644f7f4367f3b1e35fc22d6669528ac86bdc6b1)
def aft:=u 18 6<|w (D 0 0 2 0x1aaab8f0cd6d9ff0a590a759b024ddba18ac6b9de8ab0656d82d57e646cdd8306d8)
def Ym:AC:=w (D 0 0 15 0x1f7b1e6684adea44006baa4857d8716124839b8ce6377c37a30ea66f3506c18df72ac3b2992c374273698a94714e6f)
def c212:=u 42 4<|(w (D 3 1 3 0x11ace52478a41949062cd93d57f9d6958a0426529d9f0643f0b674517193a60bed99e52d7d3229371d98bb3)) (.yQ 3 (.t 36) (some (.t 37)) none none) (.XH 3 z12 (.t 38)) (.yQ 3 (.t 39) none (some (.t 40)) none) Ym
def afs:=u 8 3<|w (D 0 0 1 0x4342b6d708bfff1305887)
def ajV:=u 10 4<|w (D 0 0 1 0x3f33fa82b692d790406047dad410)
def RC:=u 20 4<|w (D 0 0 3 0x1876732579a940d3bbb4e8034a92ffec45aeb16e9a6197f405320b76e9fbbfeea527c96ecc41dd66b1a7a04f)
def c218:=u 21 2<|(w (D 4 0 0 0x5c936924ddb50ba5968cbf380260664de0d2abf2d6d312c91)) (.uK 2 1 (.t 1) (.c (.int .i64 0))) (.uK 2 1 (.t 1) (.c (.int .i64 0))) (.uK 2 1 (.t 1) (.c (.int .i64 1))) (.uK 2 1 (.t 1) (.c (.int .i64 1)))
def wY:AC:=(w (D 3 0 14 0x217eb5e8e10a3319ad458cc89efa8c1c49ff34097bf86e2ad7a89552bbf4ee4d6bb8f3e)) (.conv .u64 (.t 20)) (.bin .shr (.t 21) (.c (.int .u64 1))) (.qB (.t 24) [.t 28,.t 29])
def afr:=AF.mk 49 [.t 6,.t 7]<|(w (D 1 1 3 0x89b8bbde12d8a4a3d4ce583ff25f27cb10c3b21ea073ef2c455656f765bd05ca4770ff6ac2b9a5561045c2258a12e66d)) (.qB (.t 40) [.t 44,.t 45]) wY
def afq:=u 22 6<|(w (D 4 0 2 0x1e7cad802e9bf0311b298f08a768925d0abd30169ec3ef9cbb78ad39f2646c517c70fa12bc)) (.uK 2 1 (.t 7) (.c (.int .i64 0))) (.uK 2 1 (.t 3) (.c (.int .i64 0))) (.uK 2 1 (.t 7) (.c (.int .i64 1))) (.uK 2 1 (.t 3) (.c (.int .i64 1)))
def RB:=u 11 2<|w (D 0 0 0 0x335422c534dc5807b402bdd868b1)
def wX:AC:=w (D 0 0 8 0x23963c17ec5f30664576d4bfeca3f1e4ac73f9236ab75ca)
def afp:=u 19 4<|(w (D 0 1 3 0x5664cd0db076177554bd126b13cca8953311bb638832)) wX
def RA:=u 9 4<|(w (D 1 0 1 0x96bfe32158d27f126fa750846b)) (.seq false [0,0] (.t 6) (.t 7))
def c227:=u 8 4<|w (D 0 0 2 0x5689d82df099d198ebb09f3b5)
def c229:=u 16 4<|(w (D 1 0 3 0x8247ff807f2d62e535651b4900dfc1e9ba570699bd3)) (.call 312 [.t 8,.t 9,.c (.fn (.func 313) [] [])])
def HX:=u 47 4<|(w (D 2 0 1 0x6c852cd046289db37b8100b5478750ea50eb2c7e47d9bc5ddfba14017191c53874264ee09a9901f955ed3e6fe7446dfccb47d58a9bf7396a8)) (.Co (.t 33)) (.Co (.t 36))
def afo:=u 10 6<|w (D 0 0 3 0x123ae0d94f8f25d9e60227b42797720)
def c232:=AF.mk 22 [.t 6,.t 7]<|(w (D 1 0 5 0x23b9e978080d6d7e28f4e6a7d39d7c90120d0a409c424ac17646006fb388b30a80)) (.Hi (.func 225) [.t 12] [])
def c233:=AF.mk 44 [.cell 6 3 true,.t 7]<|w (D 0 0 2 0x37993a8e794bb774558c8fe5308e23df5c6a299ab67f56e008f5bb002cbe192883e21f99676f7fa8876e49ca8f20a4eaed41a446252cf199e29f838884edc535ff7ebdb5078999000d79c1fced538208476c42a56181ce5e17fd34fb7b896e)
def c234:=AF.mk 11 [.t 4,.t 5]<|(w (D 1 0 3 0x21bae2256891132721cb85c)) (.call 316 [.t 6,.t 7,.c (.fn (.func 317) [] [])])
def uR:AC:=(w (D 1 0 19 0x142174769130c6841b1dec701c5236b1651b029740a0ccaa79cbdb8c3420fa5f7bca62bde03f4c0cb07a68b143206)) (.sx .i64 (.t 35) (.t 38) (.t 40))
def wW:AC:=(w (D 1 0 46 0x54b17267cb686a1313278bc1e7ff4dc99da5e67db6db3c2e5f1140179704884bcd567357306b6)) (.sx .i64 (.t 59) (.t 61) (.t 62))
def afn:=AF.mk 74 [.t 4,.t 5]<|(w (D 3 2 1 0x681c92d3eaf5d7cd510101364de3b81fe6f58faae6efbed48ae46e1a728e00ac030058331c6cd3cbe50d542bf3a9da9e1b0a284bdc69e293bf9d61755a93930f04d75c8f07c7b8c08653732fb800757809d93648d8a9a)) (.J9 .i64) (.J9 .i64) (.call 321 [.t 70,.c (.fn (.func 322) [] [])]) uR wW
def Rz:=u 4 2<|(w (D 1 0 0 0x18f64b985be3e6ce02)) (.mv (.c .kU))
def acJ:okF Tryz.prog 239 Rz=true:=ai
def Yl:AC:=w (D 0 0 10 0x2f521934fbab3c2f687924817d7a789811d57a12d57d055ada3ba9dd4fff3847df4)
def afm:=u 23 4<|(w (D 1 1 3 0xab71539abe83d9e0e3c74a2e3bf8ae9f09e580260fa074a3314bf8534d)) (.mv (.c (.en true []))) Yl
def afl:=u 8 3<|w (D 0 0 1 0x2d1cda6f3c514d80d0eb5)
def Yk:AC:=w (D 0 0 10 0x148c8008d160ad0c28dd58b0d70ed7e68a0846cbea4b1e1b084c76144c4f42a029e3838efb60f3e041bf9)
def ajU:=u 23 4<|(w (D 1 1 3 0xab71539abe83d9e15f166b98961d58cc52ddb624eba4701e7599efa99e)) (.mv (.c (.en true []))) Yk
def Yj:=u 10 3<|w (D 0 0 1 0x10cd5138526efd084766ed39b3e9d9)
def HW:=u 45 4<|w (D 0 0 1 0x3beeb620f20b86ed5f06679d0ae2d2339ac00477c4c487e77605896fd3433985dd2bbd7e17a142d8e7d2464dcac315a3403ad746a037a42f)
def Yi:=u 10 4<|(w (D 2 0 3 0xd1af4d46dc016bdaa8)) (.Co (.t 5)) (.Co (.t 7))
def s9:AC:=(w (D 1 0 13 0x2dcc26a446a188e55ffe4d24af7d6dab2543c48322a53a3f4a)) (.seq true [1,0,0] (.t 19) (.t 23))
def Yh:=u 26 4<|(w (D 0 1 3 0x3bab112cbe2ab094a6f3cb42744ec6641568903a5dc6ed2532041cc156b4d58e)) s9
def wV:AC:=w (D 0 0 17 0x17b59382f394d55430ef51ee6ff8d9c076ebc82d66cd0a74fa0f6d923d1ffa8f84bba81473e515404)
def Yg:=u 32 6<|(w (D 0 1 5 0xb473a72330c6bce6c2722e2beba45a188dc2acb86f06405f979ed6242f0e1cad)) wV
def Yf:=u 9 2<|(w (D 3 0 1 0x1a353609a2c37d0b7059e6ab66939)) (.mv (.c (.str [47]))) (.call 38 [.t 6,.c (.str [47])]) (.bin .add (.c (.str [47])) (.t 7))
def afk:=u 10 4<|w (D 0 0 3 0x491dc2e099bfb9e768488f)
def afj:=AF.mk 15 [.t 4,.t 5]<|(w (D 1 0 3 0x1125a20f4dbc3af7ad8b4ee7f34b12)) (.call 312 [.t 10,.t 11,.c (.fn (.func 336) [] [])])
def Ry:=AF.mk 27 []<|w (D 0 0 6 0x1496775840bf793a308c7b8a0638eaab4397359d38c5361cffa032be7b5cefa79574dc3)
def X9:AC:=w (D 0 0 8 0x23963c17ec5f30664576d4bfeca3f1e4ac73f9236ab75ca)
def afi:=u 19 4<|(w (D 0 1 3 0x5664cd0db076177554bd126b13cca8953311bb638832)) X9
def afh:=u 13 6<|(w (D 1 0 2 0xa3017e778af213221e25c7819a3e7bf85adf7dcee87781cc)) (.store 1 (.t 7) (.c (.int .i64 0)))
def wU:AC:=(w (D 2 0 24 0x272035f95465062cc8782849979a3fa95a8e89d1d03b3d1e5a9ff2df89b67cc604ea31f5)) (.uJ .i64 (.bool false) (.t 28) (.t 30)) (.sx .i64 (.t 33) (.t 35) (.c (.bool true)))
def xZ:=AF.mk 41 []<|(w (D 0 1 10 0x415ca49a0733b501abfb2745d1599511142ddd3df17cd7f8cfac836ca9a4de343247bb553d)) wU
def wT:AC:=(w (D 2 0 14 0x35bfa939910958f068d9b79c1cb9bd2411554e82d33771f5e0db8cf59b34566ca7b05ad8b3)) (.conv .u64 (.t 20)) (.bin .shr (.t 21) (.c (.int .u64 1)))
def afg:=AF.mk 49 [.t 6,.t 7]<|(w (D 0 1 5 0x46cadfa226bad450e4271d36d98e32625e59beef908ecbe47133c386b429c67d24f81e5d9b12aae7a6f4544ec36f719a)) wT
def aff:=u 9 4<|w (D 0 0 1 0x15261b4c301fdf364a4db82)
def afe:=u 8 4<|w (D 0 0 3 0x58066efd2ed8ee479)
def wS:AC:=w (D 0 0 8 0x45e5a6cbc694f0d894caedecf14bc58ae68add60211a)
def X8:=u 19 4<|(w (D 0 1 3 0x5664cd0db076177554bd126b13cca8953311bb638832)) wS
def afd:=u 9 4<|w (D 0 0 3 0xc587cfbd91427f48022)
def HV:=u 40 6<|w (D 0 0 4 0x4180ea306bd76908c274b8fcfd19fefbdc4d183b6a86c20978e2b2e5cdf701a5c5197e84d571ca50957cd7d799f40be23f436222ab881)
def afc:=u 6 2<|w (D 0 0 1 0xf71d28a0744932b)
def afb:=AF.mk 8 [.cell 2 2 true]<|w (D 0 0 0 0x22ef1f79a333c0dfcd7324f41b6ca3e)
def s8:AC:=w (D 0 0 8 0x13b3c74fd833583123f15f4d5b8a0cad396d297c00)
def afa:=u 18 2<|(w (D 0 1 1 0x3852bb5955a01856e9cdc80821b1fbca8533f5400352a118cbc019)) s8
def ae9:=u 8 3<|w (D 0 0 1 0x9cf0ff1e0430ea03c5f79)
def X7:AC:=(w (D 2 0 14 0xfd57be3662a0c1bfc734e8386db55cbfaddb09c7340cebd2d7c96f4a08bafc4e2533376e83)) (.conv .u64 (.t 20)) (.bin .shr (.t 21) (.c (.int .u64 1)))
def ajT:=AF.mk 49 [.t 6,.t 7]<|(w (D 0 1 5 0x14dad9cc274b0b400a5902dd7e8ed626ef0403f2b838697138929ba0375a03c0666ecc3a9405c78ff17b9f584653f50ab)) X7
def ae8:=u 9 4<|w (D 0 0 1 0x15261b45d7a8329fdcb3e93)
def ae7:=u 9 4<|w (D 0 0 3 0xc587cfbd93609da79cb)
def X5:=u 15 4<|w (D 0 0 2 0x1425f5f13d8974784e133a3acf21a7e13529)
def wR:AC:=(w (D 2 0 14 0x35bfa939910958f068d9b79c1cb9bd2411554e82d33771f5e0db8cf59b34566ca7b05ad8b3)) (.conv .u64 (.t 20)) (.bin .shr (.t 21) (.c (.int .u64 1)))
def ae6:=AF.mk 49 [.t 6,.t 7]<|(w (D 0 1 5 0x46cadfa226bad450e4271d36d98e32625e59beef908ecbe47133c386b429c67d24f81e5d9b12aae7a6f4544ec36f719a)) wR
def ae5:=u 9 4<|w (D 0 0 1 0x15261b45d7a8329fdcb3e93)
def wQ:AC:=w (D 0 0 39 0x12f1acc5a28de343216a3970ac7d2abf18963629937057d70ee3b769c3)
def AW:=u 52 6<|(w (D 3 1 5 0x5b2117c3b4f1d4f180daf351cbbbaa5b11a63beb092e142cf3aff0c73db3b9183426cdbb29f38c362acb5c5832b38d3706854c03b04933f3a9869d1555d9581ffa689ab084a722e4bd565d58bae)) (.rG .i64 (.agg []) (.t 15) (.t 16)) (.sx .i64 (.t 21) (.t 22) (.t 23)) (.rG .i64 z5 (.t 25) (.t 26)) (.mV [11,39] [(11,11),(13,13),(39,50)] [(.exit 0,[11])] wQ)
def ajS:=u 10 4<|w (D 0 0 1 0x538e7d36b98b4a25b844a735ebd)
def Rx:=AF.mk 11 [.t 4,.t 5]<|w (D 0 0 3 0x1f73988ca66cc18dc12f3c4f691)
def acI:okF Tryz.prog 324 Rx=true:=ai
def ae4:=u 9 4<|w (D 0 0 1 0x15261b45d7a8329fdcb3e93)
def Af:AC:=w (D 0 0 7 0x7824c6e491723999f6d957fa6a597ba980d8a7d808b70a239a8b84069aae2fa7e482)
def X4:=AF.mk 23 []<|(w (D 0 1 2 0xf180a757f925d6aa45dcab)) Af
def X2:=u 17 4<|w (D 0 0 3 0x8e4de2c01d5d085e6325f62401d573fc77f40f5a43ec4392c8)
def XZ:AC:=w (D 0 0 8 0xa7bcd058794a111d9eeaa82490ffd33cbe38dede30b4acf)
def ae3:=u 19 4<|(w (D 0 1 3 0x5664cd0db076177554bd126b13cca8953311bb638832)) XZ
def XY:AC:=w (D 0 0 8 0x23963c17ec5f30664576d4bfeca3f1e4ac73f9236ab75ca)
def ae2:=u 19 4<|(w (D 0 1 3 0x5664cd0db076177554bd126b13cca8953311bb638832)) XY
def KW:=AF.mk 15 [.t 4,.t 5]<|(w (D 1 0 3 0x1c7a4af3077ce9009e4255853cdc641d3bec452990bad67)) (.GR (.t 11) (some (.t 13)) none)
def acH:okF Tryz.prog 359 KW=true:=ai
end
end Go.Proofs.YtahlmpbhfljalaaGreatDoor
