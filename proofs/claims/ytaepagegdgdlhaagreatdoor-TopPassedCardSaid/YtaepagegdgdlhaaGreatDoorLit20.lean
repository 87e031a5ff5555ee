/- Part of the proof that TopPassedCard holds. -/
import Derived.Test.YtaepagegdgdlhaaGreatDoorProg
import Derived.Test.YtaepagegdgdlhaaGreatDoorAmPu
import Derived.KernelRfl
set_option linter.all false
namespace Go.Am.Z
abbrev z0:List AV:=[.int .i64 0,.int .i64 0,.int .i64 0,.jB true [],.jB true [],.int .i64 0]
abbrev z1:List AV:=[.jB true [],.int .i64 0,.int .i64 0]
abbrev z2:List AV:=[.int .i64 0,.int .i64 0,.int .i64 0,.int .i64 0,.int .i64 0,.jB true [],.jB true []]
abbrev z3:List AV:=[.jB true [],.jB true [],.int .i64 0,.int .i64 0]
abbrev z4:List AV:=[.str [],.int .i64 0,.int .i64 0]
abbrev z5:AV:=.agg [.str [],.int .i64 0,.int .i64 0]
abbrev z6:List AV:=[.int .i64 0,.int .i64 0,.jB true []]
abbrev z7:AV:=.agg [.int .i64 0,.int .i64 0,.int .i64 0,.jB true [],.jB true [],.int .i64 0]
abbrev z8:AV:=.agg [.int .i64 0,.int .i64 0,.int .i64 0,.jB true [],.jB true []]
abbrev z9:List AV:=[.jB true [],.jB true [],.jB true [],.jB true [],.jB true []]
abbrev z10:List AV:=[.int .i64 0,.jB true [],.jB true []]
abbrev z11:List AV:=[.int .i64 0,.jB true []]
abbrev z12:List AV:=[.int .i64 0]
abbrev z13:List AV:=[.int .i64 0,.int .i64 0,.int .i64 0,.jB true [],.jB true []]
abbrev z14:List AV:=[.int .i64 0,.int .i64 0,.str [],.str [],.int .i64 0,.int .i64 0,.int .i64 0,.jB true []]
abbrev z15:AV:=.agg [.int .i64 0,.jB true [],.jB true []]
abbrev z16:List AV:=[.int .i64 0,.jB true [],.jB true [],.bool false,.jB true []]
abbrev z17:AV:=.agg [.int .i64 0,.jB true []]
abbrev z18:List AV:=[.jB true [],.jB true [],.int .i64 0,.int .i64 0,.jB true [],.int .i64 0,.int .i64 0,.int .i64 0,.int .i64 0,.str [],.str [],.int .i64 0,.int .i64 0,.int .i64 0,.jB true [],.int .i64 0,.int .i64 0,.int .i64 0,.int .i64 0,.int .i64 0,.jB true [],.jB true []]
abbrev z19:AV:=.agg [.int .i64 0,.jB true [],.jB true [],.bool false,.jB true []]
abbrev z20:List AV:=[.int .i64 0,.int .i64 0,.jB true [],.int .i64 0,.int .i64 0]
abbrev e(x y:AC):Prop:=∀ {Γ:kP} {V:aB} {ρ:Type} (k:AX->St->Option ρ) (s:St),eval Γ x V ρ k s=eval Γ y V ρ k s
def f1(x:Nat)(k:Nat->AC):AC:=match x+1 with
 |0=>.skip
 |n+1=>k n
def pk{α:Type}:Nat->List (Nat×α)->(Nat->Nat->α->AC)->AC
 |_,[],_=>.skip
 |v,(w,h)::l,k=>cond (Nat.ble w v) (pk (v-w) l k) (k v w h)
def g{α:Type}(R:Nat)(T:List (Nat×α))(N:Nat)(k:α->Nat->AC):AC:=pk (N%R) T λv w a=>f1 (N / R*w+v) (k a)
def un(r N:Nat)(k:Nat->Nat->AC):AC:=f1 (N / r) (k (N%r))
def esc(q:Nat)(R:Nat)(T:aC)(N:Nat)(k:Nat->Nat->AC):AC:=g R T N λa N=>cond (Nat.beq a q) (un 512 N k) (k a N)
def gs(e N:Nat)(k:Nat->Nat->AC):AC:=g 704 [(322,30),(68,31),(30,32),(22,2),(22,3),(19,0),(19,33),(19,34),(18,5),(16,1),(13,4),(13,7),(13,35),(12,8),(11,6),(10,29),(10,36),(9,9),(9,10),(8,11),(7,13),(6,12),(5,14),(3,15),(3,21),(2,16),(2,17),(2,18),(2,20),(2,22),(1,19),(1,23),(1,24),(1,25),(1,26),(1,27),(1,28)] N λa N=>cond (Nat.ble 30 a) (k (e-(a-30)) N) (cond (Nat.beq a 29) (un 512 N k) (k a N))
def gx(e N:Nat)(k:Nat->Nat->AC):AC:=g 701 [(69,6),(63,4),(53,7),(51,5),(47,8),(42,9),(34,10),(32,12),(31,11),(22,2),(19,59),(18,13),(17,14),(16,3),(11,15),(10,60),(9,21),(9,23),(8,16),(8,17),(8,20),(8,22),(8,24),(7,19),(6,18),(5,25),(5,26),(5,27),(4,28),(4,29),(4,35),(4,37),(3,0),(3,30),(3,31),(3,32),(3,33),(3,34),(3,36),(3,40),(3,45),(3,46),(3,61),(2,1),(2,38),(2,39),(2,41),(2,42),(2,43),(2,47),(2,49),(2,50),(2,54),(2,55),(1,44),(1,48),(1,52),(1,53),(1,56),(1,57),(1,58),(1,73),(1,77)] N λa N=>cond (Nat.ble 60 a) (f1 (e+a-58) λd=>k d N) (cond (Nat.beq a 59) (un 512 N λd N=>f1 d λd=>k d N) (k a N))
def pf(e:Nat):ax->Nat->ax->(ax->Nat->AC)->AC
 | [],N,a,k=>k a N
 |q::l,N,a,k=>(match q with
  |0=>gs e N
  |1=>un 512 N
  |2=>esc 9 699 [(240,0),(185,1),(98,2),(50,4),(41,9),(38,3),(19,5),(12,7),(9,6),(7,8)] N
  |3=>esc 8 700 [(330,1),(195,3),(63,6),(47,4),(31,5),(17,7),(11,2),(6,8)] N
  |_=>esc 8 700 [(372,0),(153,1),(80,8),(37,2),(13,3),(13,4),(11,5),(11,6),(10,7)] N) λx N=>pf e l N (a++[x]) k
def tt(x:ax)(i:Nat):AO:=.t (x.getD i 0)
abbrev IE:=Nat×ax×(ax->ni)
section
variable(i:Nat->Int)(z:Nat->List AV)
def ki(x:ax)(j:Nat):AO:=.c (.int .i64 (i (x.getD j 0)))
def cc(f:BinOp):IE:=(1,[0,4],λx=>.bin f (tt x 0) (ki i x 1))
def bb(f:BinOp):IE:=(1,[0,0],λx=>.bin f (tt x 0) (tt x 1))
def IT0:List (Nat×IE):=[
(128,(0,[],λ_=>.no)),
(101,(1,[0],λx=>.mv (tt x 0))),
(74,(4,[0],λx=>.mv (tt x 0))),
(47,(1,[2,0],λx=>.fad (x.getD 0 0) (tt x 1))),
(31,(1,[3,0],λx=>.load (x.getD 0 0) false (tt x 1))),
(26,(5,[],λ_=>.no)),
(26,(2,[3,0,0],λx=>.store (x.getD 0 0) (tt x 1) (tt x 2))),
(23,(3,[],λ_=>.no)),
(22,(1,[0,2],λx=>.ext (tt x 0) (x.getD 1 0))),
(17,(4,[4],λx=>.mv (ki i x 0))),
(17,(1,[3,0],λx=>.load (x.getD 0 0) true (tt x 1))),
(13,(1,[1,0,0],λx=>.call (x.getD 0 0) [tt x 1,tt x 2])),
(12,(1,[3,0],λx=>.Ch (x.getD 0 0) false (tt x 1))),
(11,(4,[2],λx=>.alloc (z (x.getD 0 0)))),
(11,(1,[3,0,0],λx=>.Nz (x.getD 0 0) (tt x 1) (tt x 2))),
(11,(1,[0],λx=>.len false (tt x 0))),
(11,(1,[3,0],λx=>.Ch (x.getD 0 0) true (tt x 1))),
(8,cc i .add),
(8,(1,[4],λx=>.mv (ki i x 0))),
(7,(1,[0],λx=>.N9 (tt x 0))),
(7,(1,[0],λx=>.ZI (tt x 0))),
(7,(1,[],λ_=>.mv (.c (.bool false)))),
(6,(7,[],λ_=>.no)),
(6,(8,[],λ_=>.no)),
(6,cc i .neq),
(6,cc i .eql),
(6,(1,[1,0],λx=>.call (x.getD 0 0) [tt x 1])),
(6,bb .lss),
(5,(1,[],λ_=>.mv (.c (.jB true [])))),
(4,(1,[2,2,0,0],λx=>.app (x.getD 0 0) (x.getD 1 0) (tt x 2) (tt x 3))),
(3,(1,[0],λx=>.un .not (tt x 0))),
(3,(1,[0],λx=>.box (tt x 0))),
(3,(1,[1,0,0,0],λx=>.call (x.getD 0 0) [tt x 1,tt x 2,tt x 3])),
(3,cc i .geq),
(3,cc i .lss),
(3,bb .eql),
(2,(6,[],λ_=>.no)),
(2,cc i .gtr),
(2,(1,[2],λx=>.alloc (z (x.getD 0 0)))),
(1,bb .neq),
(1,(1,[1,0,0],λx=>.rS (x.getD 0 0) [tt x 1,tt x 2])),
(1,(1,[1,0,0,0,0],λx=>.call (x.getD 0 0) [tt x 1,tt x 2,tt x 3,tt x 4])),
(1,(1,[0],λx=>.len true (tt x 0))),
(1,(1,[1,0],λx=>.rS (x.getD 0 0) [tt x 1])),
(1,bb .add),
(1,bb .sub),
(1,cc i .sub),
(1,(1,[1,0,0,0],λx=>.rS (x.getD 0 0) [tt x 1,tt x 2,tt x 3])),
(1,(1,[1,0,0,0,0],λx=>.rS (x.getD 0 0) [tt x 1,tt x 2,tt x 3,tt x 4])),
(1,bb .geq),
(1,bb .leq),
(1,bb .gtr),
(1,cc i .leq),
(1,(2,[0,0,0],λx=>.uf (tt x 0) (tt x 1) (tt x 2))),
(1,(1,[],λ_=>.mv (.c (.bool true)))),
(1,(1,[],λ_=>.mv (.c (.str []))))]
def I_:Nat->Nat->Nat->List ni->Nat->(IT->Nat->Nat->List ni->AC)->AC
 |0,_,_,_,_,_=>.skip
 |j+1,N,e,u,D,k=>g 704 (IT0 i z) N λ(q,l,m) N =>
  let p (o:ni) (u:List ni) (D N:Nat):AC:=match D with
   |0=>f1 (e+1) λd=>I_ j N d u 0 λr=>k (.op (some d) o r)
   |d+1=>I_ j N (cond (Nat.ble d e) e d) u 0 λr=>k (.op (some d) o r)
  match q with
  |0=>k .nil N e u
  |1=>pf e l N [] λx=>p (m x) u D
  |2=>pf e l N [] λx N=>I_ j N e u 0 λr=>k (.op none (m x) r)
  |3=>gx e N λd N=>I_ j N e u (d+1) k
  |4=>gx e N λd N=>pf e l N [] λx=>p (m x) u (d+1)
  |5=>match u with
   | []=>.skip
   |o::u=>p o u D N
  |6=>match u with
   | []=>.skip
   |o::u=>I_ j N e u 0 λr=>k (.op none o r)
  |q=>I_ j N e u 0 λa N h u=>f1 (h+1) λd=>I_ j N d u 0 λr=>k (.sc d (Nat.beq q 7) e (e+1) h a (.t h) r)
def A_:Nat->Nat->Nat->List ni->List AC->(AC->Nat->Nat->List ni->List AC->AC)->AC
 |0,_,_,_,_,_=>.skip
 |j+1,N,e,u,w,k=>g 701 [(317,0),(90,1),(87,2),(54,3),(42,4),(40,5),(19,6),(19,7),(13,8),(13,9),(6,11),(1,10)] N λq N=>match q with
  |0=>I_ i z 999 N e u 0 λl N e u=>A_ j N e u w λc=>k (.seq (.ops l) c)
  |1=>A_ j N e u w λa N e u w=>A_ j N e u w λb=>k (.seq a b)
  |2=>k .ret N e u w
  |3=>gs e N λt N=>A_ j N e u w λc=>k (.cond (.t t) c .skip)
  |4=>I_ i z 999 N e u 0 λl N e u=>k (.ops l) N e u w
  |5=>un 16 N λb N=>A_ j N e u w λc=>k (.block b c)
  |6=>gs e N λt N=>A_ j N e u w λa N e u w=>A_ j N e u w λb=>k (.cond (.t t) a b)
  |7=>match w with
   | []=>.skip
   |c::w=>k c N e u w
  |8=>k .skip N e u w
  |9=>un 16 N λb N=>k (.exit b) N e u w
  |10=>A_ j N e u w λc N e u w=>un 16 N λa N=>un 16 N λb N=>k (.gho c [(a,b)]) N e u w
  |_=>gs e N λt N=>un 16 N λb N=>A_ j N e u w λc=>k (.seq (.cond (.t t) .skip (.exit b)) c)
end
abbrev DA:Nat->Type
 |0=>AC
 |m+1=>AC->DA m
abbrev DO:Nat->Nat->Type
 |0,m=>DA m
 |n+1,m=>ni->DO n m
def ra:(m:Nat)->(List AC->AC)->DA m
 |0,k=>k []
 |m+1,k=>λc=>ra m λw=>k (c::w)
def ro:(n m:Nat)->(List ni->List AC->AC)->DO n m
 |0,m,k=>ra m (k [])
 |n+1,m,k=>λo=>ro n m λu=>k (o::u)
def D(n m e N:Nat)(i:Nat->Int)(z:Nat->List AV):DO n m:=ro n m λu w=>A_ i z 999 N e u w λc _ _ _ _=>c
@[simp]def Zz:Nat->List AV
 |0=>z0
 |1=>z1
 |2=>z3
 |3=>z2
 |4=>z6
 |5=>z4
 |6=>z9
 |7=>z11
 |8=>z12
 |9=>z10
 |10=>z13
 |11=>[.pg]
 |12=>[.oI]
 |13=>z16
 |14=>z14
 |15=>[.jB true []]
 |16=>[.bool false]
 |17=>[.nh]
 |18=>[.int .i64 0,.str []]
 |_=>default
@[simp]def Zi:Nat->Int
 |0=>0
 |1=>1
 |2=>2
 |3=>60
 |4=>-1
 |5=>4
 |6=>76
 |7=>1099511627776
 |8=>70
 |9=>12
 |10=>8
 |11=>71
 |12=>72
 |13=>64
 |14=>3
 |15=>16
 |16=>73
 |17=>1000
 |18=>200
 |19=>7
 |20=>74
 |21=>5
 |22=>180
 |23=>6
 |24=>75
 |25=>40
 |26=>5000
 |27=>2000
 |28=>91
 |29=>4294967296
 |30=>32
 |_=>default
abbrev w{α:Type}(x:(Nat->Int)->(Nat->List AV)->α){y:(Nat->Int)->(Nat->List AV)->α}(_:x=y:=by conv=>lhs;reduce):α:=y Zi Zz
abbrev u(n r:Nat)(c:AC):AF:=⟨n,[.t r],c⟩
end Go.Am.Z
namespace Go.Proofs.YtaepagegdgdlhaaGreatDoor
open Go.Am
set_option maxRecDepth 100000
noncomputable section
open Go.Am.Z
def TI:AC:=(w (D 3 0 82 0xfffb22f836eedea8385390ee1fb9a050b9a224f4ff672315da83fe8f21e0a55e2b14862fec120ffa72b1009be728903)) (.conv .i64 (.t 97)) (.bin .rem (.t 98) (.c (.int .i64 4))) (.me 1 (.int .i64 0) 1 [(0,.t 103)])
def aaT:=TI
@[simp]def as6:e aaT TI:=λ_ _=>rfl
def c3:=u 117 12<|(w (D 5 1 11 0x1798b43a102dc7296fde0d1cc4fcc2a3f6423bfb879cd239d418b74cad7e0b60c3b39d0dc1a36eb8c18f7bcc953df85cd113a9201c2ee22c22c1a88e62223115b2409feda93e90f8ccd9f644f0af1de4f1428b3ebfcedaee828fb438c09069f74dbbc470c9df1d0ac91207b472801bc8eafaa6a79220a49c6aec056432ecfa0fc94cb2cb540a5f1e9e06631899bc26eb80c791a4)) (.call 4 []) (.bin .rem (.t 37) (.c (.int .u8 4))) (.conv .i64 (.t 49)) (.bin .rem (.t 50) (.c (.int .i64 4))) (.call 11 [.t 106,.t 107,.t 108,.t 109,.t 110,.t 111]) (.loop [20,21] [(20,21),(83,105)] [(20,1)] [(.exit 0,[20])] aaT)
def c4:=u 68 0<|(w (D 6 0 0 0x15ef33095178892708b619777382b95e80d4d1677e08917fdeba8a9467f65e279e63d400f47628ebcc7402e39ee4f85f12611e544eb184b087a538a26dbbd5c0932443e285ecae79cecd7e2d5f73dc963ef1f1a65c7347f04399bdb2ecb4ad9b68437dafdbee963eec07a)) (.call 12 []) (.build z14 [(0,1,.c (.int .i64 5)),(2,1,.c (.str [47,120])),(3,1,.c (.str [47,97,47,121]))]) (.Nz 2 (.t 38) (.c (.int .i64 0))) (.Nz 2 (.t 46) (.c (.int .i64 0))) (.Nz 2 (.t 55) (.c (.int .i64 1))) (.call 11 [.t 63,.t 64,.t 65,.c (.str [47,120]),.c (.int .u8 3),.c (.jB true [])])
def TH:AC:=w (D 0 0 6 0xe99bce416d4956dc272219f0a476a71414fce3b5e078b385eeedb7197337e4292f1c50dfaad07796626f06683cef53)
def aaS:=TH
@[simp]def as5:e aaS TH:=λ_ _=>rfl
def c5:=u 28 2<|(w (D 0 1 1 0x127a7ef02e3977151535e1d071b76d4d196224)) (.loop [3] [(2,3),(7,27)] [] [(.exit 0,[]),(.ret,[2])] aaS)
def aba:AC:=w (D 0 0 12 0xb5a206d6a49ce0f823e50909aa08a71dd7223985e7ca19a2e3c62258101aec15199f31a98e201e52bbc03713c8361fa2b54b)
def afI:=aba
@[simp]def as4:e afI aba:=λ_ _=>rfl
def c6:=AF.mk 30 [.cell 4 4 true]<|(w (D 2 1 3 0x29d273b8df6c1a9eb948d39895d0c8bbb1107c460ee)) (.conv .i64 (.t 9)) (.bin .rem (.t 10) (.c (.int .i64 8))) (.loop [6] [(6,8),(13,28)] [] [(.exit 0,[])] afI)
def X7:AC:=w (D 0 0 3 0x1b57f31065044fdc7935bff14e63c85c659f3d41b507a05ae0e31b74845b5bf3b)
def aaR:=X7
@[simp]def as3:e aaR X7:=λ_ _=>rfl
def c7:=u 18 2<|(w (D 0 1 0 0x1df9e2b2c6da653de9d8)) (.loop [3] [(2,17)] [] [(.exit 0,[]),(.ret,[2])] aaR)
def c8:=AF.mk 24 [.cell 6 4 true,.t 7]<|w (D 0 0 2 0x1003d16e5e33ee6d8e96d53099e0cfb2e8d49778e8b89c44e5a364e548cf8e58e77b58)
def c9:=AF.mk 22 [.t 4,.t 5]<|(w (D 1 0 2 0x26916774434e03d5ed4c918a345ded64f96c28b6d75ec52210ca2785aae81c3007dc)) (.Ef (.func 22) [] [.t 3])
def GH:=u 33 4<|(w (D 1 0 1 0x4107c33d08f0e116693f2f1ca225ab505ee860d7f55915db9c517cfa733fb513ffffb5b1b6fcd4aefc316)) (.mv (.c (.fn (.func 24) [] [])))
def RO:AC:=(w (D 1 0 25 0x34367c8897165bdaed349a156232b87108df7e2646ce2904d1a6c744bd146c485069a97595062696b429b96d947724dcd)) (.me 1 (.str []) 1 [(0,.t 45)])
def Rw:=RO
@[simp]def asF:e Rw RO:=λ_ _=>rfl
def FF:AC:=w (D 0 0 141 0x331d767f003a3bff67d14a38ec9f5f9fe07ac127835a2b82ae2a1669dd48ee56fc867ed45af686529f965b2ac3736b587901d910cef1b5abcb83d6e9827fca22d7a15b5)
def Rt:=FF
@[simp]def asE:e Rt FF:=λ_ _=>rfl
def CE:AC:=(w (D 1 1 79 0x54137065126c4df5007fdc39762c656e1593c54b5fdfa418050c37443cfd0707584eca01b9a595db9498915eed772971d9dceac1be5c315c2b42e31c25df0fc14998115841d815da861009830a4a0df4d588f928bfb8bc5f019057ae2fea124df01a3edae24e646bea9b4863356e7c4aef21fb99d46dbc7feb03f639d0f2d)) (.call 30 [.t 90,.c (.int .i64 6)]) (.loop [23] [(12,12),(23,24),(142,176)] [] [(.exit 4,[]),(.ret,[12])] Rt)
def HX:=CE
@[simp]def asD:e HX CE:=λ_ _=>rfl
def yj:=u 177 12<|(w (D 8 2 5 0x1347e4cf8a0d0b1a669fe67989b491b75118b782b2fdb966ea2cc7ac8453f3a13c3c46c6641cf753a0b6e4205547f622225cfc48a1b40a6178c70226200b0e5f965dad747e02af694a05a9d8fe3437bf35e9c0cb516e3184eb9878ad1b)) (.call 28 []) (.conv .i64 (.t 51)) (.bin .rem (.t 52) (.c (.int .i64 4))) (.Aq 29 [.t 55,.t 56,.t 57]) (.conv .i64 (.t 67)) (.bin .rem (.t 68) (.c (.int .i64 4))) (.build z10 [(0,1,.t 74),(1,1,.t 75),(2,1,.t 76)]) (.M0 3 z15 1 [(0,.t 77)]) (.loop [14,15] [(12,12),(14,15),(26,47)] [(14,1)] [(.exit 0,[14]),(.ret,[12])] Rw) (.oR [(13,0,3),(13,1,3),(13,2,5),(13,3,3),(13,4,1)] [20] [(12,12),(20,24),(80,176)] [] [(.exit 2,[]),(.ret,[12])] HX)
def c12:=AF.mk 21 [.cell 0 4 true]<|(w (D 4 0 0 0x3ea282b48684d8c22823789ba50c7c65ddaf730b031e736b5817fc993de642a561ec57c4a3541af0e65ac3cb410693fbdc)) (.call 35 [.c (.int .i64 0)]) (.build z14 [(0,1,.c (.int .i64 2)),(2,1,.c (.str [47,97])),(4,1,.c (.int .i64 2))]) (.call 36 [.t 10,.c (.str [47,97]),.c (.int .i64 1)]) (.build z14 [(0,1,.c (.int .i64 2)),(2,1,.c (.str [47,120])),(4,1,.c (.int .i64 1))])
def c13:=AF.mk 32 [.cell 4 4 true,.cell 5 7 true]<|(w (D 6 0 1 0x5a092acf6d328a00a0d464ab1d63d8945704227887739e26e74797b2c2c4efeb8468285fe11daec6cd4a7b1dc9a10aa8cef35b8d759e37cb667eda)) (.build z18 [(0,4,.t 8),(4,3,.t 10),(7,8,.t 11)]) (.Ef (.func 39) [] [.t 3,.t 6,.t 2]) (.build z2 [(0,1,.t 19)]) (.mS 1 false (.t 6) 4) (.mS 7 true (.t 30) 4) (.mC 4 (.t 4) (.t 27))
def aco:AC:=(w (D 2 0 27 0xc8a5c6aa4e26553a4cf663980fd1de052a5e58510dd4e424)) (.yP (.bool false) (.t 30) (.t 31)) (.me 1 (.int .i64 0) 1 [(0,.t 34)])
def acf:=aco
@[simp]def asC:e acf aco:=λ_ _=>rfl
def c14:=u 39 4<|(w (D 4 1 1 0x1130a208b745eaa16c83b09ae69290e8fdd717121cb7bea1b8f5f1f08bf61259bf64bb9c595f8fabe8749a8aaeda)) .ZO (.Ef (.func 45) [] [.t 2,.t 5]) (.l8 (.t 11) [.t 13]) (.l8 (.t 23) [.t 25]) (.loop [7,27] [(7,8),(27,37)] [(7,1)] [(.exit 0,[7])] acf)
def c15:=u 19 2<|w (D 0 0 0 0xa57a0cb12ff3cea990488432e0b462436960966d5cb0279786427a58)
def c16:=AF.mk 7 [.cell 2 4 true]<|(w (D 1 0 1 0x54921282915d777af8775ad)) (.call 50 [])
def c17:=AF.mk 67 [.cell 4 4 true,.cell 5 7 true]<|(w (D 10 0 1 0x458157b7767b944bbbd3b0986608e9ba98318ea244b7831d76b24ab770d5b627b9894afabf36bfe8bdb9e7ab6af8d17ae40edaba05e8ca01abd2baaf84cb96f8fccc0a6d638ac9a22fd4d42b8831242dc6cdb7cceb912ed92483a7ecd4cb4f8788da9e45b01041d5e160d862b9e8df22abb59a0b13ddc7a749e1d435edd63a0009749610056e45f1239e51dda29fe8232636929f2dc02d116c42eb1c28dd2199)) (.bin .rem (.t 15) (.c (.int .u8 5))) (.bin .eql (.t 16) (.c (.int .u8 1))) (.bin .eql (.t 16) (.c (.int .u8 2))) (.build z2 [(0,1,.t 30)]) (.bin .eql (.t 16) (.c (.int .u8 3))) (.build z2 [(0,1,.t 42)]) (.bin .eql (.t 16) (.c (.int .u8 4))) (.build z2 [(0,1,.t 56)]) (.mS 7 true (.t 13) 4) (.mC 4 (.t 4) (.t 65))
def c18:=AF.mk 43 [.t 6,.t 7]<|(w (D 1 0 4 0x57e383ca6a36026c580b92cd39c8af1cc272d39219530ffca8e4e8bcd90b13927e196877ccf860a7162b511024c617dff5c873f0e0e801e8a5c5d472166058983b6715cbf2679d455d6650c031b975adb)) (.Ef (.func 58) [] [.t 5])
def c19:=AF.mk 16 [.cell 6 4 true,.t 7]<|w (D 0 0 2 0x437efbe84cedb511150d1584e687cd51ca9431597a4a46b342f965a)
def c20:=u 11 2<|w (D 0 0 1 0x113b8bc70722ed33c7fd13f515f9cc14)
def Ni:AC:=(w (D 2 0 10 0x15bcd3b43e62b6b795fc959a5ab1a9db680df8e5cab1b558bb90a05ba588)) (.l8 (.t 15) [.t 16]) (.me 1 (.int .i64 0) 1 [(0,.t 19)])
def Rs:=Ni
@[simp]def asB:e Rs Ni:=λ_ _=>rfl
def c21:=u 24 4<|(w (D 0 1 3 0x10c0cca6e5392c340b1bda93751)) (.loop [5,10] [(5,7),(10,22)] [(5,1)] [(.exit 0,[5])] Rs)
def c22:=u 8 3<|w (D 0 0 1 0x21687e772a77c547169a21b)
def c23:=u 40 4<|(w (D 1 0 3 0x97014a6cdc2c81bdc57f6340ff49e7a0d26ab8eabca63919108229afbef2013461c9d321a839f14f3a70ca7a8c223a5)) (.F8 1 (.t 34) none (some (.t 36)) none)
def c24:=u 19 4<|(w (D 2 0 1 0x5306db64346debc560696afcdcfa43d4cd8180517d1c96)) (.build z1 [(0,1,.t 12)]) (.build z1 [(0,1,.t 15)])
def c25:=u 26 4<|(w (D 1 0 1 0x3d0815cadf924a2ff5da0e4649d4fbca52f074d89a30cc192c1a9b1912f3bd2059)) (.mv (.c (.fn (.func 60) [] [])))
def RN:AC:=(w (D 1 0 13 0x129af695cd8e86e932e2b11c1f0b63bd4d9e6ed0cfaabb1a4b)) (.seq true [1,0,0] (.t 19) (.t 23))
def Rr:=RN
@[simp]def asA:e Rr RN:=λ_ _=>rfl
def c26:=u 26 4<|(w (D 0 1 3 0x3e5926ca6ab586a433446a7e3d5b74b80b3b040925)) (.loop [13] [(4,5),(13,25)] [] [(.exit 0,[]),(.ret,[4])] Rr)
def RM:AC:=(w (D 1 0 17 0x5fec5b9fb9cd330e2b1b363fedfe607778449aa1230616426b13fd77cd12f96e2ea47aaffdf832e610d)) (.l8 (.t 26) [.t 27,.t 28])
def Rq:=RM
@[simp]def asz:e Rq RM:=λ_ _=>rfl
def c27:=u 32 6<|(w (D 0 1 5 0x7d42f5d61f8f125c02ed79548600be8d8328b9c6a3)) (.loop [17] [(6,9),(17,31)] [] [(.exit 0,[]),(.ret,[6])] Rq)
def RL:AC:=(w (D 3 0 2 0x313b117e5eb850c8e6f427d6ea08adfdc9d4b194fbecd63c85226780469a82b4d159bcbbc274183bf8315fe7be41f93e2abcbac8d)) (.BQ 3 (.agg [.int .i64 0,.int .i64 0,.jB true []]) 1 [(0,.t 10)]) (.BQ 3 z15 1 [(0,.t 17)]) (.me 1 (.jB true []) 1 [(0,.c (.jB true []))])
def Rp:=RL
@[simp]def asy:e Rp RL:=λ_ _=>rfl
def c28:=AF.mk 27 [.cell 0 5 true]<|(w (D 0 1 0 0x54ca3ba86715a123a598b8bd658069e)) (.oR [(1,0,3),(1,1,3),(1,4,1)] [2] [(2,25)] [] [(.exit 0,[])] Rp)
def H6:AC:=(w (D 1 0 48 0x3e7e17d3bf861ce49cd9df1f418ad51e086af4215a77ca664cdea984366fe2bd37bc790ad2d42cc03748)) (.BQ 5 z8 1 [(0,.t 63)])
def HV:=H6
@[simp]def asx:e HV H6:=λ_ _=>rfl
def c29:=AF.mk 71 [.cell 6 3 true,.t 7,.t 8,.t 9]<|(w (D 9 1 2 0x272c566655de10074ffb839c2793b2c5e8774c9f71cbc06e604d4efb79b90d8edcec7a2e34f73826223e20abfaf7a3b3b92d2258c3f9e2b296de17c29b7e6e54fcc011c7061aab44a1b57bc4e1bfb6777bf232a6be1a)) (.bin .mul (.t 28) (.c (.int .i64 8))) (.v8 67 [.t 33]) (.v8 68 [.t 35]) (.build z10 [(0,1,.t 32),(1,1,.t 34),(2,1,.t 36)]) (.qu 69 [.t 39]) (.build z16 [(0,3,.t 41)]) (.BQ 5 z19 1 [(0,.t 42)]) (.mS 1 false (.t 68) 6) (.mC 3 (.t 6) (.t 67)) (.loop [12,48] [(12,14),(48,66)] [(12,5)] [(.exit 0,[12])] HV)
def RK:AC:=w (D 0 0 12 0x2c9d27113bac999abf83c0e5dfab3553c383821b696b64e115d417b83f17e436e2cb71b3ffbe6f491078587102d5e0013)
def Ro:=RK
@[simp]def asw:e Ro RK:=λ_ _=>rfl
def Nh:AC:=(w (D 1 0 32 0x37835e5b6797ac746304d695df1929d98363440d8180347c7a9580668981)) (.call 74 [.t 43,.c (.int .i64 0),.c (.bool false)])
def Rn:=Nh
@[simp]def asv:e Rn Nh:=λ_ _=>rfl
def RJ:AC:=(w (D 0 2 7 0x107a755dc98eddb876d37e541bf67f9cc33a608f)) (.oR [(2,0,3),(2,1,3),(2,2,5),(2,3,3),(2,4,1)] [6] [(6,6),(13,32)] [] [(.exit 2,[])] Ro) (.oR [(2,0,3),(2,1,3),(2,2,5),(2,3,3),(2,4,1)] [7] [(7,7),(33,44)] [] [(.exit 4,[])] Rn)
def Rm:=RJ
@[simp]def asu:e Rm RJ:=λ_ _=>rfl
def c30:=AF.mk 46 [.cell 4 5 true]<|(w (D 0 1 1 0x41b3c37ae96e82057fcd4bb536f5c)) (.oR [(2,0,3),(2,1,3),(2,2,5),(2,3,3),(2,4,1)] [5] [(5,44)] [] [(.exit 0,[])] Rm)
def Rk:=AF.mk 137 [.cell 4 5 true]<|(w (D 19 0 1 0xa0ea3d781af571b4560de73ef605909c7db4780efd5a00e2c7448347f604c6b58a633a20345e333a1b62b893f51880859f030b5a38ad568c7ac8a3e7836045bf8e841ba99a50e1beffe0d2eb46cec897c570657afa6f7cc85e8459f28c8bc0a9a3460dca41cef296c05a56fd699d98ef7454209911433b252683e3981dc2ba72bd03dd029e811f2aef2fd2de2eebb9210f253ace98eba6d468e654a0e87adcae0538c3ec5a485b55199eaacff0a4f6ebc3df9fced890fe7bf63c5fee4bc653f4b1558c30ef4f5c25d283d9ed901a679242efe485402c419479932cf4f0c45a073a7d3c2a69454ddaae08ff81c10d8484ed83442a258bf6b3d8b23c92ba25c)) (.conv .i64 (.t 12)) (.bin .rem (.t 13) (.c (.int .i64 4))) (.bin .rem (.t 16) (.c (.int .u8 16))) (.bin .eql (.t 18) (.c (.int .u8 0))) (.bin .eql (.t 18) (.c (.int .u8 1))) (.bin .eql (.t 18) (.c (.int .u8 2))) (.bin .eql (.t 18) (.c (.int .u8 3))) (.bin .eql (.t 18) (.c (.int .u8 4))) (.bin .eql (.t 18) (.c (.int .u8 5))) (.Nz 5 (.t 68) (.c (.int .i64 0))) (.bin .eql (.t 18) (.c (.int .u8 6))) (.conv .i64 (.t 103)) (.conv .i64 (.t 106)) (.bin .mul (.c (.int .i64 256)) (.t 107)) (.bin .rem (.t 109) (.t 112)) (.bin .eql (.t 114) (.c (.int .u8 7))) (.F8 5 (.t 118) none (some (.t 119)) none) (.F8 5 (.t 124) (some (.t 126)) none none) (.bin .eql (.t 134) (.c (.int .u8 8)))
def Fm:AC:=(w (D 1 0 23 0x3301915cae3cf8a554524bf3159b50eb111fd96b55e65946644deaea1a12a26e47083cb7e8f6be7be897e7f1da19edecbecaebe509bc8cffba4226f9f41dbe0a81c3c600385ca73d52ad25c5d0cc68ee4c74e7f1bccaf6bf3ff857ea19cb8d6ed300)) (.me 2 z17 1 [(0,.t 58)])
def Rj:=Fm
@[simp]def ast:e Rj Fm:=λ_ _=>rfl
def c32:=AF.mk 64 [.cell 8 4 true,.t 9]<|(w (D 1 1 3 0x2424e5092c44078301529af730391476e088009fef1e8a3e3fa6d8e232f07f85356c2a8eeda)) (.build z3 [(0,1,.t 18),(2,1,.t 20),(3,1,.t 22)]) (.oR [(10,1,2)] [11,12] [(11,16),(24,61)] [] [(.exit 0,[11])] Rj)
def Ng:AC:=w (D 0 0 5 0x5fa020faec50520b5d223fa99987172447f5ad01c7d113c29767e6c8)
def Ri:=Ng
@[simp]def ass:e Ri Ng:=λ_ _=>rfl
def c33:=u 18 4<|(w (D 0 1 3 0x1beaa45180e1d90a6)) (.loop [5] [(4,17)] [] [(.exit 0,[]),(.ret,[4])] Ri)
def c34:=u 13 4<|(w (D 1 0 1 0x55d4f6f2a5f9bacb208a355cbcfd3c4e9a)) (.Ef (.func 81) [] [.t 3])
def c35:=AF.mk 7 [.cell 2 4 true]<|(w (D 1 0 1 0x54921282915d5175c66672d)) (.call 84 [])
def c36:=AF.mk 30 [.cell 6 4 true,.t 7]<|(w (D 2 0 2 0x14b2ef6fb73e418bea6b77aac12ce73c6359205d1bc5deb1a9997a6c28f5d2bfded795527f251e2e1136cab7ebd786e3ecf33ed61efc7d8ec059)) (.build z18 [(0,4,.t 11),(4,3,.t 13)]) (.Ef (.func 85) [] [.t 8,.t 4,.t 9,.t 5])
def RI:AC:=w (D 0 0 14 0x52ccdc192a116aa18a508d2acdc855d1320dc757ace4af519fcfd0fcb4a)
def Rh:=RI
@[simp]def asr:e Rh RI:=λ_ _=>rfl
def c37:=AF.mk 29 [.cell 2 3 true]<|(w (D 2 1 0 0x2cd19cdbb73b37aed89cb70b515a6195cdec959201f4334bdcf1f1f6c1b)) (.build z1 [(1,1,.t 7),(2,1,.t 9)]) (.call 89 [.t 26,.c (.fn (.func 90) [] [])]) (.oR [(3,0,6)] [14] [(5,5),(14,24)] [] [(.exit 0,[])] Rh)
def c39:=AF.mk 49 []<|(w (D 5 0 7 0x5354e3350a3f0ad6e21ac19a5815b3932590901728acc12bda1eadbb3aac82bc1ff8cc3194cec10c8507b5b997caef1f68eb7adaabbb4126f339fd04b02d9e47)) (.qu 40 []) (.zK .nh (.t 8) (.t 10)) (.call 41 [.t 24,.c (.int .i64 1)]) (.l8 (.t 26) [.t 27]) (.call 41 [.t 47,.c (.int .i64 91)])
def c40:=u 3 0<|(w (D 9 0 0 0x2ba5d812390ab1b587dd5d12975b2)) (.mv (.c .pg)) .ZO (.uf (.t 1) (.c (.int .i64 1)) (.c (.fn (.func 94) [] []))) (.uf (.t 1) (.c (.int .i64 7)) (.c (.fn (.func 95) [] []))) (.uf (.t 1) (.c (.int .i64 6)) (.c (.fn (.func 96) [] []))) (.uf (.t 1) (.c (.int .i64 2)) (.c (.fn (.func 97) [] []))) (.uf (.t 1) (.c (.int .i64 3)) (.c (.fn (.func 98) [] []))) (.uf (.t 1) (.c (.int .i64 4)) (.c (.fn (.func 99) [] []))) (.uf (.t 1) (.c (.int .i64 5)) (.c (.fn (.func 100) [] [])))
def c41:=AF.mk 8 []<|w (D 0 0 3 0x75b0d20905f8c)
def acn:AC:=w (D 0 0 8 0xaf9f9411057397b352a5478cc0ccd1dbe2e09ef8d36e698c2cb7b8f475decae7c83113c1acbee190b)
def ace:=acn
@[simp]def asq:e ace acn:=λ_ _=>rfl
def c42:=AF.mk 29 [.cell 2 3 true]<|(w (D 0 1 0 0xbdc98af1eabbaf16a05fd873b4c5d98dc)) (.loop [8] [(4,4),(8,27)] [] [(.exit 0,[])] ace)
def RH:AC:=(w (D 1 0 18 0x3d99a0bb32acbb07ba48dba4f2a2896942284997853b4f2e00a)) (.Cc (.t 23) (.t 25) (.t 26))
def Rg:=RH
@[simp]def asp:e Rg RH:=λ_ _=>rfl
def c43:=AF.mk 47 [.t 4,.t 5]<|(w (D 9 1 2 0x551b5d041500ae56e4602e0d18a2de7eaf8c3da003377630dbc44a0cf011df17334ab88979b7adff535db1261f9ce2427b2398996db3cdcc964690cd115fad1c)) (.mv (.c .pg)) .ZO (.uf (.t 13) (.c (.int .i64 1)) (.c (.int .i64 0))) .VA (.store 1 (.t 10) (.c (.int .i64 1))) (.store 1 (.t 11) (.c (.bool true))) (.Ef (.func 102) [] [.t 3,.t 6,.t 11,.t 7,.t 10,.t 12]) (.l8 (.t 29) [.c (.int .i64 1),.c (.jB true [])]) (.Ol (.t 40)) (.loop [18] [(8,9),(18,27)] [] [(.exit 0,[])] Rg)
def Nf:AC:=(w (D 3 0 23 0x391e94cee0be1a61e1fe1ba9826811cd24bc4c5b974a2f0704a11442fb33817c176c2a70a4f41ac151d30c)) (.yP (.int .i64 0) (.t 28) (.t 30)) (.yP (.jB true []) (.t 37) (.t 38)) (.me 6 z7 1 [(0,.t 40)])
def MT:=Nf
@[simp]def aso:e MT Nf:=λ_ _=>rfl
def HZ:AC:=(w (D 4 0 50 0x20b278ac97c72460a48b25e3163b1e02808d1185a900e3f235da41b71ef5b44d3526a4)) (.yP (.jB true []) (.t 53) (.t 54)) (.yP (.jB true []) (.t 61) (.t 62)) (.build z11 [(0,1,.t 60),(1,1,.t 63)]) (.me 2 z17 1 [(0,.t 64)])
def Rf:=HZ
@[simp]def asn:e Rf HZ:=λ_ _=>rfl
def c44:=AF.mk 70 [.cell 4 4 true]<|(w (D 2 2 2 0x91f9371572a6ce05e4f752fd75ec0f3e4548d248ad36b1c32967a860cae957fdd02e8112335ca7f6f4526389465155)) .ZO (.build z3 [(0,1,.t 44),(2,1,.t 46),(3,1,.t 48)]) (.oR [(7,0,6),(7,1,6),(7,2,6),(7,3,6),(7,4,6),(7,5,6),(7,6,6),(7,7,6)] [23] [(9,10),(23,43)] [] [(.exit 0,[])] MT) (.oR [(11,1,2)] [50] [(12,12),(50,68)] [] [(.exit 2,[])] Rf)
def acm:AC:=(w (D 2 0 17 0x31d19ae075cd966a061efc39dfa2f8121c43389b21e6db9b9526e9b96587d62010fc4ca5dbd746b209)) (.F8 1 (.t 23) none (some (.t 24)) none) (.uf (.t 30) (.t 36) (.c (.bool true)))
def acd:=acm
@[simp]def asm:e acd acm:=λ_ _=>rfl
def c45:=AF.mk 38 []<|(w (D 0 1 9 0x1609da30fdff1424157310bef4a7990793)) (.loop [17] [(6,8),(17,37)] [] [(.exit 0,[])] acd)
def c47:=u 9 2<|(w (D 3 0 1 0x1ab2b44dbe89260f76b3bac7f87f)) (.mv (.c (.str [47]))) (.call 106 [.t 6,.c (.str [47])]) (.bin .add (.c (.str [47])) (.t 7))
def Nc:AC:=(w (D 1 0 22 0x1455f0f1ebdf2095c9718215b90ba03042c2c1707201be0dadb01a6326715505e33e259b16f28d2793c40dc8ddd09a132e08dfc083b503d)) (.me 6 z7 1 [(0,.t 52)])
def Re:=Nc
@[simp]def asl:e Re Nc:=λ_ _=>rfl
def Nb:AC:=(w (D 2 1 18 0x18e63a223c672ec771d75fd7668d0f95c9149990012877acfaa360ac3355f4f35e549d88884e944d1b3)) (.build z11 [(0,1,.t 60),(1,1,.t 61)]) (.me 2 z17 1 [(0,.t 62)]) (.loop [8,9] [(8,9),(23,54)] [(8,6)] [(.exit 2,[8])] Re)
def Rc:=Nb
@[simp]def asj:e Rc Nb:=λ_ _=>rfl
def c48:=AF.mk 67 [.cell 4 4 true]<|(w (D 1 1 2 0x9a08efad242c691b4cf529d092987abd0787eb403ef903eea9b9af330999ead6)) (.build z3 [(0,1,.t 10),(2,1,.t 12),(3,1,.t 14)]) (.oR [(5,1,2)] [7] [(7,9),(19,65)] [] [(.exit 0,[])] Rc)
def c49:=u 6 2<|(w (D 2 0 1 0x22b370728424f)) (.build z4 [(0,1,.c (.str [47])),(1,1,.t 3),(2,1,.c (.int .i64 1))]) (.me 3 z5 1 [(0,.t 4)])
def c50:=AF.mk 4 [.cell 0 3 true]<|(w (D 3 0 0 0x6b1e02553faaba0)) (.build z0 [(0,1,.c (.int .i64 1)),(1,1,.c (.int .i64 2)),(5,1,.c (.int .i64 1))]) (.me 6 z7 1 [(0,.t 1)]) (.build z1 [(0,1,.t 2),(1,1,.c (.int .i64 2)),(2,1,.c (.int .i64 1))])
def c51:=AF.mk 56 [.cell 6 4 true,.t 7]<|w (D 0 0 2 0xc3f681845a923fd566e967388604d42aa6d1eed5050f4b248bc755d087a181a28dc3b590afeb9d820f23b8792abc40e8bb4aeba979f3bc0430a55983674b58fd71a2314b5a618c087e34aead3e3847067c256c27c732ed677d584f9183a0c5c84fb2ed83d3aba46ffc11f6d4e5dc01361b6a663cc7adfd8)
def c52:=AF.mk 23 [.cell 4 4 true,.t 5]<|w (D 0 0 1 0x68bcf992b894d43f7dbfabdf34d110465c9aa28db8ef5b2c17cf42f0ce84f702a9c8fd0d6ca5b56d15)
def c53:=AF.mk 26 [.cell 6 4 true,.t 7]<|w (D 0 0 2 0x4c2e16e2d0b2251fa3c0a8ae808630da5312f481eb9e3f3b749411d8deaaef062dc121e736964570ba59e59)
def c54:=AF.mk 55 [.cell 4 4 true,.cell 5 7 true]<|(w (D 7 0 1 0x414a869cba49f004aaffd4e81af1dfb82dbd18f0e9a18f95bfe5131f107363ad1a10f74cd7709438b62aa39cc8672f02260697b2ca78b6e4dbd0f67cb75a82fad199b3ac4d704a7a18dd2ac74178f58d18fa37501a2a1771e989a2f6f2cbbcb2cd1ae803ad96af7720a99b76b06876a5dad1d7333de5018aa8815)) (.build z2 [(0,1,.c (.int .i64 1))]) (.build z2 [(0,1,.c (.int .i64 180))]) (.mS 7 true (.t 8) 4) (.mC 4 (.t 4) (.t 41)) (.build z2 [(0,1,.c (.int .i64 91))]) (.mS 7 true (.t 8) 4) (.mC 4 (.t 4) (.t 53))
def c55:=u 9 2<|w (D 0 0 1 0xfd458af8339f7fdf40feea4)
def c56:=AF.mk 11 [.t 4,.t 5]<|(w (D 1 0 3 0xe5edfff9b8d0d3bc2bc091)) (.call 118 [.t 6,.t 7,.c (.fn (.func 119) [] [])])
def c57:=u 16 6<|(w (D 1 0 5 0x3cfa0d8bd13bd72860e65edccf5c9811)) (.l8 (.t 10) [.t 13])
def c58:=AF.mk 15 []<|w (D 0 0 2 0x2d64f30df1f31ae4d4f7f70d8621595b7c4)
def Na:AC:=w (D 0 0 13 0x59cd2f6d69a5c1e42f05b0bdc33e664f8f859a1e6ab2e78e34a)
def Rb:=Na
@[simp]def asi:e Rb Na:=λ_ _=>rfl
def c59:=u 26 4<|(w (D 0 1 3 0x3e5926ca6ab586a433446a7e3d5b74b80b3b040925)) (.loop [13] [(4,5),(13,25)] [] [(.exit 0,[]),(.ret,[4])] Rb)
def c60:=u 45 4<|w (D 0 0 1 0x539eed3dcd7138782783cd51cb625e2d0820789b60c53495757908c8c73610ff71b797d6f231531b86420d1830e8113bf2792f37db32e1afdb)
def c61:=u 10 4<|(w (D 2 0 3 0x3b015620a667b472e4)) (.XU (.t 5)) (.XU (.t 7))
def RG:AC:=(w (D 1 0 13 0x129af695cd8e86e932e2b11c1f0b63bd4d9e6ed0cfaabb1a4b)) (.seq true [1,0,0] (.t 19) (.t 23))
def Ra:=RG
@[simp]def ash:e Ra RG:=λ_ _=>rfl
def c62:=u 26 4<|(w (D 0 1 3 0x3e5926ca6ab586a433446a7e3d5b74b80b3b040925)) (.loop [13] [(4,5),(13,25)] [] [(.exit 0,[]),(.ret,[4])] Ra)
def RF:AC:=(w (D 1 0 17 0x379b1cffc1f6100a27d96ac44e85e93445a60a26dbd085f99bd2bab28a852b40801c67eb9bcc)) (.l8 (.t 26) [.t 27,.t 28])
def Q9:=RF
@[simp]def asf:e Q9 RF:=λ_ _=>rfl
def c63:=u 32 6<|(w (D 0 1 5 0x7d42f5d61f8f125c02ed79548600be8d8328b9c6a3)) (.loop [17] [(6,9),(17,31)] [] [(.exit 0,[]),(.ret,[6])] Q9)
def c64:=AF.mk 5 [.cell 2 3 true]<|(w (D 1 0 1 0x1506bb02f4126d)) (.build z6 [(0,1,.t 3)])
def c65:=AF.mk 5 [.cell 2 3 true]<|(w (D 1 0 1 0x33489c6b0d0f35ed)) (.build z10 [(0,1,.t 3)])
def CD:AC:=w (D 0 0 21 0x2193bb66b8b867ed4302434d1b46c1acbbe43a7f67ba8b1c8bd588cbd79ce4b212676e1432207e6ef89)
def Q8:=CD
@[simp]def ase:e Q8 CD:=λ_ _=>rfl
def c66:=u 59 6<|(w (D 1 1 2 0x127814201b42ebedfe0a81920f81ae787457d7f5465d19c681d338ea0ebbfe56262e19a6241084a34a96161f34c4dac00d754de46523c2cd45b)) (.call 122 [.t 47,.c (.fn (.func 123) [] [])]) (.loop [21] [(6,8),(21,45)] [] [(.exit 0,[]),(.ret,[6])] Q8)
def c70:=AF.mk 18 [.cell 8 5 true]<|(w (D 2 0 7 0x42aaa6bb0d7327ebde15803bec83f1d96109c07b6e154ee)) (.call 124 [.t 10,.t 11,.c (.int .i64 1),.t 12]) (.stb (.t 14))
def M9:AC:=(w (D 1 0 5 0x4cc475c50c70015439ef21a607905618d85ddd3c7c2b9436bcc5c289cadb36453b2ad04c6ae715ea6a51)) (.BQ 5 z8 1 [(0,.t 23)])
def Q7:=M9
@[simp]def asd:e Q7 M9:=λ_ _=>rfl
def c71:=AF.mk 28 [.cell 4 5 true]<|(w (D 0 1 1 0x276bdbb025bf7adb77b671ff28f5a)) (.oR [(2,2,5)] [5] [(5,26)] [] [(.exit 0,[])] Q7)
def HY:AC:=(w (D 3 0 19 0x7b741456c33cbdbca14c15bcb83d97f9d62add059a44a511c8d5a8ab82eddf48563e313beb7dea12a1b35cb34228e35d1a69f2c19ed22690cba0d8dfe392e3282bf9d621583e20d6a50fdf4aefd01c6d7c8fe7e25c3231f928812f8ac702880b29a8efdb09231758d91c58baf175a9cdd60bbbb874165618d)) (.call 124 [.t 50,.t 51,.c (.int .i64 4),.t 54]) (.me 5 z8 1 [(0,.t 55)]) (.BQ 5 z8 1 [(0,.t 37)])
def Q6:=HY
@[simp]def asc:e Q6 HY:=λ_ _=>rfl
def RE:AC:=(w (D 0 1 11 0x1448b7ce83b17d0bb01ac7cd439fa205e9dc4c907247991371f8bcc)) (.loop [3,19] [(3,3),(6,7),(19,58)] [(3,5)] [(.exit 2,[3])] Q6)
def Q5:=RE
@[simp]def asb:e Q5 RE:=λ_ _=>rfl
def c72:=u 61 2<|(w (D 0 1 0 0xe511ebfe800ac3c576e5500196e4c96b55)) (.loop [3,11] [(3,3),(5,7),(11,59)] [(3,5)] [(.exit 0,[3])] Q5)
def RD:AC:=(w (D 3 0 9 0x75fc98d4fd560c5c65308fffc3c9e39f4d422e179188357ac09ca3bc8099a84a65c8)) (.bin .rem (.t 17) (.c (.int .i64 8))) (.call 124 [.t 15,.t 18,.c (.int .i64 7),.t 20]) (.me 5 z8 1 [(0,.t 21)])
def Q4:=RD
@[simp]def asa:e Q4 RD:=λ_ _=>rfl
def c73:=u 26 2<|(w (D 0 1 0 0x1597f74f40952419449b250a42f99d059)) (.loop [3,9] [(3,3),(5,5),(9,24)] [(3,5)] [(.exit 0,[3])] Q4)
def c74:=AF.mk 104 [.cell 6 5 true]<|(w (D 6 0 2 0x1b1ba8f5f14a3aac7ed3163b3d380f6f4259ed22ba5bd62ca64d261f4e9b492cb995975934f5556ade9d43b8adadcba273f4b273b7a7ea38bd5e1897270c14911dbfe96ead87e934bf247bf1e927f1d005cafb82213216d49f64188890e9664ceff333f0f72f2e1310b716c1c1db6eaf847d0edb83c1fa5429975c469f9c20f0b96d8271008faccffcfd4d8963d365eaaf7789d25411608ce93bd00915f6010338ddb41c107302003171c83717b66ed439fd99466baf6e40bce3b6ce5fd71c)) (.F8 5 (.t 23) none (some (.t 24)) none) (.F8 5 (.t 29) (some (.t 31)) none none) (.sN 1 false 85) (.sN 1 false 87) (.BQ 1 (.int .i64 0) 0 []) (.BQ 1 (.int .i64 0) 1 [(0,.t 97)])
def Fl:AC:=(w (D 7 0 18 0x147f64bf1f0a89192923945201f79c40d3f66206a62f2f3c258b222fe545bb4d6448c9ea5d819946149a5517336afce97ceb386)) (.bin .rem (.t 23) (.c (.int .i64 2))) (.me 1 (.int .i64 0) 1 [(0,.t 27)]) (.bin .rem (.t 32) (.c (.int .i64 3))) (.OC 3 1 (.t 34) (.t 33)) (.conv .u8 (.t 37)) (.me 1 (.str []) 1 [(0,.t 40)]) (.bin .quo (.t 43) (.c (.int .i64 2)))
def Q0:=Fl
@[simp]def ar9:e Q0 Fl:=λ_ _=>rfl
def c75:=AF.mk 81 [.cell 4 5 true]<|(w (D 6 1 1 0x2ae34f3fa990f3f8ed856ca55380f27deda9c3336a20b610adcfb8aa360f80706006a1950a4283938076de8673d6791e5173e2d6e90c3311adedd3ef7df3a6d64961d2dd33aeed2820f54e763b605995ee2e1c18f6d6f12493f15326a939c4b1b)) (.conv .i64 (.t 15)) (.bin .rem (.t 16) (.c (.int .i64 15))) (.conv .i64 (.t 46)) (.bin .rem (.t 47) (.c (.int .i64 4))) (.build z10 [(0,1,.t 71),(1,1,.t 72),(2,1,.t 73)]) (.me 3 z15 1 [(0,.t 74)]) (.loop [5,6,7,8] [(5,8),(19,44)] [(5,1),(6,1)] [(.exit 0,[5,6])] Q0)
def c76:=AF.mk 38 [.cell 4 3 true,.t 5]<|(w (D 1 0 1 0x440cc7650ba5cccaa74adfd096098c05355874416ded8af2dfe1fc11312aafbd9970a5afb1c285f26ee2b66ea4d5dd46153b010b90b17080a7e5b)) (.build z20 [(0,3,.t 27),(3,1,.t 28),(4,1,.c (.int .i64 0))])
def c77:=AF.mk 9 [.cell 2 3 true]<|(w (D 1 0 0 0x2660793f0b42bf9f2a4af73e01b308edb)) (.call 131 [.t 5,.c (.fn (.func 132) [] [])])
def M8:AC:=w (D 0 0 6 0x7115f78b516c27451d8efe4cca5a09689036f6eee7eb7a33d85758f75201feb4565fe5aed50b87a96396a)
def QZ:=M8
@[simp]def ar8:e QZ M8:=λ_ _=>rfl
def c78:=AF.mk 28 [.cell 4 2 true,.t 5]<|(w (D 1 1 1 0x1ea1cf5ab0fe33f641903bb526536f55)) (.build z11 []) (.loop [6] [(5,26)] [] [(.exit 0,[]),(.ret,[5])] QZ)
def c79:=u 12 2<|w (D 0 0 1 0x13bb820f3147c75a3f075d827deb760b23)
def c80:=u 9 4<|w (D 0 0 3 0xad2f192a283cedf4de8)
def c81:=u 8 3<|w (D 0 0 1 0x2ffbe41b4d9250e0d3a289b)
def c82:=u 13 4<|w (D 0 0 3 0x4fc447e5aadb04f23d88a142598a5)
def c83:=u 6 2<|(w (D 2 0 1 0x22b370728424f)) (.build z4 [(0,1,.c (.str [47])),(1,1,.t 3),(2,1,.c (.int .i64 1))]) (.me 3 z5 1 [(0,.t 4)])
def c84:=AF.mk 4 [.cell 0 3 true]<|(w (D 3 0 0 0x6b1e02553faaba0)) (.build z0 [(0,1,.c (.int .i64 1)),(1,1,.c (.int .i64 2)),(5,1,.c (.int .i64 1))]) (.me 6 z7 1 [(0,.t 1)]) (.build z1 [(0,1,.t 2),(1,1,.c (.int .i64 2)),(2,1,.c (.int .i64 1))])
def c85:=AF.mk 35 []<|(w (D 3 0 7 0x3e32df5fb2be051d7a459f1f1ec6afa348c2d6c59ca4a3db5aefa24a3f6265fb11fd4838331b01ee7e303438e198013ebf6a)) (.fld 1 1 false (.t 10)) (.call 41 [.t 12,.c (.int .i64 73)]) (.call 41 [.t 32,.c (.int .i64 91)])
def c86:=AF.mk 30 [.cell 4 6 true]<|w (D 0 0 3 0x19f4f35174ac994b54c49d002705dc2d96de45ed0ab46a1d030bfd77e88fe34f8ecdc3496be2f96d311ca43ee)
def c87:=AF.mk 68 [.t 6,.t 7]<|(w (D 3 0 5 0xd66a5b16b01b994be4dc6568b983315dd00a451dc54f028dacc5a2c9cca79a2b74fdc755321ba3c5fbc1e794cc64c2f5aeaebec33f1f020c549c1997043f4a35b3d1be891d9f923d780b085cac2130c69720af83700d061e88f0f1af3cccfd572e4e9e54a07c08b765050f3498da81fc71ee934f)) (.Ef (.func 135) [] [.t 12]) (.build z4 [(0,1,.t 62),(1,1,.t 63),(2,1,.t 64)]) (.me 3 z5 1 [(0,.t 65)])
def c88:=AF.mk 6 []<|(w (D 2 0 1 0x3710dc699c851)) (.mki 32 (.t 4)) .no
def c90:=u 10 4<|w (D 0 0 1 0x1365fbc437f52e11a48286a1f0d7)
def c91:=u 20 4<|w (D 0 0 3 0x2a204529adb7f8541359d2d9e5d87809d8551d81695db1407c9d464576c0bde91b9b2d41156ef6a90cd74d4)
def c94:=AF.mk 18 []<|(w (D 1 0 2 0x602df0e41a968be900db271a8ba984ef9bd12ecadd7c98d3c44)) (.build z2 [(1,1,.t 12),(2,1,.t 14)])
def c95:=AF.mk 27 []<|(w (D 2 0 2 0xe604198dc78aeeb143a58f61d31b9853e9859b6fedbaa8860c73b909cddcc3da187056)) (.mm true [.t 19,.t 22]) (.build z2 [(1,1,.t 12),(2,1,.t 14),(3,1,.t 16),(4,1,.t 23)])
def ack:AC:=(w (D 1 0 45 0x58f9c09e709b642a1ba35a2cd387b5ec11b3a926613682dd8912ac18d50fbec66a8f69273947948)) (.BQ 1 (.str []) 1 [(0,.t 56)])
def ab9:=ack
@[simp]def ar7:e ab9 ack:=λ_ _=>rfl
def c96:=AF.mk 63 []<|(w (D 0 1 7 0x9c1b5111d120f85ee39832a63a442eecd53c114b13081ed4cce3ba8e3acdf349d224745622b27e275e33a66878d60a98d98defe8bece7a5bc12949d36605a40dbc)) (.loop [45] [(7,7),(45,62)] [] [(.exit 0,[])] ab9)
def c97:=AF.mk 40 []<|w (D 0 0 4 0x1d6fa92fdc50fa2ed60aec061967a20266d689c23f9d9bed27faa2466b2af5a7c7060d8f6fc368cf889f0b943d8fa2d0e8d47f90872f14da)
def c98:=AF.mk 42 []<|w (D 0 0 6 0x4824f51b2b7bc337905e452697eab4d660c20f248626c94e794ba336091275be9866fa3101966e5984fcb748b200ecf436897180f69cbb9837e378fc8fe31c283d)
def c99:=AF.mk 34 []<|(w (D 1 0 3 0x46ffd178a072a282122fe09d7aefbc85a16f944bca9708402fdc496aca83618933ba40e306fdda7c44876266c79880)) (.me 1 (.str []) 1 [(0,.t 9)])
def arP:=AF.mk 72 []<|(w (D 2 0 10 0xad43765077a71d2923cf6662a572162662ce6dd2db6d52ff8bcffff287112430a2624d00bf04cbeabeb6eb59ff948b2d310a10b5b36af9bfbde6069cc5bbeb8b68058ffc64783a8861d4834e2af64e7681cda400270a8aeba2d95948c73b1f46f54ca5c07ce8979c733845daf1d5)) (.BQ 1 (.str []) 2 [(0,.t 16),(1,.t 21)]) (.call 152 [.t 58,.t 59,.t 60,.t 61,.t 62])
def arO:=AF.mk 39 [.cell 4 3 true,.t 5]<|(w (D 1 0 1 0x304e5eef29ba7a06c39e4f57e93d238cd5b605bb05d9fc22d8e3514ae5dc01bb30776a71fa38a9790f1cb89ba54b2bab41f2dcf48b295bfe5e7845879d0fff23446bce120d3c00a8d23b47f45dcc9cd6eea1a)) (.build z1 [(0,3,.t 9)])
def BX:AC:=(w (D 10 0 30 0x1db76ebac7e17d6c17ccf71eba891c816ee7a7a5a969f6a49fd08b8867aad5b0932e3bf3da5ba533391633efd7e0a1750f80978499bcbdc073e023f6cb4d50afb2bd12c2efdf166a9b1da13b43a7cc922843c70cc9fc88374827ce9ddd239a5ceab9d1cd27e79b6bc451461675174d304571ca0627dad7ce345851143747b00887f2e9511665c0a60cd)) (.zK (.int .i64 0) (.t 42) (.t 44)) (.yP (.int .i64 0) (.t 57) (.t 58)) (.yP (.int .i64 0) (.t 66) (.t 67)) (.qu 68 [.t 69]) (.BQ 1 (.str []) 1 [(0,.t 72)]) (.yP (.int .i64 0) (.t 78) (.t 79)) (.sN 1 false 5) (.yG 47 [.t 83]) (.Cd true (.int .i64 0) (.t 82) (.t 84)) (.l8 (.t 95) [.t 97,.t 98])
def BO:=BX
@[simp]def aq6:e BO BX:=λ_ _=>rfl
def BP:=AF.mk 101 []<|(w (D 0 1 21 0x187ff90fed4b4d0b0b530b29915bc9f0079c45bab875)) (.loop [30] [(13,20),(30,100)] [] [(.exit 0,[])] BO)
def af7:=AF.mk 13 [.cell 4 6 true,.t 5]<|(w (D 1 0 1 0x25c9e31b7f304adfac43be0b3553a54053da)) (.build z1 [(0,3,.t 6)])
def aa3:=u 4 2<|(w (D 2 0 0 0xc5e5f5c205a)) (.mv (.c .nh)) (.Ef (.func 155) [] [.t 1])
def ajs:okF Tryz.prog 104 aa3=true:=ai
def Kx:AC:=(w (D 1 0 16 0x3b9d419062fd554f5fc09b04866f5b02578aabe80dfec609f1)) (.store 1 (.t 26) (.c (.int .i64 (-1))))
def Km:=Kx
@[simp]def aq5:e Km Kx:=λ_ _=>rfl
def xH:AC:=(w (D 1 0 61 0x6b5fcf7acf9fb3d8f4358c9c4a680aab9be3d64cd0f6e070b593528521dc6a68da61c395f14c76458203ac8b52c9b59cfe4f0f2567afc7ff7a8ea942e9cb156427362e96e2744e827d62b49121d12ff49c2)) (.store 1 (.t 108) (.c (.int .i64 (-2))))
def Kl:=xH
@[simp]def aq4:e Kl xH:=λ_ _=>rfl
def Kw:AC:=(w (D 0 1 54 0x10aceda1bba22275aa67e91f9631ed979949041)) (.loop [12] [(12,12),(62,108)] [] [(.exit 6,[])] Kl)
def Kk:=Kw
@[simp]def aq3:e Kk Kw:=λ_ _=>rfl
def FL:AC:=(w (D 0 1 26 0x8dc802a1bb7b1f5d1907b1dab82302e381e29e48e77b0e6a7c86f29b4ecfd0d2d91835bdc85191abc3133d7f4957aafc6e43f8b54bcd862c69d4143e97e70f4fa3c68681e4)) (.loop [11] [(11,12),(55,108)] [] [(.exit 4,[])] Kk)
def Kj:=FL
@[simp]def aq2:e Kj FL:=λ_ _=>rfl
def amw:=u 110 4<|(w (D 1 2 2 0x34651c90e317cc13d71bc4bdca4d449285f8c6cc66d5)) (.mks 1 8 (.int .i64 0) (.t 15) (.t 15)) (.loop [6] [(6,6),(17,26)] [] [(.exit 0,[])] Km) (.loop [7] [(7,12),(27,108)] [] [(.exit 2,[])] Kj)
def zg:AC:=w (D 0 0 21 0x5dbd4049c5ce87b683ef62df95a6280b3dd0c0adaa3e1b2a0415eeaf5fd50dd2959c84ba4455a421a30a30b634395cc28718a119e96040cf5d79442a10ccf30b094cda8)
def Ki:=zg
@[simp]def aq1:e Ki zg:=λ_ _=>rfl
def Kv:AC:=(w (D 0 1 14 0x9999f963829b1016e0abfd418875df9cec3a8)) (.loop [5,8] [(5,5),(8,9),(22,58)] [] [(.exit 4,[5])] Ki)
def Kh:=Kv
@[simp]def aq0:e Kh Kv:=λ_ _=>rfl
def Ku:AC:=(w (D 1 1 4 0xf300a37a12fde4ad796cf7750b360e93ce1b70226a7d745b2918dfc7d604e0)) (.me 6 z7 1 [(0,.t 64)]) (.loop [5,7] [(5,5),(7,9),(15,58)] [] [(.exit 2,[5])] Kh)
def Kg:=Ku
@[simp]def aqZ:e Kg Ku:=λ_ _=>rfl
def amv:=AF.mk 69 [.cell 2 3 true]<|(w (D 1 1 0 0x12a6b7d66c42453a95839eb2b99e6d30f55)) (.build z1 [(1,1,.t 11),(2,1,.t 13)]) (.oR [(3,0,6)] [4] [(4,9),(15,68)] [] [(.ret,[])] Kg)
def FJ:AC:=w (D 0 0 19 0x7fe6b25474206f42e3f0dce0089c9253229b1af082c50ea0d4e426f38f9f9ad4155c2157b723ad6edb3041f2b2963214f020)
def Kf:=FJ
@[simp]def aqY:e Kf FJ:=λ_ _=>rfl
def afZ:=AF.mk 41 [.t 4,.t 5]<|(w (D 0 1 1 0x2ed220c7cfc3b223c0d825093397e850ae90e0f59fdbf500b40e26310de703aa4796)) (.loop [8,9] [(4,5),(8,11),(20,39)] [] [(.exit 0,[8]),(.ret,[4,5])] Kf)
def afY:=AF.mk 18 [.cell 4 6 true,.t 5]<|(w (D 1 0 1 0x16cfd83672fcb562602a7aa27551fd946ce9fdb31dae7e5707dbd998721bc65419)) (.build z0 [])
def vQ:AC:=(w (D 2 0 57 0xd3f90ff8adf612b10ccb18334f8ecc746ffd60fe4c2b00453881ce2e4f6443f78ece4cc9c8c4d52bf6b3c82e3f6ee74f406b567bcdee4993ce77b8f8f1dd558e20bad30b4fb2074d26bf2e51ee06cd)) (.me 3 z5 1 [(0,.t 76)]) (.me 3 z5 1 [(0,.t 91)])
def Kc:=vQ
@[simp]def aqX:e Kc vQ:=λ_ _=>rfl
def Ke:=AF.mk 101 [.t 6,.t 7]<|(w (D 2 1 5 0x562cc0d158d3d677fa8520ed630463b9c5b707a934ce87bae41836425ff4efd246dc83b70b1cfda768088f7975a412a603bd71a3f14c69aa777304774097382e6b33e8771822ecbb68b9904822b37ffcf288d9e0adb24597eea4167fa067240d032683ef3e2528687c20fe0deff08cd0)) (.build z4 [(0,1,.t 49),(1,1,.t 50),(2,1,.t 56)]) (.me 3 z5 1 [(0,.t 97)]) (.loop [11,12,13] [(11,14),(58,93)] [(11,3)] [(.exit 0,[11,12])] Kc)
def BW:AC:=w (D 0 0 11 0x158488cc97ac4c6c1f319a572bfe721fb08a4ced133b1bbab878e415ac7cea7c3ff748bc54d51b0dc3b3cc51918f09d06eb0df81ae2460870056cda2241ad9b710)
def Ka:=BW
@[simp]def aqW:e Ka BW:=λ_ _=>rfl
def FI:AC:=w (D 0 0 43 0xadd0d856f2e55e0e9e30c11fbaf1d7e2930c1cb32f45c17012d343dda7)
def J9:=FI
@[simp]def aqV:e J9 FI:=λ_ _=>rfl
def aa2:=u 55 4<|(w (D 0 2 2 0x4b1ecd5ced512c365b17d9dd253a82048b610bad69a)) (.loop [5] [(4,9),(12,40)] [] [(.exit 0,[]),(.ret,[4])] Ka) (.loop [11] [(4,4),(11,11),(44,54)] [] [(.exit 2,[]),(.ret,[4])] J9)
def zf:AC:=(w (D 1 0 61 0x13961e7e68959a2d5962648596b980c9cff71f09c45efbe17554b111035101c53fd54ad6053ba382ae646eb798b83e954b6efdd364e94c1cdac5e4c6)) (.me 3 z5 1 [(0,.t 82)])
def J8:=zf
@[simp]def aqU:e J8 zf:=λ_ _=>rfl
def TC:=AF.mk 86 [.t 4,.t 5]<|(w (D 2 1 3 0x2defc7dabb0a9c39313672e7e8e358e18e9f9cd46628932203abcb533f1818cb0d743ad71c18cedea97ef2226d9163b9da5b3c3c3d9be570bf4531893041958fa8e1b8e1849c102b2bf1bf6dbdfd5b2096da1b0ca2956a3eebe8bc8e6d38e7959bf8bc6cf24a5ccd2)) (.bin .eql (.t 32) (.c (.str [47]))) (.mm true [.t 52,.t 57]) (.loop [15,16] [(15,17),(62,84)] [(15,3)] [(.exit 0,[15])] J8)
def Pd:=AF.mk 56 [.t 6,.t 7]<|(w (D 2 0 5 0x2ff3ffe8cdb8e31783d9ce9eeba054dfc1b646fc4c1614fc37364ae0fb7a396eb3ff15046fb080ae3299fedbba116009db92864ea6f96b4d6ae68b38485a94e3ec7f1563c0bdccd5fc90123eaaaeb607850376dac7b8b05a5071eaffc26d2)) (.me 3 z5 0 []) (.build z4 [(0,1,.t 45),(1,1,.t 46),(2,1,.t 52)])
def MY:=u 36 2<|w (D 0 0 0 0x995075d145b1345255edf3802c5906c804dbcbf6b63d1db81c0b4ac29ac8c1cec211c5ff5446dbfe2eadfb365059)
def J7:=u 63 6<|w (D 0 0 2 0xdef5a3c9b219da1bbbcb2a8dd1eb0b5ded7ab3c49e124540b71bb9e1a513d7af4f21f6c76aee83eb6c4d685be17698ad67bb4fce05d649c68c0229437e94d43e556e48fd9c3859d437c81ea087e96aeb23cf702af940094fb81af1912db)
def CO:=AF.mk 201 [.cell 4 3 true,.cell 5 7 true]<|(w (D 17 0 1 0x1c7c20b475ee33f694ccfd42253a4b8e2adf13a6af0a4a4066c896a0a0c0bdbe459a394e463856e4c97a46267360f37e3b7e246a4417ceeb6c28e7c00a2873569e495d3572cd0fc7bd109acaf396b85749afdf37bc8084b1ea0e1378bd7826695a728d8efba9a72f3edb7c877f2647a08bb195fe88a606e78127ccdb6add66a0fa48adb4a3dbb2b06ab17b041dc08077ab20728a20c837b5e7523382e553d1e3a518fd8ff1638c456c628bc2c94b22edc75fd8a8df4565241f42349588672bf24d32fc9f79c38da3ec6edbb427b0258977319696ab9dee4c4ba8f932b67815bca101d4d7b873b115d714f2249fc654ed455856b4506157d258d77502abd8f666dc113e2ee2a5d9c1847a0037189a69def9e95df6025834ddd4ebfd1687e70d26c4e2fed2cbc6bcfc83ea8166e38fbd2ce2fb78daf18ba63a63ba9217297625790173a0ec1935d04a00402f17745d654ca4d019e6476cd85a89157d7a04ed91e7542ced01d514d67d5a4b336d1229afbfe1b7e7e79498012563ce01bbad97843a671f3dd290a1a369325b8e331f0235e78e022f072c104c04edf4867cc23a5c3cdb3eea0046a41858a742693c99ef42b1a1b4904fdb6f768cc088196cf157f7f4d6)) (.build z2 [(0,1,.t 65)]) (.build z2 [(0,1,.t 78)]) (.build z2 [(1,1,.t 92)]) (.mS 7 true (.t 12) 4) (.mC 3 (.t 4) (.t 97)) (.build z2 [(0,1,.t 110)]) (.build z2 [(1,1,.t 129),(2,1,.t 131)]) (.mS 7 true (.t 20) 4) (.mC 3 (.t 4) (.t 136)) (.build z2 [(1,1,.t 153)]) (.mS 7 true (.t 25) 4) (.mC 3 (.t 4) (.t 158)) (.build z2 [(0,1,.t 171)]) (.call 176 [.t 181,.t 182,.t 183,.t 184,.t 185]) (.build z2 [(1,1,.t 194)]) (.mS 7 true (.t 34) 4) (.mC 3 (.t 4) (.t 199))
def FG:AC:=(w (D 4 0 14 0x2ca8ddc5ba2f3922416d149a14658b04bd93f4b8e242a230967f5f4be1acd88401)) (.conv .u64 (.t 20)) (.bin .shr (.t 21) (.c (.int .u64 1))) (.conv .i64 (.t 22)) (.l8 (.t 24) [.t 28,.t 29])
def J6:=FG
@[simp]def aqT:e J6 FG:=λ_ _=>rfl
def amu:=AF.mk 49 [.t 6,.t 7]<|(w (D 1 1 5 0x2bff2eafc28183e4af30a95f154c5f6c825de18f28c2660722d56ecfa82617aa70d)) (.l8 (.t 40) [.t 44,.t 45]) (.loop [9,10] [(9,11),(15,34)] [] [(.exit 0,[9])] J6)
def amt:=u 9 4<|w (D 0 0 1 0x26bbacb6cd5b9f2885b60d7)
def ams:=u 8 4<|w (D 0 0 3 0x4b9e0503df85f7652)
def afX:=u 9 4<|w (D 0 0 3 0xad2f192a2f9dff19c65)
def amr:=u 6 2<|w (D 0 0 1 0x22c26797e2a653b68)
def amq:=AF.mk 15 [.cell 8 5 true]<|(w (D 2 0 7 0x9315e511f14ce2bab86357ee)) (.me 1 (.int .i64 0) 1 [(0,.t 12)]) (.build z13 [(0,1,.t 9),(1,1,.t 10),(2,1,.t 11),(3,1,.t 13)])
def afW:=u 9 4<|w (D 0 0 3 0xad2f192a2f9dff19c66)
def MX:=AF.mk 98 [.cell 4 3 true,.t 5]<|(w (D 13 0 1 0x1f1a65d6d4ddad9bc13deea540352f56706cd411a4c6a63447dada54c448bceab77c33f2248d835c605203e3f9c28350b36e962f6cf80210e600e764a4e1610adf5d6872fe9acb53f350291b8dad94532158de4af03479353bb43af6f9d0c5ba9076970528ae7badd5ceb208172db103009d9b23d23e13e08605f7f7d3e8c4ba127df8f59d38bae332ce94e8bf8900e674217c708d68b9a)) .ZO (.uf (.t 11) (.c (.int .i64 2)) (.c (.fn (.func 180) [] []))) (.uf (.t 11) (.c (.int .i64 3)) (.c (.fn (.func 130) [] []))) (.uf (.t 11) (.c (.int .i64 5)) (.c (.fn (.func 181) [] []))) (.uf (.t 11) (.c (.int .i64 7)) (.c (.fn (.func 182) [] []))) (.yP .nh (.t 13) (.t 15)) (.zO .fn false (.t 29)) (.Nz 1 (.t 35) (.c (.int .i64 0))) (.Nz 1 (.t 58) (.c (.int .i64 0))) (.rS 124 [.t 54,.t 56,.c (.int .i64 6),.t 60]) (.BQ 5 z8 1 [(0,.t 61)]) (.build z20 [(0,3,.t 84),(3,1,.t 85),(4,1,.t 87)]) (.l8 (.t 90) [.t 91])
def MW:=AF.mk 134 [.cell 4 3 true,.t 5,.t 6]<|(w (D 19 0 1 0xf5e42651977140d77481cdf6eb342382c574fee8e95f419dbe4a0d8bd348fb505b45a4b037d9ecd1e28673054c6a8c595421e3d2addba14963f4fdd96c4af2156448d8d04a41ab16c0f09dae96bed99c304909f017f2e76f5a1120817b7f52ed19adbc26fdaa78572e0f7568040df9fbc0260f9d1aab25fe0d3f383b2660b2988645e4d092daea72c75e31ae25b42fc0a097f95d1df80e206109e11db0ac974fda301c19b448022e88268d826985e63ea20363e40d45e7012bd18c00b07acc4331cd9d35b1dcb359cf594d1d32d5e0d03bf56ef960f8c87ac23144396006e67dbcf8b62176672c0eb8e2063ebb0826d42c8504937a85b)) (.Nz 1 (.t 26) (.c (.int .i64 0))) (.Ef (.func 183) [] [.t 7]) (.Ef (.func 184) [] [.t 2,.t 3,.t 7]) (.Ef (.func 185) [] [.t 2,.t 9]) (.rR (.t 57) [.c (.int .i64 5)]) (.rR (.t 68) [.c (.int .i64 2)]) (.XU (.t 75)) (.rR (.t 86) [.c (.int .i64 3)]) (.qu 187 [.t 89]) (.build [.int .i64 0,.str []] [(0,1,.t 91),(1,1,.t 92)]) (.BQ 2 (.agg [.int .i64 0,.str []]) 1 [(0,.t 93)]) (.rR (.t 98) [.c (.int .i64 2)]) (.rJ (.t 108) []) (.qu 67 [.t 111]) (.BQ 1 (.int .i64 0) 1 [(0,.t 113)]) (.rR (.t 119) [.c (.int .i64 5)]) (.mS 1 false (.t 7) 4) (.mC 3 (.t 4) (.t 118)) (.l8 (.t 130) [])
def J5:=u 13 2<|(w (D 3 0 1 0x26415344397aa43f9af85d6db80d53f)) (.me 1 (.str []) 8 [(0,.c (.str [47,97])),(1,.c (.str [47,98])),(2,.c (.str [47,97,47,98])),(3,.c (.str [47,99])),(4,.c (.str [47,100,47,101])),(5,.c (.str [47,100])),(6,.c (.str [47,101])),(7,.c (.str [47,102,47,103]))]) (.conv .i64 (.t 6)) (.bin .rem (.t 7) (.t 9))
def amo:=u 9 4<|(w (D 1 0 1 0xc550f5031c7f6f2055145b96)) (.Ef (.func 189) [] [.t 3])
def afV:=u 14 2<|(w (D 1 0 1 0x3e6e1d7d3a93bd2e3fdb88c5ed2b807b538d74deb1a34f)) (.call 191 [.t 9,.c (.int .i64 6)])
def FE:AC:=(w (D 1 0 15 0x54f075a81221cf7ce328730c8e7382b9c06136083cf71cadd548bdc1fe85de1f6ce8319b2714e419a3d0846e6794534)) (.l8 (.t 26) [.t 27])
def J4:=FE
@[simp]def aqS:e J4 FE:=λ_ _=>rfl
def afU:=u 42 4<|(w (D 3 1 3 0x476ed104bef444db441e9611de91bb5aeb4831948b3273ec7db73641b9bb10)) (.F8 5 (.t 36) (some (.t 37)) none none) (.clr 5 z19 (.t 38)) (.F8 5 (.t 39) none (some (.t 40)) none) (.loop [5,6] [(5,7),(16,35)] [] [(.exit 0,[5])] J4)
def amn:=u 6 2<|w (D 0 0 0 0x1141b59c206aa26798)
def FD:AC:=(w (D 1 0 8 0x78d8e9e56cddfa241da4ac98a3ec53f6b5f8c96cfa0b)) (.l8 (.t 11) [.t 15])
def J3:=FD
@[simp]def aqR:e J3 FD:=λ_ _=>rfl
def amm:=u 19 4<|(w (D 0 1 3 0xfef1dd8bd4a589a673a50)) (.loop [8] [(4,5),(8,18)] [] [(.exit 0,[]),(.ret,[4])] J3)
def Yf:AC:=w (D 0 0 21 0xb51ceea2d4fd248e5fdb44a13a6f7e757de0a750c3b6c295afde1b31dbfb7ba5aca57258c)
def XT:=Yf
@[simp]def aqQ:e XT Yf:=λ_ _=>rfl
def arN:=AF.mk 37 [.t 4,.t 5]<|(w (D 0 1 1 0x34bf8d2ca6d620810113eab4a2138fe8de7e7fab93ca9126e6501c23e4503645bcc87da)) (.loop [8,21] [(4,5),(7,8),(10,10),(21,35)] [] [(.exit 0,[8]),(.ret,[4,5])] XT)
def arM:=AF.mk 7 []<|w (D 0 0 2 0x6deec5c5a4dbdf)
def afT:=u 6 2<|w (D 0 0 1 0x21f742fe82171d27)
def arL:=AF.mk 58 [.t 8,.t 9,.t 10]<|(w (D 4 0 3 0xb969740a4e82a5678f4edab5b5bc7f01860aa43a69a796ae6f6e998c305759bef01e7d2715d580e014d8bccde143a5e676bf421eab29482099f629d0cf21371ab01c11f552e290f9750b888acf0d9a209a65a123242b201d5f8ac6c5cafd29a353a1655)) (.build z1 [(0,3,.t 25)]) (.Ef (.func 211) [] [.t 6]) (.call 212 [.t 40,.c (.fn (.func 213) [] [])]) (.F8 3 (.t 47) none (some (.t 48)) (some (.t 49)))
def arK:=AF.mk 31 [.t 4,.t 5]<|w (D 0 0 3 0x29bd567bc2ce64c88f64e1a68c0d5e6bbb13da3a45c9151fffa6be6d4c664a59863b95cdbf70bb2b87e5e81f5994)
def arJ:=AF.mk 19 []<|w (D 0 0 4 0xd328d9900f7c5aea4f69424ba378219c995ce77bd319)
def arI:=AF.mk 83 [.cell 8 3 true,.t 9,.t 10]<|(w (D 4 0 3 0x1f2b15e1f5605324a3bf60cac6e210e50d6a064f9feeef30b17ac31d63f483434320469ff3dba2b75ef6eadc66731bf612053a4dac839b047cdceab668a84b7220aba7fb59885e601eec6b11f509841e8dc25ae264dbd318158c329d7aff219556c95b79df5ea5298e13fa2e2146344bbe951fc5564bc2b437e57adedb192b6799)) (.build z1 [(0,3,.t 21)]) (.build z0 [(0,1,.t 52),(1,1,.t 53),(2,1,.c (.int .i64 1))]) (.mS 1 false (.t 81) 8) (.mC 3 (.t 8) (.t 80))
def arH:=AF.mk 66 [.cell 8 3 true,.t 9]<|(w (D 1 0 3 0x160f8ea43e317338d7552da2622b6830b241534bc1e76ddf05dd495b8d42c6842f6d2f5bea846a76eeef0ff9090c70a05e0f00ecad3001c7fb4bcbeb84b8e40b5bb34d8cbf1bf72d9ec2d074fde6ec95a7f827c0031ea198872fc5f5c18ad76ec47414735ef7825279de7d697f4cd9e8de766396)) (.build z1 [(0,3,.t 14)])
def Ye:AC:=w (D 0 0 29 0x63c1b61d43555342613c0fc895f8b22124ee462ddfb52c90c1eae0836178d45ff83993e952f1b2a55d0f2a5be7f3dac9)
def XS:=Ye
@[simp]def aqP:e XS Ye:=λ_ _=>rfl
def arG:=AF.mk 55 []<|(w (D 1 1 12 0x1f6b9550e41aa691ff9a1ca838621caec0cf96cec09fb92fc119c679bb344a692eb3cbc8)) (.call 41 [.t 53,.c (.int .i64 180)]) (.loop [6,29] [(6,6),(8,11),(29,51)] [] [(.exit 0,[6]),(.ret,[])] XS)
def arF:=AF.mk 51 [.cell 6 3 true,.t 7,.t 8]<|(w (D 1 0 2 0x3a1a7149b8afe4b78d1e698d9bee59dbb52b08a83fc4b0a7f17ec5416a9581c771b205cd96ada27c657e7fe9196c05084287904a6d3c60a724c0dcf6712aac3139c11c7b43177425112a10386e75d056c0260f2482c46d3427bbd5)) (.build z1 [(0,3,.t 25)])
def arE:=AF.mk 40 [.t 6,.t 7]<|(w (D 1 0 2 0xd5a2efe324d756ce175267e1a9a2b871ed39ef1248c0e180d1419f373e1a7962e9e009bcd34ca7999d87b058b27eee044178051871b27281d5d8c8f82baa6e84ab940c1b2d5a4415)) (.build z1 [(0,3,.t 13)])
def arD:=AF.mk 173 [.cell 10 3 true,.t 11,.t 12]<|(w (D 3 0 4 0xe809d466eddb04bd9cd67cf7d1347fe2bc2323bc30bff05f7a4681aabacf1a1ab493ef5369a2f77fb1062dbeafe15582fada8182260db5046c860fbdf47628c8f664d06e74d2879ea0f4ee6e5e1141573d8ee31d2e3aca7d96026aa1c48969ba650df36611022e3e543a20402f79c3e8877b486fe59c00f76c536361d890d98edb761d8f9d528ee43826ef9bcdc18039c061c88abfda5d8909f6aebafa8969c23155c3230af07da853b479ac02aa59c6f87f560e450711402554145ce0a4749fff028f82731d6bc12f51554c63322caf3aa515e7aa0df93ce9af251653a2feeee576130b91a67c9cc0e2c578c6c38fe758784c6685625407314e3d893e623bcd6ecc13de68859d69290264d2c327fd0fd6dc818e9a86ab58ca2384ba222c4eb4f64fead48cb8a1124d73c9dbf4a6376595e9287c8d49f165b46999204402bf5dfbb3be6396f18)) (.build z1 [(0,3,.t 36)]) (.mS 1 false (.t 171) 10) (.mC 3 (.t 10) (.t 170))
def aa1:=AF.mk 25 [.cell 4 6 true,.t 5]<|(w (D 1 0 3 0xde3f455cc0307b3f84ff0fcc59a69f5b1d2bf8ebda0aa4bf90634da559baf0c37dd4804752e)) (.build z0 [])
def arC:=AF.mk 27 []<|w (D 0 0 6 0x6746ffde889386bdc927eecd61700b9eb0bd03d37b393d064474e405c328189c2af6bb)
def aa0:=AF.mk 11 [.t 4,.t 5]<|w (D 0 0 3 0x159b98a7603f04be00d2380a3ff)
def ajr:okF Tryz.prog 156 aa0=true:=ai
def aaZ:=u 8 4<|w (D 0 0 3 0x4b9e051005f736390)
def ajq:okF Tryz.prog 157 aaZ=true:=ai
def BV:AC:=w (D 0 0 16 0x436877452b870b1a88ca4842d94e599ea3a09bb35b265cf0b406b7e06746fe48f1b587553afeaa9f4f2bc73abd6103bf83)
def J2:=BV
@[simp]def aqO:e J2 BV:=λ_ _=>rfl
def afS:=AF.mk 47 [.t 4,.t 5]<|(w (D 0 1 3 0x23ed8e30a7b76db94f398dd5b23ec1b58eb34e25086b5c54912f4736256c25d2)) (.loop [8,9] [(8,9),(17,45)] [] [(.exit 0,[8])] J2)
def rN:AC:=(w (D 1 0 35 0x26e147e1dd57c0ef4c5700ab121e9567101fe57792ffbf733b470b504f53d12d8994e552e5fac6893fe05e2268140bd)) (.M0 1 (.str []) 1 [(0,.t 56)])
def J1:=rN
@[simp]def aqN:e J1 rN:=λ_ _=>rfl
def BU:AC:=(w (D 0 1 11 0x2ea40aa2367f7c771113cf08e79b36430fe5bf36ab916103057fd52aa000d8ae6aa4fa0419121e2dbc644ab51c2e00d80d50d596fbb5eb7d30910298238160229b1b84069)) (.loop [5,11] [(5,5),(11,11),(36,59)] [(5,1)] [(.exit 2,[5])] J1)
def Pc:=BU
@[simp]def aqM:e Pc BU:=λ_ _=>rfl
def aml:=u 64 4<|(w (D 0 1 1 0xa06b0e00edadd8304dc6c1c4b7570f15)) (.loop [1,5,6] [(1,1),(5,61)] [(5,1)] [(.exit 0,[5])] Pc)
def um:AC:=(w (D 5 0 17 0x9576e6e4d2c7765d04b7e48508e8b5c65e4b049127c03143c2cd28b81eee4db93fc99cdbcf3c7f13674eca93086c619ecd1d6f8aad5bb846ce9ed85323e1b85479c1)) (.idxs (.t 29) (.t 30)) (.bin .neq (.t 31) (.c (.int .u8 47))) (.Sj (.t 34) (some (.t 35)) (some (.t 36))) (.Sj (.t 46) (some (.t 47)) (some (.t 48))) (.me 1 (.str []) 1 [(0,.t 49)])
def yY:=um
@[simp]def aqL:e yY um:=λ_ _=>rfl
def XR:=AF.mk 55 [.t 2,.t 3]<|(w (D 5 1 1 0x89ecd84eadca1b41bfd5b341f7e6e88b72de0e13766f240fea665b8adaaef00252347461d1)) (.me 1 (.str []) 0 []) (.bin .eql (.t 8) (.c (.str [47]))) (.bin .eql (.t 11) (.c (.str []))) (.idxs (.t 14) (.c (.int .i64 0))) (.bin .neq (.t 15) (.c (.int .u8 47))) (.loop [4,5,6] [(2,6),(18,53)] [(4,1)] [(.exit 0,[4]),(.ret,[2,3])] yY)
def XQ:=AF.mk 34 [.t 6,.t 7]<|w (D 0 0 2 0x3ae789d368f2010f3373619032e0f7e81a2b29b4b76cb2617bfe87c6e25fc1c7d2ada16d9d9562158f2feb83173c89154ed6b7e2d683e5d0fa30f58e4d4698)
def FC:AC:=w (D 0 0 5 0x1390688db4f78a4e3acdb423ff78f6ac40ef5d8ce8c38602a38e983fc804d8209)
def JZ:=FC
@[simp]def aqK:e JZ FC:=λ_ _=>rfl
def amk:=u 22 4<|(w (D 0 1 1 0x2c618ae0e4040d5c5416)) (.loop [5] [(4,21)] [] [(.exit 0,[]),(.ret,[4])] JZ)
def FA:AC:=w (D 0 0 5 0xfddf0b9f66e9dcfe08492d8b26423d1701351347565d49fa26f43cec6)
def JY:=FA
@[simp]def aqJ:e JY FA:=λ_ _=>rfl
def amj:=u 20 4<|(w (D 0 1 3 0x2157b9404fe433d51)) (.loop [5] [(4,19)] [] [(.exit 0,[]),(.ret,[4])] JY)
def aaY:=AF.mk 31 [.t 2,.t 3,.t 4]<|(w (D 1 0 1 0x36db59461ba77892ef407cf0611c2f721cfc936bc21c301e1f576b90b429d27dc40f38ac3037ca6850d8e0e6c6aa04668b57f)) (.F8 1 (.t 25) none (some (.t 28)) none)
def afR:=u 14 2<|w (D 0 0 1 0x262e9a6b0e2ce3d464f68e0b60ea37907926d3e3)
def ze:AC:=(w (D 1 0 13 0x1671db974d5a37e820b26bfcd519182eb04e74354a7625eb96f93ed0231d97d664ed5c672dae153a)) (.me 1 (.int .i64 0) 1 [(0,.t 32)])
def Fg:=ze
@[simp]def aqI:e Fg ze:=λ_ _=>rfl
def afQ:=u 36 4<|(w (D 0 1 3 0x68bad1c0b2e2547bbff711ded683252252c6c00d550)) (.loop [5,8] [(5,5),(8,8),(14,34)] [(5,1)] [(.exit 0,[5])] Fg)
def Ks:AC:=(w (D 1 0 67 0x270f69bc3a8749de63b7be947b593854c3fb81283fc7ebbc56ce3f076210ace24b45978)) (.me 1 (.str []) 1 [(0,.t 79)])
def JX:=Ks
@[simp]def aqH:e JX Ks:=λ_ _=>rfl
def Pb:=AF.mk 85 [.cell 4 7 true]<|(w (D 6 1 1 0x415a9c64bada89ff053446240741f615313bcaa6106045b7ceb2adf4ff083fe7fdf0b913aef9a34af8fd7972c8c72fac173fc4fb27dcc1c04f0b5217f8620525fde1e445323ec5e9ccb82ce325e4eedeb5382c1ad9ff69af5774a5c555f17d54926b959d6a3872d96c4f0de6097017fdfa00c8f75fc81da28ad2b5332a2cf7c6999)) (.build z2 [(0,1,.t 22)]) (.build z2 [(1,1,.t 33),(2,1,.t 35)]) (.mm true [.t 47,.t 50]) (.build z2 [(1,1,.t 40),(2,1,.t 42),(3,1,.t 44),(4,1,.t 51)]) (.build z2 [(0,1,.t 66)]) (.build z2 [(5,1,.t 82),(3,1,.t 83)]) (.loop [11,12] [(11,12),(68,81)] [(11,1)] [(.exit 0,[11])] JX)
def afP:=AF.mk 29 [.t 4,.t 5,.t 6]<|w (D 0 0 1 0x1a0ee6fe22c87215eedd8ae54aee88046d757bf683ad2dec0d6507705a4e627044e65a0d10e1a10238b01452f10567f737ce897)
def MV:=AF.mk 55 [.cell 8 3 true,.t 9]<|w (D 0 0 3 0x3c095b56fcd14ff80c5ee207b514f8c3e13d4747d4147790ace88f83339ac00cdf997587a05b1623dbecefbf7bb48903279effc9a798ff6587cc7bd75172e6f69215ba19277a0e4c02f8e1443ed822ee42998f793dc858eedfca21ec048b5ad6319)
def afO:=AF.mk 18 [.cell 8 3 true,.cell 9 7 true]<|(w (D 1 0 3 0x1ba00166fcb651d8995f344b49a601df12d1f8183d4dc8db19bed41b66d7f43c15)) (.build z2 [(0,1,.t 13)])
def GG:=AF.mk 60 [.cell 8 3 true,.t 9,.t 10]<|(w (D 3 0 3 0x55f651f56a301edcfcc83808cccd3a73a0bdd1e360e36a8f99fc7d8f61dd851931fb3289ea162e29375548d741c4eba629c5e18f27b9cc4790c0c538eb63eb4bcf506a038e0a7236578c04bcd5ad48625661ec48b1a4dbdfcfbd291132a2d0c89b10be0491375b9bfada41c)) (.build z0 [(0,1,.t 39),(1,1,.t 40),(2,1,.c (.int .i64 1))]) (.mS 1 false (.t 58) 8) (.mC 3 (.t 8) (.t 57))
def aaX:=AF.mk 42 [.cell 6 3 true,.t 7,.t 8]<|w (D 0 0 2 0xd2bd64dfbbae4762b1987cfcd09c8dd61e8a9fcb0482495bc70037d9faa6878376c6fc4723c4661d798e36d48b6295e2371135674734b20630c9f023b50f8eca87915a45c1836654cd768649becc989b)
def oA:=AF.mk 151 [.cell 10 3 true,.t 11,.t 12]<|w (D 0 0 4 0x62311d2275e2ec503d9fe5f546efce0ba5bf524c709b324db275fa6121ac9cdc0c7efb37faf9597ba8c697ebaea47bf263bdb445479e54d8d6ed48cf711300f85f0b5fd93ae5153d3e61f9133f729615f08160699ea92745e5a6d1b76135eaaf6846d096059dd1a01d0146d18165a27b6c42f35e1740e50e71eef0f92885ad5f0f34e5ca060dfb51cd50a4a0eeac29cb35177ce24f321a0449a99b69c5fb0690e08e6df02dc876b058570bb81c3ad4bfe64c1a3e5f0ee92bb61303041d441ff0664dea1bc3710e9b60239fb978c17c96c620cddc13746b1502a1eede0c1aa69acbf7b9a0ff5357a4e789c5dd262e913af6db56fd553f8d30e2e2dba4b025a359e866aae04fae1a22f40f290958ea22fe54cb74beae5aa384dc4fb7e15133a0dad1f6ac72e0f40b2f1e6ca18705b)
def Fy:AC:=(w (D 1 0 8 0x12d9b7099e3fe9ee067b4bea90f8ed349a7b326ccd)) (.l8 (.t 11) [.t 15])
def JW:=Fy
@[simp]def aqG:e JW Fy:=λ_ _=>rfl
def ami:=u 19 4<|(w (D 0 1 3 0xfef1dd8bd4a589a673a50)) (.loop [8] [(4,5),(8,18)] [] [(.exit 0,[]),(.ret,[4])] JW)
def Fx:AC:=w (D 0 0 8 0x33b29069d340bbcc39a69f0cd2f1490f32d9a08804cd)
def JV:=Fx
@[simp]def aqF:e JV Fx:=λ_ _=>rfl
def amh:=u 19 4<|(w (D 0 1 3 0xfef1dd8bd4a589a673a50)) (.loop [8] [(4,5),(8,18)] [] [(.exit 0,[]),(.ret,[4])] JV)
def aaW:=u 24 2<|(w (D 3 0 1 0xa56e7b48b15fd2b4f820f3a4b4a3dd3f50069781325403b02a4970473be2b3bb8704ad31cda5bbe760fe011)) (.store 1 (.t 19) (.c (.bool true))) (.store 1 (.t 21) (.c (.jB true []))) (.call 191 [.t 22,.c (.int .i64 4)])
def aaV:=u 14 2<|w (D 0 0 1 0x27d4c3749e2a2a18354eb6fa1b0647433419e1f0a92)
def afN:=u 26 2<|(w (D 3 0 1 0x2946a25f13b696a4e85170e69e846cc44601e7d1a29f273fe5ab606cf6792)) (.calls 190 [.t 18]) (.rS 124 [.t 13,.t 17,.c (.int .i64 4),.t 23]) (.BQ 5 z8 1 [(0,.t 24)])
def amg:=u 8 3<|w (D 0 0 1 0x5023cdf27849ad1c7bd99)
def amf:=u 14 5<|(w (D 1 0 4 0x54f88178aee94ff3b58f62a51846412)) (.me 5 z8 1 [(0,.t 12)])
def ame:=u 10 2<|(w (D 1 0 1 0x379cf643af4e823fac525b5eb5050)) (.qu 187 [.t 4])
def xG:AC:=(w (D 1 0 8 0xf374856b1896f69891d7c0218db70fb45da016d608d)) (.l8 (.t 11) [.t 15])
def BN:=xG
@[simp]def aqE:e BN xG:=λ_ _=>rfl
def afM:=u 19 4<|(w (D 0 1 3 0xfef1dd8bd4a589a673a50)) (.loop [8] [(4,5),(8,18)] [] [(.exit 0,[]),(.ret,[4])] BN)
def amd:=u 9 3<|w (D 0 0 1 0x2ba3a00eb0219407e3e8515)
def amc:=u 13 2<|(w (D 1 0 1 0x6b5f924f7f58a11060a0814d66707)) (.mv (.c .oI))
def Kr:AC:=(w (D 2 0 15 0x4fede29b1a0142e97d17810056cc0cdb856e295d0e0fa9a3330160639610b3e01e947c861ab8a)) (.calls 190 [.t 27]) (.BQ 5 z8 1 [(0,.t 33)])
def JU:=Kr
@[simp]def aqD:e JU Kr:=λ_ _=>rfl
def amb:=u 38 4<|(w (D 0 1 3 0x378d0b33ad2b537ccfde4f519dd80018ad3992)) (.loop [5,15] [(5,5),(7,7),(15,36)] [(5,5)] [(.exit 0,[5])] JU)
def ama:=AF.mk 21 []<|w (D 0 0 1 0x7123ec7b58a71cf7640732feefeef120099b955bc1cb02f7)
def arB:=AF.mk 24 [.cell 4 6 true,.t 5]<|(w (D 2 0 3 0x3a97ed4d829cd2671f8f26221e5bff1c3f1a8bb2c3b80ce1b8d62bdf20263098361f0159927300d6a0926b8b53b76beae4c05393ed)) (.build z0 []) (.build z0 [])
def Yd:AC:=(w (D 1 0 15 0xf69a60042235ff6070bc78aff1e47682f13d78f01d2cda758b84d7153dae4c7c7856686ef42576af52a9179a)) (.l8 (.t 26) [.t 27])
def XP:=Yd
@[simp]def aqC:e XP Yd:=λ_ _=>rfl
def arA:=u 42 4<|(w (D 3 1 3 0x476ed104bef444db441e9611de91bb5aeb4831948b3273ec7dceab00157212)) (.F8 3 (.t 36) (some (.t 37)) none none) (.clr 3 z5 (.t 38)) (.F8 3 (.t 39) none (some (.t 40)) none) (.loop [5,6] [(5,7),(16,35)] [] [(.exit 0,[5])] XP)
def arz:=u 8 3<|w (D 0 0 1 0x622165135662d388e5cdb)
def ary:=u 10 4<|w (D 0 0 1 0x74577db1736f0a535c418e479299)
def arx:=AF.mk 31 [.t 2,.t 3,.t 4]<|(w (D 1 0 1 0x177cb4a97e00096217384d1bb57b901f506209ee57857f9a5baaa8bf58cc73adc7f6efefea853bc6cb4896d528547b395df7f)) (.F8 1 (.t 27) none (some (.t 28)) none)
def arw:=u 48 6<|w (D 0 0 5 0x18dd3ad4c6649277143482866c3d257664ee9e877470734ef42c206ba4c92f6428456de501e5d433a4aaebdbd5d9e0b931cc5095ad2bbc77fd6ae099a00bc5469c40d07bac942e69d592529787614e14f)
def arv:=AF.mk 45 []<|(w (D 1 0 2 0xadcee01c30b441449a474e401eb2470a5c03a574a78f86424c606aeecb38fbce49af4b7f21a581a295af562c5f9f6b14302236d07b66fe6e5f595dc23742e)) (.BQ 6 z7 1 [(0,.t 39)])
def aru:=AF.mk 51 []<|(w (D 3 0 12 0x15ece14fe0b52d99d2c20856695cd9724310b01a9481c733c57e09e9655e4c42897ea162113abe7a61d7c16aff63622b341858565a0fd03e2d09fa3af238b1c8e48dbeb3e)) (.qu 210 [.t 25]) (.build z4 [(0,1,.t 28),(1,1,.t 29),(2,1,.t 34)]) (.BQ 3 z5 1 [(0,.t 35)])
def art:=u 11 4<|(w (D 1 0 2 0x56985d755d0229fac6f377d4ecef88e0d65b)) (.Ef (.func 262) [] [.t 3])
def ars:=AF.mk 34 []<|w (D 0 0 10 0x37562c4a8beea1e2f46aa76a439e7ab21146b551f5575e225ca37441c7fa9c1afc9b260ea23cef3429e25d07bc357a042766b144527d)
def arq:=AF.mk 18 []<|w (D 0 0 2 0xb105ff1a32b0bf5833780622aa78d7aca84202852fd42c421c2da)
def arp:=AF.mk 12 [.t 4,.t 5]<|(w (D 1 0 1 0x21f3c49c95c002bc9506d6da60e57)) (.call 264 [.t 7,.t 8,.c (.fn (.func 265) [] [])])
def Yc:AC:=(w (D 1 0 9 0xbba155a4978f08e0c58e0b29e0c01d39fd4820569c34140e7d022cf373cdbbb4723e9724cca830213dd844b6cbeafee28a3525a90593cc334)) (.me 1 (.int .i64 0) 1 [(0,.t 40)])
def XO:=Yc
@[simp]def aqB:e XO Yc:=λ_ _=>rfl
def aro:=u 44 4<|(w (D 1 1 3 0x1c34092c6ce20e40a46ac4ce)) (.M0 1 (.int .i64 0) 1 [(0,.t 8)]) (.loop [1,5] [(1,1),(4,7),(10,42)] [(5,1)] [(.exit 0,[5]),(.ret,[4])] XO)
def arn:=u 28 4<|w (D 0 0 1 0x6ae894c8be902cc628c2fae20a3076bb3eea4dcdef226bce2c4f975333afb2cfb6d597d1cb77bc643fd08474db85e1b162f91d9ef48a9a)
def arl:=u 18 6<|(w (D 1 0 2 0xb4ac64b3298af3c8ffb02d4c0f6f934fd9c8765bda647a355eb9b)) (.Ef (.func 267) [] [.t 3,.t 5,.t 7,.t 4])
def al9:=AF.mk 15 [.t 4,.t 5]<|(w (D 1 0 3 0x929f089d67cf6f6b79b0b0ef95dd3)) (.call 268 [.t 10,.t 11,.c (.fn (.func 269) [] [])])
def TB:=AF.mk 15 [.t 4,.t 5]<|(w (D 1 0 3 0x125cd478c18ef68e533ef1507e51cb70ab7363b63b1477f)) (.Sj (.t 11) (some (.t 13)) none)
def ajp:okF Tryz.prog 228 TB=true:=ai
def Fu:AC:=w (D 0 0 32 0xbfc9165fcda523b6cbc3192aa5f89b8a1bfc0ad331d21b40b22b7bb59ab53c57e160c9)
def JT:=Fu
@[simp]def aqA:e JT Fu:=λ_ _=>rfl
def TA:=u 48 4<|(w (D 0 1 3 0x91d0265eaa35ab28e0d76904c3056159a7c73a4eeb8bf3a36d2aa307139ec3377214ebeaa32c777fa6b0ed7dcfa53f69)) (.loop [9] [(4,4),(9,9),(33,47)] [] [(.exit 0,[]),(.ret,[4])] JT)
def Kq:AC:=(w (D 1 0 7 0xf4210284432ae79b4ddf9380034d68621cb8a2e8fffd0c9ed4d3179)) (.bin .add (.t 14) (.c (.str [47])))
def JS:=Kq
@[simp]def aqz:e JS Kq:=λ_ _=>rfl
def afL:=u 22 2<|(w (D 1 1 1 0x6ba82b92e0aab6bd13721470fe3d244e47caed5bf)) (.mv (.c (.str [47]))) (.loop [3,4] [(3,4),(8,20)] [] [(.exit 0,[3])] JS)
def uk:AC:=(w (D 4 0 19 0x19cbfbb1f8ecfac2208636f88453ea0a29503ecdaf6c6cdfd521d986c1f0933)) (.idxs (.t 26) (.t 27)) (.bin .lss (.t 28) (.c (.int .u8 32))) (.idxs (.t 31) (.t 32)) (.bin .eql (.t 33) (.c (.int .u8 47)))
def BM:=uk
@[simp]def aqy:e BM uk:=λ_ _=>rfl
def Ff:=u 36 2<|(w (D 2 1 1 0x6f17a0064cf50f75103b9131bdb83602885c81245657dc3dc30ed0d4efc567)) (.bin .eql (.t 13) (.c (.str [46]))) (.bin .eql (.t 17) (.c (.str [46,46]))) (.loop [3] [(2,3),(20,35)] [] [(.exit 0,[]),(.ret,[2])] BM)
def aaU:=AF.mk 22 [.cell 4 6 true,.t 5]<|(w (D 2 0 1 0x23f0b514788bdb5acf61bc0b582a4a7e3b787c726e0a9a5397a5a531d726eb029375bbf2a6bb89b0131ce5e2c50b99)) (.build z0 []) (.build z0 [])
def Ft:AC:=w (D 0 0 5 0x91a10d199fb1e79268add7edde2429340c8409b65c685350cda89f5b83e003b50)
def JR:=Ft
@[simp]def aqx:e JR Ft:=λ_ _=>rfl
def al8:=u 22 4<|(w (D 0 1 1 0x2c618ae0e4040d5c5416)) (.loop [5] [(4,21)] [] [(.exit 0,[]),(.ret,[4])] JR)
def zc:AC:=w (D 0 0 34 0x55b0f27ca5b1a347ce2e05e54249937e1b642fdfa7131e603510592aa147a44110955fe0620222ff76a5e9b0e0593e61f69d6f128fe88deeac82efab)
def JQ:=zc
@[simp]def aqw:e JQ zc:=λ_ _=>rfl
def BT:AC:=(w (D 1 1 13 0x685b6dac1f9cfc368b6c1fdf921e8397fe6ffc87fbb3b273bc3bfeae33a64467a1f9083cca258996660ab5a2d1d59596a03494028ee29522c56f7498ed7000b)) (.me 3 z5 1 [(0,.t 90)]) (.loop [14,15] [(14,15),(35,69)] [] [(.exit 2,[14])] JQ)
def Pa:=BT
@[simp]def aqv:e Pa BT:=λ_ _=>rfl
def Tz:=AF.mk 100 [.t 8,.t 9,.t 10]<|(w (D 0 1 3 0x1fedfd241d152141b4c48416137bd82a5a523d9279c000ca02997debfe290eb48554507970a0096d85051f001435e9e443799d4a1abff712d9)) (.loop [2,13] [(2,2),(8,10),(13,15),(35,99)] [(13,3)] [(.ret,[8,9,10])] Pa)
def Ty:=u 28 6<|w (D 0 0 2 0x26c9ae0a5a339690f8084fe2389a7f2f601ef0315e3cd348882fc7f933e7c88fd5f355eab92ba027b3a90281c02c168bb83782f515a3d783b5b)
def zb:AC:=(w (D 2 0 25 0x263cd66688146450398029011cb3278d011dc619f96fe7cae166e609bedd9f9e651794bf1dde4222aec346b7c845a978cb14298bfee9a37af4971ffef26b6774)) (.me 3 z5 1 [(0,.t 46)]) (.me 3 z5 1 [(0,.t 54)])
def JP:=zb
@[simp]def aqu:e JP zb:=λ_ _=>rfl
def al7:=AF.mk 72 [.cell 8 3 true]<|(w (D 2 1 3 0x1ff3bf8742a8c436ac9a28ab7d6d21ad585e5393a4c52d784e51acf193a6b16449b612dd2c0e73898601c93246966c09ef8b3bd868f40c778d903f6cb033aad136d542399eed42bd1b)) (.build z4 [(0,1,.t 21),(1,1,.t 22),(2,1,.t 24)]) (.me 3 z5 1 [(0,.t 60)]) (.loop [12,13,14] [(12,14),(26,56)] [(12,3)] [(.exit 0,[12,13])] JP)
def vP:AC:=(w (D 2 0 7 0x1416bbb1e2330fde100326035c00d88797bc03bb9a3b179e1d3fdc0531466a54c4fb5404a066a690c25c646cfc6b33a671c13e614afade670db98010210a58f59f83b1b0fd34e63a81)) (.me 6 z7 1 [(0,.t 29)]) (.me 6 z7 1 [(0,.t 46)])
def JO:=vP
@[simp]def aqt:e JO vP:=λ_ _=>rfl
def al6:=AF.mk 58 [.cell 4 3 true]<|(w (D 1 1 1 0xe3f090c68544e866585d036342470e46a3f7f5f3e3fae546ec73fe73edbb89291b)) (.me 6 z7 1 [(0,.t 52)]) (.loop [5,6,7] [(5,48)] [(5,6)] [(.exit 0,[5,6])] JO)
def BS:AC:=w (D 0 0 8 0x16a757275e6e324f5ec0b2f30da2e423265f571d6a8287ea0aeb115df47c70ebe1a231f9934a9dd0b328b8b674023271878762a0ae3277ef592d6279644)
def JN:=BS
@[simp]def aqs:e JN BS:=λ_ _=>rfl
def al5:=AF.mk 38 [.cell 2 3 true]<|(w (D 0 1 0 0x11f73c4f749e44e06ff399b061763f610c5a757)) (.loop [4] [(4,7),(9,36)] [] [(.exit 0,[])] JN)
def afK:=AF.mk 26 [.cell 4 3 true]<|w (D 0 0 1 0x1863cdc6bc6b3fd7eff04fc9532b019b94918d7c8fe671fa3f6d07f4fef9cfa970ae4947c8510605b5e1cfb6a5b3258)
def Fs:AC:=(w (D 1 0 16 0x345202da3992bce49b552d9e253b8653d6f705525f1186e2fb389967afbf0a10c20bcddf806a28c9f7f4ad73e52)) (.me 3 z5 1 [(0,.t 37)])
def JM:=Fs
@[simp]def aqr:e JM Fs:=λ_ _=>rfl
def al4:=AF.mk 45 [.cell 6 3 true]<|(w (D 0 1 2 0x1fea7b1b98ba171f19f749668a2b32e6e5ba2523081de81b626976133c6a7661d017ef8a966b6d55)) (.loop [9,10] [(9,10),(17,39)] [(9,3)] [(.exit 0,[9])] JM)
def za:AC:=w (D 0 0 9 0x55554e59bffc4675b8de4f63f91bb3de5b858a28fc1e71102a1ae4d489853d9acbac0b49daa9ad580b0dc4b234b544d9fb0219f0ccbd85b)
def O9:=za
@[simp]def aqq:e O9 za:=λ_ _=>rfl
def al3:=u 30 6<|(w (D 0 1 2 0x11d719e3e28eb604983255)) (.loop [1,7] [(1,1),(6,29)] [] [(.exit 0,[]),(.ret,[6])] O9)
def MU:=u 37 6<|w (D 0 0 2 0x8200eb2d4108a986219cda50b78bcf22dc492499d06d78d02d104e5d121ef1bbb6a70f9674b9246c87322e126d70e57d7104a2030dff13e85bc7bd2fb4605bacadf96)
def y9:AC:=w (D 0 0 7 0x125e55807d55cce4aa3b8b4d0462b27a2fd442ac26ed63107830b34970c268a1a48f117cab3)
def O8:=y9
@[simp]def aqp:e O8 y9:=λ_ _=>rfl
def al2:=u 25 4<|(w (D 0 1 1 0x2c72a94670f13148ae197)) (.loop [1,5] [(1,1),(5,23)] [] [(.exit 0,[5])] O8)
def vO:AC:=(w (D 1 0 14 0x1ed0663136b55a7488d314e2a5a683426b1182e12af43556d912a61bb97681f899da4e55b6ae12a1942d5c088d3d5eb8e2b641d508ab8934160086942cb425d1dad322a7b1d1b892fa5b8c)) (.mm true [.t 51,.t 52])
def JL:=vO
@[simp]def aqo:e JL vO:=λ_ _=>rfl
def al1:=u 55 6<|(w (D 0 1 2 0x1c34a12e08675316e44d961ead97555e1c2a3038d5)) (.loop [7,9] [(7,7),(9,11),(15,53)] [] [(.exit 0,[7])] JL)
def afJ:=u 49 2<|(w (D 2 0 1 0x386e399bdc68d73da8aa24d4049ccea4d359d9e39c0bd7889308a55ed063a6a18d95b6908edb69f4d2a2267f55e9c01deb1c39c22bed7f12a0905eb5d6fef29)) (.qu 67 [.t 26]) (.BQ 1 (.int .i64 0) 1 [(0,.t 32)])
def Yb:AC:=(w (D 1 0 8 0x6271e3a3a94aeef395bee81c243b252f579f270609)) (.l8 (.t 11) [.t 15])
def XN:=Yb
@[simp]def aqn:e XN Yb:=λ_ _=>rfl
def ark:=u 19 4<|(w (D 0 1 3 0xfef1dd8bd4a589a673a50)) (.loop [8] [(4,5),(8,18)] [] [(.exit 0,[]),(.ret,[4])] XN)
def arj:=u 10 4<|w (D 0 0 3 0x47118f49cd27b1acbc7b8d)
def ari:=u 8 3<|w (D 0 0 1 0x6cb53cf5762b433071ff01b)
def Ya:AC:=(w (D 4 0 14 0x2ca8ddc5ba2f3922416d149a14658b04bd93f4b8e242a230967f5f4be1acd88401)) (.conv .u64 (.t 20)) (.bin .shr (.t 21) (.c (.int .u64 1))) (.conv .i64 (.t 22)) (.l8 (.t 24) [.t 28,.t 29])
def XM:=Ya
@[simp]def aqm:e XM Ya:=λ_ _=>rfl
def arh:=AF.mk 49 [.t 6,.t 7]<|(w (D 1 1 5 0x2bff2eafc28183e4af30a95f154c5f6c825de18f28c2660722d56ecfa82617aa70d)) (.l8 (.t 40) [.t 44,.t 45]) (.loop [9,10] [(9,11),(15,34)] [] [(.exit 0,[9])] XM)
def arf:=u 9 4<|w (D 0 0 1 0x26bbacb6cd5b9f2885b60d7)
def ard:=u 9 4<|w (D 0 0 3 0xad2f192a403a6cdf8a7)
def arc:=u 40 6<|w (D 0 0 4 0x7cd983ec0e668370f00f62ad381b20ea13cf54139ed78c783c1ffe832db6de0c42c87047381abd2e5aa5f792cb263302d65b9b3f9350916)
def Fq:AC:=(w (D 4 0 14 0x1abdc90071fcb6339ac48ac0514d5c9819bfea00c74579b78cef5891107fa47ddcb)) (.conv .u64 (.t 20)) (.bin .shr (.t 21) (.c (.int .u64 1))) (.conv .i64 (.t 22)) (.l8 (.t 24) [.t 28,.t 29])
def JK:=Fq
@[simp]def aql:e JK Fq:=λ_ _=>rfl
def al0:=AF.mk 49 [.t 6,.t 7]<|(w (D 1 1 5 0x1a582e7ea5c5c980e4b122fb5bd84e0995287b8cde84f5d5fe513c9be7ce17e942ce)) (.l8 (.t 40) [.t 44,.t 45]) (.loop [9,10] [(9,11),(15,34)] [] [(.exit 0,[9])] JK)
def alZ:=u 9 4<|w (D 0 0 1 0x26bbacb3aa092ef3e579e19)
def Tx:=u 18 4<|(w (D 1 0 3 0x1905da3752f5f11b696c79695cc825d81a2da6)) (.Sj (.t 11) none (some (.t 13)))
def ajo:okF Tryz.prog 270 Tx=true:=ai
def XL:=u 21 4<|w (D 0 0 1 0x11ca5138f544b2d994a7d649bd507434809afc8a22a5e710cb6ced84c56)
def XK:=AF.mk 28 [.cell 4 3 true,.t 5]<|w (D 0 0 1 0x3ca63770058a24293cda827f491b5e5d8f3100b97d25022d3a72e708853055bb2e37e608fe2b27746a0b7a07b7e347beda805c74ef46cbd0a1c2781aa0af995)
def Fp:AC:=(w (D 1 0 6 0x70998926f2a688d0ea838307ed89e77a4a203dac22091d7291c5dd79c3a9412de12fd7a45c470347928c7c2)) (.me 6 z7 1 [(0,.t 27)])
def JJ:=Fp
@[simp]def aqk:e JJ Fp:=λ_ _=>rfl
def alY:=AF.mk 33 [.cell 4 3 true]<|(w (D 0 1 1 0x1f9d8290d6718e1dea3e2989a303770c471a)) (.loop [5,6] [(5,29)] [(5,6)] [(.exit 0,[5])] JJ)
def Fo:AC:=(w (D 3 0 12 0x2676fb4a556cd20ff131c0dcb13e7882368d6da99df00382729619b636b91e2b)) (.conv .u64 (.t 18)) (.bin .shr (.t 19) (.c (.int .u64 1))) (.conv .i64 (.t 20))
def JI:=Fo
@[simp]def aqj:e JI Fo:=λ_ _=>rfl
def alX:=AF.mk 54 [.t 4,.t 5]<|(w (D 0 1 3 0x1547d8addefb803fe01bb6a630efb284c41f5a2e04ece6b698186fd7abef2d700b66340b7724c29bd10785eb4d)) (.loop [7,8] [(7,9),(13,30)] [] [(.exit 0,[7])] JI)
def X9:AC:=(w (D 1 0 8 0x3af26abca9fa1c80469bb08c07a90e6b2ff7ff0590d)) (.l8 (.t 11) [.t 15])
def XJ:=X9
@[simp]def aqi:e XJ X9:=λ_ _=>rfl
def arb:=u 19 4<|(w (D 0 1 3 0xfef1dd8bd4a589a673a50)) (.loop [8] [(4,5),(8,18)] [] [(.exit 0,[]),(.ret,[4])] XJ)
def alW:=u 17 4<|w (D 0 0 3 0x14b5efad6338a2c3691c7f8eaf3fc33e66ea4)
def alV:=u 6 2<|w (D 0 0 1 0x21f742fe82171d27)
end
end Go.Proofs.YtaepagegdgdlhaaGreatDoor
