/- Part of the proof that TopScriptsCard holds. -/
import Derived.Test.YtahlmpbhfljalaaGreatDoorAl0
import Derived.Calls
import Derived.LoopN
set_option linter.all false
namespace Go.Am
inductive AV where
 |dead
 |undef
 |bool (b:Bool)
 |int (k:IntKind) (n:Int)
 |str (s:aq)
 |kG
 |me
 |ptr (b v i o:Nat)
 |iw (cs:List AV)
 |en (full:Bool) (es:List AV)
 |own (b v o n:Nat)
 |agg (cs:List AV)
 |iV (vs:List AV)
 |fn (f:Fn) (first cap:List AV)
 |kU
 |uc (t:TypeId) (v:AV)
 |kg
 |th
  |kZ (b:Nat)
  |bt (b v:Nat) (t:TypeId) (p:Option (Nat×Nat))
  |yl
 deriving Inhabited
def AV.cells:AV->List AV
 | .agg cs=>cs
 |v=>[v]
inductive AB where
 |gone
 |var (cs:List AV)
 |row (v sz:Nat) (es:List AV)
 |lu (v sz:Nat) (es:List AV)
  |mp (k:IntKind) (es:List (Int×AV))
 deriving Inhabited
abbrev AH:=List AB
def AV.qF:AV->Bool
 | .dead=>false
 | .undef=>false
 | .agg _=>false
 | .iV _=>false
 |_=>true
def AV.jD:AV->Bool
 | .bool _=>true
 | .int _ _=>true
 | .str _=>true
 | .en _ _=>true
 | .kG=>true
 | .me=>true
 | .kU=>true
 | .kg=>true
 | .yl=>true
 |_=>false
def AV.jE:AV->Bool
 | .agg cs=>cs.all AV.jD
 |v=>v.jD
def AV.rI:AV->Bool
 | .iV vs=>vs.all AV.jE
 |v=>v.jE
def mQ(h:AH):AV->Option (AV×AH)
 | .own b v o n =>
  match h[b]? with
  |some (.row v' sz es)=>if v=v'/\o+n<=es.length then some (.en false ((es.drop o).take n),h.set b (.lu v' sz es))else none
  |some (.lu v' _ es)=>if v=v'/\o+n<=es.length then some (.en false ((es.drop o).take n),h)else none
  |_=>none
 |a=>if a.jD then some (a,h)else none
def rU:AH->List AV->Option (List AV×AH)
 |h,[]=>some ([],h)
 |h,a::l=>(mQ h a).bind λ(n,h')=>(rU h' l).bind λ(i,b)=>some (n::i,b)
def lG(h:AH)(a:AV):Option (AV×AH) :=
 if a.jE then some (a,h)else
 match a with
 | .agg cs=>(rU h cs).bind λ(cs',h')=>some (.agg cs',h')
 |a=>mQ h a
def jk:AH->List AV->Option (List AV×AH)
 |h,[]=>some ([],h)
 |h,a::l=>(lG h a).bind λ(n,h')=>(jk h' l).bind λ(i,b)=>some (n::i,b)
def lP(h:AH)(a:AV):Option (AV×AH) :=
 if a.rI then some (a,h)else
 match a with
 | .iV vs=>(jk h vs).bind λ(b,h')=>some (.iV b,h')
 |a=>lG h a
inductive AO where
 |t (i:Nat)
 |c (v:AV)
 deriving Inhabited
inductive NK where
 |sl | pt | fn | uc
 deriving Inhabited
inductive j5 where
 |mv (x:AO)
 |pick (c a b:AO)
 |alloc (zero:List AV)
 |box (x:AO)
 |build (zero:List AV) (parts:List (Nat×Nat×AO))
 |Pg (sz:Nat) (zero:AV) (len:Nat) (parts:List (Nat×AO))
 |DD (sz:Nat) (zero:AV) (len:Nat) (parts:List (Nat×AO))
  |nE (sz:Nat) (a x:AO) (q:Nat)
  |nw (sz:Nat) (agg:Bool) (a:AO) (q:Nat)
  |K6 (sz:Nat) (zero:AV) (len:Nat) (parts:List (Nat×AO))
 |load (sz:Nat) (agg:Bool) (a:AO)
 |store (sz:Nat) (a x:AO)
 |J8 (x:AO)
 |bin (op:BinOp) (x y:AO)
 |seq (neg:Bool) (ks:au) (x y:AO)
 |un (op:UnOp) (x:AO)
 |conv (k:IntKind) (x:AO)
 |Co (x:AO)
 |SK (t:TypeId) (x:AO)
 |Hi (f:Fn) (first cap:List AO)
 |Z2 (sz bytes:Nat) (zero:AV) (len cap:AO)
 |GR (x:AO) (lo hi:Option AO)
 |yQ (sz:Nat) (x:AO) (lo hi mx:Option AO)
 |B4 (off:Nat) (x:AO)
 |WO (off sz:Nat) (agg:Bool) (x:AO)
 |DS (sz:Nat) (x i:AO)
 |uK (n sz:Nat) (x i:AO)
 |idxs (x i:AO)
 |ext (x:AO) (i:Nat)
 |call (f:FuncId) (args:List AO)
 |kY (f:FuncId) (args:List AO)
 |jS (f:AO) (args:List AO)
 |app (sz bytes:Nat) (s x:AO)
 |len (str:Bool) (x:AO)
 |mm (isMax:Bool) (xs:List AO)
 |no
 |xB (k:NK) (neg:Bool) (x:AO)
 |XH (sz:Nat) (zero:AV) (x:AO)
 |Ez (x:AO)
 |oN (sz:Nat) (agg:Bool) (a:AO)
 |qB (f:AO) (args:List AO)
 |s5 (f:FuncId) (args:List AO)
 |J9 (q:IntKind)
 |uJ (q:IntKind) (zero:AV) (m k:AO)
 |sx (q:IntKind) (m k x:AO)
 |Hh (q:IntKind) (m:AO)
 |o8 (f:FuncId) (args:List AO)
  |Sr (x:AO)
  |qn (sz:Nat) (agg:Bool) (t:Nat)
  |calls (f:FuncId) (args:List AO)
 |oZ (f:AO) (args:List AO)
  |rG (q:IntKind) (zero:AV) (m k:AO)
  |vM (f:FuncId) (args:List AO)
  |vN (f:FuncId) (args:List AO)
 |beq (neg:Bool) (x y:AO)
 |OP (sz bytes:Nat) (zero:AV) (s x:AO)
 |copy (sz:Nat) (d s:AO)
  |xg (t:TypeId) (zero:List AV)
 |OD (t:TypeId) (x:AO)
  |Nq (n sz:Nat) (agg:Bool) (x i:AO)
  |ni (f:AO) (args:List AO)
 deriving Inhabited
abbrev Pn:=TypeId×IntKind×Int
structure ja where
 p:FuncId->List AV->Option AV
 h:FuncId->List AV->AH->Option (AV×AH)
 x:FuncId->List AV->AH->Option ((AV⊕Pn)×AH)
abbrev Env:=Nat->AV
def Env.put(e:Env)(t:Nat)(v:AV):Env:=λi=>if i=t then v else e i
def AO.get(e:Env):AO->AV
 | .t i=>e i
 | .c v=>v
def mY(k:IntKind)(x y:Int):BinOp->Option AV
 | .add=>some (.int k (k.wrap (x+y)))
 | .sub=>some (.int k (k.wrap (x-y)))
 | .mul=>some (.int k (k.wrap (x*y)))
 | .quo=>if y=0 then none else some (.int k (k.wrap (x.tdiv y)))
 | .rem=>if y=0 then none else some (.int k (x.tmod y))
 | .eql=>some (.bool (decide (x=y)))
 | .neq=>some (.bool (!decide (x=y)))
 | .lss=>some (.bool (decide (x<y)))
 | .leq=>some (.bool (decide (x<=y)))
 | .gtr=>some (.bool (decide (y<x)))
 | .geq=>some (.bool (decide (y<=x)))
 | .and=>some (.int k (k.wrap ((BitVec.ofInt k.bits x &&& BitVec.ofInt k.bits y).toNat:Nat)))
 | .or=>some (.int k (k.wrap ((BitVec.ofInt k.bits x ||| BitVec.ofInt k.bits y).toNat:Nat)))
 | .andNot=>some (.int k (k.wrap ((BitVec.ofInt k.bits x &&& ~~~ (BitVec.ofInt k.bits y)).toNat:Nat)))
 |_=>none
def ij:aq->aq->Bool
 |_,[]=>false
 | [],_::_=>true
 |a::x,b::y=>a<b||(a==b&&ij x y)
def mw(x y:aq):BinOp->Option AV
 | .add=>if x.length+y.length<=4611686018427387904 then some (.str (x++y))else none
 | .eql=>some (.bool (decide (x=y)))
 | .neq=>some (.bool (!decide (x=y)))
 | .lss=>some (.bool (ij x y))
 | .leq=>some (.bool (ij x y||decide (x=y)))
 | .gtr=>some (.bool (!(ij x y||decide (x=y))))
 | .geq=>some (.bool (!ij x y))
 |_=>none
def bin(op:BinOp):AV->AV->Option AV
 | .int k x,.int b y =>
  match op with
  | .shl=>if y<0 then none else some (.int k (k.wrap (x*2 ^ min y.toNat k.bits)))
  | .shr=>if y<0 then none else some (.int k (x.fdiv (2 ^ min y.toNat k.bits)))
  |op=>if k=b then mY k x y op else none
 | .str x,.str y=>mw x y op
 |_,_=>none
def iO:au->List AV->List AV->Option Bool
 | [],[],[]=>some true
 |0::l,.int k a::x,.int h b::y=>if k=h then(if a=b then iO l x y else some false)else none
 |1::l,.str a::x,.str b::y=>if a=b then iO l x y else some false
 |2::l,.bool a::x,.bool b::y=>if a=b then iO l x y else some false
 |_,_,_=>none
def un(op:UnOp):AV->Option AV
 | .bool b=>match op with | .not=>some (.bool (!b)) | _=>none
 | .int k n=>match op with | .neg=>some (.int k (k.wrap (0-n))) | _=>none
 |_=>none
def nO:List AV->Option aq
 | []=>some []
 | .int .u8 n::l=>(nO l).bind λr=>some (UInt8.ofNat n.toNat::r)
 |_=>none
def iC(h:AH):AV->Option (List AV)
 | .iw cs=>some cs
 | .ptr b v i o =>
  match h[b]? with
  |some (.var cs)=>if v=0/\i=0/\o<=cs.length then some (cs.drop o)else none
  |some (.row v' _ es)=>if v=v' then(es[i]?).bind λx=>if o<=x.cells.length then some (x.cells.drop o)else none else none
  |some (.lu v' _ es)=>if v=v' then(es[i]?).bind λx=>if o<=x.cells.length then some (x.cells.drop o)else none else none
  |_=>none
 |_=>none
def shape(sz:Nat)(agg:Bool)(cs:List AV):Option AV :=
 if cs.length<sz then none else
 if agg then some (.agg (cs.take sz))else if sz=1 then cs.head? else none
def over{α:Type}(cs:List α)(o:Nat)(xs:List α):List α:=cs.take o++xs++cs.drop (o+xs.length)
def AV.jT:AV->List AV->AV
 | .agg _,cs=>.agg cs
 |_,cs=>cs.headD .dead
def storeAt(h:AH)(sz:Nat)(a x:AV):Option AH :=
 match a with
 | .ptr b v i o =>
  match h[b]? with
  |some (.var cs) =>
   if v=0/\i=0/\x.cells.all AV.qF=true/\x.cells.length=sz/\o+sz<=cs.length then some (h.set b (.var (over cs o x.cells)))else none
  |some (.row _ _ _) =>
   (lG h x).bind λ(l,h') =>
    match h'[b]? with
    |some (.row v' n es)=>(es[i]?).bind λe =>
     if v=v'/\l.cells.all AV.jD=true/\l.cells.length=sz/\o+sz<=e.cells.length then some (h'.set b (.row v' n (es.set i (e.jT (over e.cells o l.cells)))))else none
    |_=>none
  |_=>none
 |_=>none
def kQ:AV->AV->Bool
 | .ptr b _ _ _,.ptr h _ _ _=>decide (b≠h)
 | .ptr ..,.iw _=>true
 |_,_=>false
def Bl:AV->AV->Bool
 | .ptr b _ _ _,.ptr h _ _ _=>decide (b=h)
 |_,_=>false
def ob(h:AH):AV->Bool
 | .ptr b _ _ _=>match h[b]? with | some (.var _)=>true | _=>false
 |_=>false
def elems(h:AH):AV->Option (List AV)
 | .en _ es=>some es
 | .own b v o n =>
  match h[b]? with
  |some (.row v' _ es)=>if v=v'/\o+n<=es.length then some ((es.drop o).take n)else none
  |some (.lu v' _ es)=>if v=v'/\o+n<=es.length then some ((es.drop o).take n)else none
  |_=>none
 |_=>none
def tyC(i:Nat)(t:TypeId):AV->AV
 | .kG=>.bt i 0 t none
 |a=>a
def rL(i:Nat)(t:TypeId):List AV->List AV
 | []=>[]
 |a::l=>tyC i t a::rL i t l
def wI(h:AH):AV->Option (List AV)
 | .str s=>some (s.map λc=>.int .u8 (c.toNat:Int))
 |a=>elems h a
def iZ(h:AH)(b v:Nat):Option Nat :=
 match h[b]? with
 |some (.row v' sz _)=>if v=v' then some sz else none
 |some (.lu v' sz _)=>if v=v' then some sz else none
 |_=>none
def iU(sz:Nat)(es:List AV):Bool:=es.all λx=>x.cells.length==sz
def append(h:AH)(sz bytes:Nat)(s:AV)(news:List AV):Option (AV×AH) :=
 match s with
 | .en true es =>
  if (es=[]\/news≠[])/\iU sz es=true/\iU sz news=true/\(es.length+news.length)*bytes<=140737488355328/\es.length+news.length<=140737488355328 then
   some (.own h.length 0 0 (es.length+news.length),h++[.row 0 sz (es++news)])
  else none
 | .own b v o n =>
  match h[b]? with
  |some (.row v' i es) =>
   if v=v'/\i=sz/\iU sz news=true/\o+n<=es.length/\(n+news.length)*bytes<=140737488355328/\n+news.length<=140737488355328 then
    some (.own b (v+1) 0 (n+news.length),h.set b (.row (v+1) sz ((es.drop o).take n++news)))
   else none
  |_=>none
 |_=>none
def yR(str:Bool):AV->Option Nat
 | .str s=>if str then some s.length else none
 | .en _ es=>if str then none else some es.length
 | .own _ _ _ n=>if str then none else some n
 |_=>none
def nat? : AV->Option Nat
 | .int _ n=>if 0<=n then some n.toNat else none
 |_=>none
def jB(d:Nat)(e:Env):Option AO->Option Nat
 |none=>some d
 |some x=>nat? (x.get e)
def parts(e:Env):List (Nat×Nat×AO)->List AV->Option (List AV)
 | [],cs=>some cs
 |(off,size,x)::l,cs =>
  if (x.get e).cells.all AV.qF=true/\(x.get e).cells.length=size/\off+size<=cs.length then parts e l (over cs off (x.get e).cells)else none
def lz(e:Env)(sz:Nat):List (Nat×AO)->List AV->AH->Option (List AV×AH)
 | [],es,h=>some (es,h)
 |(i,x)::l,es,h=>(lG h (x.get e)).bind λ(b,h') =>
  if b.cells.length=sz/\i<es.length then lz e sz l (es.set i b) h' else none
def lC(e:Env)(sz:Nat):List (Nat×AO)->List AV->Option (List AV)
 | [],es=>some es
 |(i,x)::l,es=>if (x.get e).jE/\(x.get e).cells.length=sz/\i<es.length then lC e sz l (es.set i (x.get e))else none
def getAll(e:Env):List AO->List AV
 | []=>[]
 |x::l=>x.get e::getAll e l
def Z1(isMax:Bool):AV->AV->Option AV
 | .int k x,.int _ y=>some (.int k (if isMax then(if x<y then y else x)else(if y<x then y else x)))
 |_,_=>none
def uv(isMax:Bool):AV->List AV->Option AV
 |x,[]=>some x
 |x,y::l=>(Z1 isMax x y).bind λz=>uv isMax z l
def rF(Γ:ja)(f:FuncId)(args:List AV)(h:AH):Option (AV×AH) :=
 match jk h args with
 |some (b,h')=>match Γ.p f b with
  |some r=>some (r,h')
  |none=>Γ.h f args h
 |none=>Γ.h f args h
def isNil(k:NK)(neg:Bool):AV->Option AV
 | .kG=>match k with | .pt=>some (.bool (!neg)) | _=>none
 | .ptr .. => match k with | .pt=>some (.bool neg) | _=>none
 | .iw .. => match k with | .pt=>some (.bool neg) | _=>none
 | .kU=>match k with | .fn=>some (.bool (!neg)) | _=>none
 | .fn .. => match k with | .fn=>some (.bool neg) | _=>none
 | .kg=>match k with | .uc=>some (.bool (!neg)) | _=>none
 | .uc .. => match k with | .uc=>some (.bool neg) | _=>none
 | .en _ es=>match k with | .sl=>if es=[]then some .th else some (.bool neg) | _=>none
 | .own _ _ _ n=>match k with | .sl=>if n=0 then some .th else some (.bool neg) | _=>none
 |_=>none
def jO{C:Type}[DecidableEq C](es:List (C×AV))(n:C)(zero:AV):AV:=(es.find? λp=>decide (p.1=n)).elim zero λp=>p.2
def qZ{C:Type}[DecidableEq C](es:List (C×AV))(n:C):Bool:=(es.find? λp=>decide (p.1=n)).isSome
def lF{C:Type}[DecidableEq C]:List (C×AV)->C->AV->List (C×AV)
 | [],n,v=>[(n,v)]
 |p::l,n,v=>if p.1=n then(n,v)::l else p::lF l n v
def oL(q:IntKind)(h:AH):AV->Option (Nat×List (Int×AV))
 | .kZ b=>match h[b]? with | some (.mp k es)=>if k=q then some (b,es)else none | _=>none
 |_=>none
def AL(q:IntKind):AV->Option Int
 | .int k n=>if k=q then some n else none
 |_=>none
def jv(h:AH)(v:Option AV):Option (AV×AH):=v.bind λv=>some (v,h)
open Classical in
noncomputable def pF(h:AH):Option (AV×AH)->Option (AV×AH)
 |some (r,h')=>if h'=h then some (r,h)else none
 |none=>none
open Classical in
noncomputable def qu(h:AH):Option (AV×AH)->Option (AV×AH)
 |some (r,h')=>if h'.take h.length=h then some (r,h')else none
 |none=>none
noncomputable def exec(Γ:ja)(e:Env)(h:AH):j5->Option (AV×AH)
 | .mv x=>some (x.get e,h)
 | .pick c a b=>match c.get e with
  | .bool t=>some (if t then a.get e else b.get e,h)
  |_=>none
 | .alloc zero=>some (.ptr h.length 0 0 0,h++[.var zero])
 | .ni f args=>match f.get e with
  | .fn g first cap=>match g with
   | .func g=>if (first++getAll e args++cap).all AV.jE then jv h (Γ.p g (first++getAll e args++cap))else none
   |_=>none
  |_=>none
 | .Nq n sz agg x i=>match x.get e with
  | .agg cs=>(nat? (i.get e)).bind λk=>if k<n then jv h (shape sz agg (cs.drop (k*sz)))else none
  |_=>none
 | .xg t zero=>some (.ptr h.length 0 0 0,h++[.var (rL h.length t zero)])
 | .OD t x=>if (x.get e).cells.all AV.qF then some (.ptr h.length 0 0 0,h++[.var (rL h.length t (x.get e).cells)])else none
 | .box x=>if (x.get e).cells.all AV.qF then some (.ptr h.length 0 0 0,h++[.var (x.get e).cells])else none
 | .build zero ps=>(parts e ps zero).bind λcs=>some (.agg cs,h)
 | .Pg sz zero len ps=>(lC e sz ps (List.replicate len zero)).bind λes=>some (.en true es,h)
 | .DD sz zero len ps=>(lz e sz ps (List.replicate len zero) h).bind λ(es,h')=>some (.en false es,h')
 | .K6 sz zero len ps=>(lz e sz ps (List.replicate len zero) h).bind λ(es,h')=>some (.own h'.length 0 0 es.length,h'++[.row 0 sz es])
 | .load sz agg a=>(iC h (a.get e)).bind λcs=>jv h (shape sz agg cs)
 | .store sz a x=>(storeAt h sz (a.get e) (x.get e)).bind λh'=>some (.undef,h')
 | .nw sz agg a q=>if kQ (e q) (a.get e)=true then(iC h (a.get e)).bind λcs=>jv h (shape sz agg cs)else none
 | .nE sz a x q=>if ob h (a.get e)=true/\Bl (e q) (a.get e)=true then(storeAt h sz (a.get e) (x.get e)).bind λh'=>some (.undef,h')else none
 | .J8 x=>match x.get e with
  | .ptr b v i o=>some (.ptr b v i o,h)
  | .iw cs=>some (.iw cs,h)
  | .fn f a c=>match f with | .func g=>some (.fn (.func g) a c,h) | _=>none
  |_=>none
 | .bin op x y=>jv h (bin op (x.get e) (y.get e))
 | .seq neg G x y=>match x.get e,y.get e with
  | .agg a,.agg b=>(iO G a b).bind λr=>if a.length=G.length/\b.length=G.length then some (.bool (if neg then !r else r),h)else none
  |_,_=>none
 | .un op x=>jv h (un op (x.get e))
 | .conv k x=>match x.get e with
  | .int _ n=>some (.int k (k.wrap n),h)
  |_=>none
 | .Co x=>(elems h (x.get e)).bind λes=>(nO es).bind λs=>some (.str s,h)
 | .SK t x=>some (.uc t (x.get e),h)
 | .Hi f a c=>some (.fn f (getAll e a) (getAll e c),h)
 | .Z2 sz bytes zero l c=>match nat? (l.get e),nat? (c.get e)with
  |some n,some m=>if n<=m/\m*bytes<=140737488355328/\m<=140737488355328 then some (.own h.length 0 0 n,h++[.row 0 sz (List.replicate n zero)])else none
  |_,_=>none
 | .GR x F E=>match x.get e with
  | .str s=>(jB s.length e E).bind λb=>(jB 0 e F).bind λa =>
    if a<=b/\b<=s.length then some (.str ((s.take b).drop a),h)else none
  |_=>none
 | .yQ sz x F E H=>match x.get e with
  | .en full es=>(jB es.length e E).bind λb=>(jB 0 e F).bind λa =>
    match H with
    |none=>if iU sz es=true/\a<=b/\b<=es.length then some (.en (full&&decide (b=es.length)) ((es.take b).drop a),h)else none
    |some m=>(nat? (m.get e)).bind λm =>
      if iU sz es=true/\E.isSome=true/\a<=b/\b<=m/\m<=es.length then some (.en (decide (b=m)) ((es.take b).drop a),h)else none
  | .own r v o n=>(jB n e E).bind λb=>(jB 0 e F).bind λa =>
    match H with
    |none=>if iZ h r v=some sz/\a<=b/\b<=n then some (.own r v (o+a) (b-a),h)else none
    |some m=>(nat? (m.get e)).bind λm =>
      if iZ h r v=some sz/\E.isSome=true/\a<=b/\b<=m/\m<=n then some (.own r v (o+a) (b-a),h)else none
  |_=>none
 | .B4 off x=>match x.get e with
  | .ptr b v i o=>some (.ptr b v i (o+off),h)
  | .iw cs=>if off<=cs.length then some (.iw (cs.drop off),h)else none
  |_=>none
 | .WO off sz agg x=>match x.get e with
  | .agg cs=>if off<=cs.length then jv h (shape sz agg (cs.drop off))else none
  |_=>none
 | .DS sz x i=>match x.get e with
  | .en _ es=>(nat? (i.get e)).bind λn=>(es[n]?).bind λy=>if y.cells.length=sz then some (.iw y.cells,h)else none
  | .own b v o m=>(nat? (i.get e)).bind λn=>if n<m/\iZ h b v=some sz then some (.ptr b v (o+n) 0,h)else none
  |_=>none
 | .uK m sz x i=>(nat? (i.get e)).bind λn=>if n<m then
   match x.get e with
   | .ptr b v j o=>some (.ptr b v j (o+n*sz),h)
   | .iw cs=>if n*sz<=cs.length then some (.iw (cs.drop (n*sz)),h)else none
   |_=>none
   else none
 | .idxs x i=>match x.get e with
  | .str s=>(nat? (i.get e)).bind λn=>(s[n]?).bind λc=>some (.int .u8 c.toNat,h)
  |_=>none
 | .ext x i=>match x.get e with
  | .iV vs=>(vs[i]?).bind λv=>some (v,h)
  |_=>none
 | .call f args=>rF Γ f (getAll e args) h
 | .kY f args=>if (getAll e args).all AV.jE then jv h (Γ.p f (getAll e args))else none
 | .jS f args=>match f.get e with
  | .fn g first cap=>match g with
   | .func g=>rF Γ g (first++getAll e args++cap) h
   |_=>none
  |_=>none
 | .app sz bytes s x=>(wI h (x.get e)).bind λnews=>append h sz bytes (s.get e) news
 | .len str x=>(yR str (x.get e)).bind λn=>some (.int .i64 n,h)
 | .mm isMax xs=>match getAll e xs with
  |x::l=>jv h (uv isMax x l)
  | []=>none
 | .no=>none
 | .xB k neg x=>jv h (isNil k neg (x.get e))
 | .XH z zero x=>match x.get e with
  | .own b v o n =>
   match h[b]? with
   |some (.row v' sz es)=>if v=v'/\sz=z/\o+n<=es.length then some (.iV [],h.set b (.row v' sz (over es o (List.replicate n zero))))else none
   |_=>none
  | .en _ es=>if es=[]then some (.iV [],h)else none
  |_=>none
 | .Ez x=>if (x.get e).cells.all AV.jD then some (.iw (x.get e).cells,h)else none
 | .oN sz agg a=>match a.get e with
  | .iw cs=>jv h (shape sz agg cs)
  |_=>none
 | .s5 f args=>if (getAll e args).all AV.jE then((Γ.h f (getAll e args) []).bind λ(r,h1)=>lP h1 r).bind λ(r,_)=>some (r,h)else none
 | .qB f args=>match f.get e with
  | .fn g first cap=>match g with
   | .func g=>pF h (rF Γ g (first++getAll e args++cap) h)
   |_=>none
  |_=>none
 | .J9 q=>some (.kZ h.length,h++[.mp q []])
 | .uJ q zero m k=>(oL q h (m.get e)).bind λ(_,es)=>(AL q (k.get e)).bind λn=>some (jO es n zero,h)
 | .sx q m k x=>(oL q h (m.get e)).bind λ(b,es)=>(AL q (k.get e)).bind λn=>some (.undef,h.set b (.mp q (lF es n (x.get e))))
 | .Hh q m=>(oL q h (m.get e)).bind λ(_,es)=>some (.int .i64 es.length,h)
 | .rG q zero m k=>(oL q h (m.get e)).bind λ(_,es)=>(AL q (k.get e)).bind λn=>some (.iV [jO es n zero,.bool (qZ es n)],h)
 | .o8 f args=>qu h (rF Γ f (getAll e args) h)
 | .Sr x=>match x.get e with
  | .str s=>some (.en false (s.map λc=>.int .u8 (c.toNat:Int)),h)
  |_=>none
 | .qn sz agg t=>if ob h (e t)=true then(iC h (e t)).bind λcs=>jv h (shape sz agg cs)else none
 | .calls f args=>pF h (rF Γ f (getAll e args) h)
 | .vN f args=>(jk h (getAll e args)).bind λq=>Γ.h f q.1 q.2
 | .vM f args=>(jk h (getAll e args)).bind λq=>(Γ.p f q.1).bind λr=>some (r,q.2)
 | .oZ f args=>match f.get e with
  | .fn g first cap=>match g with
   | .func g=>qu h (rF Γ g (first++getAll e args++cap) h)
   |_=>none
  |_=>none
 | .beq neg x y=>match x.get e,y.get e with
  | .bool a,.bool b=>some (.bool (if neg then !decide (a=b)else decide (a=b)),h)
  |_,_=>none
 | .OP sz bytes zero s x=>(nat? (x.get e)).bind λn=>append h sz bytes (s.get e) (List.replicate n zero)
 | .copy z d s=>(elems h (s.get e)).bind λA=>match d.get e with
  | .own b v o n =>
   match h[b]? with
   |some (.row v' sz es) =>
    if v=v'/\sz=z/\iU z A=true/\o+n<=es.length then
     some (.int .i64 (min A.length n),h.set b (.row v' sz (over es o (A.take n))))
    else none
   |_=>none
  | .en _ es=>if es=[]then some (.int .i64 0,h)else none
  |_=>none
structure AI where
 dst:Option Nat
 guard:Option (Nat×Bool)
 op:j5
structure St where
 e:Env
 h:AH
def St.put(s:St)(d:Option Nat)(v:AV):St :=
 match d with
 |some t=>{s with e:=s.e.put t v}
 |none=>s
noncomputable def flat(Γ:ja):List AI->St->Option St
 | [],s=>some s
 |o::l,s =>
  match o.guard with
  |none=>(exec Γ s.e s.h o.op).bind λ(v,h)=>flat Γ l (St.put {s with h:=h} o.dst v)
  |some (g,i) =>
   match s.e g with
   | .bool b=>if b=i then(exec Γ s.e s.h o.op).bind λ(v,h)=>flat Γ l (St.put {s with h:=h} o.dst v)else flat Γ l (s.put o.dst .undef)
   | .undef=>flat Γ l (s.put o.dst .undef)
   |_=>none
inductive IT where
 |nil
 |op (d:Option Nat) (o:j5) (rest:IT)
 |sc (d:Nat) (a:Bool) (c lo hi:Nat) (qX:IT) (r:AO) (rest:IT)
 deriving Inhabited
def Env.kill(e:Env)(b h:Nat):Env:=λi=>if b<=i/\i<=h then .dead else e i
noncomputable def qX(Γ:ja):IT->St->Option St
 | .nil,s=>some s
 | .op d o rest,s=>(exec Γ s.e s.h o).bind λ(v,h)=>qX Γ rest (St.put {s with h:=h} d v)
 | .sc d a c i n l r rest,s =>
  match s.e c with
  | .bool b =>
   (if b=a then(qX Γ l s).bind λs'=>match r.get s'.e with
     | .bool x=>some (AV.bool x,s'.h)
     |_=>none
    else some (AV.bool (!a),s.h)).bind λ(v,h)=>qX Γ rest ⟨(s.e.kill i n).put d v,h⟩
  |_=>none
inductive AX where
 |normal
 |exit (id:Nat)
 |ret
 |mD (p:Pn)
 deriving DecidableEq,Inhabited
inductive XO where
 |op (d:Option Nat) (o:j5)
 |call (d:Option Nat) (f:FuncId) (args:List AO)
 |jS (d:Option Nat) (f:AO) (args:List AO)
 |mD (x:AO)
 deriving Inhabited
inductive AC where
 |skip
 |ops (l:IT)
 |seq (a b:AC)
 |cond (c:AO) (x y:AC)
 |block (id:Nat) (c:AC)
 |loop (keep:au) (wr:aB) (own:aB) (outs:List (AX×au)) (c:AC)
 |exit (id:Nat)
 |ret
 |scope (c:AC)
  |QL (c:AC) (g:aB)
  |qk (l:List (IT×XO)) (last:IT)
  |mV (keep:au) (wr:aB) (outs:List (AX×au)) (c:AC)
 deriving Inhabited
inductive AR where
 |t (i:Nat)
 |cell (i sz:Nat) (agg:Bool)
 deriving Inhabited
structure AF where
 nt:Nat
 res:List AR
 body:AC
 deriving Inhabited
section iter
variable{A C:Type}
def mW(f:A->Option (A⊕C)):Nat->A->Option C
 |0,_=>none
 |n+1,s =>
  match f s with
  |none=>none
  |some (.inl s')=>mW f n s'
  |some (.inr t)=>some t
def Hq{f:A->Option (A⊕C)}{n:Nat}{s:A}{t:C}(h:mW f n s=some t):mW f (n+1) s=some t:=by
 induction n generalizing s with
 |zero=>cases h
 |succ n b =>
  rw[mW]at h⊢;cases hs:f s with
  |none=>rw[hs]at h;cases h
  |some r =>
   rw[hs]at h;cases r with
   |inl s'=>exact b h
   |inr i=>exact h
def Fj{f:A->Option (A⊕C)}{n m:Nat}{s:A}{t:C}(h:mW f n s=some t)(i:n<=m):mW f m s=some t:=by
 induction i with
 |refl=>exact h
 |step _ b=>exact Hq b
open Classical in
noncomputable def iter(f:A->Option (A⊕C))(s:A):Option C :=
 if h:∃t,∃n,mW f n s=some t then some (Classical.choose h)else none
def wA{f:A->Option (A⊕C)}{n:Nat}{s:A}{t:C}(h:mW f n s=some t):iter f s=some t:=by
 have hx:∃t,∃n,mW f n s=some t:=⟨t,n,h⟩;unfold iter;rw[dif_pos hx];let⟨m,b⟩:=dG hx;have h1:=Fj h (Nat.le_max_left n m);have h2:=Fj b (Nat.le_max_right n m);rw[h1]at h2;exact h2.symm
def tV{f:A->Option (A⊕C)}{s:A}{t:C}(h:iter f s=some t):∃n,mW f n s=some t:=by
 unfold iter at h;split at h
 .rename_i hx;have:=dG hx;cases h;exact this
 .cases h
def iter_eq(f:A->Option (A⊕C))(s:A):iter f s =
  match f s with
  |none=>none
  |some (.inl s')=>iter f s'
  |some (.inr t)=>some t:=by
 cases h:iter f s with
 |some t =>
  let⟨n,b⟩:=tV h;cases n with
  |zero=>cases b
  |succ n =>
   simp only[mW]at b;split at b
   .cases b
   .exact(wA b).symm
   .exact b.symm
 |none =>
  split
  .rfl
  .rename_i s' hs;cases h2:iter f s' with
   |none=>rfl
   |some t =>
    let⟨n,b⟩:=tV h2;have:iter f s=some t:=wA (n:=n+1) (by simp only[mW,hs];exact b)
    rw[h]at this;cases this
  .rename_i t hs;have:iter f s=some t:=wA (n:=1) (by simp only[mW,hs])
   rw[h]at this;cases this
end iter
def Env.od(e:Env)(b:aB):Env:=λi=>if b.any (λr=>decide (r.1<=i)&&decide (i<=r.2))then .dead else e i
def Env.lay(e:Env):au->List AV->Env
 |t::b,v::vs=>(e.lay b vs).put t v
 |_,_=>e
def jV(L:Nat)(R:au)(h:AH):AV->AV
 | .own b v o n =>
  if b<L then
   if R.contains b then
    match h[b]? with
    |some (.row v' _ _)=>if v=v' then .own b 0 o n else .dead
    |some (.lu v' _ _)=>if v=v' then .own b 0 o n else .dead
    |_=>.dead
   else .own b v o n
  else match elems h (.own b v o n)with
   |some es=>.en false es
   |none=>.dead
 | .ptr b v i o=>if b<L/\¬R.contains b then .ptr b v i o else .dead
 | .fn f a c=>if (a++c).all (λx=>x.jE||match x with | .ptr b _ _ _=>decide (b<L) && !R.contains b | .kZ b=>decide (b<L) && !R.contains b | _=>false)then .fn f a c else .dead
 | .kZ b=>if b<L/\¬R.contains b then .kZ b else .dead
 | .undef=>.undef
 |v=>if v.jD then v else .dead
def jX(L:Nat)(R:au)(h:AH)(v:AV):AV :=
 if v.jE then v else
 match v with
 | .agg cs=>.agg (cs.map (jV L R h))
 |v=>jV L R h v
def mc(L:Nat)(R:au)(h:AH)(i:Nat)(b:AB):AB :=
 match b with
 | .var cs=>.var (cs.map (jV L R h))
 | .row v sz es=>.row (if R.contains i then 0 else v) sz es
 | .lu v sz es=>.lu (if R.contains i then 0 else v) sz es
 | .gone=>.gone
 | .mp k es=>.mp k (es.map λp=>(p.1,jX L R h p.2))
def iQ(L:Nat)(R:au)(h:AH)(i:Nat):AH->AH
 | []=>[]
 |b::l=>mc L R h i b::iQ L R h (i+1) l
def head(L:Nat)(R:au)(keep:au)(s:St):List AV×AH :=
 (keep.map λt=>jX L R s.h (s.e t),iQ L R s.h 0 (s.h.take L))
def j8(R:au)(v:AV):AV :=
 let ok (x:AV):Bool:=x.jE||match x with | .ptr b _ _ _=>!R.contains b | .own b _ _ _=>!R.contains b | .kZ b=>!R.contains b | _=>false
 match v with
 | .agg cs=>if cs.all ok then .agg cs else .dead
 | .fn f a c=>if (a++c).all ok then .fn f a c else .dead
 | .undef=>.undef
 | .iw cs=>.iw cs
 |v=>if ok v then v else .dead
def iJ:aB->St->St
 | [],s=>s
 |(t,sz)::l,s =>
  match s.e t with
  | .en true []=>iJ l ⟨s.e.put t (.own s.h.length 0 0 0),s.h++[.row 0 sz []]⟩
  |_=>iJ l s
def rowsOf(e:Env):aB->au
 | []=>[]
 |(t,_)::l=>match e t with
  | .own b _ _ _=>b::rowsOf e l
  |_=>rowsOf e l
def nj(R:au)(e:Env):Env:=if R.isEmpty then e else λi=>j8 R (e i)
def l7{ρ:Type}(e:Env)(k:AX->St->Option ρ)(r:AX×List AV×AH):List (AX×au)->Option ρ
 | []=>none
 |(x,b)::l=>if r.1=x then k x ⟨e.lay b r.2.1,r.2.2⟩else l7 e k r l
def lp(x:AX):List (AX×au)->au
 | []=>[]
 |(y,b)::l=>if x=y then b else lp x l
def nS(R:au)(L:Nat)(i:Nat):Bool:=R.contains i||decide (L<=i)
def Fy(s:St)(t o:Nat):Option AV:=match s.e t with
 | .ptr b 0 0 0=>match s.h[b]? with | some (.var cs)=>cs[o]? | _=>none
 | .agg cs=>cs[o]?
 |_=>none
def GS(s:St)(t o:Nat)(x:AV):St:=match s.e t with
 | .ptr b 0 0 0=>match s.h[b]? with | some (.var cs)=>⟨s.e,s.h.set b (.var (cs.set o x))⟩ | _=>s
 | .agg cs=>⟨s.e.put t (.agg (cs.set o x)),s.h⟩
 |_=>s
def WN(s:St)(t:Nat):Option St:=match s.e t with
 | .ptr b 0 0 0=>match s.h[b]? with
  |some (.var cs)=>if cs.all AV.jD then some ⟨s.e.put t (.iw cs),s.h.set b .gone⟩else none
  |_=>none
 |_=>none
def QO(s:St)(p:Nat×Nat):Option St:=if p.2=999 then WN s p.1 else(Fy s p.1 p.2).bind λy=>(mQ s.h y).bind λr=>some (GS ⟨s.e,r.2⟩ p.1 p.2 r.1)
def HD:aB->St->Option St
 | [],s=>some s
 |p::l,s=>(QO s p).bind (HD l)
def O8{ρ:Type}(d:Option Nat)(next:St->Option ρ)(k:AX->St->Option ρ)(s:St):Option ((AV⊕Pn)×AH)->Option ρ
 |some (.inl v,h)=>next (St.put ⟨s.e,h⟩ d v)
 |some (.inr p,h)=>k (.mD p) ⟨s.e,h⟩
 |none=>none
noncomputable def ng(Γ:ja){ρ:Type}(z:XO)(next:St->Option ρ)(k:AX->St->Option ρ)(s:St):Option ρ:=match z with
 | .op d o=>(exec Γ s.e s.h o).bind λr=>next (St.put ⟨s.e,r.2⟩ d r.1)
 | .call d f args=>O8 d next k s (Γ.x f (getAll s.e args) s.h)
 | .jS d f args=>match f.get s.e with
  | .fn (.func g) first cap=>O8 d next k s (Γ.x g (first++getAll s.e args++cap) s.h)
  |_=>none
 | .mD x=>match x.get s.e with
  | .uc t (.int q n)=>k (.mD (t,q,n)) s
  |_=>none
noncomputable def oq(Γ:ja){ρ:Type}(last:IT)(k:AX->St->Option ρ):List (IT×XO)->St->Option ρ
 | [],s=>(qX Γ last s).bind (k .normal)
 |p::l,s=>(qX Γ p.1 s).bind (ng Γ p.2 (oq Γ last k l) k)
def rE{ρ:Type}(e:Env)(k:AX->St->Option ρ)(b:List (AX×au))(r:AX×List AV×AH):Option ρ:=match r.1 with
 | .mD p=>k (.mD p) ⟨e.lay (lp (.mD p) b) r.2.1,r.2.2⟩
 |_=>l7 e k r b
noncomputable def eval(Γ:ja):AC->(Nat->Bool)->(ρ:Type)->(AX->St->Option ρ)->St->Option ρ
 | .skip,_,_,k,s=>k .normal s
 | .ops l,_,_,k,s=>(qX Γ l s).bind (k .normal)
 | .seq a b,V,ρ,k,s=>eval Γ a V ρ (λx s'=>match x with
   | .normal=>eval Γ b V ρ k s'
   |x=>k x s') s
 | .cond c x y,V,ρ,k,s=>match c.get s.e with
   | .bool b=>if b=true then eval Γ x V ρ k s else eval Γ y V ρ k s
   |_=>none
 | .block id c,V,ρ,k,s=>eval Γ c V ρ (λx s'=>match x with
   | .exit i=>if i=id then k .normal s' else k (.exit i) s'
   |x=>k x s') s
 | .loop keep wr own n c,V,_,k,s =>
   if (rowsOf (iJ own s).e own).all V=true then
   (iter (λx:List AV×AH=>eval Γ c (nS (rowsOf (iJ own s).e own) (iJ own s).h.length) ((List AV×AH)⊕(AX×List AV×AH)) (λo s'=>match o with
     | .normal=>some (.inl (head (iJ own s).h.length (rowsOf (iJ own s).e own) keep s'))
     |o=>some (.inr (o,(lp o n).map s'.e,s'.h))) ⟨((nj (rowsOf (iJ own s).e own) (iJ own s).e).od wr).lay keep x.1,x.2⟩)
    (head (iJ own s).h.length (rowsOf (iJ own s).e own) keep (iJ own s))).bind λr=>rE ((nj (rowsOf (iJ own s).e own) (iJ own s).e).od wr) k n r
   else none
 | .exit id,_,_,k,s=>k (.exit id) s
 | .ret,_,_,k,s=>k .ret s
 | .scope c,V,ρ,k,s=>eval Γ c V ρ k s
 | .QL c g,V,ρ,k,s=>eval Γ c V ρ (λx s'=>match x with
   | .exit i=>k (.exit i) s'
   | .mD p=>k (.mD p) s'
   |x=>(HD g s').bind (k x)) s
 | .qk l last,_,_,k,s=>oq Γ last k l s
 | .mV keep wr n c,_,_,k,s =>
   (iter (λx:List AV×AH=>eval Γ c (λi=>decide (s.h.length<=i)) ((List AV×AH)⊕(AX×List AV×AH)) (λo s'=>match o with
     | .normal=>some (.inl (keep.map s'.e,s'.h))
     |o=>some (.inr (o,(lp o n).map s'.e,s'.h))) ⟨(s.e.od wr).lay keep x.1,x.2⟩)
    (keep.map s.e,s.h)).bind λr=>rE (s.e.od wr) k n r
noncomputable def jY(Γ:ja)(keep:au)(b:List (AX×au))(c:AC)(e0:Env)(L:Nat)(x:List AV×AH):Option ((List AV×AH)⊕(AX×List AV×AH)) :=
 eval Γ c (λi=>decide (L<=i)) _ (λl s'=>match l with
  | .normal=>some (.inl (keep.map s'.e,s'.h))
  |l=>some (.inr (l,(lp l b).map s'.e,s'.h))) ⟨e0.lay keep x.1,x.2⟩
noncomputable def round(Γ:ja)(keep:au)(b:List (AX×au))(c:AC)(e0:Env)(L:Nat)(R:au)(x:List AV×AH):Option ((List AV×AH)⊕(AX×List AV×AH)) :=
 eval Γ c (nS R L) _ (λi s'=>match i with
  | .normal=>some (.inl (head L R keep s'))
  |i=>some (.inr (i,(lp i b).map s'.e,s'.h))) ⟨e0.lay keep x.1,x.2⟩
def iX(args:List AV):Env:=λi=>args.getD i .dead
def wh(s:St):AR->Option AV
 | .t i=>some (s.e i)
 | .cell i sz agg=>(iC s.h (s.e i)).bind (shape sz agg)
def pQ(s:St):List AR->Option (List AV)
 | []=>some []
 |r::l=>(wh s r).bind λv=>(pQ s l).bind λvs=>some (v::vs)
def oa(s:St)(l:List AR):Option AV:=(pQ s l).bind λvs=>match vs with
 | [v]=>some v
 |vs=>some (.iV vs)
noncomputable def jU(Γ:ja)(f:AF)(args:List AV)(h:AH):Option (AV×AH) :=
 if args.length<=f.nt then
  eval Γ f.body (λi=>decide (h.length<=i)) (AV×AH) (λx s=>match x with
   | .exit _=>none
   | .mD _=>none
   |_=>(oa s f.res).bind λv=>some (v,s.h)) ⟨iX args,h⟩
 else none
noncomputable def lZ(Γ:ja)(f:AF)(args:List AV)(h:AH):Option ((AV⊕Pn)×AH) :=
 if args.length<=f.nt then
  eval Γ f.body (λi=>decide (h.length<=i)) ((AV⊕Pn)×AH) (λx s=>match x with
   | .exit _=>none
   | .mD p=>some (.inr p,s.h)
   |_=>(oa s f.res).bind λv=>some (.inl v,s.h)) ⟨iX args,h⟩
 else none
noncomputable def qP(Γ:ja)(f:AF)(args:List AV):Option AV:=(jU Γ f args []).bind λ(v,h)=>(lP h v).bind λ(v,_)=>some v
@[simp]def adp{α β:Type}(p:Prop)[Decidable p](x y:Option α)(f:α->Option β):(if p then x else y).bind f=if p then x.bind f else y.bind f:=by split<;>rfl
@[simp]def Pc(p:Prop)[Decidable p](x y:Bool)(h:AH):(if p then some (AV.bool x,h)else some (AV.bool y,h))=some (AV.bool (if p then x else y),h):=by split<;>rfl
class Kt(α β:Type) where
 run:α->Option β
def j3{α β:Type}(x:Option α)[k:Kt α β]:Option β:=x.bind k.run
@[simp]theorem afD{α β:Type}(a:α)(f:α->Option β):@j3 α β (some a) ⟨f⟩=f a:=(rfl)
@[simp]theorem afE{α β:Type}(f:α->Option β):@j3 α β none ⟨f⟩=none:=(rfl)
@[simp]def agu{α β:Type}(p:Prop)[Decidable p](x y:Option α)(k:Kt α β):@j3 α β (if p then x else y) k=if p then @j3 α β x k else @j3 α β y k:=by split<;>rfl
class K2(ρ:Type) where
 x:Unit->Option ρ
 y:Unit->Option ρ
def MK{ρ:Type}(v:AV)[k:K2 ρ]:Option ρ:=match v with
 | .bool b=>if b=true then k.x ()else k.y ()
 |_=>none
@[simp]theorem SG{ρ:Type}(b:Bool)(x y:Unit->Option ρ):@MK ρ (.bool b) ⟨x,y⟩=if b=true then x ()else y ():=(rfl)
def scV(v:AV)(a:Bool)(h:AH)[k:Kt Unit (AV×AH)]:Option (AV×AH):=match v with
 | .bool b=>if b=a then k.run ()else some (.bool (!a),h)
 |_=>none
@[simp]theorem abb(b a:Bool)(x:Unit->Option (AV×AH))(h:AH):@scV (.bool b) a h ⟨x⟩=if b=a then x ()else some (.bool (!a),h):=(rfl)
def TC(r:AV)(h:AH):Option (AV×AH):=match r with
 | .bool x=>some (.bool x,h)
 |_=>none
@[simp]theorem YE(x:Bool)(h:AH):TC (.bool x) h=some (.bool x,h):=(rfl)
def NL(e:Env)(b:au):List AV:=b.map e
@[simp ↓]theorem ad8(e:Env):NL e []=[]:=(rfl)
@[simp ↓]theorem aae(e:Env)(t:Nat)(b:au):NL e (t::b)=e t::NL e b:=(rfl)
section
variable{Γ:ja}{V:aA}{ρ:Type}
@[simp ↓]theorem aax(l:IT)(k:AX->St->Option ρ)(s:St):eval Γ (.ops l) V ρ k s=@j3 _ _ (qX Γ l s) ⟨k .normal⟩:=(rfl)
@[simp ↓]theorem aav(a b:AC)(k:AX->St->Option ρ)(s:St):eval Γ (.seq a b) V ρ k s=eval Γ a V ρ (λx s'=>match x with
   | .normal=>eval Γ b V ρ k s'
   |x=>k x s') s:=(rfl)
@[simp ↓]theorem Xf(c:AO)(x y:AC)(k:AX->St->Option ρ)(s:St):eval Γ (.cond c x y) V ρ k s=@MK _ (c.get s.e) ⟨λ_=>eval Γ x V ρ k s,λ_=>eval Γ y V ρ k s⟩:=(rfl)
@[simp ↓]theorem Ti(id:Nat)(c:AC)(k:AX->St->Option ρ)(s:St):eval Γ (.block id c) V ρ k s=eval Γ c V ρ (λx s'=>match x with
   | .exit i=>if i=id then k .normal s' else k (.exit i) s'
   |x=>k x s') s:=(rfl)
@[simp ↓]theorem Xb(k:AX->St->Option ρ)(s:St):eval Γ .skip V ρ k s=k .normal s:=(rfl)
@[simp ↓]theorem Xe(id:Nat)(k:AX->St->Option ρ)(s:St):eval Γ (.exit id) V ρ k s=k (.exit id) s:=(rfl)
@[simp ↓]theorem Tg(c:AC)(k:AX->St->Option ρ)(s:St):eval Γ (.scope c) V ρ k s=eval Γ c V ρ k s:=(rfl)
@[simp ↓]theorem aay(c:AC)(g:aB)(k:AX->St->Option ρ)(s:St):eval Γ (.QL c g) V ρ k s=eval Γ c V ρ (λx s'=>match x with
   | .exit i=>k (.exit i) s'
   | .mD p=>k (.mD p) s'
   |x=>@j3 _ _ (HD g s') ⟨k x⟩) s:=(rfl)
@[simp ↓]theorem Th(keep:au)(wr:aB)(b:List (AX×au))(c:AC)(k:AX->St->Option ρ)(s:St):
  eval Γ (.mV keep wr b c) V ρ k s=@j3 _ _ (iter (jY Γ keep b c (s.e.od wr) s.h.length) (NL s.e keep,s.h)) ⟨λr=>rE (s.e.od wr) k b r⟩:=(rfl)
theorem ia(keep:au)(b:List (AX×au))(c:AC)(e0:Env)(L:Nat)(x:List AV×AH):jY Γ keep b c e0 L x=eval Γ c (λi=>decide (L<=i)) _ (λl s'=>match l with
  | .normal=>some (.inl (NL s'.e keep,s'.h))
  |l=>some (.inr (l,(lp l b).map s'.e,s'.h))) ⟨e0.lay keep x.1,x.2⟩:=rfl
@[simp ↓]theorem Xc(l:List (IT×XO))(last:IT)(k:AX->St->Option ρ)(s:St):eval Γ (.qk l last) V ρ k s=oq Γ last k l s:=(rfl)
@[simp ↓]theorem aaz(last:IT)(k:AX->St->Option ρ)(s:St):oq Γ last k [] s=@j3 _ _ (qX Γ last s) ⟨k .normal⟩:=(rfl)
@[simp ↓]theorem Xg(last:IT)(k:AX->St->Option ρ)(l:IT)(z:XO)(r:List (IT×XO))(s:St):oq Γ last k ((l,z)::r) s=@j3 _ _ (qX Γ l s) ⟨λs'=>ng Γ z (oq Γ last k r) k s'⟩:=(rfl)
@[simp ↓]theorem aeu(d:Option Nat)(o:j5)(next:St->Option ρ)(k:AX->St->Option ρ)(s:St):ng Γ (.op d o) next k s=@j3 _ _ (exec Γ s.e s.h o) ⟨λr=>next (St.put ⟨s.e,r.2⟩ d r.1)⟩:=(rfl)
@[simp ↓]theorem Xh(d:Option Nat)(f:FuncId)(args:List AO)(next:St->Option ρ)(k:AX->St->Option ρ)(s:St):ng Γ (.call d f args) next k s=O8 d next k s (Γ.x f (getAll s.e args) s.h):=(rfl)
def onV(Γ:ja)(d:Option Nat)(args:List AV)(next:St->Option ρ)(k:AX->St->Option ρ)(s:St):AV->Option ρ
 | .fn (.func g) first cap=>O8 d next k s (Γ.x g (first++args++cap) s.h)
 |_=>none
def onP(k:AX->St->Option ρ)(s:St):AV->Option ρ
 | .uc t (.int q n)=>k (.mD (t,q,n)) s
 |_=>none
@[simp ↓]def Tj(d:Option Nat)(f:AO)(args:List AO)(next:St->Option ρ)(k:AX->St->Option ρ)(s:St):ng Γ (.jS d f args) next k s=onV Γ d (getAll s.e args) next k s (f.get s.e):=by
 simp only[ng];cases f.get s.e<;>first | rfl | (rename_i g _ _;cases g<;>rfl)
@[simp ↓]def aaA(x:AO)(next:St->Option ρ)(k:AX->St->Option ρ)(s:St):ng Γ (.mD x) next k s=onP k s (x.get s.e):=by
 simp only[ng];cases x.get s.e<;>first | rfl | (rename_i v;cases v<;>rfl)
@[simp]theorem acw(d:Option Nat)(next:St->Option ρ)(k:AX->St->Option ρ)(s:St)(v:AV)(h:AH):O8 d next k s (some (.inl v,h))=next (St.put ⟨s.e,h⟩ d v):=(rfl)
@[simp]theorem afX(d:Option Nat)(next:St->Option ρ)(k:AX->St->Option ρ)(s:St)(p:Pn)(h:AH):O8 d next k s (some (.inr p,h))=k (.mD p) ⟨s.e,h⟩:=(rfl)
@[simp]theorem aiD(d:Option Nat)(args:List AV)(next:St->Option ρ)(k:AX->St->Option ρ)(s:St)(g:FuncId)(first cap:List AV):onV Γ d args next k s (.fn (.func g) first cap)=O8 d next k s (Γ.x g (first++args++cap) s.h):=(rfl)
@[simp]theorem afY(k:AX->St->Option ρ)(s:St)(t:TypeId)(q:IntKind)(n:Int):onP k s (.uc t (.int q n))=k (.mD (t,q,n)) s:=(rfl)
@[simp]theorem abW(s:St)(d:Nat)(v:AV):St.put s (some d) v=⟨s.e.put d v,s.h⟩:=(rfl)
@[simp]theorem abX(s:St)(v:AV):St.put s none v=s:=(rfl)
@[simp]theorem UW(e:Env)(k:AX->St->Option ρ)(b:List (AX×au))(i:Nat)(vs:List AV)(h:AH):rE e k b (.exit i,vs,h)=l7 e k (.exit i,vs,h) b:=(rfl)
@[simp]theorem ZE(e:Env)(k:AX->St->Option ρ)(b:List (AX×au))(vs:List AV)(h:AH):rE e k b (.ret,vs,h)=l7 e k (.ret,vs,h) b:=(rfl)
@[simp]theorem ZF(e:Env)(k:AX->St->Option ρ)(b:List (AX×au))(p:Pn)(vs:List AV)(h:AH):rE e k b (.mD p,vs,h)=k (.mD p) ⟨e.lay (lp (.mD p) b) vs,h⟩:=(rfl)
@[simp ↓]theorem aaw(k:AX->St->Option ρ)(s:St):eval Γ .ret V ρ k s=k .ret s:=(rfl)
@[simp ↓]theorem Xd(keep:au)(wr:aB)(own:aB)(b:List (AX×au))(c:AC)(k:AX->St->Option ρ)(s:St):
  eval Γ (.loop keep wr own b c) V ρ k s =
   if (rowsOf (iJ own s).e own).all V=true then
   @j3 _ _ (iter (round Γ keep b c ((nj (rowsOf (iJ own s).e own) (iJ own s).e).od wr) (iJ own s).h.length (rowsOf (iJ own s).e own))
    (head (iJ own s).h.length (rowsOf (iJ own s).e own) keep (iJ own s))) ⟨λr=>rE ((nj (rowsOf (iJ own s).e own) (iJ own s).e).od wr) k b r⟩
   else none:=(rfl)
theorem round_eq(keep:au)(b:List (AX×au))(c:AC)(e0:Env)(L:Nat)(R:au)(x:List AV×AH):round Γ keep b c e0 L R x=eval Γ c (nS R L) _ (λi s'=>match i with
  | .normal=>some (.inl (head L R keep s'))
  |i=>some (.inr (i,(lp i b).map s'.e,s'.h))) ⟨e0.lay keep x.1,x.2⟩:=rfl
def b6(f:AF)(args:List AV)(h:AH):jU Γ f args h=if args.length<=f.nt then eval Γ f.body (λi=>decide (h.length<=i)) (AV×AH) (λx s=>match x with
   | .exit _=>none
   | .mD _=>none
   |_=>@j3 _ _ (oa s f.res) ⟨λv=>some (v,s.h)⟩) ⟨iX args,h⟩else none:=by
 unfold jU;rfl
def iR(f:AF)(args:List AV)(h:AH):lZ Γ f args h=if args.length<=f.nt then eval Γ f.body (λi=>decide (h.length<=i)) ((AV⊕Pn)×AH) (λx s=>match x with
   | .exit _=>none
   | .mD p=>some (.inr p,s.h)
   |_=>@j3 _ _ (oa s f.res) ⟨λv=>some (.inl v,s.h)⟩) ⟨iX args,h⟩else none:=by
 unfold lZ;rfl
theorem gd(f:AF)(args:List AV):qP Γ f args=@j3 _ _ (jU Γ f args []) ⟨λp=>@j3 _ _ (lP p.2 p.1) ⟨λq=>some q.1⟩⟩:=rfl
@[simp ↓]theorem af8(s:St):qX Γ .nil s=some s:=(rfl)
@[simp ↓]theorem aja(d:Nat)(o:j5)(rest:IT)(s:St):qX Γ (.op (some d) o rest) s=@j3 _ _ (exec Γ s.e s.h o) ⟨λp=>qX Γ rest ⟨s.e.put d p.1,p.2⟩⟩:=(rfl)
@[simp ↓]theorem af7(o:j5)(rest:IT)(s:St):qX Γ (.op none o rest) s=@j3 _ _ (exec Γ s.e s.h o) ⟨λp=>qX Γ rest ⟨s.e,p.2⟩⟩:=(rfl)
@[simp ↓]def ai9(d:Nat)(a:Bool)(c b i:Nat)(l:IT)(r:AO)(rest:IT)(s:St):qX Γ (.sc d a c b i l r rest) s =
  @j3 _ _ (@scV (s.e c) a s.h ⟨λ_=>@j3 _ _ (qX Γ l s) ⟨λs'=>TC (r.get s'.e) s'.h⟩⟩) ⟨λp=>qX Γ rest ⟨(s.e.kill b i).put d p.1,p.2⟩⟩:=by
 simp only[qX,scV];cases s.e c<;>rfl
@[simp ↓]theorem aki(e:Env)(i:Nat):(AO.t i).get e=e i:=(rfl)
@[simp ↓]theorem akj(e:Env)(v:AV):(AO.c v).get e=v:=(rfl)
@[simp ↓]theorem afW(e:Env)(t:Nat)(v:AV)(i:Nat):(e.put t v) i=if i=t then v else e i:=(rfl)
@[simp ↓]theorem adj(e:Env)(b h i:Nat):(e.kill b h) i=if b<=i/\i<=h then .dead else e i:=(rfl)
@[simp ↓]theorem Z6(e:Env)(b:aB)(i:Nat):(e.od b) i=if b.any (λr=>decide (r.1<=i)&&decide (i<=r.2))then .dead else e i:=(rfl)
@[simp ↓]theorem ac5(e:Env)(t:Nat)(b:au)(v:AV)(vs:List AV):e.lay (t::b) (v::vs)=(e.lay b vs).put t v:=(rfl)
@[simp ↓]def af6(e:Env)(vs:List AV):e.lay [] vs=e:=by cases vs<;>rfl
@[simp ↓]theorem YI(args:List AV)(i:Nat):iX args i=args.getD i .dead:=(rfl)
def BN(L:Nat)(R:au)(h:AH)(e:Env):au->List AV
 | []=>[]
 |t::b=>jX L R h (e t)::BN L R h e b
def Fp(L:Nat)(R:au)(h:AH)(e:Env):∀b:au,(b.map λt=>jX L R h (e t))=BN L R h e b
 | []=>rfl
 |t::b=>by rw[bF,Fp L R h e b];rfl
@[simp ↓]def head_eq(L:Nat)(R:au)(keep:au)(s:St):head L R keep s=(BN L R s.h s.e keep,iQ L R s.h 0 (s.h.take L)):=by unfold head;rw[Fp]
@[simp ↓]theorem aad(L:Nat)(R:au)(h:AH)(e:Env):BN L R h e []=[]:=(rfl)
@[simp ↓]theorem Ws(L:Nat)(R:au)(h:AH)(e:Env)(t:Nat)(b:au):BN L R h e (t::b)=jX L R h (e t)::BN L R h e b:=(rfl)
@[simp ↓]theorem WK(e:Env):getAll e []=[]:=(rfl)
@[simp ↓]theorem S8(e:Env)(x:AO)(l:List AO):getAll e (x::l)=x.get e::getAll e l:=(rfl)
end
attribute [simp] nat? yR mw
attribute [simp] nS iQ rowsOf iJ lp l7 Fy GS QO WN HD
@[simp]def adu(b:Bool):(AV.bool b).jD=true:=by simp only[AV.jD]
@[simp]def age(k:IntKind)(n:Int):(AV.int k n).jD=true:=by simp only[AV.jD]
@[simp]def af9(s:aq):(AV.str s).jD=true:=by simp only[AV.jD]
@[simp]def agd(f:Bool)(es:List AV):(AV.en f es).jD=true:=by simp only[AV.jD]
@[simp]def agb(b v o n:Nat):(AV.own b v o n).jD=false:=by simp only[AV.jD]
@[simp]def agc(b:Nat):(AV.kZ b).jD=false:=by simp only[AV.jD]
@[simp]def aga(b v o n:Nat):(AV.ptr b v o n).jD=false:=by simp only[AV.jD]
@[simp]def adG(b:Bool):(AV.bool b).jE=true:=by simp only[AV.jE,AV.jD]
@[simp]def ago(k:IntKind)(n:Int):(AV.int k n).jE=true:=by simp only[AV.jE,AV.jD]
@[simp]def agk(s:aq):(AV.str s).jE=true:=by simp only[AV.jE,AV.jD]
@[simp]def agn(f:Bool)(es:List AV):(AV.en f es).jE=true:=by simp only[AV.jE,AV.jD]
@[simp]def Dd(cs:List AV):(AV.agg cs).jE=cs.all AV.jD:=by rw[AV.jE]
@[simp]def Qz(b v o n:Nat):(AV.own b v o n).jE=false:=by simp only[AV.jE,AV.jD]
@[simp]def agm(b:Nat):(AV.kZ b).jE=false:=by simp only[AV.jE,AV.jD]
@[simp]def agl(b v o n:Nat):(AV.ptr b v o n).jE=false:=by simp only[AV.jE,AV.jD]
@[simp]def adF:AV.dead.jE=false:=by simp only[AV.jE,AV.jD]
@[simp]def aac:AV.undef.jE=false:=by simp only[AV.jE,AV.jD]
@[simp]def ajb(f:Fn)(a c:List AV):(AV.fn f a c).jE=false:=by simp only[AV.jE,AV.jD]
@[simp]def adz(b:Bool):(AV.bool b).rI=true:=by simp only[AV.rI,AV.jE,AV.jD]
@[simp]def agj(k:IntKind)(n:Int):(AV.int k n).rI=true:=by simp only[AV.rI,AV.jE,AV.jD]
@[simp]def agf(s:aq):(AV.str s).rI=true:=by simp only[AV.rI,AV.jE,AV.jD]
@[simp]def agi(f:Bool)(es:List AV):(AV.en f es).rI=true:=by simp only[AV.rI,AV.jE,AV.jD]
@[simp]def Qw(cs:List AV):(AV.agg cs).rI=cs.all AV.jD:=by rw[AV.rI,AV.jE];simp
@[simp]def Qt(vs:List AV):(AV.iV vs).rI=vs.all AV.jE:=by rw[AV.rI]
@[simp]def agh(b v o n:Nat):(AV.own b v o n).rI=false:=by simp only[AV.rI,AV.jE,AV.jD]
def MU{L:Nat}{R:au}{h:AH}{v:AV}(b:v.jE=true):jX L R h v=v:=by unfold jX;rw[if_pos b]
@[simp]theorem XR(b:Bool):(AV.bool b).cells=[.bool b]:=(rfl)
@[simp]theorem aaN(k:IntKind)(n:Int):(AV.int k n).cells=[.int k n]:=(rfl)
@[simp]theorem aaI(s:aq):(AV.str s).cells=[.str s]:=(rfl)
@[simp]theorem aaM(f:Bool)(es:List AV):(AV.en f es).cells=[.en f es]:=(rfl)
@[simp]theorem aaK(b v o n:Nat):(AV.own b v o n).cells=[.own b v o n]:=(rfl)
@[simp]theorem aaL(b:Nat):(AV.kZ b).cells=[.kZ b]:=(rfl)
@[simp]theorem aaJ(b v o n:Nat):(AV.ptr b v o n).cells=[.ptr b v o n]:=(rfl)
@[simp]theorem aaO(cs:List AV):(AV.agg cs).cells=cs:=(rfl)
@[simp]theorem V8(neg:Bool):isNil .pt neg .kG=some (.bool (!neg)):=(rfl)
@[simp]theorem Z7(neg:Bool)(b v i o:Nat):isNil .pt neg (.ptr b v i o)=some (.bool neg):=(rfl)
@[simp]theorem V7(neg:Bool)(cs:List AV):isNil .pt neg (.iw cs)=some (.bool neg):=(rfl)
@[simp]theorem Wa(neg:Bool):isNil .fn neg .kU=some (.bool (!neg)):=(rfl)
@[simp]theorem adA(neg:Bool)(f:Fn)(a c:List AV):isNil .fn neg (.fn f a c)=some (.bool neg):=(rfl)
@[simp]theorem V9(neg:Bool):isNil .uc neg .kg=some (.bool (!neg)):=(rfl)
@[simp]theorem aab(neg:Bool)(t:TypeId)(v:AV):isNil .uc neg (.uc t v)=some (.bool neg):=(rfl)
@[simp]theorem aaa(neg:Bool)(f:Bool)(x:AV)(l:List AV):isNil .sl neg (.en f (x::l))=some (.bool neg):=(rfl)
@[simp]theorem Z9(neg:Bool)(b v o n:Nat):isNil .sl neg (.own b v o (n+1))=some (.bool neg):=(rfl)
@[simp]def Uj(x:AV)(l:List AV):shape 1 false (x::l)=some x:=by simp[shape]
@[simp]theorem Bk(cs:List AV):shape cs.length true cs=some (.agg cs):=by simp[shape]
@[simp]def Uq(a b c:AV):shape 3 true [a,b,c]=some (.agg [a,b,c]):=by simp[shape]
@[simp]def Ur(a b:AV):shape 2 true [a,b]=some (.agg [a,b]):=by simp[shape]
@[simp]def Up(a b c d:AV):shape 4 true [a,b,c,d]=some (.agg [a,b,c,d]):=by simp[shape]
@[simp]def Uo(a b c d e:AV):shape 5 true [a,b,c,d,e]=some (.agg [a,b,c,d,e]):=by simp[shape]
@[simp]def Un(a b c d e f:AV):shape 6 true [a,b,c,d,e,f]=some (.agg [a,b,c,d,e,f]):=by simp[shape]
@[simp]theorem Rs(h:AH)(cs:List AV):iC h (.iw cs)=some cs:=(rfl)
@[simp]theorem aaB(h:AH)(f:Bool)(es:List AV):elems h (.en f es)=some es:=(rfl)
@[simp]theorem aa6(sz:Nat):iU sz []=true:=(rfl)
@[simp]theorem Zd(sz:Nat)(x:AV)(l:List AV):iU sz (x::l)=((x.cells.length==sz)&&iU sz l):=(rfl)
@[simp]def Sm(sz:Nat)(l b:List AV):iU sz (l++b)=(iU sz l&&iU sz b):=by simp[iU]
@[simp]def Zb{α:Type}(k:IntKind)(f:α->Int)(l:List α):iU 1 (l.map λx=>AV.int k (f x))=true:=by simp[iU]
@[simp]def aa7(k:IntKind)(l:ax):iU 1 (l.map (AV.int k))=true:=by simp[iU]
@[simp]def LQ(k:IntKind)(x:Int)(n:Nat):iU 1 (List.replicate n (AV.int k x))=true:=by simp[iU]
@[simp]def ZN(L:Nat)(R:au)(h:AH)(b v o n:Nat):jX L R h (.own b v o n)=jV L R h (.own b v o n):=by simp only[jX,Qz,bq,if_false]
@[simp]def aaH(R:au)(k:IntKind)(n:Int):j8 R (.int k n) = .int k n:=by simp[j8]
@[simp]def XA(R:au)(b:Bool):j8 R (.bool b) = .bool b:=by simp[j8]
@[simp]def aaC(R:au)(x:aq):j8 R (.str x) = .str x:=by simp[j8]
@[simp]def aaG(R:au)(f:Bool)(es:List AV):j8 R (.en f es) = .en f es:=by simp[j8]
theorem DH(r:Nat)(R:au)(e:Env)(i:Nat):nj (r::R) e i=j8 (r::R) (e i):=rfl
attribute [simp] DH
@[simp]theorem TB(e:Env):nj [] e=e:=(rfl)
def GI(l:List aq)(cur:Array Value):Prop:=∀(j:Nat)(s:aq),l[j]? = some s->cur[j]? = some (.string ⟨s.toArray⟩)
def GA:List (Nat×List aq):=[(0,[[],[108,111,111,107],[109,97,107,101],[108,105,110,107],[117,110,108,105,110,107],[114,101,110,97,109,101],[108,105,115,116],[115,116,97,116],[111,112,101,110],[99,108,111,115,101],[114,101,97,100],[119,114,105,116,101],[99,117,116],[108,105,109,105,116],[116,97,107,101],[112,101,101,107],[100,114,111,112],[99,114,97,115,104]])]
def GM:List (Nat×(Array Value->Prop)):=[(1,λcur=>cur[0]? = some (.iface 185 (.agg #[.pointer (some ⟨10,73,none⟩)]))),(2,λcur=>∃v,cur[0]? = some v/\(v = .nilIface\/∃t p,v = .iface t p)),(3,λcur=>∃v,cur[0]? = some v/\(v = .nilIface\/∃t p,v = .iface t p)),(4,λcur=>∃m,cur[0]? = some (.int .i64 m)),(5,λcur=>cur=(((List.range 20).map λi=>((10 ^ i:Nat):Int)).map λz=>Value.int .u64 z).toArray)]
def gm1:(1,λcur:Array Value=>cur[0]? = some (.iface 185 (.agg #[.pointer (some ⟨10,73,none⟩)])))∈GM:=cr
def gm2:(2,λcur:Array Value=>∃v,cur[0]? = some v/\(v = .nilIface\/∃t p,v = .iface t p))∈GM:=bD _ cr
def gm3:(3,λcur:Array Value=>∃v,cur[0]? = some v/\(v = .nilIface\/∃t p,v = .iface t p))∈GM:=bD _ (bD _ cr)
def gm4:(4,λcur:Array Value=>∃m,cur[0]? = some (.int .i64 m))∈GM:=bD _ (bD _ (bD _ cr))
def gm5:(5,λcur:Array Value=>cur=(((List.range 20).map λi=>((10 ^ i:Nat):Int)).map λz=>Value.int .u64 z).toArray)∈GM:=bD _ (bD _ (bD _ (bD _ cr)))
def G0:List (Nat×(Array Value->Prop)):=GM++GA.map λp=>(p.1,GI p.2)
def Dc:List AV->List aq->Bool
 | [],[]=>true
 | .str s::l,t::m=>decide (s=t)&&Dc l m
 |_,_=>false
def BJ:∀ {l:List AV} {m:List aq},Dc l m=true->l=m.map AV.str
 | [],[],_=>rfl
 | .str s::l,t::m,h=>by
  simp only[Dc,aC,decide_eq_true_eq]at h;rw[h.1,BJ h.2];rfl
end Go.Am
