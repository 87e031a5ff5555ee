/- Part of the proof that TopPassedCard holds. -/
import Derived.Test.YtaepagegdgdlhaaGreatDoorCrE
import Derived.Calls
import Derived.LoopN
set_option linter.all false
namespace Go.Am
inductive AV where
 |dead
 |undef
 |bool (b:Bool)
 |int (k:IntKind) (n:Int)
 |str (s:au)
 |oI
 |pg
 |ptr (b v i o:Nat)
 |kE (cs:List AV)
 |jB (full:Bool) (es:List AV)
 |own (b v o n:Nat)
 |agg (cs:List AV)
 |kT (vs:List AV)
 |fn (f:Fn) (first cap:List AV)
 |nh
 |Hq (t:TypeId) (v:AV)
 |pn
 |xI
  |nQ (b:Nat)
 deriving Inhabited
def AV.cells:AV->List AV
 | .agg cs=>cs
 |v=>[v]
inductive AB where
 |gone
 |var (cs:List AV)
 |row (v sz:Nat) (es:List AV)
 |qa (v sz:Nat) (es:List AV)
  |mp (es:List (Int×AV))
  |mps (es:List (au×AV))
 deriving Inhabited
abbrev AH:=List AB
def AV.tF:AV->Bool
 | .dead=>false
 | .undef=>false
 | .agg _=>false
 | .kT _=>false
 |_=>true
def AV.kZ:AV->Bool
 | .bool _=>true
 | .int _ _=>true
 | .str _=>true
 | .jB _ _=>true
 | .oI=>true
 | .pg=>true
 | .nh=>true
 | .pn=>true
 |_=>false
def AV.lT:AV->Bool
 | .agg cs=>cs.all AV.kZ
 |v=>v.kZ
def AV.jO:AV->Bool
 | .kT vs=>vs.all AV.lT
 |v=>v.lT
def qe(h:AH):AV->Option (AV×AH)
 | .own b v o n =>
  match h[b]? with
  |some (.row v' sz es)=>if v=v'/\o+n<=es.length then some (.jB false ((es.drop o).take n),h.set b (.qa v' sz es))else none
  |some (.qa v' _ es)=>if v=v'/\o+n<=es.length then some (.jB false ((es.drop o).take n),h)else none
  |_=>none
 |a=>if a.kZ then some (a,h)else none
def wR:AH->List AV->Option (List AV×AH)
 |h,[]=>some ([],h)
 |h,a::l=>(qe h a).bind λ(a',h')=>(wR h' l).bind λ(l',h'')=>some (a'::l',h'')
def oT(h:AH)(a:AV):Option (AV×AH) :=
 if a.lT then some (a,h)else
 match a with
 | .agg cs=>(wR h cs).bind λ(cs',h')=>some (.agg cs',h')
 |a=>qe h a
def kY:AH->List AV->Option (List AV×AH)
 |h,[]=>some ([],h)
 |h,a::l=>(oT h a).bind λ(a',h')=>(kY h' l).bind λ(l',h'')=>some (a'::l',h'')
def sD(h:AH)(a:AV):Option (AV×AH) :=
 if a.jO then some (a,h)else
 match a with
 | .kT vs=>(kY h vs).bind λ(vs',h')=>some (.kT vs',h')
 |a=>oT h a
inductive AO where
 |t (i:Nat)
 |c (v:AV)
 deriving Inhabited
inductive NK where
 |sl | pt | fn | Hq
 deriving Inhabited
inductive ni where
 |mv (x:AO)
 |pick (c a b:AO)
 |alloc (zero:List AV)
 |box (x:AO)
 |build (zero:List AV) (parts:List (Nat×Nat×AO))
 |BQ (sz:Nat) (zero:AV) (len:Nat) (parts:List (Nat×AO))
 |me (sz:Nat) (zero:AV) (len:Nat) (parts:List (Nat×AO))
  |mC (sz:Nat) (a x:AO)
  |mS (sz:Nat) (agg:Bool) (a:AO) (q:Nat)
  |M0 (sz:Nat) (zero:AV) (len:Nat) (parts:List (Nat×AO))
 |load (sz:Nat) (agg:Bool) (a:AO)
 |store (sz:Nat) (a x:AO)
 |ZI (x:AO)
 |bin (op:BinOp) (x y:AO)
 |seq (neg:Bool) (ks:ax) (x y:AO)
 |un (op:UnOp) (x:AO)
 |conv (k:IntKind) (x:AO)
 |XU (x:AO)
 |mki (t:TypeId) (x:AO)
 |Ef (f:Fn) (first cap:List AO)
 |mks (sz bytes:Nat) (zero:AV) (len cap:AO)
 |Sj (x:AO) (lo hi:Option AO)
 |F8 (sz:Nat) (x:AO) (lo hi mx:Option AO)
 |fad (off:Nat) (x:AO)
 |fld (off sz:Nat) (agg:Bool) (x:AO)
 |Nz (sz:Nat) (x i:AO)
 |OC (n sz:Nat) (x i:AO)
 |idxs (x i:AO)
 |ext (x:AO) (i:Nat)
 |call (f:FuncId) (args:List AO)
 |rS (f:FuncId) (args:List AO)
 |l8 (f:AO) (args:List AO)
 |app (sz bytes:Nat) (s x:AO)
 |len (str:Bool) (x:AO)
 |mm (isMax:Bool) (xs:List AO)
 |no
 |zO (k:NK) (neg:Bool) (x:AO)
 |clr (sz:Nat) (zero:AV) (x:AO)
 |N9 (x:AO)
 |Ch (sz:Nat) (agg:Bool) (a:AO)
 |rR (f:AO) (args:List AO)
 |v8 (f:FuncId) (args:List AO)
 |ZO
 |yP (zero:AV) (m k:AO)
 |uf (m k x:AO)
 |Ol (m:AO)
 |qu (f:FuncId) (args:List AO)
  |stb (x:AO)
  |sN (sz:Nat) (agg:Bool) (t:Nat)
  |calls (f:FuncId) (args:List AO)
 |rJ (f:AO) (args:List AO)
  |zK (zero:AV) (m k:AO)
 |VA
 |Cd (ck:Bool) (zero:AV) (m k:AO)
 |Cc (m k x:AO)
  |yG (f:FuncId) (args:List AO)
  |Aq (f:FuncId) (args:List AO)
 deriving Inhabited
structure kP where
 p:FuncId->List AV->Option AV
 h:FuncId->List AV->AH->Option (AV×AH)
abbrev Env:=Nat->AV
def Env.put(e:Env)(t:Nat)(v:AV):Env:=λi=>if i=t then v else e i
def AO.get(e:Env):AO->AV
 | .t i=>e i
 | .c v=>v
def qi(k:IntKind)(x y:Int):BinOp->Option AV
 | .add=>some (.int k (k.wrap (x+y)))
 | .sub=>some (.int k (k.wrap (x-y)))
 | .mul=>some (.int k (k.wrap (x*y)))
 | .quo=>if y=0 then none else some (.int k (k.wrap (x.tdiv y)))
 | .rem=>if y=0 then none else some (.int k (x.tmod y))
 | .eql=>some (.bool (decide (x=y)))
 | .neq=>some (.bool (!decide (x=y)))
 | .lss=>some (.bool (decide (x<y)))
 | .leq=>some (.bool (decide (x<=y)))
 | .gtr=>some (.bool (decide (y<x)))
 | .geq=>some (.bool (decide (y<=x)))
 | .and=>some (.int k (k.wrap ((BitVec.ofInt k.bits x &&& BitVec.ofInt k.bits y).toNat:Nat)))
 | .or=>some (.int k (k.wrap ((BitVec.ofInt k.bits x ||| BitVec.ofInt k.bits y).toNat:Nat)))
 |_=>none
def jP:au->au->Bool
 |_,[]=>false
 | [],_::_=>true
 |a::x,b::y=>a<b||(a==b&&jP x y)
def lB(x y:au):BinOp->Option AV
 | .add=>if x.length+y.length<=4611686018427387904 then some (.str (x++y))else none
 | .eql=>some (.bool (decide (x=y)))
 | .neq=>some (.bool (!decide (x=y)))
 | .lss=>some (.bool (jP x y))
 | .leq=>some (.bool (jP x y||decide (x=y)))
 | .gtr=>some (.bool (!(jP x y||decide (x=y))))
 | .geq=>some (.bool (!jP x y))
 |_=>none
def bin(op:BinOp):AV->AV->Option AV
 | .int k x,.int k' y =>
  match op with
  | .shl=>if y<0 then none else some (.int k (k.wrap (x*2 ^ min y.toNat k.bits)))
  | .shr=>if y<0 then none else some (.int k (x.fdiv (2 ^ min y.toNat k.bits)))
  |op=>if k=k' then qi k x y op else none
 | .str x,.str y=>lB x y op
 |_,_=>none
def lK:ax->List AV->List AV->Option Bool
 | [],[],[]=>some true
 |0::l,.int k a::x,.int k' b::y=>if k=k' then(if a=b then lK l x y else some false)else none
 |1::l,.str a::x,.str b::y=>if a=b then lK l x y else some false
 |2::l,.bool a::x,.bool b::y=>if a=b then lK l x y else some false
 |_,_,_=>none
def un(op:UnOp):AV->Option AV
 | .bool b=>match op with | .not=>some (.bool (!b)) | _=>none
 | .int k n=>match op with | .neg=>some (.int k (k.wrap (0-n))) | _=>none
 |_=>none
def pG:List AV->Option au
 | []=>some []
 | .int .u8 n::l=>(pG l).bind λr=>some (UInt8.ofNat n.toNat::r)
 |_=>none
def j7(h:AH):AV->Option (List AV)
 | .kE cs=>some cs
 | .ptr b v i o =>
  match h[b]? with
  |some (.var cs)=>if v=0/\i=0/\o<=cs.length then some (cs.drop o)else none
  |some (.row v' _ es)=>if v=v' then(es[i]?).bind λx=>if o<=x.cells.length then some (x.cells.drop o)else none else none
  |some (.qa v' _ es)=>if v=v' then(es[i]?).bind λx=>if o<=x.cells.length then some (x.cells.drop o)else none else none
  |_=>none
 |_=>none
def shape(sz:Nat)(agg:Bool)(cs:List AV):Option AV :=
 if cs.length<sz then none else
 if agg then some (.agg (cs.take sz))else if sz=1 then cs.head? else none
def over{α:Type}(cs:List α)(o:Nat)(xs:List α):List α:=cs.take o++xs++cs.drop (o+xs.length)
def AV.mQ:AV->List AV->AV
 | .agg _,cs=>.agg cs
 |_,cs=>cs.headD .dead
def storeAt(h:AH)(sz:Nat)(a x:AV):Option AH :=
 match a with
 | .ptr b v i o =>
  match h[b]? with
  |some (.var cs) =>
   if v=0/\i=0/\x.cells.all AV.tF=true/\x.cells.length=sz/\o+sz<=cs.length then some (h.set b (.var (over cs o x.cells)))else none
  |some (.row _ _ _) =>
   (oT h x).bind λ(x',h') =>
    match h'[b]? with
    |some (.row v' sz' es)=>(es[i]?).bind λe =>
     if v=v'/\x'.cells.all AV.kZ=true/\x'.cells.length=sz/\o+sz<=e.cells.length then some (h'.set b (.row v' sz' (es.set i (e.mQ (over e.cells o x'.cells)))))else none
    |_=>none
  |_=>none
 |_=>none
def pK:AV->AV->Bool
 | .ptr b _ _ _,.ptr b' _ _ _=>decide (b≠b')
 | .ptr ..,.kE _=>true
 |_,_=>false
def rG(h:AH):AV->Bool
 | .ptr b _ _ _=>match h[b]? with | some (.var _)=>true | _=>false
 |_=>false
def elems(h:AH):AV->Option (List AV)
 | .jB _ es=>some es
 | .own b v o n =>
  match h[b]? with
  |some (.row v' _ es)=>if v=v'/\o+n<=es.length then some ((es.drop o).take n)else none
  |some (.qa v' _ es)=>if v=v'/\o+n<=es.length then some ((es.drop o).take n)else none
  |_=>none
 |_=>none
def kX(h:AH)(b v:Nat):Option Nat :=
 match h[b]? with
 |some (.row v' sz _)=>if v=v' then some sz else none
 |some (.qa v' sz _)=>if v=v' then some sz else none
 |_=>none
def kK(sz:Nat)(es:List AV):Bool:=es.all λx=>x.cells.length==sz
def append(h:AH)(sz bytes:Nat)(s:AV)(news:List AV):Option (AV×AH) :=
 match s with
 | .jB true es =>
  if (es=[]\/news≠[])/\kK sz es=true/\kK sz news=true/\(es.length+news.length)*bytes<=140737488355328/\es.length+news.length<=140737488355328 then
   some (.own h.length 0 0 (es.length+news.length),h++[.row 0 sz (es++news)])
  else none
 | .own b v o n =>
  match h[b]? with
  |some (.row v' sz' es) =>
   if v=v'/\sz'=sz/\kK sz news=true/\o+n<=es.length/\(n+news.length)*bytes<=140737488355328/\n+news.length<=140737488355328 then
    some (.own b (v+1) 0 (n+news.length),h.set b (.row (v+1) sz ((es.drop o).take n++news)))
   else none
  |_=>none
 |_=>none
def K9(str:Bool):AV->Option Nat
 | .str s=>if str then some s.length else none
 | .jB _ es=>if str then none else some es.length
 | .own _ _ _ n=>if str then none else some n
 |_=>none
def nat? : AV->Option Nat
 | .int _ n=>if 0<=n then some n.toNat else none
 |_=>none
def lI(d:Nat)(e:Env):Option AO->Option Nat
 |none=>some d
 |some x=>nat? (x.get e)
def parts(e:Env):List (Nat×Nat×AO)->List AV->Option (List AV)
 | [],cs=>some cs
 |(off,size,x)::l,cs =>
  if (x.get e).cells.all AV.tF=true/\(x.get e).cells.length=size/\off+size<=cs.length then parts e l (over cs off (x.get e).cells)else none
def nZ(e:Env)(sz:Nat):List (Nat×AO)->List AV->AH->Option (List AV×AH)
 | [],es,h=>some (es,h)
 |(i,x)::l,es,h=>(oT h (x.get e)).bind λ(x',h') =>
  if x'.cells.length=sz/\i<es.length then nZ e sz l (es.set i x') h' else none
def oc(e:Env)(sz:Nat):List (Nat×AO)->List AV->Option (List AV)
 | [],es=>some es
 |(i,x)::l,es=>if (x.get e).lT/\(x.get e).cells.length=sz/\i<es.length then oc e sz l (es.set i (x.get e))else none
def getAll(e:Env):List AO->List AV
 | []=>[]
 |x::l=>x.get e::getAll e l
def mm2(isMax:Bool):AV->AV->Option AV
 | .int k x,.int _ y=>some (.int k (if isMax then(if x<y then y else x)else(if y<x then y else x)))
 |_,_=>none
def yx(isMax:Bool):AV->List AV->Option AV
 |x,[]=>some x
 |x,y::l=>(mm2 isMax x y).bind λz=>yx isMax z l
def jM(Γ:kP)(f:FuncId)(args:List AV)(h:AH):Option (AV×AH) :=
 match kY h args with
 |some (a',h')=>match Γ.p f a' with
  |some r=>some (r,h')
  |none=>Γ.h f args h
 |none=>Γ.h f args h
def isNil(k:NK)(neg:Bool):AV->Option AV
 | .oI=>match k with | .pt=>some (.bool (!neg)) | _=>none
 | .ptr .. => match k with | .pt=>some (.bool neg) | _=>none
 | .kE .. => match k with | .pt=>some (.bool neg) | _=>none
 | .nh=>match k with | .fn=>some (.bool (!neg)) | _=>none
 | .fn .. => match k with | .fn=>some (.bool neg) | _=>none
 | .pn=>match k with | .Hq=>some (.bool (!neg)) | _=>none
 | .Hq .. => match k with | .Hq=>some (.bool neg) | _=>none
 | .jB _ es=>match k with | .sl=>if es=[]then some .xI else some (.bool neg) | _=>none
 | .own _ _ _ n=>match k with | .sl=>if n=0 then some .xI else some (.bool neg) | _=>none
 |_=>none
def mz{A:Type}[DecidableEq A](es:List (A×AV))(n:A)(zero:AV):AV:=(es.find? λp=>decide (p.1=n)).elim zero λp=>p.2
def vw{A:Type}[DecidableEq A](es:List (A×AV))(n:A):Bool:=(es.find? λp=>decide (p.1=n)).isSome
def mN{A:Type}[DecidableEq A]:List (A×AV)->A->AV->List (A×AV)
 | [],n,v=>[(n,v)]
 |p::l,n,v=>if p.1=n then(n,v)::l else p::mN l n v
def vX(h:AH):AV->Option (Nat×List (Int×AV))
 | .nQ b=>match h[b]? with | some (.mp es)=>some (b,es) | _=>none
 |_=>none
def Ce(h:AH):AV->Option (Nat×List (au×AV))
 | .nQ b=>match h[b]? with | some (.mps es)=>some (b,es) | _=>none
 |_=>none
def Ot:AV->Option au
 | .str s=>some s
 |_=>none
def I3:AV->Option Int
 | .int k n=>if k = .i64 then some n else none
 |_=>none
def mc(h:AH)(v:Option AV):Option (AV×AH):=v.bind λv=>some (v,h)
open Classical in
noncomputable def tH(h:AH):Option (AV×AH)->Option (AV×AH)
 |some (r,h')=>if h'=h then some (r,h)else none
 |none=>none
open Classical in
noncomputable def uQ(h:AH):Option (AV×AH)->Option (AV×AH)
 |some (r,h')=>if h'.take h.length=h then some (r,h')else none
 |none=>none
noncomputable def exec(Γ:kP)(e:Env)(h:AH):ni->Option (AV×AH)
 | .mv x=>some (x.get e,h)
 | .pick c a b=>match c.get e with
  | .bool t=>some (if t then a.get e else b.get e,h)
  |_=>none
 | .alloc zero=>some (.ptr h.length 0 0 0,h++[.var zero])
 | .box x=>if (x.get e).cells.all AV.tF then some (.ptr h.length 0 0 0,h++[.var (x.get e).cells])else none
 | .build zero ps=>(parts e ps zero).bind λcs=>some (.agg cs,h)
 | .BQ sz zero len ps=>(oc e sz ps (List.replicate len zero)).bind λes=>some (.jB true es,h)
 | .me sz zero len ps=>(nZ e sz ps (List.replicate len zero) h).bind λ(es,h')=>some (.jB true es,h')
 | .M0 sz zero len ps=>(nZ e sz ps (List.replicate len zero) h).bind λ(es,h')=>some (.own h'.length 0 0 es.length,h'++[.row 0 sz es])
 | .load sz agg a=>(j7 h (a.get e)).bind λcs=>mc h (shape sz agg cs)
 | .store sz a x=>(storeAt h sz (a.get e) (x.get e)).bind λh'=>some (.undef,h')
 | .mS sz agg a q=>if pK (e q) (a.get e)=true then(j7 h (a.get e)).bind λcs=>mc h (shape sz agg cs)else none
 | .mC sz a x=>if rG h (a.get e)=true then(storeAt h sz (a.get e) (x.get e)).bind λh'=>some (.undef,h')else none
 | .ZI x=>match x.get e with
  | .ptr b v i o=>some (.ptr b v i o,h)
  | .kE cs=>some (.kE cs,h)
  | .fn f a c=>match f with | .func g=>some (.fn (.func g) a c,h) | _=>none
  |_=>none
 | .bin op x y=>mc h (bin op (x.get e) (y.get e))
 | .seq neg ks x y=>match x.get e,y.get e with
  | .agg a,.agg b=>(lK ks a b).bind λr=>if a.length=ks.length/\b.length=ks.length then some (.bool (if neg then !r else r),h)else none
  |_,_=>none
 | .un op x=>mc h (un op (x.get e))
 | .conv k x=>match x.get e with
  | .int _ n=>some (.int k (k.wrap n),h)
  |_=>none
 | .XU x=>(elems h (x.get e)).bind λes=>(pG es).bind λs=>some (.str s,h)
 | .mki t x=>some (.Hq t (x.get e),h)
 | .Ef f a c=>some (.fn f (getAll e a) (getAll e c),h)
 | .mks sz bytes zero l c=>match nat? (l.get e),nat? (c.get e)with
  |some n,some m=>if n<=m/\m*bytes<=140737488355328/\m<=140737488355328 then some (.own h.length 0 0 n,h++[.row 0 sz (List.replicate n zero)])else none
  |_,_=>none
 | .Sj x lo hi=>match x.get e with
  | .str s=>(lI s.length e hi).bind λb=>(lI 0 e lo).bind λa =>
    if a<=b/\b<=s.length then some (.str ((s.take b).drop a),h)else none
  |_=>none
 | .F8 sz x lo hi mx=>match x.get e with
  | .jB full es=>(lI es.length e hi).bind λb=>(lI 0 e lo).bind λa =>
    match mx with
    |none=>if kK sz es=true/\a<=b/\b<=es.length then some (.jB (full&&decide (b=es.length)) ((es.take b).drop a),h)else none
    |some m=>(nat? (m.get e)).bind λm =>
      if kK sz es=true/\hi.isSome=true/\a<=b/\b<=m/\m<=es.length then some (.jB (decide (b=m)) ((es.take b).drop a),h)else none
  | .own r v o n=>(lI n e hi).bind λb=>(lI 0 e lo).bind λa =>
    match mx with
    |none=>if kX h r v=some sz/\a<=b/\b<=n then some (.own r v (o+a) (b-a),h)else none
    |some m=>(nat? (m.get e)).bind λm =>
      if kX h r v=some sz/\hi.isSome=true/\a<=b/\b<=m/\m<=n then some (.own r v (o+a) (b-a),h)else none
  |_=>none
 | .fad off x=>match x.get e with
  | .ptr b v i o=>some (.ptr b v i (o+off),h)
  | .kE cs=>if off<=cs.length then some (.kE (cs.drop off),h)else none
  |_=>none
 | .fld off sz agg x=>match x.get e with
  | .agg cs=>if off<=cs.length then mc h (shape sz agg (cs.drop off))else none
  |_=>none
 | .Nz sz x i=>match x.get e with
  | .jB _ es=>(nat? (i.get e)).bind λn=>(es[n]?).bind λy=>if y.cells.length=sz then some (.kE y.cells,h)else none
  | .own b v o m=>(nat? (i.get e)).bind λn=>if n<m/\kX h b v=some sz then some (.ptr b v (o+n) 0,h)else none
  |_=>none
 | .OC m sz x i=>(nat? (i.get e)).bind λn=>if n<m then
   match x.get e with
   | .ptr b v j o=>some (.ptr b v j (o+n*sz),h)
   | .kE cs=>if n*sz<=cs.length then some (.kE (cs.drop (n*sz)),h)else none
   |_=>none
   else none
 | .idxs x i=>match x.get e with
  | .str s=>(nat? (i.get e)).bind λn=>(s[n]?).bind λc=>some (.int .u8 c.toNat,h)
  |_=>none
 | .ext x i=>match x.get e with
  | .kT vs=>(vs[i]?).bind λv=>some (v,h)
  |_=>none
 | .call f args=>jM Γ f (getAll e args) h
 | .rS f args=>if (getAll e args).all AV.lT then mc h (Γ.p f (getAll e args))else none
 | .l8 f args=>match f.get e with
  | .fn g first cap=>match g with
   | .func g=>jM Γ g (first++getAll e args++cap) h
   |_=>none
  |_=>none
 | .app sz bytes s x=>(elems h (x.get e)).bind λnews=>append h sz bytes (s.get e) news
 | .len str x=>(K9 str (x.get e)).bind λn=>some (.int .i64 n,h)
 | .mm isMax xs=>match getAll e xs with
  |x::l=>mc h (yx isMax x l)
  | []=>none
 | .no=>none
 | .zO k neg x=>mc h (isNil k neg (x.get e))
 | .clr Uo zero x=>match x.get e with
  | .own b v o n =>
   match h[b]? with
   |some (.row v' sz es)=>if v=v'/\sz=Uo/\o+n<=es.length then some (.kT [],h.set b (.row v' sz (over es o (List.replicate n zero))))else none
   |_=>none
  | .jB _ es=>if es=[]then some (.kT [],h)else none
  |_=>none
 | .N9 x=>if (x.get e).cells.all AV.kZ then some (.kE (x.get e).cells,h)else none
 | .Ch sz agg a=>match a.get e with
  | .kE cs=>mc h (shape sz agg cs)
  |_=>none
 | .v8 f args=>if (getAll e args).all AV.lT then((Γ.h f (getAll e args) []).bind λ(r,h1)=>sD h1 r).bind λ(r,_)=>some (r,h)else none
 | .rR f args=>match f.get e with
  | .fn g first cap=>match g with
   | .func g=>tH h (jM Γ g (first++getAll e args++cap) h)
   |_=>none
  |_=>none
 | .ZO=>some (.nQ h.length,h++[.mp []])
 | .yP zero m k=>(vX h (m.get e)).bind λ(_,es)=>(I3 (k.get e)).bind λn=>some (mz es n zero,h)
 | .uf m k x=>(vX h (m.get e)).bind λ(b,es)=>(I3 (k.get e)).bind λn=>if (x.get e).tF=true then some (.undef,h.set b (.mp (mN es n (x.get e))))else none
 | .Ol m=>(vX h (m.get e)).bind λ(_,es)=>some (.int .i64 es.length,h)
 | .zK zero m k=>(vX h (m.get e)).bind λ(_,es)=>(I3 (k.get e)).bind λn=>some (.kT [mz es n zero,.bool (vw es n)],h)
 | .VA=>some (.nQ h.length,h++[.mps []])
 | .Cd ck zero m k=>(Ce h (m.get e)).bind λ(_,es)=>(Ot (k.get e)).bind λn=>some (if ck=true then .kT [mz es n zero,.bool (vw es n)]else mz es n zero,h)
 | .Cc m k x=>(Ce h (m.get e)).bind λ(b,es)=>(Ot (k.get e)).bind λn=>if (x.get e).tF=true then some (.undef,h.set b (.mps (mN es n (x.get e))))else none
 | .qu f args=>uQ h (jM Γ f (getAll e args) h)
 | .stb x=>match x.get e with
  | .str s=>some (.jB false (s.map λc=>.int .u8 (c.toNat:Int)),h)
  |_=>none
 | .sN sz agg t=>if rG h (e t)=true then(j7 h (e t)).bind λcs=>mc h (shape sz agg cs)else none
 | .calls f args=>tH h (jM Γ f (getAll e args) h)
 | .Aq f args=>(kY h (getAll e args)).bind λq=>Γ.h f q.1 q.2
 | .yG f args=>(kY h (getAll e args)).bind λq=>(Γ.p f q.1).bind λr=>some (r,q.2)
 | .rJ f args=>match f.get e with
  | .fn g first cap=>match g with
   | .func g=>uQ h (jM Γ g (first++getAll e args++cap) h)
   |_=>none
  |_=>none
structure AI where
 dst:Option Nat
 guard:Option (Nat×Bool)
 op:ni
structure St where
 e:Env
 h:AH
def St.put(s:St)(d:Option Nat)(v:AV):St :=
 match d with
 |some t=>{s with e:=s.e.put t v}
 |none=>s
noncomputable def flat(Γ:kP):List AI->St->Option St
 | [],s=>some s
 |o::l,s =>
  match o.guard with
  |none=>(exec Γ s.e s.h o.op).bind λ(v,h)=>flat Γ l (St.put {s with h:=h} o.dst v)
  |some (g,want) =>
   match s.e g with
   | .bool b=>if b=want then(exec Γ s.e s.h o.op).bind λ(v,h)=>flat Γ l (St.put {s with h:=h} o.dst v)else flat Γ l (s.put o.dst .undef)
   | .undef=>flat Γ l (s.put o.dst .undef)
   |_=>none
inductive IT where
 |nil
 |op (d:Option Nat) (o:ni) (rest:IT)
 |sc (d:Nat) (a:Bool) (c lo hi:Nat) (uZ:IT) (r:AO) (rest:IT)
 deriving Inhabited
def Env.kill(e:Env)(lo hi:Nat):Env:=λi=>if lo<=i/\i<=hi then .dead else e i
noncomputable def uZ(Γ:kP):IT->St->Option St
 | .nil,s=>some s
 | .op d o rest,s=>(exec Γ s.e s.h o).bind λ(v,h)=>uZ Γ rest (St.put {s with h:=h} d v)
 | .sc d a c lo hi l r rest,s =>
  match s.e c with
  | .bool b =>
   (if b=a then(uZ Γ l s).bind λs'=>match r.get s'.e with
     | .bool x=>some (AV.bool x,s'.h)
     |_=>none
    else some (AV.bool (!a),s.h)).bind λ(v,h)=>uZ Γ rest ⟨(s.e.kill lo hi).put d v,h⟩
  |_=>none
inductive AX where
 |normal
 |exit (id:Nat)
 |ret
 deriving DecidableEq,Inhabited
inductive AC where
 |skip
 |ops (l:IT)
 |seq (a b:AC)
 |cond (c:AO) (x y:AC)
 |block (id:Nat) (c:AC)
 |loop (keep:ax) (wr:aC) (own:aC) (outs:List (AX×ax)) (c:AC)
 |exit (id:Nat)
 |ret
 |scope (c:AC)
  |gho (c:AC) (g:aC)
  |oR (ad:aD) (keep:ax) (wr:aC) (own:aC) (outs:List (AX×ax)) (c:AC)
 deriving Inhabited
inductive AR where
 |t (i:Nat)
 |cell (i sz:Nat) (agg:Bool)
 deriving Inhabited
structure AF where
 nt:Nat
 res:List AR
 body:AC
 deriving Inhabited
section iter
variable{A τ:Type}
def qh(f:A->Option (A⊕τ)):Nat->A->Option τ
 |0,_=>none
 |n+1,s =>
  match f s with
  |none=>none
  |some (.inl s')=>qh f n s'
  |some (.inr t)=>some t
def Ox{f:A->Option (A⊕τ)}{n:Nat}{s:A}{t:τ}(h:qh f n s=some t):qh f (n+1) s=some t:=by
 induction n generalizing s with
 |zero=>cases h
 |succ n ih =>
  rw[qh]at h⊢;cases hs:f s with
  |none=>rw[hs]at h;cases h
  |some r =>
   rw[hs]at h;cases r with
   |inl s'=>exact ih h
   |inr t'=>exact h
def LZ{f:A->Option (A⊕τ)}{n m:Nat}{s:A}{t:τ}(h:qh f n s=some t)(hm:n<=m):qh f m s=some t:=by
 induction hm with
 |refl=>exact h
 |step _ ih=>exact Ox ih
open Classical in
noncomputable def iter(f:A->Option (A⊕τ))(s:A):Option τ :=
 if h:∃t,∃n,qh f n s=some t then some (Classical.choose h)else none
def Bf{f:A->Option (A⊕τ)}{n:Nat}{s:A}{t:τ}(h:qh f n s=some t):iter f s=some t:=by
 have hx:∃t,∃n,qh f n s=some t:=⟨t,n,h⟩;unfold iter;rw[dif_pos hx];let⟨m,hm⟩:=en hx;have h1:=LZ h (Nat.le_max_left n m);have h2:=LZ hm (Nat.le_max_right n m);rw[h1]at h2;exact h2.symm
def B3{f:A->Option (A⊕τ)}{s:A}{t:τ}(h:iter f s=some t):∃n,qh f n s=some t:=by
 unfold iter at h;split at h
 .rename_i hx;have:=en hx;cases h;exact this
 .cases h
def iter_eq(f:A->Option (A⊕τ))(s:A):iter f s =
  match f s with
  |none=>none
  |some (.inl s')=>iter f s'
  |some (.inr t)=>some t:=by
 cases hi:iter f s with
 |some t =>
  let⟨n,hn⟩:=B3 hi;cases n with
  |zero=>cases hn
  |succ n =>
   simp only[qh]at hn;split at hn
   .cases hn
   .exact(Bf hn).symm
   .exact hn.symm
 |none =>
  split
  .rfl
  .rename_i s' hs;cases h2:iter f s' with
   |none=>rfl
   |some t =>
    let⟨n,hn⟩:=B3 h2;have:iter f s=some t:=Bf (n:=n+1) (by simp only[qh,hs];exact hn)
    rw[hi]at this;cases this
  .rename_i t hs;have:iter f s=some t:=Bf (n:=1) (by simp only[qh,hs])
   rw[hi]at this;cases this
end iter
def Env.rj(e:Env)(rs:aC):Env:=λi=>if rs.any (λr=>decide (r.1<=i)&&decide (i<=r.2))then .dead else e i
def Env.lay(e:Env):ax->List AV->Env
 |t::ts,v::vs=>(e.lay ts vs).put t v
 |_,_=>e
def j9(L:Nat)(R:ax)(h:AH):AV->AV
 | .own b v o n =>
  if b<L then
   if R.contains b then
    match h[b]? with
    |some (.row v' _ _)=>if v=v' then .own b 0 o n else .dead
    |some (.qa v' _ _)=>if v=v' then .own b 0 o n else .dead
    |_=>.dead
   else .own b v o n
  else match elems h (.own b v o n)with
   |some es=>.jB false es
   |none=>.dead
 | .ptr b v i o=>if b<L/\¬R.contains b then .ptr b v i o else .dead
 | .fn f a c=>if (a++c).all (λx=>x.lT||match x with | .ptr b _ _ _=>decide (b<L) && !R.contains b | .nQ b=>decide (b<L) && !R.contains b | _=>false)then .fn f a c else .dead
 | .nQ b=>if b<L/\¬R.contains b then .nQ b else .dead
 | .undef=>.undef
 |v=>if v.kZ then v else .dead
def nP(L:Nat)(R:ax)(h:AH)(v:AV):AV :=
 if v.lT then v else
 match v with
 | .agg cs=>.agg (cs.map (j9 L R h))
 |v=>j9 L R h v
def kL(L:Nat)(R:ax)(h:AH)(i:Nat)(b:AB):AB :=
 match b with
 | .var cs=>.var (cs.map (j9 L R h))
 | .row v sz es=>.row (if R.contains i then 0 else v) sz es
 | .qa v sz es=>.qa (if R.contains i then 0 else v) sz es
 | .gone=>.gone
 | .mp es=>.mp (es.map λp=>(p.1,j9 L R h p.2))
 | .mps es=>.mps (es.map λp=>(p.1,j9 L R h p.2))
def j5(L:Nat)(R:ax)(h:AH)(i:Nat):AH->AH
 | []=>[]
 |b::l=>kL L R h i b::j5 L R h (i+1) l
def head(L:Nat)(R:ax)(keep:ax)(s:St):List AV×AH :=
 (keep.map λt=>nP L R s.h (s.e t),j5 L R s.h 0 (s.h.take L))
def nM(R:ax)(v:AV):AV :=
 let ok (x:AV):Bool:=x.lT||match x with | .ptr b _ _ _=>!R.contains b | .own b _ _ _=>!R.contains b | .nQ b=>!R.contains b | _=>false
 match v with
 | .agg cs=>if cs.all ok then .agg cs else .dead
 | .fn f a c=>if (a++c).all ok then .fn f a c else .dead
 | .undef=>.undef
 | .kE cs=>.kE cs
 |v=>if ok v then v else .dead
def jI:aC->St->St
 | [],s=>s
 |(t,sz)::l,s =>
  match s.e t with
  | .jB true []=>jI l ⟨s.e.put t (.own s.h.length 0 0 0),s.h++[.row 0 sz []]⟩
  |_=>jI l s
def rowsOf(e:Env):aC->ax
 | []=>[]
 |(t,_)::l=>match e t with
  | .own b _ _ _=>b::rowsOf e l
  |_=>rowsOf e l
def mj(R:ax)(e:Env):Env:=if R.isEmpty then e else λi=>nM R (e i)
def mR{ρ:Type}(e:Env)(k:AX->St->Option ρ)(r:AX×List AV×AH):List (AX×ax)->Option ρ
 | []=>none
 |(x,ts)::l=>if r.1=x then k x ⟨e.lay ts r.2.1,r.2.2⟩else mR e k r l
def qf(x:AX):List (AX×ax)->ax
 | []=>[]
 |(y,ts)::l=>if x=y then ts else qf x l
def o9(R:ax)(L:Nat)(i:Nat):Bool:=R.contains i||decide (L<=i)
def r6(s:St)(t o:Nat):Option AV:=match s.e t with
 | .ptr b 0 0 0=>match s.h[b]? with | some (.var cs)=>cs[o]? | _=>none
 | .agg cs=>cs[o]?
 | .nQ b=>match s.h[b]? with | some (.mp es)=>(es.find? λp=>decide (p.1=(o:Int))).map λp=>p.2 | _=>none
 |_=>none
def AE(s:St)(t o:Nat)(x:AV):St:=match s.e t with
 | .ptr b 0 0 0=>match s.h[b]? with | some (.var cs)=>⟨s.e,s.h.set b (.var (cs.set o x))⟩ | _=>s
 | .agg cs=>⟨s.e.put t (.agg (cs.set o x)),s.h⟩
 | .nQ b=>match s.h[b]? with | some (.mp es)=>⟨s.e,s.h.set b (.mp (mN es (o:Int) x))⟩ | _=>s
 |_=>s
def aan(s:St)(p:Nat×Nat):Option St:=(r6 s p.1 p.2).bind λy=>(qe s.h y).bind λr=>some (AE ⟨s.e,r.2⟩ p.1 p.2 r.1)
def OU:aC->St->Option St
 | [],s=>some s
 |p::l,s=>(aan s p).bind (OU l)
def qk(s:St)(p:Nat×Nat×Nat):St:=match r6 s p.1 p.2.1 with
 |some (.own b v 0 n)=>match s.h[b]? with
  |some (.row v' sz es)=>if v=v'/\n=es.length then AE ⟨s.e,s.h.set b (.row (v+1) sz [])++[.row 0 sz es]⟩ p.1 p.2.1 (.own s.h.length 0 0 n)else⟨s.e,s.h++[.gone]⟩
  |_=>⟨s.e,s.h++[.gone]⟩
 |some (.jB true [])=>AE ⟨s.e,s.h++[.row 0 p.2.2 []]⟩ p.1 p.2.1 (.own s.h.length 0 0 0)
 |none=>⟨s.e,s.h++[.row 0 p.2.2 []]⟩
 |_=>⟨s.e,s.h++[.gone]⟩
def jX:aD->St->St
 | [],s=>s
 |p::l,s=>jX l (qk s p)
def tD(τ:Nat)(s:St)(p:Nat×Nat×Nat):St:=match r6 s p.1 p.2.1 with
 |some (.own b v 0 n)=>if b=τ then s else match s.h[b]? with
  |some (.row v' sz es)=>match s.h[τ]? with
   |some (.row u _ _)=>if v=v'/\n=es.length then AE ⟨s.e,(s.h.set b (.row (v+1) sz [])).set τ (.row (u+1) sz es)⟩ p.1 p.2.1 (.own τ (u+1) 0 n)else s
   |_=>s
  |_=>s
 |_=>s
def kO:Nat->aD->St->St
 |_,[],s=>s
 | τ,p::l,s=>kO (τ+1) l (tD τ s p)
def tgt:Nat->aD->ax
 |_,[]=>[]
 | τ,_::l=>τ::tgt (τ+1) l
noncomputable def eval(Γ:kP):AC->(Nat->Bool)->(ρ:Type)->(AX->St->Option ρ)->St->Option ρ
 | .skip,_,_,k,s=>k .normal s
 | .ops l,_,_,k,s=>(uZ Γ l s).bind (k .normal)
 | .seq a b,V,ρ,k,s=>eval Γ a V ρ (λx s'=>match x with
   | .normal=>eval Γ b V ρ k s'
   |x=>k x s') s
 | .cond c x y,V,ρ,k,s=>match c.get s.e with
   | .bool b=>if b=true then eval Γ x V ρ k s else eval Γ y V ρ k s
   |_=>none
 | .block id c,V,ρ,k,s=>eval Γ c V ρ (λx s'=>match x with
   | .exit i=>if i=id then k .normal s' else k (.exit i) s'
   |x=>k x s') s
 | .loop keep wr own outs c,V,_,k,s =>
   if (rowsOf (jI own s).e own).all V=true then
   (iter (λx:List AV×AH=>eval Γ c (o9 (rowsOf (jI own s).e own) (jI own s).h.length) ((List AV×AH)⊕(AX×List AV×AH)) (λex s'=>match ex with
     | .normal=>some (.inl (head (jI own s).h.length (rowsOf (jI own s).e own) keep s'))
     |ex=>some (.inr (ex,(qf ex outs).map s'.e,s'.h))) ⟨((mj (rowsOf (jI own s).e own) (jI own s).e).rj wr).lay keep x.1,x.2⟩)
    (head (jI own s).h.length (rowsOf (jI own s).e own) keep (jI own s))).bind λr=>mR ((mj (rowsOf (jI own s).e own) (jI own s).e).rj wr) k r outs
   else none
 | .exit id,_,_,k,s=>k (.exit id) s
 | .ret,_,_,k,s=>k .ret s
 | .scope c,V,ρ,k,s=>eval Γ c V ρ k s
 | .gho c g,V,ρ,k,s=>eval Γ c V ρ (λx s'=>match x with
   | .exit i=>k (.exit i) s'
   |x=>(OU g s').bind (k x)) s
 | .oR ad keep wr own outs c,V,_,k,s =>
   if (rowsOf (jX ad (jI own s)).e own).all V=true then
   (iter (λx:List AV×AH=>eval Γ c (o9 (tgt (jI own s).h.length ad++rowsOf (jX ad (jI own s)).e own) (jX ad (jI own s)).h.length) ((List AV×AH)⊕(AX×List AV×AH)) (λex s'=>match ex with
     | .normal=>some (.inl (head (jX ad (jI own s)).h.length (tgt (jI own s).h.length ad++rowsOf (jX ad (jI own s)).e own) keep (kO (jI own s).h.length ad s')))
     |ex=>some (.inr (ex,(qf ex outs).map s'.e,s'.h))) ⟨((mj (tgt (jI own s).h.length ad++rowsOf (jX ad (jI own s)).e own) (jX ad (jI own s)).e).rj wr).lay keep x.1,x.2⟩)
    (head (jX ad (jI own s)).h.length (tgt (jI own s).h.length ad++rowsOf (jX ad (jI own s)).e own) keep (jX ad (jI own s)))).bind λr=>mR ((mj (tgt (jI own s).h.length ad++rowsOf (jX ad (jI own s)).e own) (jX ad (jI own s)).e).rj wr) k r outs
   else none
noncomputable def lD(Γ:kP)(τ:Nat)(ad:aD)(keep:ax)(outs:List (AX×ax))(c:AC)(e0:Env)(L:Nat)(R:ax)(x:List AV×AH):Option ((List AV×AH)⊕(AX×List AV×AH)) :=
 eval Γ c (o9 R L) _ (λex s'=>match ex with
  | .normal=>some (.inl (head L R keep (kO τ ad s')))
  |ex=>some (.inr (ex,(qf ex outs).map s'.e,s'.h))) ⟨e0.lay keep x.1,x.2⟩
noncomputable def round(Γ:kP)(keep:ax)(outs:List (AX×ax))(c:AC)(e0:Env)(L:Nat)(R:ax)(x:List AV×AH):Option ((List AV×AH)⊕(AX×List AV×AH)) :=
 eval Γ c (o9 R L) _ (λex s'=>match ex with
  | .normal=>some (.inl (head L R keep s'))
  |ex=>some (.inr (ex,(qf ex outs).map s'.e,s'.h))) ⟨e0.lay keep x.1,x.2⟩
def kR(args:List AV):Env:=λi=>args.getD i .dead
def AN(s:St):AR->Option AV
 | .t i=>some (s.e i)
 | .cell i sz agg=>(j7 s.h (s.e i)).bind (shape sz agg)
def ud(s:St):List AR->Option (List AV)
 | []=>some []
 |r::l=>(AN s r).bind λv=>(ud s l).bind λvs=>some (v::vs)
def Gn(s:St)(l:List AR):Option AV:=(ud s l).bind λvs=>match vs with
 | [v]=>some v
 |vs=>some (.kT vs)
noncomputable def rE(Γ:kP)(f:AF)(args:List AV)(h:AH):Option (AV×AH) :=
 if args.length<=f.nt then
  eval Γ f.body (λi=>decide (h.length<=i)) (AV×AH) (λx s=>match x with
   | .exit _=>none
   |_=>(Gn s f.res).bind λv=>some (v,s.h)) ⟨kR args,h⟩
 else none
noncomputable def rV(Γ:kP)(f:AF)(args:List AV):Option AV:=(rE Γ f args []).bind λ(v,h)=>(sD h v).bind λ(v,_)=>some v
@[simp]def ajW{α β:Type}(p:Prop)[Decidable p](x y:Option α)(f:α->Option β):(if p then x else y).bind f=if p then x.bind f else y.bind f:=by split<;>rfl
@[simp]def YA(p:Prop)[Decidable p](x y:Bool)(h:AH):(if p then some (AV.bool x,h)else some (AV.bool y,h))=some (AV.bool (if p then x else y),h):=by split<;>rfl
class Kt(α β:Type) where
 run:α->Option β
def mZ{α β:Type}(x:Option α)[k:Kt α β]:Option β:=x.bind k.run
@[simp]theorem X4{α β:Type}(a:α)(f:α->Option β):@mZ α β (some a) ⟨f⟩=f a:=(rfl)
@[simp]theorem amy{α β:Type}(f:α->Option β):@mZ α β none ⟨f⟩=none:=(rfl)
@[simp]def ank{α β:Type}(p:Prop)[Decidable p](x y:Option α)(k:Kt α β):@mZ α β (if p then x else y) k=if p then @mZ α β x k else @mZ α β y k:=by split<;>rfl
class K2(ρ:Type) where
 x:Unit->Option ρ
 y:Unit->Option ρ
def Vh{ρ:Type}(v:AV)[k:K2 ρ]:Option ρ:=match v with
 | .bool b=>if b=true then k.x ()else k.y ()
 |_=>none
@[simp]theorem abz{ρ:Type}(b:Bool)(x y:Unit->Option ρ):@Vh ρ (.bool b) ⟨x,y⟩=if b=true then x ()else y ():=(rfl)
def scV(v:AV)(a:Bool)(h:AH)[k:Kt Unit (AV×AH)]:Option (AV×AH):=match v with
 | .bool b=>if b=a then k.run ()else some (.bool (!a),h)
 |_=>none
@[simp]theorem aik(b a:Bool)(x:Unit->Option (AV×AH))(h:AH):@scV (.bool b) a h ⟨x⟩=if b=a then x ()else some (.bool (!a),h):=(rfl)
def acj(r:AV)(h:AH):Option (AV×AH):=match r with
 | .bool x=>some (.bool x,h)
 |_=>none
@[simp]theorem agc(x:Bool)(h:AH):acj (.bool x) h=some (.bool x,h):=(rfl)
section
variable{Γ:kP}{V:aB}{ρ:Type}
@[simp ↓]theorem ahH(l:IT)(k:AX->St->Option ρ)(s:St):eval Γ (.ops l) V ρ k s=@mZ _ _ (uZ Γ l s) ⟨k .normal⟩:=(rfl)
@[simp ↓]theorem ahF(a b:AC)(k:AX->St->Option ρ)(s:St):eval Γ (.seq a b) V ρ k s=eval Γ a V ρ (λx s'=>match x with
   | .normal=>eval Γ b V ρ k s'
   |x=>k x s') s:=(rfl)
@[simp ↓]theorem afa(c:AO)(x y:AC)(k:AX->St->Option ρ)(s:St):eval Γ (.cond c x y) V ρ k s=@Vh _ (c.get s.e) ⟨λ_=>eval Γ x V ρ k s,λ_=>eval Γ y V ρ k s⟩:=(rfl)
@[simp ↓]theorem ab3(id:Nat)(c:AC)(k:AX->St->Option ρ)(s:St):eval Γ (.block id c) V ρ k s=eval Γ c V ρ (λx s'=>match x with
   | .exit i=>if i=id then k .normal s' else k (.exit i) s'
   |x=>k x s') s:=(rfl)
@[simp ↓]theorem ae7(k:AX->St->Option ρ)(s:St):eval Γ .skip V ρ k s=k .normal s:=(rfl)
@[simp ↓]theorem ae9(id:Nat)(k:AX->St->Option ρ)(s:St):eval Γ (.exit id) V ρ k s=k (.exit id) s:=(rfl)
@[simp ↓]theorem ab2(c:AC)(k:AX->St->Option ρ)(s:St):eval Γ (.scope c) V ρ k s=eval Γ c V ρ k s:=(rfl)
@[simp ↓]theorem ahI(c:AC)(g:aC)(k:AX->St->Option ρ)(s:St):eval Γ (.gho c g) V ρ k s=eval Γ c V ρ (λx s'=>match x with
   | .exit i=>k (.exit i) s'
   |x=>@mZ _ _ (OU g s') ⟨k x⟩) s:=(rfl)
@[simp ↓]theorem xu(ad:aD)(keep:ax)(wr:aC)(own:aC)(outs:List (AX×ax))(c:AC)(k:AX->St->Option ρ)(s:St):
  eval Γ (.oR ad keep wr own outs c) V ρ k s =
   if (rowsOf (jX ad (jI own s)).e own).all V=true then
   @mZ _ _ (iter (lD Γ (jI own s).h.length ad keep outs c ((mj (tgt (jI own s).h.length ad++rowsOf (jX ad (jI own s)).e own) (jX ad (jI own s)).e).rj wr) (jX ad (jI own s)).h.length (tgt (jI own s).h.length ad++rowsOf (jX ad (jI own s)).e own))
    (head (jX ad (jI own s)).h.length (tgt (jI own s).h.length ad++rowsOf (jX ad (jI own s)).e own) keep (jX ad (jI own s)))) ⟨λr=>mR ((mj (tgt (jI own s).h.length ad++rowsOf (jX ad (jI own s)).e own) (jX ad (jI own s)).e).rj wr) k r outs⟩
   else none:=(rfl)
theorem jV(τ:Nat)(ad:aD)(keep:ax)(outs:List (AX×ax))(c:AC)(e0:Env)(L:Nat)(R:ax)(x:List AV×AH):lD Γ τ ad keep outs c e0 L R x=eval Γ c (o9 R L) _ (λex s'=>match ex with
  | .normal=>some (.inl (head L R keep (kO τ ad s')))
  |ex=>some (.inr (ex,(qf ex outs).map s'.e,s'.h))) ⟨e0.lay keep x.1,x.2⟩:=rfl
@[simp ↓]theorem ahG(k:AX->St->Option ρ)(s:St):eval Γ .ret V ρ k s=k .ret s:=(rfl)
@[simp ↓]theorem ae8(keep:ax)(wr:aC)(own:aC)(outs:List (AX×ax))(c:AC)(k:AX->St->Option ρ)(s:St):
  eval Γ (.loop keep wr own outs c) V ρ k s =
   if (rowsOf (jI own s).e own).all V=true then
   @mZ _ _ (iter (round Γ keep outs c ((mj (rowsOf (jI own s).e own) (jI own s).e).rj wr) (jI own s).h.length (rowsOf (jI own s).e own))
    (head (jI own s).h.length (rowsOf (jI own s).e own) keep (jI own s))) ⟨λr=>mR ((mj (rowsOf (jI own s).e own) (jI own s).e).rj wr) k r outs⟩
   else none:=(rfl)
theorem round_eq(keep:ax)(outs:List (AX×ax))(c:AC)(e0:Env)(L:Nat)(R:ax)(x:List AV×AH):round Γ keep outs c e0 L R x=eval Γ c (o9 R L) _ (λex s'=>match ex with
  | .normal=>some (.inl (head L R keep s'))
  |ex=>some (.inr (ex,(qf ex outs).map s'.e,s'.h))) ⟨e0.lay keep x.1,x.2⟩:=rfl
def jy(f:AF)(args:List AV)(h:AH):rE Γ f args h=if args.length<=f.nt then eval Γ f.body (λi=>decide (h.length<=i)) (AV×AH) (λx s=>match x with
   | .exit _=>none
   |_=>@mZ _ _ (Gn s f.res) ⟨λv=>some (v,s.h)⟩) ⟨kR args,h⟩else none:=by
 unfold rE;rfl
theorem jA(f:AF)(args:List AV):rV Γ f args=@mZ _ _ (rE Γ f args []) ⟨λp=>@mZ _ _ (sD p.2 p.1) ⟨λq=>some q.1⟩⟩:=rfl
@[simp ↓]theorem amZ(s:St):uZ Γ .nil s=some s:=(rfl)
@[simp ↓]theorem apu(d:Nat)(o:ni)(rest:IT)(s:St):uZ Γ (.op (some d) o rest) s=@mZ _ _ (exec Γ s.e s.h o) ⟨λp=>uZ Γ rest ⟨s.e.put d p.1,p.2⟩⟩:=(rfl)
@[simp ↓]theorem amY(o:ni)(rest:IT)(s:St):uZ Γ (.op none o rest) s=@mZ _ _ (exec Γ s.e s.h o) ⟨λp=>uZ Γ rest ⟨s.e,p.2⟩⟩:=(rfl)
@[simp ↓]def apt(d:Nat)(a:Bool)(c lo hi:Nat)(l:IT)(r:AO)(rest:IT)(s:St):uZ Γ (.sc d a c lo hi l r rest) s =
  @mZ _ _ (@scV (s.e c) a s.h ⟨λ_=>@mZ _ _ (uZ Γ l s) ⟨λs'=>acj (r.get s'.e) s'.h⟩⟩) ⟨λp=>uZ Γ rest ⟨(s.e.kill lo hi).put d p.1,p.2⟩⟩:=by
 simp only[uZ,scV];cases s.e c<;>rfl
@[simp ↓]theorem ar5(e:Env)(i:Nat):(AO.t i).get e=e i:=(rfl)
@[simp ↓]theorem ar6(e:Env)(v:AV):(AO.c v).get e=v:=(rfl)
@[simp ↓]theorem amP(e:Env)(t:Nat)(v:AV)(i:Nat):(e.put t v) i=if i=t then v else e i:=(rfl)
@[simp ↓]theorem ajQ(e:Env)(lo hi i:Nat):(e.kill lo hi) i=if lo<=i/\i<=hi then .dead else e i:=(rfl)
@[simp ↓]theorem ahl(e:Env)(rs:aC)(i:Nat):(e.rj rs) i=if rs.any (λr=>decide (r.1<=i)&&decide (i<=r.2))then .dead else e i:=(rfl)
@[simp ↓]theorem ajB(e:Env)(t:Nat)(ts:ax)(v:AV)(vs:List AV):e.lay (t::ts) (v::vs)=(e.lay ts vs).put t v:=(rfl)
@[simp ↓]def amX(e:Env)(vs:List AV):e.lay [] vs=e:=by cases vs<;>rfl
@[simp ↓]theorem agf(args:List AV)(i:Nat):kR args i=args.getD i .dead:=(rfl)
def sR(L:Nat)(R:ax)(h:AH)(e:Env):ax->List AV
 | []=>[]
 |t::ts=>nP L R h (e t)::sR L R h e ts
def Ml(L:Nat)(R:ax)(h:AH)(e:Env):∀ts:ax,(ts.map λt=>nP L R h (e t))=sR L R h e ts
 | []=>rfl
 |t::ts=>by rw[bF,Ml L R h e ts];rfl
@[simp ↓]def head_eq(L:Nat)(R:ax)(keep:ax)(s:St):head L R keep s=(sR L R s.h s.e keep,j5 L R s.h 0 (s.h.take L)):=by unfold head;rw[Ml]
@[simp ↓]theorem ahr(L:Nat)(R:ax)(h:AH)(e:Env):sR L R h e []=[]:=(rfl)
@[simp ↓]theorem aeu(L:Nat)(R:ax)(h:AH)(e:Env)(t:Nat)(ts:ax):sR L R h e (t::ts)=nP L R h (e t)::sR L R h e ts:=(rfl)
@[simp ↓]theorem aeN(e:Env):getAll e []=[]:=(rfl)
@[simp ↓]theorem abW(e:Env)(x:AO)(l:List AO):getAll e (x::l)=x.get e::getAll e l:=(rfl)
end
attribute [simp] nat? K9 lB
attribute [simp] o9 j5 rowsOf jI qf mR r6 AE aan OU qk jX tD kO tgt
@[simp]def aj1(b:Bool):(AV.bool b).kZ=true:=by simp only[AV.kZ]
@[simp]def am5(k:IntKind)(n:Int):(AV.int k n).kZ=true:=by simp only[AV.kZ]
@[simp]def am0(s:au):(AV.str s).kZ=true:=by simp only[AV.kZ]
@[simp]def am4(f:Bool)(es:List AV):(AV.jB f es).kZ=true:=by simp only[AV.kZ]
@[simp]def am2(b v o n:Nat):(AV.own b v o n).kZ=false:=by simp only[AV.kZ]
@[simp]def am3(b:Nat):(AV.nQ b).kZ=false:=by simp only[AV.kZ]
@[simp]def am1(b v o n:Nat):(AV.ptr b v o n).kZ=false:=by simp only[AV.kZ]
@[simp]def akd(b:Bool):(AV.bool b).lT=true:=by simp only[AV.lT,AV.kZ]
@[simp]def anf(k:IntKind)(n:Int):(AV.int k n).lT=true:=by simp only[AV.lT,AV.kZ]
@[simp]def ana(s:au):(AV.str s).lT=true:=by simp only[AV.lT,AV.kZ]
@[simp]def ane(f:Bool)(es:List AV):(AV.jB f es).lT=true:=by simp only[AV.lT,AV.kZ]
@[simp]def I4(cs:List AV):(AV.agg cs).lT=cs.all AV.kZ:=by rw[AV.lT]
@[simp]def ZX(b v o n:Nat):(AV.own b v o n).lT=false:=by simp only[AV.lT,AV.kZ]
@[simp]def anc(b:Nat):(AV.nQ b).lT=false:=by simp only[AV.lT,AV.kZ]
@[simp]def anb(b v o n:Nat):(AV.ptr b v o n).lT=false:=by simp only[AV.lT,AV.kZ]
@[simp]def akc:AV.dead.lT=false:=by simp only[AV.lT,AV.kZ]
@[simp]def ahq:AV.undef.lT=false:=by simp only[AV.lT,AV.kZ]
@[simp]def apv(f:Fn)(a c:List AV):(AV.fn f a c).lT=false:=by simp only[AV.lT,AV.kZ]
@[simp]def aj6(b:Bool):(AV.bool b).jO=true:=by simp only[AV.jO,AV.lT,AV.kZ]
@[simp]def am9(k:IntKind)(n:Int):(AV.int k n).jO=true:=by simp only[AV.jO,AV.lT,AV.kZ]
@[simp]def am6(s:au):(AV.str s).jO=true:=by simp only[AV.jO,AV.lT,AV.kZ]
@[simp]def am8(f:Bool)(es:List AV):(AV.jB f es).jO=true:=by simp only[AV.jO,AV.lT,AV.kZ]
@[simp]def ZW(cs:List AV):(AV.agg cs).jO=cs.all AV.kZ:=by rw[AV.jO,AV.lT];simp
@[simp]def ZV(vs:List AV):(AV.kT vs).jO=vs.all AV.lT:=by rw[AV.jO]
@[simp]def am7(b v o n:Nat):(AV.own b v o n).jO=false:=by simp only[AV.jO,AV.lT,AV.kZ]
@[simp]theorem afC(b:Bool):(AV.bool b).cells=[.bool b]:=(rfl)
@[simp]theorem ahV(k:IntKind)(n:Int):(AV.int k n).cells=[.int k n]:=(rfl)
@[simp]theorem ahQ(s:au):(AV.str s).cells=[.str s]:=(rfl)
@[simp]theorem ahU(f:Bool)(es:List AV):(AV.jB f es).cells=[.jB f es]:=(rfl)
@[simp]theorem ahS(b v o n:Nat):(AV.own b v o n).cells=[.own b v o n]:=(rfl)
@[simp]theorem ahT(b:Nat):(AV.nQ b).cells=[.nQ b]:=(rfl)
@[simp]theorem ahR(b v o n:Nat):(AV.ptr b v o n).cells=[.ptr b v o n]:=(rfl)
@[simp]theorem ahW(cs:List AV):(AV.agg cs).cells=cs:=(rfl)
@[simp]theorem ad9(neg:Bool):isNil .pt neg .oI=some (.bool (!neg)):=(rfl)
@[simp]theorem ahm(neg:Bool)(b v i o:Nat):isNil .pt neg (.ptr b v i o)=some (.bool neg):=(rfl)
@[simp]theorem ad8(neg:Bool)(cs:List AV):isNil .pt neg (.kE cs)=some (.bool neg):=(rfl)
@[simp]theorem aeb(neg:Bool):isNil .fn neg .nh=some (.bool (!neg)):=(rfl)
@[simp]theorem aj7(neg:Bool)(f:Fn)(a c:List AV):isNil .fn neg (.fn f a c)=some (.bool neg):=(rfl)
@[simp]theorem aea(neg:Bool):isNil .Hq neg .pn=some (.bool (!neg)):=(rfl)
@[simp]theorem ahp(neg:Bool)(t:TypeId)(v:AV):isNil .Hq neg (.Hq t v)=some (.bool neg):=(rfl)
@[simp]theorem aho(neg:Bool)(f:Bool)(x:AV)(l:List AV):isNil .sl neg (.jB f (x::l))=some (.bool neg):=(rfl)
@[simp]theorem ahn(neg:Bool)(b v o n:Nat):isNil .sl neg (.own b v o (n+1))=some (.bool neg):=(rfl)
@[simp]def acH(x:AV)(l:List AV):shape 1 false (x::l)=some x:=by simp[shape]
@[simp]def agF(cs:List AV):shape cs.length true cs=some (.agg cs):=by simp[shape]
@[simp]def acO(a b c:AV):shape 3 true [a,b,c]=some (.agg [a,b,c]):=by simp[shape]
@[simp]def acP(a b:AV):shape 2 true [a,b]=some (.agg [a,b]):=by simp[shape]
@[simp]def acN(a b c d:AV):shape 4 true [a,b,c,d]=some (.agg [a,b,c,d]):=by simp[shape]
@[simp]def acM(a b c d e:AV):shape 5 true [a,b,c,d,e]=some (.agg [a,b,c,d,e]):=by simp[shape]
@[simp]def acL(a b c d e f:AV):shape 6 true [a,b,c,d,e,f]=some (.agg [a,b,c,d,e,f]):=by simp[shape]
@[simp]theorem aaO(h:AH)(cs:List AV):j7 h (.kE cs)=some cs:=(rfl)
@[simp]theorem ahJ(h:AH)(f:Bool)(es:List AV):elems h (.jB f es)=some es:=(rfl)
@[simp]theorem aie(sz:Nat):kK sz []=true:=(rfl)
@[simp]theorem agD(sz:Nat)(x:AV)(l:List AV):kK sz (x::l)=((x.cells.length==sz)&&kK sz l):=(rfl)
@[simp]def abp(sz:Nat)(l l':List AV):kK sz (l++l')=(kK sz l&&kK sz l'):=by simp[kK]
@[simp]def agC{α:Type}(k:IntKind)(f:α->Int)(l:List α):kK 1 (l.map λx=>AV.int k (f x))=true:=by simp[kK]
@[simp]def aif(k:IntKind)(l:ay):kK 1 (l.map (AV.int k))=true:=by simp[kK]
@[simp]def Un(k:IntKind)(x:Int)(n:Nat):kK 1 (List.replicate n (AV.int k x))=true:=by simp[kK]
@[simp]def ag3(L:Nat)(R:ax)(h:AH)(b v o n:Nat):nP L R h (.own b v o n)=j9 L R h (.own b v o n):=by simp only[nP,ZX,aU,if_false]
@[simp]def ahP(R:ax)(k:IntKind)(n:Int):nM R (.int k n) = .int k n:=by simp[nM]
@[simp]def afk(R:ax)(b:Bool):nM R (.bool b) = .bool b:=by simp[nM]
@[simp]def ahK(R:ax)(x:au):nM R (.str x) = .str x:=by simp[nM]
@[simp]def ahO(R:ax)(f:Bool)(es:List AV):nM R (.jB f es) = .jB f es:=by simp[nM]
theorem Ko(r:Nat)(R:ax)(e:Env)(i:Nat):mj (r::R) e i=nM (r::R) (e i):=rfl
attribute [simp] Ko
@[simp]theorem aci(e:Env):mj [] e=e:=(rfl)
end Go.Am
