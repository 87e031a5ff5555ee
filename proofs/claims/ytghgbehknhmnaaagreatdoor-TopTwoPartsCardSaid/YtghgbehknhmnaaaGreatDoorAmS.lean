/- Part of the proof that TopTwoPartsCard holds. -/
import Derived.Test.YtghgbehknhmnaaaGreatDoorLiE
import Derived.Calls
import Derived.LoopN
set_option linter.all false
namespace Go.Am
inductive AV where
 |dead
 |undef
 |bool (b:Bool)
 |int (k:IntKind) (n:Int)
 |str (s:au)
 |mT
 |nu
 |ptr (b v i o:Nat)
 |iV (cs:List AV)
 |b9 (full:Bool) (es:List AV)
 |own (b v o n:Nat)
 |agg (cs:List AV)
 |jg (vs:List AV)
 |fn (f:Fn) (first cap:List AV)
 |mj
 |sI (t:TypeId) (v:AV)
 |lU
 |tT
  |mb (b:Nat)
 deriving Inhabited
def AV.cells:AV->List AV
 | .agg cs=>cs
 |v=>[v]
inductive AB where
 |gone
 |var (cs:List AV)
 |row (v sz:Nat) (es:List AV)
 |me (v sz:Nat) (es:List AV)
  |mp (k:IntKind) (es:List (Int×AV))
 deriving Inhabited
abbrev AH:=List AB
def AV.sw:AV->Bool
 | .dead=>false
 | .undef=>false
 | .agg _=>false
 | .jg _=>false
 |_=>true
def AV.jW:AV->Bool
 | .bool _=>true
 | .int _ _=>true
 | .str _=>true
 | .b9 _ _=>true
 | .mT=>true
 | .nu=>true
 | .mj=>true
 | .lU=>true
 |_=>false
def AV.j8:AV->Bool
 | .agg cs=>cs.all AV.jW
 |v=>v.jW
def AV.sH:AV->Bool
 | .jg vs=>vs.all AV.j8
 |v=>v.j8
def nM(h:AH):AV->Option (AV×AH)
 | .own b v o n =>
  match h[b]? with
  |some (.row v' sz es)=>if v=v'/\o+n<=es.length then some (.b9 false ((es.drop o).take n),h.set b (.me v' sz es))else none
  |some (.me v' _ es)=>if v=v'/\o+n<=es.length then some (.b9 false ((es.drop o).take n),h)else none
  |_=>none
 |a=>if a.jW then some (a,h)else none
def sN:AH->List AV->Option (List AV×AH)
 |h,[]=>some ([],h)
 |h,a::l=>(nM h a).bind λ(n,h')=>(sN h' l).bind λ(i,b)=>some (n::i,b)
def mH(h:AH)(a:AV):Option (AV×AH) :=
 if a.j8 then some (a,h)else
 match a with
 | .agg cs=>(sN h cs).bind λ(cs',h')=>some (.agg cs',h')
 |a=>nM h a
def jT:AH->List AV->Option (List AV×AH)
 |h,[]=>some ([],h)
 |h,a::l=>(mH h a).bind λ(n,h')=>(jT h' l).bind λ(i,b)=>some (n::i,b)
def nr(h:AH)(a:AV):Option (AV×AH) :=
 if a.sH then some (a,h)else
 match a with
 | .jg vs=>(jT h vs).bind λ(b,h')=>some (.jg b,h')
 |a=>mH h a
inductive AO where
 |t (i:Nat)
 |c (v:AV)
 deriving Inhabited
inductive NK where
 |sl | pt | fn | sI
 deriving Inhabited
inductive kX where
 |mv (x:AO)
 |pick (c a b:AO)
 |alloc (zero:List AV)
 |box (x:AO)
 |build (zero:List AV) (parts:List (Nat×Nat×AO))
 |Si (sz:Nat) (zero:AV) (len:Nat) (parts:List (Nat×AO))
 |Em (sz:Nat) (zero:AV) (len:Nat) (parts:List (Nat×AO))
  |ot (sz:Nat) (a x:AO) (q:Nat)
  |oc (sz:Nat) (agg:Bool) (a:AO) (q:Nat)
  |GJ (sz:Nat) (zero:AV) (len:Nat) (parts:List (Nat×AO))
 |load (sz:Nat) (agg:Bool) (a:AO)
 |store (sz:Nat) (a x:AO)
 |Nl (x:AO)
 |bin (op:BinOp) (x y:AO)
 |seq (neg:Bool) (ks:ax) (x y:AO)
 |un (op:UnOp) (x:AO)
 |conv (k:IntKind) (x:AO)
 |JJ (x:AO)
 |LG (t:TypeId) (x:AO)
 |Ns (f:Fn) (first cap:List AO)
 |KA (sz bytes:Nat) (zero:AV) (len cap:AO)
 |Kg (x:AO) (lo hi:Option AO)
 |vf (sz:Nat) (x:AO) (lo hi mx:Option AO)
 |LJ (off:Nat) (x:AO)
 |QB (off sz:Nat) (agg:Bool) (x:AO)
 |FQ (sz:Nat) (x i:AO)
 |uG (n sz:Nat) (x i:AO)
 |idxs (x i:AO)
 |ext (x:AO) (i:Nat)
 |call (f:FuncId) (args:List AO)
 |o8 (f:FuncId) (args:List AO)
 |lQ (f:AO) (args:List AO)
 |app (sz bytes:Nat) (s x:AO)
 |len (str:Bool) (x:AO)
 |mm (isMax:Bool) (xs:List AO)
 |no
 |yQ (k:NK) (neg:Bool) (x:AO)
 |XK (sz:Nat) (zero:AV) (x:AO)
 |Fh (x:AO)
 |sC (sz:Nat) (agg:Bool) (a:AO)
 |rz (f:AO) (args:List AO)
 |tC (f:FuncId) (args:List AO)
 |LF (q:IntKind)
 |zl (q:IntKind) (zero:AV) (m k:AO)
 |uE (q:IntKind) (m k x:AO)
 |Hz (q:IntKind) (m:AO)
 |qe (f:FuncId) (args:List AO)
  |Zm (x:AO)
  |oU (sz:Nat) (agg:Bool) (t:Nat)
  |calls (f:FuncId) (args:List AO)
 |qd (f:AO) (args:List AO)
  |sV (q:IntKind) (zero:AV) (m k:AO)
  |u6 (f:FuncId) (args:List AO)
  |wP (f:FuncId) (args:List AO)
 |beq (neg:Bool) (x y:AO)
 |Pb (sz bytes:Nat) (zero:AV) (s x:AO)
 |copy (sz:Nat) (d s:AO)
 deriving Inhabited
abbrev Pn:=TypeId×IntKind×Int
structure jE where
 p:FuncId->List AV->Option AV
 h:FuncId->List AV->AH->Option (AV×AH)
 x:FuncId->List AV->AH->Option ((AV⊕Pn)×AH)
abbrev Env:=Nat->AV
def Env.put(e:Env)(t:Nat)(v:AV):Env:=λi=>if i=t then v else e i
def AO.get(e:Env):AO->AV
 | .t i=>e i
 | .c v=>v
def mA(k:IntKind)(x y:Int):BinOp->Option AV
 | .add=>some (.int k (k.wrap (x+y)))
 | .sub=>some (.int k (k.wrap (x-y)))
 | .mul=>some (.int k (k.wrap (x*y)))
 | .quo=>if y=0 then none else some (.int k (k.wrap (x.tdiv y)))
 | .rem=>if y=0 then none else some (.int k (x.tmod y))
 | .eql=>some (.bool (decide (x=y)))
 | .neq=>some (.bool (!decide (x=y)))
 | .lss=>some (.bool (decide (x<y)))
 | .leq=>some (.bool (decide (x<=y)))
 | .gtr=>some (.bool (decide (y<x)))
 | .geq=>some (.bool (decide (y<=x)))
 | .and=>some (.int k (k.wrap ((BitVec.ofInt k.bits x &&& BitVec.ofInt k.bits y).toNat:Nat)))
 | .or=>some (.int k (k.wrap ((BitVec.ofInt k.bits x ||| BitVec.ofInt k.bits y).toNat:Nat)))
 | .andNot=>some (.int k (k.wrap ((BitVec.ofInt k.bits x &&& ~~~ (BitVec.ofInt k.bits y)).toNat:Nat)))
 |_=>none
def gr:au->au->Bool
 |_,[]=>false
 | [],_::_=>true
 |a::x,b::y=>a<b||(a==b&&gr x y)
def j9(x y:au):BinOp->Option AV
 | .add=>if x.length+y.length<=4611686018427387904 then some (.str (x++y))else none
 | .eql=>some (.bool (decide (x=y)))
 | .neq=>some (.bool (!decide (x=y)))
 | .lss=>some (.bool (gr x y))
 | .leq=>some (.bool (gr x y||decide (x=y)))
 | .gtr=>some (.bool (!(gr x y||decide (x=y))))
 | .geq=>some (.bool (!gr x y))
 |_=>none
def bin(op:BinOp):AV->AV->Option AV
 | .int k x,.int b y =>
  match op with
  | .shl=>if y<0 then none else some (.int k (k.wrap (x*2 ^ min y.toNat k.bits)))
  | .shr=>if y<0 then none else some (.int k (x.fdiv (2 ^ min y.toNat k.bits)))
  |op=>if k=b then mA k x y op else none
 | .str x,.str y=>j9 x y op
 |_,_=>none
def iU:ax->List AV->List AV->Option Bool
 | [],[],[]=>some true
 |0::l,.int k a::x,.int h b::y=>if k=h then(if a=b then iU l x y else some false)else none
 |1::l,.str a::x,.str b::y=>if a=b then iU l x y else some false
 |2::l,.bool a::x,.bool b::y=>if a=b then iU l x y else some false
 |_,_,_=>none
def un(op:UnOp):AV->Option AV
 | .bool b=>match op with | .not=>some (.bool (!b)) | _=>none
 | .int k n=>match op with | .neg=>some (.int k (k.wrap (0-n))) | _=>none
 |_=>none
def oC:List AV->Option au
 | []=>some []
 | .int .u8 n::l=>(oC l).bind λr=>some (UInt8.ofNat n.toNat::r)
 |_=>none
def jc(h:AH):AV->Option (List AV)
 | .iV cs=>some cs
 | .ptr b v i o =>
  match h[b]? with
  |some (.var cs)=>if v=0/\i=0/\o<=cs.length then some (cs.drop o)else none
  |some (.row v' _ es)=>if v=v' then(es[i]?).bind λx=>if o<=x.cells.length then some (x.cells.drop o)else none else none
  |some (.me v' _ es)=>if v=v' then(es[i]?).bind λx=>if o<=x.cells.length then some (x.cells.drop o)else none else none
  |_=>none
 |_=>none
def shape(sz:Nat)(agg:Bool)(cs:List AV):Option AV :=
 if cs.length<sz then none else
 if agg then some (.agg (cs.take sz))else if sz=1 then cs.head? else none
def over{α:Type}(cs:List α)(o:Nat)(xs:List α):List α:=cs.take o++xs++cs.drop (o+xs.length)
def AV.kJ:AV->List AV->AV
 | .agg _,cs=>.agg cs
 |_,cs=>cs.headD .dead
def storeAt(h:AH)(sz:Nat)(a x:AV):Option AH :=
 match a with
 | .ptr b v i o =>
  match h[b]? with
  |some (.var cs) =>
   if v=0/\i=0/\x.cells.all AV.sw=true/\x.cells.length=sz/\o+sz<=cs.length then some (h.set b (.var (over cs o x.cells)))else none
  |some (.row _ _ _) =>
   (mH h x).bind λ(l,h') =>
    match h'[b]? with
    |some (.row v' n es)=>(es[i]?).bind λe =>
     if v=v'/\l.cells.all AV.jW=true/\l.cells.length=sz/\o+sz<=e.cells.length then some (h'.set b (.row v' n (es.set i (e.kJ (over e.cells o l.cells)))))else none
    |_=>none
  |_=>none
 |_=>none
def lJ:AV->AV->Bool
 | .ptr b _ _ _,.ptr b' _ _ _=>decide (b≠b')
 | .ptr ..,.iV _=>true
 |_,_=>false
def Cp:AV->AV->Bool
 | .ptr b _ _ _,.ptr b' _ _ _=>decide (b=b')
 |_,_=>false
def oS(h:AH):AV->Bool
 | .ptr b _ _ _=>match h[b]? with | some (.var _)=>true | _=>false
 |_=>false
def elems(h:AH):AV->Option (List AV)
 | .b9 _ es=>some es
 | .own b v o n =>
  match h[b]? with
  |some (.row v' _ es)=>if v=v'/\o+n<=es.length then some ((es.drop o).take n)else none
  |some (.me v' _ es)=>if v=v'/\o+n<=es.length then some ((es.drop o).take n)else none
  |_=>none
 |_=>none
def jb(h:AH)(b v:Nat):Option Nat :=
 match h[b]? with
 |some (.row v' sz _)=>if v=v' then some sz else none
 |some (.me v' sz _)=>if v=v' then some sz else none
 |_=>none
def jw(sz:Nat)(es:List AV):Bool:=es.all λx=>x.cells.length==sz
def append(h:AH)(sz bytes:Nat)(s:AV)(news:List AV):Option (AV×AH) :=
 match s with
 | .b9 true es =>
  if (es=[]\/news≠[])/\jw sz es=true/\jw sz news=true/\(es.length+news.length)*bytes<=140737488355328/\es.length+news.length<=140737488355328 then
   some (.own h.length 0 0 (es.length+news.length),h++[.row 0 sz (es++news)])
  else none
 | .own b v o n =>
  match h[b]? with
  |some (.row v' i es) =>
   if v=v'/\i=sz/\jw sz news=true/\o+n<=es.length/\(n+news.length)*bytes<=140737488355328/\n+news.length<=140737488355328 then
    some (.own b (v+1) 0 (n+news.length),h.set b (.row (v+1) sz ((es.drop o).take n++news)))
   else none
  |_=>none
 |_=>none
def zX(str:Bool):AV->Option Nat
 | .str s=>if str then some s.length else none
 | .b9 _ es=>if str then none else some es.length
 | .own _ _ _ n=>if str then none else some n
 |_=>none
def nat? : AV->Option Nat
 | .int _ n=>if 0<=n then some n.toNat else none
 |_=>none
def jY(d:Nat)(e:Env):Option AO->Option Nat
 |none=>some d
 |some x=>nat? (x.get e)
def parts(e:Env):List (Nat×Nat×AO)->List AV->Option (List AV)
 | [],cs=>some cs
 |(off,size,x)::l,cs =>
  if (x.get e).cells.all AV.sw=true/\(x.get e).cells.length=size/\off+size<=cs.length then parts e l (over cs off (x.get e).cells)else none
def lW(e:Env)(sz:Nat):List (Nat×AO)->List AV->AH->Option (List AV×AH)
 | [],es,h=>some (es,h)
 |(i,x)::l,es,h=>(mH h (x.get e)).bind λ(b,h') =>
  if b.cells.length=sz/\i<es.length then lW e sz l (es.set i b) h' else none
def mh(e:Env)(sz:Nat):List (Nat×AO)->List AV->Option (List AV)
 | [],es=>some es
 |(i,x)::l,es=>if (x.get e).j8/\(x.get e).cells.length=sz/\i<es.length then mh e sz l (es.set i (x.get e))else none
def getAll(e:Env):List AO->List AV
 | []=>[]
 |x::l=>x.get e::getAll e l
def mm2(isMax:Bool):AV->AV->Option AV
 | .int k x,.int _ y=>some (.int k (if isMax then(if x<y then y else x)else(if y<x then y else x)))
 |_,_=>none
def uR(isMax:Bool):AV->List AV->Option AV
 |x,[]=>some x
 |x,y::l=>(mm2 isMax x y).bind λz=>uR isMax z l
def eT(Γ:jE)(f:FuncId)(args:List AV)(h:AH):Option (AV×AH) :=
 match jT h args with
 |some (b,h')=>match Γ.p f b with
  |some r=>some (r,h')
  |none=>Γ.h f args h
 |none=>Γ.h f args h
def isNil(k:NK)(neg:Bool):AV->Option AV
 | .mT=>match k with | .pt=>some (.bool (!neg)) | _=>none
 | .ptr .. => match k with | .pt=>some (.bool neg) | _=>none
 | .iV .. => match k with | .pt=>some (.bool neg) | _=>none
 | .mj=>match k with | .fn=>some (.bool (!neg)) | _=>none
 | .fn .. => match k with | .fn=>some (.bool neg) | _=>none
 | .lU=>match k with | .sI=>some (.bool (!neg)) | _=>none
 | .sI .. => match k with | .sI=>some (.bool neg) | _=>none
 | .b9 _ es=>match k with | .sl=>if es=[]then some .tT else some (.bool neg) | _=>none
 | .own _ _ _ n=>match k with | .sl=>if n=0 then some .tT else some (.bool neg) | _=>none
 |_=>none
def ko{C:Type}[DecidableEq C](es:List (C×AV))(n:C)(zero:AV):AV:=(es.find? λp=>decide (p.1=n)).elim zero λp=>p.2
def rW{C:Type}[DecidableEq C](es:List (C×AV))(n:C):Bool:=(es.find? λp=>decide (p.1=n)).isSome
def kQ{C:Type}[DecidableEq C]:List (C×AV)->C->AV->List (C×AV)
 | [],n,v=>[(n,v)]
 |p::l,n,v=>if p.1=n then(n,v)::l else p::kQ l n v
def sx(q:IntKind)(h:AH):AV->Option (Nat×List (Int×AV))
 | .mb b=>match h[b]? with | some (.mp k es)=>if k=q then some (b,es)else none | _=>none
 |_=>none
def B7(q:IntKind):AV->Option Int
 | .int k n=>if k=q then some n else none
 |_=>none
def kG(h:AH)(v:Option AV):Option (AV×AH):=v.bind λv=>some (v,h)
open Classical in
noncomputable def qk(h:AH):Option (AV×AH)->Option (AV×AH)
 |some (r,h')=>if h'=h then some (r,h)else none
 |none=>none
open Classical in
noncomputable def q9(h:AH):Option (AV×AH)->Option (AV×AH)
 |some (r,h')=>if h'.take h.length=h then some (r,h')else none
 |none=>none
noncomputable def exec(Γ:jE)(e:Env)(h:AH):kX->Option (AV×AH)
 | .mv x=>some (x.get e,h)
 | .pick c a b=>match c.get e with
  | .bool t=>some (if t then a.get e else b.get e,h)
  |_=>none
 | .alloc zero=>some (.ptr h.length 0 0 0,h++[.var zero])
 | .box x=>if (x.get e).cells.all AV.sw then some (.ptr h.length 0 0 0,h++[.var (x.get e).cells])else none
 | .build zero ps=>(parts e ps zero).bind λcs=>some (.agg cs,h)
 | .Si sz zero len ps=>(mh e sz ps (List.replicate len zero)).bind λes=>some (.b9 true es,h)
 | .Em sz zero len ps=>(lW e sz ps (List.replicate len zero) h).bind λ(es,h')=>some (.b9 false es,h')
 | .GJ sz zero len ps=>(lW e sz ps (List.replicate len zero) h).bind λ(es,h')=>some (.own h'.length 0 0 es.length,h'++[.row 0 sz es])
 | .load sz agg a=>(jc h (a.get e)).bind λcs=>kG h (shape sz agg cs)
 | .store sz a x=>(storeAt h sz (a.get e) (x.get e)).bind λh'=>some (.undef,h')
 | .oc sz agg a q=>if lJ (e q) (a.get e)=true then(jc h (a.get e)).bind λcs=>kG h (shape sz agg cs)else none
 | .ot sz a x q=>if oS h (a.get e)=true/\Cp (e q) (a.get e)=true then(storeAt h sz (a.get e) (x.get e)).bind λh'=>some (.undef,h')else none
 | .Nl x=>match x.get e with
  | .ptr b v i o=>some (.ptr b v i o,h)
  | .iV cs=>some (.iV cs,h)
  | .fn f a c=>match f with | .func g=>some (.fn (.func g) a c,h) | _=>none
  |_=>none
 | .bin op x y=>kG h (bin op (x.get e) (y.get e))
 | .seq neg ks x y=>match x.get e,y.get e with
  | .agg a,.agg b=>(iU ks a b).bind λr=>if a.length=ks.length/\b.length=ks.length then some (.bool (if neg then !r else r),h)else none
  |_,_=>none
 | .un op x=>kG h (un op (x.get e))
 | .conv k x=>match x.get e with
  | .int _ n=>some (.int k (k.wrap n),h)
  |_=>none
 | .JJ x=>(elems h (x.get e)).bind λes=>(oC es).bind λs=>some (.str s,h)
 | .LG t x=>some (.sI t (x.get e),h)
 | .Ns f a c=>some (.fn f (getAll e a) (getAll e c),h)
 | .KA sz bytes zero l c=>match nat? (l.get e),nat? (c.get e)with
  |some n,some m=>if n<=m/\m*bytes<=140737488355328/\m<=140737488355328 then some (.own h.length 0 0 n,h++[.row 0 sz (List.replicate n zero)])else none
  |_,_=>none
 | .Kg x F E=>match x.get e with
  | .str s=>(jY s.length e E).bind λb=>(jY 0 e F).bind λa =>
    if a<=b/\b<=s.length then some (.str ((s.take b).drop a),h)else none
  |_=>none
 | .vf sz x F E G=>match x.get e with
  | .b9 full es=>(jY es.length e E).bind λb=>(jY 0 e F).bind λa =>
    match G with
    |none=>if jw sz es=true/\a<=b/\b<=es.length then some (.b9 (full&&decide (b=es.length)) ((es.take b).drop a),h)else none
    |some m=>(nat? (m.get e)).bind λm =>
      if jw sz es=true/\E.isSome=true/\a<=b/\b<=m/\m<=es.length then some (.b9 (decide (b=m)) ((es.take b).drop a),h)else none
  | .own r v o n=>(jY n e E).bind λb=>(jY 0 e F).bind λa =>
    match G with
    |none=>if jb h r v=some sz/\a<=b/\b<=n then some (.own r v (o+a) (b-a),h)else none
    |some m=>(nat? (m.get e)).bind λm =>
      if jb h r v=some sz/\E.isSome=true/\a<=b/\b<=m/\m<=n then some (.own r v (o+a) (b-a),h)else none
  |_=>none
 | .LJ off x=>match x.get e with
  | .ptr b v i o=>some (.ptr b v i (o+off),h)
  | .iV cs=>if off<=cs.length then some (.iV (cs.drop off),h)else none
  |_=>none
 | .QB off sz agg x=>match x.get e with
  | .agg cs=>if off<=cs.length then kG h (shape sz agg (cs.drop off))else none
  |_=>none
 | .FQ sz x i=>match x.get e with
  | .b9 _ es=>(nat? (i.get e)).bind λn=>(es[n]?).bind λy=>if y.cells.length=sz then some (.iV y.cells,h)else none
  | .own b v o m=>(nat? (i.get e)).bind λn=>if n<m/\jb h b v=some sz then some (.ptr b v (o+n) 0,h)else none
  |_=>none
 | .uG m sz x i=>(nat? (i.get e)).bind λn=>if n<m then
   match x.get e with
   | .ptr b v j o=>some (.ptr b v j (o+n*sz),h)
   | .iV cs=>if n*sz<=cs.length then some (.iV (cs.drop (n*sz)),h)else none
   |_=>none
   else none
 | .idxs x i=>match x.get e with
  | .str s=>(nat? (i.get e)).bind λn=>(s[n]?).bind λc=>some (.int .u8 c.toNat,h)
  |_=>none
 | .ext x i=>match x.get e with
  | .jg vs=>(vs[i]?).bind λv=>some (v,h)
  |_=>none
 | .call f args=>eT Γ f (getAll e args) h
 | .o8 f args=>if (getAll e args).all AV.j8 then kG h (Γ.p f (getAll e args))else none
 | .lQ f args=>match f.get e with
  | .fn g first cap=>match g with
   | .func g=>eT Γ g (first++getAll e args++cap) h
   |_=>none
  |_=>none
 | .app sz bytes s x=>(elems h (x.get e)).bind λnews=>append h sz bytes (s.get e) news
 | .len str x=>(zX str (x.get e)).bind λn=>some (.int .i64 n,h)
 | .mm isMax xs=>match getAll e xs with
  |x::l=>kG h (uR isMax x l)
  | []=>none
 | .no=>none
 | .yQ k neg x=>kG h (isNil k neg (x.get e))
 | .XK z zero x=>match x.get e with
  | .own b v o n =>
   match h[b]? with
   |some (.row v' sz es)=>if v=v'/\sz=z/\o+n<=es.length then some (.jg [],h.set b (.row v' sz (over es o (List.replicate n zero))))else none
   |_=>none
  | .b9 _ es=>if es=[]then some (.jg [],h)else none
  |_=>none
 | .Fh x=>if (x.get e).cells.all AV.jW then some (.iV (x.get e).cells,h)else none
 | .sC sz agg a=>match a.get e with
  | .iV cs=>kG h (shape sz agg cs)
  |_=>none
 | .tC f args=>if (getAll e args).all AV.j8 then((Γ.h f (getAll e args) []).bind λ(r,h1)=>nr h1 r).bind λ(r,_)=>some (r,h)else none
 | .rz f args=>match f.get e with
  | .fn g first cap=>match g with
   | .func g=>qk h (eT Γ g (first++getAll e args++cap) h)
   |_=>none
  |_=>none
 | .LF q=>some (.mb h.length,h++[.mp q []])
 | .zl q zero m k=>(sx q h (m.get e)).bind λ(_,es)=>(B7 q (k.get e)).bind λn=>some (ko es n zero,h)
 | .uE q m k x=>(sx q h (m.get e)).bind λ(b,es)=>(B7 q (k.get e)).bind λn=>some (.undef,h.set b (.mp q (kQ es n (x.get e))))
 | .Hz q m=>(sx q h (m.get e)).bind λ(_,es)=>some (.int .i64 es.length,h)
 | .sV q zero m k=>(sx q h (m.get e)).bind λ(_,es)=>(B7 q (k.get e)).bind λn=>some (.jg [ko es n zero,.bool (rW es n)],h)
 | .qe f args=>q9 h (eT Γ f (getAll e args) h)
 | .Zm x=>match x.get e with
  | .str s=>some (.b9 false (s.map λc=>.int .u8 (c.toNat:Int)),h)
  |_=>none
 | .oU sz agg t=>if oS h (e t)=true then(jc h (e t)).bind λcs=>kG h (shape sz agg cs)else none
 | .calls f args=>qk h (eT Γ f (getAll e args) h)
 | .wP f args=>(jT h (getAll e args)).bind λq=>Γ.h f q.1 q.2
 | .u6 f args=>(jT h (getAll e args)).bind λq=>(Γ.p f q.1).bind λr=>some (r,q.2)
 | .qd f args=>match f.get e with
  | .fn g first cap=>match g with
   | .func g=>q9 h (eT Γ g (first++getAll e args++cap) h)
   |_=>none
  |_=>none
 | .beq neg x y=>match x.get e,y.get e with
  | .bool a,.bool b=>some (.bool (if neg then !decide (a=b)else decide (a=b)),h)
  |_,_=>none
 | .Pb sz bytes zero s x=>(nat? (x.get e)).bind λn=>append h sz bytes (s.get e) (List.replicate n zero)
 | .copy z d s=>(elems h (s.get e)).bind λA=>match d.get e with
  | .own b v o n =>
   match h[b]? with
   |some (.row v' sz es) =>
    if v=v'/\sz=z/\jw z A=true/\o+n<=es.length then
     some (.int .i64 (min A.length n),h.set b (.row v' sz (over es o (A.take n))))
    else none
   |_=>none
  | .b9 _ es=>if es=[]then some (.int .i64 0,h)else none
  |_=>none
structure AI where
 dst:Option Nat
 guard:Option (Nat×Bool)
 op:kX
structure St where
 e:Env
 h:AH
def St.put(s:St)(d:Option Nat)(v:AV):St :=
 match d with
 |some t=>{s with e:=s.e.put t v}
 |none=>s
noncomputable def flat(Γ:jE):List AI->St->Option St
 | [],s=>some s
 |o::l,s =>
  match o.guard with
  |none=>(exec Γ s.e s.h o.op).bind λ(v,h)=>flat Γ l (St.put {s with h:=h} o.dst v)
  |some (g,i) =>
   match s.e g with
   | .bool b=>if b=i then(exec Γ s.e s.h o.op).bind λ(v,h)=>flat Γ l (St.put {s with h:=h} o.dst v)else flat Γ l (s.put o.dst .undef)
   | .undef=>flat Γ l (s.put o.dst .undef)
   |_=>none
inductive IT where
 |nil
 |op (d:Option Nat) (o:kX) (rest:IT)
 |sc (d:Nat) (a:Bool) (c lo hi:Nat) (rT:IT) (r:AO) (rest:IT)
 deriving Inhabited
def Env.kill(e:Env)(b h:Nat):Env:=λi=>if b<=i/\i<=h then .dead else e i
noncomputable def rT(Γ:jE):IT->St->Option St
 | .nil,s=>some s
 | .op d o rest,s=>(exec Γ s.e s.h o).bind λ(v,h)=>rT Γ rest (St.put {s with h:=h} d v)
 | .sc d a c i n l r rest,s =>
  match s.e c with
  | .bool b =>
   (if b=a then(rT Γ l s).bind λs'=>match r.get s'.e with
     | .bool x=>some (AV.bool x,s'.h)
     |_=>none
    else some (AV.bool (!a),s.h)).bind λ(v,h)=>rT Γ rest ⟨(s.e.kill i n).put d v,h⟩
  |_=>none
inductive AX where
 |normal
 |exit (id:Nat)
 |ret
 |ny (p:Pn)
 deriving DecidableEq,Inhabited
inductive XO where
 |op (d:Option Nat) (o:kX)
 |call (d:Option Nat) (f:FuncId) (args:List AO)
 |lQ (d:Option Nat) (f:AO) (args:List AO)
 |ny (x:AO)
 deriving Inhabited
inductive AC where
 |skip
 |ops (l:IT)
 |seq (a b:AC)
 |cond (c:AO) (x y:AC)
 |block (id:Nat) (c:AC)
 |loop (keep:ax) (wr:aC) (own:aC) (outs:List (AX×ax)) (c:AC)
 |exit (id:Nat)
 |ret
 |scope (c:AC)
  |Ts (c:AC) (g:aC)
  |vk (l:List (IT×XO)) (last:IT)
  |sy (keep:ax) (wr:aC) (outs:List (AX×ax)) (c:AC)
 deriving Inhabited
inductive AR where
 |t (i:Nat)
 |cell (i sz:Nat) (agg:Bool)
 deriving Inhabited
structure AF where
 nt:Nat
 res:List AR
 body:AC
 deriving Inhabited
section iter
variable{A C:Type}
def nN(f:A->Option (A⊕C)):Nat->A->Option C
 |0,_=>none
 |n+1,s =>
  match f s with
  |none=>none
  |some (.inl s')=>nN f n s'
  |some (.inr t)=>some t
def HC{f:A->Option (A⊕C)}{n:Nat}{s:A}{t:C}(h:nN f n s=some t):nN f (n+1) s=some t:=by
 induction n generalizing s with
 |zero=>cases h
 |succ n b =>
  rw[nN]at h⊢;cases hs:f s with
  |none=>rw[hs]at h;cases h
  |some r =>
   rw[hs]at h;cases r with
   |inl s'=>exact b h
   |inr i=>exact h
def FJ{f:A->Option (A⊕C)}{n m:Nat}{s:A}{t:C}(h:nN f n s=some t)(i:n<=m):nN f m s=some t:=by
 induction i with
 |refl=>exact h
 |step _ b=>exact HC b
open Classical in
noncomputable def iter(f:A->Option (A⊕C))(s:A):Option C :=
 if h:∃t,∃n,nN f n s=some t then some (Classical.choose h)else none
def xz{f:A->Option (A⊕C)}{n:Nat}{s:A}{t:C}(h:nN f n s=some t):iter f s=some t:=by
 have b:∃t,∃n,nN f n s=some t:=⟨t,n,h⟩;unfold iter;rw[dif_pos b];let⟨m,i⟩:=dN b;have h1:=FJ h (Nat.le_max_left n m);have h2:=FJ i (Nat.le_max_right n m);rw[h1]at h2;exact h2.symm
def uz{f:A->Option (A⊕C)}{s:A}{t:C}(h:iter f s=some t):∃n,nN f n s=some t:=by
 unfold iter at h;split at h
 .rename_i b;have:=dN b;cases h;exact this
 .cases h
def iter_eq(f:A->Option (A⊕C))(s:A):iter f s =
  match f s with
  |none=>none
  |some (.inl s')=>iter f s'
  |some (.inr t)=>some t:=by
 cases h:iter f s with
 |some t =>
  let⟨n,b⟩:=uz h;cases n with
  |zero=>cases b
  |succ n =>
   simp only[nN]at b;split at b
   .cases b
   .exact(xz b).symm
   .exact b.symm
 |none =>
  split
  .rfl
  .rename_i s' hs;cases h2:iter f s' with
   |none=>rfl
   |some t =>
    let⟨n,b⟩:=uz h2;have:iter f s=some t:=xz (n:=n+1) (by simp only[nN,hs];exact b)
    rw[h]at this;cases this
  .rename_i t hs;have:iter f s=some t:=xz (n:=1) (by simp only[nN,hs])
   rw[h]at this;cases this
end iter
def Env.oV(e:Env)(b:aC):Env:=λi=>if b.any (λr=>decide (r.1<=i)&&decide (i<=r.2))then .dead else e i
def Env.lay(e:Env):ax->List AV->Env
 |t::b,v::vs=>(e.lay b vs).put t v
 |_,_=>e
def kF(L:Nat)(R:ax)(h:AH):AV->AV
 | .own b v o n =>
  if b<L then
   if R.contains b then
    match h[b]? with
    |some (.row v' _ _)=>if v=v' then .own b 0 o n else .dead
    |some (.me v' _ _)=>if v=v' then .own b 0 o n else .dead
    |_=>.dead
   else .own b v o n
  else match elems h (.own b v o n)with
   |some es=>.b9 false es
   |none=>.dead
 | .ptr b v i o=>if b<L/\¬R.contains b then .ptr b v i o else .dead
 | .fn f a c=>if (a++c).all (λx=>x.j8||match x with | .ptr b _ _ _=>decide (b<L) && !R.contains b | .mb b=>decide (b<L) && !R.contains b | _=>false)then .fn f a c else .dead
 | .mb b=>if b<L/\¬R.contains b then .mb b else .dead
 | .undef=>.undef
 |v=>if v.jW then v else .dead
def kL(L:Nat)(R:ax)(h:AH)(v:AV):AV :=
 if v.j8 then v else
 match v with
 | .agg cs=>.agg (cs.map (kF L R h))
 |v=>kF L R h v
def mz(L:Nat)(R:ax)(h:AH)(i:Nat)(b:AB):AB :=
 match b with
 | .var cs=>.var (cs.map (kF L R h))
 | .row v sz es=>.row (if R.contains i then 0 else v) sz es
 | .me v sz es=>.me (if R.contains i then 0 else v) sz es
 | .gone=>.gone
 | .mp k es=>.mp k (es.map λp=>(p.1,kL L R h p.2))
def jD(L:Nat)(R:ax)(h:AH)(i:Nat):AH->AH
 | []=>[]
 |b::l=>mz L R h i b::jD L R h (i+1) l
def head(L:Nat)(R:ax)(keep:ax)(s:St):List AV×AH :=
 (keep.map λt=>kL L R s.h (s.e t),jD L R s.h 0 (s.h.take L))
def k7(R:ax)(v:AV):AV :=
 let ok (x:AV):Bool:=x.j8||match x with | .ptr b _ _ _=>!R.contains b | .own b _ _ _=>!R.contains b | .mb b=>!R.contains b | _=>false
 match v with
 | .agg cs=>if cs.all ok then .agg cs else .dead
 | .fn f a c=>if (a++c).all ok then .fn f a c else .dead
 | .undef=>.undef
 | .iV cs=>.iV cs
 |v=>if ok v then v else .dead
def jl:aC->St->St
 | [],s=>s
 |(t,sz)::l,s =>
  match s.e t with
  | .b9 true []=>jl l ⟨s.e.put t (.own s.h.length 0 0 0),s.h++[.row 0 sz []]⟩
  |_=>jl l s
def rowsOf(e:Env):aC->ax
 | []=>[]
 |(t,_)::l=>match e t with
  | .own b _ _ _=>b::rowsOf e l
  |_=>rowsOf e l
def nV(R:ax)(e:Env):Env:=if R.isEmpty then e else λi=>k7 R (e i)
def mR{ρ:Type}(e:Env)(k:AX->St->Option ρ)(r:AX×List AV×AH):List (AX×ax)->Option ρ
 | []=>none
 |(x,b)::l=>if r.1=x then k x ⟨e.lay b r.2.1,r.2.2⟩else mR e k r l
def lT(x:AX):List (AX×ax)->ax
 | []=>[]
 |(y,b)::l=>if x=y then b else lT x l
def pO(R:ax)(L:Nat)(i:Nat):Bool:=R.contains i||decide (L<=i)
def FX(s:St)(t o:Nat):Option AV:=match s.e t with
 | .ptr b 0 0 0=>match s.h[b]? with | some (.var cs)=>cs[o]? | _=>none
 | .agg cs=>cs[o]?
 |_=>none
def He(s:St)(t o:Nat)(x:AV):St:=match s.e t with
 | .ptr b 0 0 0=>match s.h[b]? with | some (.var cs)=>⟨s.e,s.h.set b (.var (cs.set o x))⟩ | _=>s
 | .agg cs=>⟨s.e.put t (.agg (cs.set o x)),s.h⟩
 |_=>s
def Rf(s:St)(p:Nat×Nat):Option St:=(FX s p.1 p.2).bind λy=>(nM s.h y).bind λr=>some (He ⟨s.e,r.2⟩ p.1 p.2 r.1)
def HR:aC->St->Option St
 | [],s=>some s
 |p::l,s=>(Rf s p).bind (HR l)
def PB{ρ:Type}(d:Option Nat)(next:St->Option ρ)(k:AX->St->Option ρ)(s:St):Option ((AV⊕Pn)×AH)->Option ρ
 |some (.inl v,h)=>next (St.put ⟨s.e,h⟩ d v)
 |some (.inr p,h)=>k (.ny p) ⟨s.e,h⟩
 |none=>none
noncomputable def nR(Γ:jE){ρ:Type}(z:XO)(next:St->Option ρ)(k:AX->St->Option ρ)(s:St):Option ρ:=match z with
 | .op d o=>(exec Γ s.e s.h o).bind λr=>next (St.put ⟨s.e,r.2⟩ d r.1)
 | .call d f args=>PB d next k s (Γ.x f (getAll s.e args) s.h)
 | .lQ d f args=>match f.get s.e with
  | .fn (.func g) first cap=>PB d next k s (Γ.x g (first++getAll s.e args++cap) s.h)
  |_=>none
 | .ny x=>match x.get s.e with
  | .sI t (.int q n)=>k (.ny (t,q,n)) s
  |_=>none
noncomputable def oW(Γ:jE){ρ:Type}(last:IT)(k:AX->St->Option ρ):List (IT×XO)->St->Option ρ
 | [],s=>(rT Γ last s).bind (k .normal)
 |p::l,s=>(rT Γ p.1 s).bind (nR Γ p.2 (oW Γ last k l) k)
def sv{ρ:Type}(e:Env)(k:AX->St->Option ρ)(b:List (AX×ax))(r:AX×List AV×AH):Option ρ:=match r.1 with
 | .ny p=>k (.ny p) ⟨e.lay (lT (.ny p) b) r.2.1,r.2.2⟩
 |_=>mR e k r b
noncomputable def eval(Γ:jE):AC->(Nat->Bool)->(ρ:Type)->(AX->St->Option ρ)->St->Option ρ
 | .skip,_,_,k,s=>k .normal s
 | .ops l,_,_,k,s=>(rT Γ l s).bind (k .normal)
 | .seq a b,V,ρ,k,s=>eval Γ a V ρ (λx s'=>match x with
   | .normal=>eval Γ b V ρ k s'
   |x=>k x s') s
 | .cond c x y,V,ρ,k,s=>match c.get s.e with
   | .bool b=>if b=true then eval Γ x V ρ k s else eval Γ y V ρ k s
   |_=>none
 | .block id c,V,ρ,k,s=>eval Γ c V ρ (λx s'=>match x with
   | .exit i=>if i=id then k .normal s' else k (.exit i) s'
   |x=>k x s') s
 | .loop keep wr own n c,V,_,k,s =>
   if (rowsOf (jl own s).e own).all V=true then
   (iter (λx:List AV×AH=>eval Γ c (pO (rowsOf (jl own s).e own) (jl own s).h.length) ((List AV×AH)⊕(AX×List AV×AH)) (λex s'=>match ex with
     | .normal=>some (.inl (head (jl own s).h.length (rowsOf (jl own s).e own) keep s'))
     |ex=>some (.inr (ex,(lT ex n).map s'.e,s'.h))) ⟨((nV (rowsOf (jl own s).e own) (jl own s).e).oV wr).lay keep x.1,x.2⟩)
    (head (jl own s).h.length (rowsOf (jl own s).e own) keep (jl own s))).bind λr=>sv ((nV (rowsOf (jl own s).e own) (jl own s).e).oV wr) k n r
   else none
 | .exit id,_,_,k,s=>k (.exit id) s
 | .ret,_,_,k,s=>k .ret s
 | .scope c,V,ρ,k,s=>eval Γ c V ρ k s
 | .Ts c g,V,ρ,k,s=>eval Γ c V ρ (λx s'=>match x with
   | .exit i=>k (.exit i) s'
   | .ny p=>k (.ny p) s'
   |x=>(HR g s').bind (k x)) s
 | .vk l last,_,_,k,s=>oW Γ last k l s
 | .sy keep wr n c,_,_,k,s =>
   (iter (λx:List AV×AH=>eval Γ c (λi=>decide (s.h.length<=i)) ((List AV×AH)⊕(AX×List AV×AH)) (λex s'=>match ex with
     | .normal=>some (.inl (keep.map s'.e,s'.h))
     |ex=>some (.inr (ex,(lT ex n).map s'.e,s'.h))) ⟨(s.e.oV wr).lay keep x.1,x.2⟩)
    (keep.map s.e,s.h)).bind λr=>sv (s.e.oV wr) k n r
noncomputable def mN(Γ:jE)(keep:ax)(b:List (AX×ax))(c:AC)(e0:Env)(L:Nat)(x:List AV×AH):Option ((List AV×AH)⊕(AX×List AV×AH)) :=
 eval Γ c (λi=>decide (L<=i)) _ (λex s'=>match ex with
  | .normal=>some (.inl (keep.map s'.e,s'.h))
  |ex=>some (.inr (ex,(lT ex b).map s'.e,s'.h))) ⟨e0.lay keep x.1,x.2⟩
noncomputable def round(Γ:jE)(keep:ax)(b:List (AX×ax))(c:AC)(e0:Env)(L:Nat)(R:ax)(x:List AV×AH):Option ((List AV×AH)⊕(AX×List AV×AH)) :=
 eval Γ c (pO R L) _ (λex s'=>match ex with
  | .normal=>some (.inl (head L R keep s'))
  |ex=>some (.inr (ex,(lT ex b).map s'.e,s'.h))) ⟨e0.lay keep x.1,x.2⟩
def jJ(args:List AV):Env:=λi=>args.getD i .dead
def xh(s:St):AR->Option AV
 | .t i=>some (s.e i)
 | .cell i sz agg=>(jc s.h (s.e i)).bind (shape sz agg)
def qx(s:St):List AR->Option (List AV)
 | []=>some []
 |r::l=>(xh s r).bind λv=>(qx s l).bind λvs=>some (v::vs)
def pV(s:St)(l:List AR):Option AV:=(qx s l).bind λvs=>match vs with
 | [v]=>some v
 |vs=>some (.jg vs)
noncomputable def kU(Γ:jE)(f:AF)(args:List AV)(h:AH):Option (AV×AH) :=
 if args.length<=f.nt then
  eval Γ f.body (λi=>decide (h.length<=i)) (AV×AH) (λx s=>match x with
   | .exit _=>none
   | .ny _=>none
   |_=>(pV s f.res).bind λv=>some (v,s.h)) ⟨jJ args,h⟩
 else none
noncomputable def mQ(Γ:jE)(f:AF)(args:List AV)(h:AH):Option ((AV⊕Pn)×AH) :=
 if args.length<=f.nt then
  eval Γ f.body (λi=>decide (h.length<=i)) ((AV⊕Pn)×AH) (λx s=>match x with
   | .exit _=>none
   | .ny p=>some (.inr p,s.h)
   |_=>(pV s f.res).bind λv=>some (.inl v,s.h)) ⟨jJ args,h⟩
 else none
noncomputable def pg(Γ:jE)(f:AF)(args:List AV):Option AV:=(kU Γ f args []).bind λ(v,h)=>(nr h v).bind λ(v,_)=>some v
def G0:List (Nat×Value):=[(0,.iface 198 (.agg #[.pointer (some ⟨2,74,none⟩)]))]
@[simp]def adt{α β:Type}(p:Prop)[Decidable p](x y:Option α)(f:α->Option β):(if p then x else y).bind f=if p then x.bind f else y.bind f:=by split<;>rfl
@[simp]def PD(p:Prop)[Decidable p](x y:Bool)(h:AH):(if p then some (AV.bool x,h)else some (AV.bool y,h))=some (AV.bool (if p then x else y),h):=by split<;>rfl
class Kt(α β:Type) where
 run:α->Option β
def kW{α β:Type}(x:Option α)[k:Kt α β]:Option β:=x.bind k.run
@[simp]theorem af0{α β:Type}(a:α)(f:α->Option β):@kW α β (some a) ⟨f⟩=f a:=(rfl)
@[simp]theorem af1{α β:Type}(f:α->Option β):@kW α β none ⟨f⟩=none:=(rfl)
@[simp]def agS{α β:Type}(p:Prop)[Decidable p](x y:Option α)(k:Kt α β):@kW α β (if p then x else y) k=if p then @kW α β x k else @kW α β y k:=by split<;>rfl
class K2(ρ:Type) where
 x:Unit->Option ρ
 y:Unit->Option ρ
def M1{ρ:Type}(v:AV)[k:K2 ρ]:Option ρ:=match v with
 | .bool b=>if b=true then k.x ()else k.y ()
 |_=>none
@[simp]theorem S4{ρ:Type}(b:Bool)(x y:Unit->Option ρ):@M1 ρ (.bool b) ⟨x,y⟩=if b=true then x ()else y ():=(rfl)
def scV(v:AV)(a:Bool)(h:AH)[k:Kt Unit (AV×AH)]:Option (AV×AH):=match v with
 | .bool b=>if b=a then k.run ()else some (.bool (!a),h)
 |_=>none
@[simp]theorem abj(b a:Bool)(x:Unit->Option (AV×AH))(h:AH):@scV (.bool b) a h ⟨x⟩=if b=a then x ()else some (.bool (!a),h):=(rfl)
def TO(r:AV)(h:AH):Option (AV×AH):=match r with
 | .bool x=>some (.bool x,h)
 |_=>none
@[simp]theorem YQ(x:Bool)(h:AH):TO (.bool x) h=some (.bool x,h):=(rfl)
def N7(e:Env)(b:ax):List AV:=b.map e
@[simp ↓]theorem ad8(e:Env):N7 e []=[]:=(rfl)
@[simp ↓]theorem aam(e:Env)(t:Nat)(b:ax):N7 e (t::b)=e t::N7 e b:=(rfl)
section
variable{Γ:jE}{V:aB}{ρ:Type}
@[simp ↓]theorem aaD(l:IT)(k:AX->St->Option ρ)(s:St):eval Γ (.ops l) V ρ k s=@kW _ _ (rT Γ l s) ⟨k .normal⟩:=(rfl)
@[simp ↓]theorem aaB(a b:AC)(k:AX->St->Option ρ)(s:St):eval Γ (.seq a b) V ρ k s=eval Γ a V ρ (λx s'=>match x with
   | .normal=>eval Γ b V ρ k s'
   |x=>k x s') s:=(rfl)
@[simp ↓]theorem Xs(c:AO)(x y:AC)(k:AX->St->Option ρ)(s:St):eval Γ (.cond c x y) V ρ k s=@M1 _ (c.get s.e) ⟨λ_=>eval Γ x V ρ k s,λ_=>eval Γ y V ρ k s⟩:=(rfl)
@[simp ↓]theorem TA(id:Nat)(c:AC)(k:AX->St->Option ρ)(s:St):eval Γ (.block id c) V ρ k s=eval Γ c V ρ (λx s'=>match x with
   | .exit i=>if i=id then k .normal s' else k (.exit i) s'
   |x=>k x s') s:=(rfl)
@[simp ↓]theorem Xo(k:AX->St->Option ρ)(s:St):eval Γ .skip V ρ k s=k .normal s:=(rfl)
@[simp ↓]theorem Xr(id:Nat)(k:AX->St->Option ρ)(s:St):eval Γ (.exit id) V ρ k s=k (.exit id) s:=(rfl)
@[simp ↓]theorem Ty(c:AC)(k:AX->St->Option ρ)(s:St):eval Γ (.scope c) V ρ k s=eval Γ c V ρ k s:=(rfl)
@[simp ↓]theorem aaE(c:AC)(g:aC)(k:AX->St->Option ρ)(s:St):eval Γ (.Ts c g) V ρ k s=eval Γ c V ρ (λx s'=>match x with
   | .exit i=>k (.exit i) s'
   | .ny p=>k (.ny p) s'
   |x=>@kW _ _ (HR g s') ⟨k x⟩) s:=(rfl)
@[simp ↓]theorem Tz(keep:ax)(wr:aC)(b:List (AX×ax))(c:AC)(k:AX->St->Option ρ)(s:St):
  eval Γ (.sy keep wr b c) V ρ k s=@kW _ _ (iter (mN Γ keep b c (s.e.oV wr) s.h.length) (N7 s.e keep,s.h)) ⟨λr=>sv (s.e.oV wr) k b r⟩:=(rfl)
theorem iZ(keep:ax)(b:List (AX×ax))(c:AC)(e0:Env)(L:Nat)(x:List AV×AH):mN Γ keep b c e0 L x=eval Γ c (λi=>decide (L<=i)) _ (λex s'=>match ex with
  | .normal=>some (.inl (N7 s'.e keep,s'.h))
  |ex=>some (.inr (ex,(lT ex b).map s'.e,s'.h))) ⟨e0.lay keep x.1,x.2⟩:=rfl
@[simp ↓]theorem Xp(l:List (IT×XO))(last:IT)(k:AX->St->Option ρ)(s:St):eval Γ (.vk l last) V ρ k s=oW Γ last k l s:=(rfl)
@[simp ↓]theorem aaF(last:IT)(k:AX->St->Option ρ)(s:St):oW Γ last k [] s=@kW _ _ (rT Γ last s) ⟨k .normal⟩:=(rfl)
@[simp ↓]theorem Xt(last:IT)(k:AX->St->Option ρ)(l:IT)(z:XO)(r:List (IT×XO))(s:St):oW Γ last k ((l,z)::r) s=@kW _ _ (rT Γ l s) ⟨λs'=>nR Γ z (oW Γ last k r) k s'⟩:=(rfl)
@[simp ↓]theorem aeu(d:Option Nat)(o:kX)(next:St->Option ρ)(k:AX->St->Option ρ)(s:St):nR Γ (.op d o) next k s=@kW _ _ (exec Γ s.e s.h o) ⟨λr=>next (St.put ⟨s.e,r.2⟩ d r.1)⟩:=(rfl)
@[simp ↓]theorem Xu(d:Option Nat)(f:FuncId)(args:List AO)(next:St->Option ρ)(k:AX->St->Option ρ)(s:St):nR Γ (.call d f args) next k s=PB d next k s (Γ.x f (getAll s.e args) s.h):=(rfl)
def onV(Γ:jE)(d:Option Nat)(args:List AV)(next:St->Option ρ)(k:AX->St->Option ρ)(s:St):AV->Option ρ
 | .fn (.func g) first cap=>PB d next k s (Γ.x g (first++args++cap) s.h)
 |_=>none
def onP(k:AX->St->Option ρ)(s:St):AV->Option ρ
 | .sI t (.int q n)=>k (.ny (t,q,n)) s
 |_=>none
@[simp ↓]def TB(d:Option Nat)(f:AO)(args:List AO)(next:St->Option ρ)(k:AX->St->Option ρ)(s:St):nR Γ (.lQ d f args) next k s=onV Γ d (getAll s.e args) next k s (f.get s.e):=by
 simp only[nR];cases f.get s.e<;>first | rfl | (rename_i g _ _;cases g<;>rfl)
@[simp ↓]def aaG(x:AO)(next:St->Option ρ)(k:AX->St->Option ρ)(s:St):nR Γ (.ny x) next k s=onP k s (x.get s.e):=by
 simp only[nR];cases x.get s.e<;>first | rfl | (rename_i v;cases v<;>rfl)
@[simp]theorem acA(d:Option Nat)(next:St->Option ρ)(k:AX->St->Option ρ)(s:St)(v:AV)(h:AH):PB d next k s (some (.inl v,h))=next (St.put ⟨s.e,h⟩ d v):=(rfl)
@[simp]theorem agn(d:Option Nat)(next:St->Option ρ)(k:AX->St->Option ρ)(s:St)(p:Pn)(h:AH):PB d next k s (some (.inr p,h))=k (.ny p) ⟨s.e,h⟩:=(rfl)
@[simp]theorem ai3(d:Option Nat)(args:List AV)(next:St->Option ρ)(k:AX->St->Option ρ)(s:St)(g:FuncId)(first cap:List AV):onV Γ d args next k s (.fn (.func g) first cap)=PB d next k s (Γ.x g (first++args++cap) s.h):=(rfl)
@[simp]theorem ago(k:AX->St->Option ρ)(s:St)(t:TypeId)(q:IntKind)(n:Int):onP k s (.sI t (.int q n))=k (.ny (t,q,n)) s:=(rfl)
@[simp]theorem Fi(s:St)(d:Nat)(v:AV):St.put s (some d) v=⟨s.e.put d v,s.h⟩:=(rfl)
@[simp]theorem ab4(s:St)(v:AV):St.put s none v=s:=(rfl)
@[simp]theorem UY(e:Env)(k:AX->St->Option ρ)(b:List (AX×ax))(i:Nat)(vs:List AV)(h:AH):sv e k b (.exit i,vs,h)=mR e k (.exit i,vs,h) b:=(rfl)
@[simp]theorem ZO(e:Env)(k:AX->St->Option ρ)(b:List (AX×ax))(vs:List AV)(h:AH):sv e k b (.ret,vs,h)=mR e k (.ret,vs,h) b:=(rfl)
@[simp]theorem ZP(e:Env)(k:AX->St->Option ρ)(b:List (AX×ax))(p:Pn)(vs:List AV)(h:AH):sv e k b (.ny p,vs,h)=k (.ny p) ⟨e.lay (lT (.ny p) b) vs,h⟩:=(rfl)
@[simp ↓]theorem aaC(k:AX->St->Option ρ)(s:St):eval Γ .ret V ρ k s=k .ret s:=(rfl)
@[simp ↓]theorem Xq(keep:ax)(wr:aC)(own:aC)(b:List (AX×ax))(c:AC)(k:AX->St->Option ρ)(s:St):
  eval Γ (.loop keep wr own b c) V ρ k s =
   if (rowsOf (jl own s).e own).all V=true then
   @kW _ _ (iter (round Γ keep b c ((nV (rowsOf (jl own s).e own) (jl own s).e).oV wr) (jl own s).h.length (rowsOf (jl own s).e own))
    (head (jl own s).h.length (rowsOf (jl own s).e own) keep (jl own s))) ⟨λr=>sv ((nV (rowsOf (jl own s).e own) (jl own s).e).oV wr) k b r⟩
   else none:=(rfl)
theorem round_eq(keep:ax)(b:List (AX×ax))(c:AC)(e0:Env)(L:Nat)(R:ax)(x:List AV×AH):round Γ keep b c e0 L R x=eval Γ c (pO R L) _ (λex s'=>match ex with
  | .normal=>some (.inl (head L R keep s'))
  |ex=>some (.inr (ex,(lT ex b).map s'.e,s'.h))) ⟨e0.lay keep x.1,x.2⟩:=rfl
def b6(f:AF)(args:List AV)(h:AH):kU Γ f args h=if args.length<=f.nt then eval Γ f.body (λi=>decide (h.length<=i)) (AV×AH) (λx s=>match x with
   | .exit _=>none
   | .ny _=>none
   |_=>@kW _ _ (pV s f.res) ⟨λv=>some (v,s.h)⟩) ⟨jJ args,h⟩else none:=by
 unfold kU;rfl
def jC(f:AF)(args:List AV)(h:AH):mQ Γ f args h=if args.length<=f.nt then eval Γ f.body (λi=>decide (h.length<=i)) ((AV⊕Pn)×AH) (λx s=>match x with
   | .exit _=>none
   | .ny p=>some (.inr p,s.h)
   |_=>@kW _ _ (pV s f.res) ⟨λv=>some (.inl v,s.h)⟩) ⟨jJ args,h⟩else none:=by
 unfold mQ;rfl
theorem b8(f:AF)(args:List AV):pg Γ f args=@kW _ _ (kU Γ f args []) ⟨λp=>@kW _ _ (nr p.2 p.1) ⟨λq=>some q.1⟩⟩:=rfl
@[simp ↓]theorem agy(s:St):rT Γ .nil s=some s:=(rfl)
@[simp ↓]theorem ajN(d:Nat)(o:kX)(rest:IT)(s:St):rT Γ (.op (some d) o rest) s=@kW _ _ (exec Γ s.e s.h o) ⟨λp=>rT Γ rest ⟨s.e.put d p.1,p.2⟩⟩:=(rfl)
@[simp ↓]theorem agx(o:kX)(rest:IT)(s:St):rT Γ (.op none o rest) s=@kW _ _ (exec Γ s.e s.h o) ⟨λp=>rT Γ rest ⟨s.e,p.2⟩⟩:=(rfl)
@[simp ↓]def ajM(d:Nat)(a:Bool)(c b i:Nat)(l:IT)(r:AO)(rest:IT)(s:St):rT Γ (.sc d a c b i l r rest) s =
  @kW _ _ (@scV (s.e c) a s.h ⟨λ_=>@kW _ _ (rT Γ l s) ⟨λs'=>TO (r.get s'.e) s'.h⟩⟩) ⟨λp=>rT Γ rest ⟨(s.e.kill b i).put d p.1,p.2⟩⟩:=by
 simp only[rT,scV];cases s.e c<;>rfl
@[simp ↓]theorem akE(e:Env)(i:Nat):(AO.t i).get e=e i:=(rfl)
@[simp ↓]theorem akF(e:Env)(v:AV):(AO.c v).get e=v:=(rfl)
@[simp ↓]theorem agm(e:Env)(t:Nat)(v:AV)(i:Nat):(e.put t v) i=if i=t then v else e i:=(rfl)
@[simp ↓]theorem ado(e:Env)(b h i:Nat):(e.kill b h) i=if b<=i/\i<=h then .dead else e i:=(rfl)
@[simp ↓]theorem aaf(e:Env)(b:aC)(i:Nat):(e.oV b) i=if b.any (λr=>decide (r.1<=i)&&decide (i<=r.2))then .dead else e i:=(rfl)
@[simp ↓]theorem acU(e:Env)(t:Nat)(b:ax)(v:AV)(vs:List AV):e.lay (t::b) (v::vs)=(e.lay b vs).put t v:=(rfl)
@[simp ↓]def agw(e:Env)(vs:List AV):e.lay [] vs=e:=by cases vs<;>rfl
@[simp ↓]theorem YS(args:List AV)(i:Nat):jJ args i=args.getD i .dead:=(rfl)
def CJ(L:Nat)(R:ax)(h:AH)(e:Env):ax->List AV
 | []=>[]
 |t::b=>kL L R h (e t)::CJ L R h e b
def FR(L:Nat)(R:ax)(h:AH)(e:Env):∀b:ax,(b.map λt=>kL L R h (e t))=CJ L R h e b
 | []=>rfl
 |t::b=>by rw[bN,FR L R h e b];rfl
@[simp ↓]def head_eq(L:Nat)(R:ax)(keep:ax)(s:St):head L R keep s=(CJ L R s.h s.e keep,jD L R s.h 0 (s.h.take L)):=by unfold head;rw[FR]
@[simp ↓]theorem aal(L:Nat)(R:ax)(h:AH)(e:Env):CJ L R h e []=[]:=(rfl)
@[simp ↓]theorem WI(L:Nat)(R:ax)(h:AH)(e:Env)(t:Nat)(b:ax):CJ L R h e (t::b)=kL L R h (e t)::CJ L R h e b:=(rfl)
@[simp ↓]theorem WZ(e:Env):getAll e []=[]:=(rfl)
@[simp ↓]theorem Tt(e:Env)(x:AO)(l:List AO):getAll e (x::l)=x.get e::getAll e l:=(rfl)
end
attribute [simp] nat? zX j9
attribute [simp] pO jD rowsOf jl lT mR FX He Rf HR
@[simp]def ady(b:Bool):(AV.bool b).jW=true:=by simp only[AV.jW]
@[simp]def agE(k:IntKind)(n:Int):(AV.int k n).jW=true:=by simp only[AV.jW]
@[simp]def agz(s:au):(AV.str s).jW=true:=by simp only[AV.jW]
@[simp]def agD(f:Bool)(es:List AV):(AV.b9 f es).jW=true:=by simp only[AV.jW]
@[simp]def agB(b v o n:Nat):(AV.own b v o n).jW=false:=by simp only[AV.jW]
@[simp]def agC(b:Nat):(AV.mb b).jW=false:=by simp only[AV.jW]
@[simp]def agA(b v o n:Nat):(AV.ptr b v o n).jW=false:=by simp only[AV.jW]
@[simp]def adK(b:Bool):(AV.bool b).j8=true:=by simp only[AV.j8,AV.jW]
@[simp]def agN(k:IntKind)(n:Int):(AV.int k n).j8=true:=by simp only[AV.j8,AV.jW]
@[simp]def agJ(s:au):(AV.str s).j8=true:=by simp only[AV.j8,AV.jW]
@[simp]def agM(f:Bool)(es:List AV):(AV.b9 f es).j8=true:=by simp only[AV.j8,AV.jW]
@[simp]def DX(cs:List AV):(AV.agg cs).j8=cs.all AV.jW:=by rw[AV.j8]
@[simp]def QV(b v o n:Nat):(AV.own b v o n).j8=false:=by simp only[AV.j8,AV.jW]
@[simp]def agL(b:Nat):(AV.mb b).j8=false:=by simp only[AV.j8,AV.jW]
@[simp]def agK(b v o n:Nat):(AV.ptr b v o n).j8=false:=by simp only[AV.j8,AV.jW]
@[simp]def adJ:AV.dead.j8=false:=by simp only[AV.j8,AV.jW]
@[simp]def aak:AV.undef.j8=false:=by simp only[AV.j8,AV.jW]
@[simp]def ajO(f:Fn)(a c:List AV):(AV.fn f a c).j8=false:=by simp only[AV.j8,AV.jW]
@[simp]def adD(b:Bool):(AV.bool b).sH=true:=by simp only[AV.sH,AV.j8,AV.jW]
@[simp]def agI(k:IntKind)(n:Int):(AV.int k n).sH=true:=by simp only[AV.sH,AV.j8,AV.jW]
@[simp]def agF(s:au):(AV.str s).sH=true:=by simp only[AV.sH,AV.j8,AV.jW]
@[simp]def agH(f:Bool)(es:List AV):(AV.b9 f es).sH=true:=by simp only[AV.sH,AV.j8,AV.jW]
@[simp]def QS(cs:List AV):(AV.agg cs).sH=cs.all AV.jW:=by rw[AV.sH,AV.j8];simp
@[simp]def QO(vs:List AV):(AV.jg vs).sH=vs.all AV.j8:=by rw[AV.sH]
@[simp]def agG(b v o n:Nat):(AV.own b v o n).sH=false:=by simp only[AV.sH,AV.j8,AV.jW]
def Ng{L:Nat}{R:ax}{h:AH}{v:AV}(b:v.j8=true):kL L R h v=v:=by unfold kL;rw[if_pos b]
@[simp]theorem XU(b:Bool):(AV.bool b).cells=[.bool b]:=(rfl)
@[simp]theorem aaT(k:IntKind)(n:Int):(AV.int k n).cells=[.int k n]:=(rfl)
@[simp]theorem aaO(s:au):(AV.str s).cells=[.str s]:=(rfl)
@[simp]theorem aaS(f:Bool)(es:List AV):(AV.b9 f es).cells=[.b9 f es]:=(rfl)
@[simp]theorem aaQ(b v o n:Nat):(AV.own b v o n).cells=[.own b v o n]:=(rfl)
@[simp]theorem aaR(b:Nat):(AV.mb b).cells=[.mb b]:=(rfl)
@[simp]theorem aaP(b v o n:Nat):(AV.ptr b v o n).cells=[.ptr b v o n]:=(rfl)
@[simp]theorem aaU(cs:List AV):(AV.agg cs).cells=cs:=(rfl)
@[simp]theorem Wu(neg:Bool):isNil .pt neg .mT=some (.bool (!neg)):=(rfl)
@[simp]theorem aag(neg:Bool)(b v i o:Nat):isNil .pt neg (.ptr b v i o)=some (.bool neg):=(rfl)
@[simp]theorem Wt(neg:Bool)(cs:List AV):isNil .pt neg (.iV cs)=some (.bool neg):=(rfl)
@[simp]theorem Ww(neg:Bool):isNil .fn neg .mj=some (.bool (!neg)):=(rfl)
@[simp]theorem adE(neg:Bool)(f:Fn)(a c:List AV):isNil .fn neg (.fn f a c)=some (.bool neg):=(rfl)
@[simp]theorem Wv(neg:Bool):isNil .sI neg .lU=some (.bool (!neg)):=(rfl)
@[simp]theorem aaj(neg:Bool)(t:TypeId)(v:AV):isNil .sI neg (.sI t v)=some (.bool neg):=(rfl)
@[simp]theorem aai(neg:Bool)(f:Bool)(x:AV)(l:List AV):isNil .sl neg (.b9 f (x::l))=some (.bool neg):=(rfl)
@[simp]theorem aah(neg:Bool)(b v o n:Nat):isNil .sl neg (.own b v o (n+1))=some (.bool neg):=(rfl)
@[simp]def Uk(x:AV)(l:List AV):shape 1 false (x::l)=some x:=by simp[shape]
@[simp]theorem Co(cs:List AV):shape cs.length true cs=some (.agg cs):=by simp[shape]
@[simp]def Us(a b c:AV):shape 3 true [a,b,c]=some (.agg [a,b,c]):=by simp[shape]
@[simp]def Ut(a b:AV):shape 2 true [a,b]=some (.agg [a,b]):=by simp[shape]
@[simp]def Ur(a b c d:AV):shape 4 true [a,b,c,d]=some (.agg [a,b,c,d]):=by simp[shape]
@[simp]def Uq(a b c d e:AV):shape 5 true [a,b,c,d,e]=some (.agg [a,b,c,d,e]):=by simp[shape]
@[simp]def Up(a b c d e f:AV):shape 6 true [a,b,c,d,e,f]=some (.agg [a,b,c,d,e,f]):=by simp[shape]
@[simp]theorem RO(h:AH)(cs:List AV):jc h (.iV cs)=some cs:=(rfl)
@[simp]theorem aaH(h:AH)(f:Bool)(es:List AV):elems h (.b9 f es)=some es:=(rfl)
@[simp]theorem aba(sz:Nat):jw sz []=true:=(rfl)
@[simp]theorem Zl(sz:Nat)(x:AV)(l:List AV):jw sz (x::l)=((x.cells.length==sz)&&jw sz l):=(rfl)
@[simp]def SM(sz:Nat)(l b:List AV):jw sz (l++b)=(jw sz l&&jw sz b):=by simp[jw]
@[simp]def Zk{α:Type}(k:IntKind)(f:α->Int)(l:List α):jw 1 (l.map λx=>AV.int k (f x))=true:=by simp[jw]
@[simp]def abb(k:IntKind)(l:ay):jw 1 (l.map (AV.int k))=true:=by simp[jw]
@[simp]def L9(k:IntKind)(x:Int)(n:Nat):jw 1 (List.replicate n (AV.int k x))=true:=by simp[jw]
@[simp]def ZY(L:Nat)(R:ax)(h:AH)(b v o n:Nat):kL L R h (.own b v o n)=kF L R h (.own b v o n):=by simp only[kL,QV,aZ,if_false]
@[simp]def aaN(R:ax)(k:IntKind)(n:Int):k7 R (.int k n) = .int k n:=by simp[k7]
@[simp]def XE(R:ax)(b:Bool):k7 R (.bool b) = .bool b:=by simp[k7]
@[simp]def aaI(R:ax)(x:au):k7 R (.str x) = .str x:=by simp[k7]
@[simp]def aaM(R:ax)(f:Bool)(es:List AV):k7 R (.b9 f es) = .b9 f es:=by simp[k7]
theorem Es(r:Nat)(R:ax)(e:Env)(i:Nat):nV (r::R) e i=k7 (r::R) (e i):=rfl
attribute [simp] Es
@[simp]theorem TN(e:Env):nV [] e=e:=(rfl)
end Go.Am
