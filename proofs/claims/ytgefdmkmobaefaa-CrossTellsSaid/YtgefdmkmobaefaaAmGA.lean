/-
 An abstract machine for the model's code: values without addresses where nothing is written any more, rows of one's own where something is.
 This text: the values, the operations with their types resolved, and what each of them makes.
-/
import Derived.Calls
import Derived.LoopN
set_option linter.unusedSimpArgs false
set_option linter.unusedVariables false
namespace Go.Am
inductive AV where
 | dead
 | undef
 | bool (b : Bool)
 | int (k : IntKind) (n : Int)
 | str (s : List UInt8)
 | nilp
 | nilm
 | ptr (b v i o : Nat)
 | rptr (cs : List AV)
 | lst (full : Bool) (es : List AV)
 | own (b v o n : Nat)
 | agg (cs : List AV)
 | tup (vs : List AV)
 | fn (f : Fn) (first cap : List AV)
 | nilf
 | ifc (t : TypeId) (v : AV)
 | nili
 | anyb
  | mpv (b : Nat)
 deriving Inhabited
def AV.cells : AV → List AV
 | .agg cs => cs
 | v => [v]
inductive AB where
 | gone
 | var (cs : List AV)
 | row (v sz : Nat) (es : List AV)
 | fro (v sz : Nat) (es : List AV)
  | mp (es : List (Int × AV))
 deriving Inhabited
abbrev AH := List AB
def AV.okc : AV → Bool
 | .dead => false
 | .undef => false
 | .agg _ => false
 | .tup _ => false
 | _ => true
def AV.isS : AV → Bool
 | .bool _ => true
 | .int _ _ => true
 | .str _ => true
 | .lst _ _ => true
 | .nilp => true
 | .nilm => true
 | .nilf => true
 | .nili => true
 | _ => false
def AV.isE : AV → Bool
 | .agg cs => cs.all AV.isS
 | v => v.isS
def AV.isP : AV → Bool
 | .tup vs => vs.all AV.isE
 | v => v.isE
def purS (h : AH) : AV → Option (AV × AH)
 | .own b v o n =>
  match h[b]? with
  | some (.row v' sz es) => if v = v' ∧ o + n ≤ es.length then some (.lst false ((es.drop o).take n), h.set b (.fro v' sz es)) else none
  | some (.fro v' _ es) => if v = v' ∧ o + n ≤ es.length then some (.lst false ((es.drop o).take n), h) else none
  | _ => none
 | a => if a.isS then some (a, h) else none
def purL : AH → List AV → Option (List AV × AH)
 | h, [] => some ([], h)
 | h, a :: l => (purS h a).bind fun (a', h') => (purL h' l).bind fun (l', h'') => some (a' :: l', h'')
def purE (h : AH) (a : AV) : Option (AV × AH) :=
 if a.isE then some (a, h) else
 match a with
 | .agg cs => (purL h cs).bind fun (cs', h') => some (.agg cs', h')
 | a => purS h a
def purEs : AH → List AV → Option (List AV × AH)
 | h, [] => some ([], h)
 | h, a :: l => (purE h a).bind fun (a', h') => (purEs h' l).bind fun (l', h'') => some (a' :: l', h'')
def purP (h : AH) (a : AV) : Option (AV × AH) :=
 if a.isP then some (a, h) else
 match a with
 | .tup vs => (purEs h vs).bind fun (vs', h') => some (.tup vs', h')
 | a => purE h a
inductive AO where
 | t (i : Nat)
 | c (v : AV)
 deriving Inhabited
inductive NK where
 | sl | pt | fn | ifc
 deriving Inhabited
inductive AOp where
 | mv (x : AO)
 | pick (c a b : AO)
 | alloc (zero : List AV)
 | box (x : AO)
 | build (zero : List AV) (parts : List (Nat × Nat × AO))
 | bsl (sz : Nat) (zero : AV) (len : Nat) (parts : List (Nat × AO))
 | bslh (sz : Nat) (zero : AV) (len : Nat) (parts : List (Nat × AO))
  | storer (sz : Nat) (a x : AO)
  | loadx (sz : Nat) (agg : Bool) (a : AO) (q : Nat)
  | bslo (sz : Nat) (zero : AV) (len : Nat) (parts : List (Nat × AO))
 | load (sz : Nat) (agg : Bool) (a : AO)
 | store (sz : Nat) (a x : AO)
 | nck (x : AO)
 | bin (op : BinOp) (x y : AO)
 | beq (neg : Bool) (x y : AO)
 | seq (neg : Bool) (ks : List Nat) (x y : AO)
 | un (op : UnOp) (x : AO)
 | conv (k : IntKind) (x : AO)
 | cstr (x : AO)
 | bts (x : AO)
 | mki (t : TypeId) (x : AO)
 | mkf (f : Fn) (first cap : List AO)
 | mks (sz bytes : Nat) (zero : AV) (len cap : AO)
 | sls (x : AO) (lo hi : Option AO)
 | sll (sz : Nat) (x : AO) (lo hi mx : Option AO)
 | fad (off : Nat) (x : AO)
 | fld (off sz : Nat) (agg : Bool) (x : AO)
 | iad (sz : Nat) (x i : AO)
 | iada (n sz : Nat) (x i : AO)
 | idxs (x i : AO)
 | idxa (n sz : Nat) (agg : Bool) (x i : AO)
 | ext (x : AO) (i : Nat)
 | call (f : FuncId) (args : List AO)
 | callp (f : FuncId) (args : List AO)
 | callv (f : AO) (args : List AO)
 | app (sz bytes : Nat) (s x : AO)
 | appz (sz bytes : Nat) (zero : AV) (s x : AO)
 | apps (bytes : Nat) (s x : AO)
 | copy (sz : Nat) (d s : AO)
 | len (str : Bool) (x : AO)
 | lena (n : Nat)
 | mm (isMax : Bool) (xs : List AO)
 | no
 | isnil (k : NK) (neg : Bool) (x : AO)
 | clr (sz : Nat) (zero : AV) (x : AO)
 | rbox (x : AO)
 | loadr (sz : Nat) (agg : Bool) (a : AO)
 | callr (f : AO) (args : List AO)
 | callq (f : FuncId) (args : List AO)
 | mkm
 | mget (zero : AV) (m k : AO)
 | mput (m k x : AO)
 | mlen (m : AO)
 | calla (f : FuncId) (args : List AO)
  | stb (x : AO)
  | csl (x : AO)
  | loadv (sz : Nat) (agg : Bool) (t : Nat)
  | calls (f : FuncId) (args : List AO)
 | callra (f : AO) (args : List AO)
 deriving Inhabited
structure Tab where
 p : FuncId → List AV → Option AV
 h : FuncId → List AV → AH → Option (AV × AH)
abbrev Env := Nat → AV
def Env.put (e : Env) (t : Nat) (v : AV) : Env := fun i => if i = t then v else e i
def AO.get (e : Env) : AO → AV
 | .t i => e i
 | .c v => v
def intBin (k : IntKind) (x y : Int) : BinOp → Option AV
 | .add => some (.int k (k.wrap (x + y)))
 | .sub => some (.int k (k.wrap (x - y)))
 | .mul => some (.int k (k.wrap (x * y)))
 | .quo => if y = 0 then none else some (.int k (k.wrap (x.tdiv y)))
 | .rem => if y = 0 then none else some (.int k (x.tmod y))
 | .eql => some (.bool (decide (x = y)))
 | .neq => some (.bool (!decide (x = y)))
 | .lss => some (.bool (decide (x < y)))
 | .leq => some (.bool (decide (x ≤ y)))
 | .gtr => some (.bool (decide (y < x)))
 | .geq => some (.bool (decide (y ≤ x)))
 | .and => some (.int k (k.wrap ((BitVec.ofInt k.bits x &&& BitVec.ofInt k.bits y).toNat : Nat)))
 | .or => some (.int k (k.wrap ((BitVec.ofInt k.bits x ||| BitVec.ofInt k.bits y).toNat : Nat)))
 | _ => none
def sLess : List UInt8 → List UInt8 → Bool
 | _, [] => false
 | [], _ :: _ => true
 | a :: x, b :: y => a < b || (a == b && sLess x y)
def strBin (x y : List UInt8) : BinOp → Option AV
 | .add => if x.length + y.length ≤ 4611686018427387904 then some (.str (x ++ y)) else none
 | .eql => some (.bool (decide (x = y)))
 | .neq => some (.bool (!decide (x = y)))
 | .lss => some (.bool (sLess x y))
 | .leq => some (.bool (sLess x y || decide (x = y)))
 | .gtr => some (.bool (!(sLess x y || decide (x = y))))
 | .geq => some (.bool (!sLess x y))
 | _ => none
def bin (op : BinOp) : AV → AV → Option AV
 | .int k x, .int k' y =>
  match op with
  | .shl => if y < 0 then none else some (.int k (k.wrap (x * 2 ^ min y.toNat k.bits)))
  | .shr => if y < 0 then none else some (.int k (x.fdiv (2 ^ min y.toNat k.bits)))
  | op => if k = k' then intBin k x y op else none
 | .str x, .str y => strBin x y op
 | _, _ => none
def cellsEq : List Nat → List AV → List AV → Option Bool
 | [], [], [] => some true
 | 0 :: l, .int k a :: x, .int k' b :: y => if k = k' then (if a = b then cellsEq l x y else some false) else none
 | 1 :: l, .str a :: x, .str b :: y => if a = b then cellsEq l x y else some false
 | 2 :: l, .bool a :: x, .bool b :: y => if a = b then cellsEq l x y else some false
 | _, _, _ => none
def un (op : UnOp) : AV → Option AV
 | .bool b => match op with | .not => some (.bool (!b)) | _ => none
 | .int k n => match op with | .neg => some (.int k (k.wrap (0 - n))) | _ => none
 | _ => none
def toBytes : List AV → Option (List UInt8)
 | [] => some []
 | .int .u8 n :: l => (toBytes l).bind fun r => some (UInt8.ofNat n.toNat :: r)
 | _ => none
def cellsAt (h : AH) : AV → Option (List AV)
 | .rptr cs => some cs
 | .ptr b v i o =>
  match h[b]? with
  | some (.var cs) => if v = 0 ∧ i = 0 ∧ o ≤ cs.length then some (cs.drop o) else none
  | some (.row v' _ es) => if v = v' then (es[i]?).bind fun x => if o ≤ x.cells.length then some (x.cells.drop o) else none else none
  | some (.fro v' _ es) => if v = v' then (es[i]?).bind fun x => if o ≤ x.cells.length then some (x.cells.drop o) else none else none
  | _ => none
 | _ => none
def shape (sz : Nat) (agg : Bool) (cs : List AV) : Option AV :=
 if cs.length < sz then none else
 if agg then some (.agg (cs.take sz)) else if sz = 1 then cs.head? else none
def over {α : Type} (cs : List α) (o : Nat) (xs : List α) : List α := cs.take o ++ xs ++ cs.drop (o + xs.length)
def AV.withCells : AV → List AV → AV
 | .agg _, cs => .agg cs
 | _, cs => cs.headD .dead
def storeAt (h : AH) (sz : Nat) (a x : AV) : Option AH :=
 match a with
 | .ptr b v i o =>
  match h[b]? with
  | some (.var cs) =>
   if v = 0 ∧ i = 0 ∧ x.cells.all AV.okc = true ∧ x.cells.length = sz ∧ o + sz ≤ cs.length then some (h.set b (.var (over cs o x.cells))) else none
  | some (.row _ _ _) =>
   (purE h x).bind fun (x', h') =>
    match h'[b]? with
    | some (.row v' sz' es) => (es[i]?).bind fun e =>
     if v = v' ∧ x'.cells.all AV.isS = true ∧ x'.cells.length = sz ∧ o + sz ≤ e.cells.length then some (h'.set b (.row v' sz' (es.set i (e.withCells (over e.cells o x'.cells))))) else none
    | _ => none
  | _ => none
 | _ => none
def farFrom : AV → AV → Bool
 | .ptr b _ _ _, .ptr b' _ _ _ => decide (b ≠ b')
 | .ptr .., .rptr _ => true
 | _, _ => false
def isVarB (h : AH) : AV → Bool
 | .ptr b _ _ _ => match h[b]? with | some (.var _) => true | _ => false
 | _ => false
def elems (h : AH) : AV → Option (List AV)
 | .lst _ es => some es
 | .own b v o n =>
  match h[b]? with
  | some (.row v' _ es) => if v = v' ∧ o + n ≤ es.length then some ((es.drop o).take n) else none
  | some (.fro v' _ es) => if v = v' ∧ o + n ≤ es.length then some ((es.drop o).take n) else none
  | _ => none
 | _ => none
def rowSz (h : AH) (b v : Nat) : Option Nat :=
 match h[b]? with
 | some (.row v' sz _) => if v = v' then some sz else none
 | some (.fro v' sz _) => if v = v' then some sz else none
 | _ => none
def szOk (sz : Nat) (es : List AV) : Bool := es.all fun x => x.cells.length == sz
def append (h : AH) (sz bytes : Nat) (s : AV) (news : List AV) : Option (AV × AH) :=
 match s with
 | .lst true es =>
  if (es = [] ∨ news ≠ []) ∧ szOk sz es = true ∧ szOk sz news = true ∧ (es.length + news.length) * bytes ≤ 140737488355328 ∧ es.length + news.length ≤ 140737488355328 then
   some (.own h.length 0 0 (es.length + news.length), h ++ [.row 0 sz (es ++ news)])
  else none
 | .own b v o n =>
  match h[b]? with
  | some (.row v' sz' es) =>
   if v = v' ∧ sz' = sz ∧ szOk sz news = true ∧ o + n ≤ es.length ∧ (n + news.length) * bytes ≤ 140737488355328 ∧ n + news.length ≤ 140737488355328 then
    some (.own b (v + 1) 0 (n + news.length), h.set b (.row (v + 1) sz ((es.drop o).take n ++ news)))
   else none
  | _ => none
 | _ => none
def slen (str : Bool) : AV → Option Nat
 | .str s => if str then some s.length else none
 | .lst _ es => if str then none else some es.length
 | .own _ _ _ n => if str then none else some n
 | _ => none
def nat? : AV → Option Nat
 | .int _ n => if 0 ≤ n then some n.toNat else none
 | _ => none
def optNat (d : Nat) (e : Env) : Option AO → Option Nat
 | none => some d
 | some x => nat? (x.get e)
def parts (e : Env) : List (Nat × Nat × AO) → List AV → Option (List AV)
 | [], cs => some cs
 | (off, size, x) :: l, cs =>
  if (x.get e).cells.all AV.okc = true ∧ (x.get e).cells.length = size ∧ off + size ≤ cs.length then parts e l (over cs off (x.get e).cells) else none
def bparts (e : Env) (sz : Nat) : List (Nat × AO) → List AV → AH → Option (List AV × AH)
 | [], es, h => some (es, h)
 | (i, x) :: l, es, h => (purE h (x.get e)).bind fun (x', h') =>
  if x'.cells.length = sz ∧ i < es.length then bparts e sz l (es.set i x') h' else none
def bpartsP (e : Env) (sz : Nat) : List (Nat × AO) → List AV → Option (List AV)
 | [], es => some es
 | (i, x) :: l, es => if (x.get e).isE ∧ (x.get e).cells.length = sz ∧ i < es.length then bpartsP e sz l (es.set i (x.get e)) else none
def getAll (e : Env) : List AO → List AV
 | [] => []
 | x :: l => x.get e :: getAll e l
def mm2 (isMax : Bool) : AV → AV → Option AV
 | .int k x, .int _ y => some (.int k (if isMax then (if x < y then y else x) else (if y < x then y else x)))
 | _, _ => none
def mmAll (isMax : Bool) : AV → List AV → Option AV
 | x, [] => some x
 | x, y :: l => (mm2 isMax x y).bind fun z => mmAll isMax z l
def callA (Γ : Tab) (f : FuncId) (args : List AV) (h : AH) : Option (AV × AH) :=
 match purEs h args with
 | some (a', h') => match Γ.p f a' with
  | some r => some (r, h')
  | none => Γ.h f args h
 | none => Γ.h f args h
def isNil (k : NK) (neg : Bool) : AV → Option AV
 | .nilp => match k with | .pt => some (.bool (!neg)) | _ => none
 | .ptr .. => match k with | .pt => some (.bool neg) | _ => none
 | .rptr .. => match k with | .pt => some (.bool neg) | _ => none
 | .nilf => match k with | .fn => some (.bool (!neg)) | _ => none
 | .fn .. => match k with | .fn => some (.bool neg) | _ => none
 | .nili => match k with | .ifc => some (.bool (!neg)) | _ => none
 | .ifc .. => match k with | .ifc => some (.bool neg) | _ => none
 | .lst _ es => match k with | .sl => if es = [] then some .anyb else some (.bool neg) | _ => none
 | .own _ _ _ n => match k with | .sl => if n = 0 then some .anyb else some (.bool neg) | _ => none
 | _ => none
def lookM (es : List (Int × AV)) (n : Int) (zero : AV) : AV := (es.find? fun p => decide (p.1 = n)).elim zero fun p => p.2
def putM : List (Int × AV) → Int → AV → List (Int × AV)
 | [], n, v => [(n, v)]
 | p :: l, n, v => if p.1 = n then (n, v) :: l else p :: putM l n v
def mapAt (h : AH) : AV → Option (Nat × List (Int × AV))
 | .mpv b => match h[b]? with | some (.mp es) => some (b, es) | _ => none
 | _ => none
def keyM : AV → Option Int
 | .int k n => if k = .i64 then some n else none
 | _ => none
def keepH (h : AH) (v : Option AV) : Option (AV × AH) := v.bind fun v => some (v, h)
open Classical in
noncomputable def sameH (h : AH) : Option (AV × AH) → Option (AV × AH)
 | some (r, h') => if h' = h then some (r, h) else none
 | none => none
open Classical in
noncomputable def growH (h : AH) : Option (AV × AH) → Option (AV × AH)
 | some (r, h') => if h'.take h.length = h then some (r, h') else none
 | none => none
noncomputable def exec (Γ : Tab) (e : Env) (h : AH) : AOp → Option (AV × AH)
 | .mv x => some (x.get e, h)
 | .pick c a b => match c.get e with
  | .bool t => some (if t then a.get e else b.get e, h)
  | _ => none
 | .alloc zero => some (.ptr h.length 0 0 0, h ++ [.var zero])
 | .box x => if (x.get e).cells.all AV.okc then some (.ptr h.length 0 0 0, h ++ [.var (x.get e).cells]) else none
 | .build zero ps => (parts e ps zero).bind fun cs => some (.agg cs, h)
 | .bsl sz zero len ps => (bpartsP e sz ps (List.replicate len zero)).bind fun es => some (.lst true es, h)
 | .bslh sz zero len ps => (bparts e sz ps (List.replicate len zero) h).bind fun (es, h') => some (.lst true es, h')
 | .bslo sz zero len ps => (bparts e sz ps (List.replicate len zero) h).bind fun (es, h') => some (.own h'.length 0 0 es.length, h' ++ [.row 0 sz es])
 | .load sz agg a => (cellsAt h (a.get e)).bind fun cs => keepH h (shape sz agg cs)
 | .store sz a x => (storeAt h sz (a.get e) (x.get e)).bind fun h' => some (.undef, h')
 | .loadx sz agg a q => if farFrom (e q) (a.get e) = true then (cellsAt h (a.get e)).bind fun cs => keepH h (shape sz agg cs) else none
 | .storer sz a x => if isVarB h (a.get e) = true then (storeAt h sz (a.get e) (x.get e)).bind fun h' => some (.undef, h') else none
 | .nck x => match x.get e with
  | .ptr b v i o => some (.ptr b v i o, h)
  | .rptr cs => some (.rptr cs, h)
  | .fn f a c => match f with | .func g => some (.fn (.func g) a c, h) | _ => none
  | _ => none
 | .bin op x y => keepH h (bin op (x.get e) (y.get e))
 | .beq neg x y => match x.get e, y.get e with
  | .bool a, .bool b => some (.bool (if neg then !decide (a = b) else decide (a = b)), h)
  | _, _ => none
 | .seq neg ks x y => match x.get e, y.get e with
  | .agg a, .agg b => (cellsEq ks a b).bind fun r => if a.length = ks.length ∧ b.length = ks.length then some (.bool (if neg then !r else r), h) else none
  | _, _ => none
 | .un op x => keepH h (un op (x.get e))
 | .conv k x => match x.get e with
  | .int _ n => some (.int k (k.wrap n), h)
  | _ => none
 | .cstr x => match x.get e with
  | .str s => some (.str s, h)
  | _ => none
 | .bts x => (elems h (x.get e)).bind fun es => (toBytes es).bind fun s => some (.str s, h)
 | .mki t x => some (.ifc t (x.get e), h)
 | .mkf f a c => some (.fn f (getAll e a) (getAll e c), h)
 | .mks sz bytes zero l c => match nat? (l.get e), nat? (c.get e) with
  | some n, some m => if n ≤ m ∧ m * bytes ≤ 140737488355328 ∧ m ≤ 140737488355328 then some (.own h.length 0 0 n, h ++ [.row 0 sz (List.replicate n zero)]) else none
  | _, _ => none
 | .sls x lo hi => match x.get e with
  | .str s => (optNat s.length e hi).bind fun b => (optNat 0 e lo).bind fun a =>
    if a ≤ b ∧ b ≤ s.length then some (.str ((s.take b).drop a), h) else none
  | _ => none
 | .sll sz x lo hi mx => match x.get e with
  | .lst full es => (optNat es.length e hi).bind fun b => (optNat 0 e lo).bind fun a =>
    match mx with
    | none => if szOk sz es = true ∧ a ≤ b ∧ b ≤ es.length then some (.lst (full && decide (b = es.length)) ((es.take b).drop a), h) else none
    | some m => (nat? (m.get e)).bind fun m =>
      if szOk sz es = true ∧ hi.isSome = true ∧ a ≤ b ∧ b ≤ m ∧ m ≤ es.length then some (.lst (decide (b = m)) ((es.take b).drop a), h) else none
  | .own r v o n => (optNat n e hi).bind fun b => (optNat 0 e lo).bind fun a =>
    match mx with
    | none => if rowSz h r v = some sz ∧ a ≤ b ∧ b ≤ n then some (.own r v (o + a) (b - a), h) else none
    | some m => (nat? (m.get e)).bind fun m =>
      if rowSz h r v = some sz ∧ hi.isSome = true ∧ a ≤ b ∧ b ≤ m ∧ m ≤ n then some (.own r v (o + a) (b - a), h) else none
  | _ => none
 | .fad off x => match x.get e with
  | .ptr b v i o => some (.ptr b v i (o + off), h)
  | .rptr cs => if off ≤ cs.length then some (.rptr (cs.drop off), h) else none
  | _ => none
 | .fld off sz agg x => match x.get e with
  | .agg cs => if off ≤ cs.length then keepH h (shape sz agg (cs.drop off)) else none
  | _ => none
 | .iad sz x i => match x.get e with
  | .lst _ es => (nat? (i.get e)).bind fun n => (es[n]?).bind fun y => if y.cells.length = sz then some (.rptr y.cells, h) else none
  | .own b v o m => (nat? (i.get e)).bind fun n => if n < m ∧ rowSz h b v = some sz then some (.ptr b v (o + n) 0, h) else none
  | _ => none
 | .iada m sz x i => (nat? (i.get e)).bind fun n => if n < m then
   match x.get e with
   | .ptr b v j o => some (.ptr b v j (o + n * sz), h)
   | .rptr cs => if n * sz ≤ cs.length then some (.rptr (cs.drop (n * sz)), h) else none
   | _ => none
   else none
 | .idxs x i => match x.get e with
  | .str s => (nat? (i.get e)).bind fun n => (s[n]?).bind fun c => some (.int .u8 c.toNat, h)
  | _ => none
 | .idxa m sz agg x i => match x.get e with
  | .agg cs => (nat? (i.get e)).bind fun n => if n < m ∧ n * sz ≤ cs.length then keepH h (shape sz agg (cs.drop (n * sz))) else none
  | _ => none
 | .ext x i => match x.get e with
  | .tup vs => (vs[i]?).bind fun v => some (v, h)
  | _ => none
 | .call f args => callA Γ f (getAll e args) h
 | .callp f args => if (getAll e args).all AV.isE then keepH h (Γ.p f (getAll e args)) else none
 | .callv f args => match f.get e with
  | .fn g first cap => match g with
   | .func g => callA Γ g (first ++ getAll e args ++ cap) h
   | _ => none
  | _ => none
 | .app sz bytes s x => (elems h (x.get e)).bind fun news => append h sz bytes (s.get e) news
 | .appz sz bytes zero s x => (nat? (x.get e)).bind fun n => append h sz bytes (s.get e) (List.replicate n zero)
 | .apps bytes s x => match x.get e with
  | .str t => append h 1 bytes (s.get e) (t.map fun c => .int .u8 c.toNat)
  | _ => none
 | .copy sz0 d s => (elems h (s.get e)).bind fun src => match d.get e with
  | .own b v o n =>
   match h[b]? with
   | some (.row v' sz es) =>
    if v = v' ∧ sz = sz0 ∧ szOk sz0 src = true ∧ o + n ≤ es.length then
     some (.int .i64 (min src.length n), h.set b (.row v' sz (over es o (src.take n))))
    else none
   | _ => none
  | .lst _ es => if es = [] then some (.int .i64 0, h) else none
  | _ => none
 | .len str x => (slen str (x.get e)).bind fun n => some (.int .i64 n, h)
 | .lena n => some (.int .i64 n, h)
 | .mm isMax xs => match getAll e xs with
  | x :: l => keepH h (mmAll isMax x l)
  | [] => none
 | .no => none
 | .isnil k neg x => keepH h (isNil k neg (x.get e))
 | .clr sz0 zero x => match x.get e with
  | .own b v o n =>
   match h[b]? with
   | some (.row v' sz es) => if v = v' ∧ sz = sz0 ∧ o + n ≤ es.length then some (.tup [], h.set b (.row v' sz (over es o (List.replicate n zero)))) else none
   | _ => none
  | .lst _ es => if es = [] then some (.tup [], h) else none
  | _ => none
 | .rbox x => if (x.get e).cells.all AV.isS then some (.rptr (x.get e).cells, h) else none
 | .loadr sz agg a => match a.get e with
  | .rptr cs => keepH h (shape sz agg cs)
  | _ => none
 | .callq f args => if (getAll e args).all AV.isE then ((Γ.h f (getAll e args) []).bind fun (r, h1) => purP h1 r).bind fun (r, _) => some (r, h) else none
 | .callr f args => match f.get e with
  | .fn g first cap => match g with
   | .func g => sameH h (callA Γ g (first ++ getAll e args ++ cap) h)
   | _ => none
  | _ => none
 | .mkm => some (.mpv h.length, h ++ [.mp []])
 | .mget zero m k => (mapAt h (m.get e)).bind fun (_, es) => (keyM (k.get e)).bind fun n => some (lookM es n zero, h)
 | .mput m k x => (mapAt h (m.get e)).bind fun (b, es) => (keyM (k.get e)).bind fun n => if (x.get e).okc = true then some (.undef, h.set b (.mp (putM es n (x.get e)))) else none
 | .mlen m => (mapAt h (m.get e)).bind fun (_, es) => some (.int .i64 es.length, h)
 | .calla f args => growH h (callA Γ f (getAll e args) h)
 | .stb x => match x.get e with
  | .str s => some (.lst false (s.map fun c => .int .u8 (c.toNat : Int)), h)
  | _ => none
 | .loadv sz agg t => if isVarB h (e t) = true then (cellsAt h (e t)).bind fun cs => keepH h (shape sz agg cs) else none
 | .calls f args => sameH h (callA Γ f (getAll e args) h)
 | .callra f args => match f.get e with
  | .fn g first cap => match g with
   | .func g => growH h (callA Γ g (first ++ getAll e args ++ cap) h)
   | _ => none
  | _ => none
 | .csl x => match x.get e with
  | .own b v o n => match h[b]? with
   | some (.row v' sz es) => if v = v' ∧ o + n ≤ es.length ∧ 0 < n then some (.lst false ((es.drop o).take n), h.set b (.fro v' sz es)) else none
   | _ => none
  | _ => none
structure AI where
 dst : Option Nat
 guard : Option (Nat × Bool)
 op : AOp
structure St where
 e : Env
 h : AH
def St.put (s : St) (d : Option Nat) (v : AV) : St :=
 match d with
 | some t => { s with e := s.e.put t v }
 | none => s
noncomputable def flat (Γ : Tab) : List AI → St → Option St
 | [], s => some s
 | o :: l, s =>
  match o.guard with
  | none => (exec Γ s.e s.h o.op).bind fun (v, h) => flat Γ l (St.put { s with h := h } o.dst v)
  | some (g, want) =>
   match s.e g with
   | .bool b => if b = want then (exec Γ s.e s.h o.op).bind fun (v, h) => flat Γ l (St.put { s with h := h } o.dst v) else flat Γ l (s.put o.dst .undef)
   | .undef => flat Γ l (s.put o.dst .undef)
   | _ => none
inductive IT where
 | nil
 | op (d : Option Nat) (o : AOp) (rest : IT)
 | sc (d : Nat) (a : Bool) (c lo hi : Nat) (its : IT) (r : AO) (rest : IT)
 deriving Inhabited
def Env.kill (e : Env) (lo hi : Nat) : Env := fun i => if lo ≤ i ∧ i ≤ hi then .dead else e i
noncomputable def its (Γ : Tab) : IT → St → Option St
 | .nil, s => some s
 | .op d o rest, s => (exec Γ s.e s.h o).bind fun (v, h) => its Γ rest (St.put { s with h := h } d v)
 | .sc d a c lo hi l r rest, s =>
  match s.e c with
  | .bool b =>
   (if b = a then (its Γ l s).bind fun s' => match r.get s'.e with
     | .bool x => some (AV.bool x, s'.h)
     | _ => none
    else some (AV.bool (!a), s.h)).bind fun (v, h) => its Γ rest ⟨(s.e.kill lo hi).put d v, h⟩
  | _ => none
inductive AX where
 | normal
 | exit (id : Nat)
 | ret
 deriving DecidableEq, Inhabited
end Go.Am

/-
 The abstract machine: code, and what it makes of a state.
-/
namespace Go.Am
inductive AC where
 | skip
 | ops (l : IT)
 | seq (a b : AC)
 | cond (c : AO) (x y : AC)
 | block (id : Nat) (c : AC)
 | loop (keep : List Nat) (wr : List (Nat × Nat)) (own : List (Nat × Nat)) (outs : List (AX × List Nat)) (c : AC)
 | exit (id : Nat)
 | ret
 | scope (c : AC)
  | gho (c : AC) (g : List (Nat × Nat))
  | loopA (ad : List (Nat × Nat × Nat)) (keep : List Nat) (wr : List (Nat × Nat)) (own : List (Nat × Nat)) (outs : List (AX × List Nat)) (c : AC)
 deriving Inhabited
inductive AR where
 | t (i : Nat)
 | cell (i sz : Nat) (agg : Bool)
 deriving Inhabited
structure AF where
 nt : Nat
 res : List AR
 body : AC
 deriving Inhabited
section iter
variable {σ τ : Type}
def iterN (f : σ → Option (σ ⊕ τ)) : Nat → σ → Option τ
 | 0, _ => none
 | n + 1, s =>
  match f s with
  | none => none
  | some (.inl s') => iterN f n s'
  | some (.inr t) => some t
theorem iterN_succ {f : σ → Option (σ ⊕ τ)} {n : Nat} {s : σ} {t : τ} (h : iterN f n s = some t) : iterN f (n + 1) s = some t := by
 induction n generalizing s with
 | zero => cases h
 | succ n ih =>
  rw [iterN] at h ⊢
  cases hs : f s with
  | none => rw [hs] at h; cases h
  | some r =>
   rw [hs] at h
   cases r with
   | inl s' => exact ih h
   | inr t' => exact h
theorem iterN_le {f : σ → Option (σ ⊕ τ)} {n m : Nat} {s : σ} {t : τ} (h : iterN f n s = some t) (hm : n ≤ m) : iterN f m s = some t := by
 induction hm with
 | refl => exact h
 | step _ ih => exact iterN_succ ih
open Classical in
noncomputable def iter (f : σ → Option (σ ⊕ τ)) (s : σ) : Option τ :=
 if h : ∃ t, ∃ n, iterN f n s = some t then some (Classical.choose h) else none
theorem iter_of_N {f : σ → Option (σ ⊕ τ)} {n : Nat} {s : σ} {t : τ} (h : iterN f n s = some t) : iter f s = some t := by
 have hx : ∃ t, ∃ n, iterN f n s = some t := ⟨t, n, h⟩
 unfold iter
 rw [dif_pos hx]
 obtain ⟨m, hm⟩ := Classical.choose_spec hx
 have h1 := iterN_le h (Nat.le_max_left n m)
 have h2 := iterN_le hm (Nat.le_max_right n m)
 rw [h1] at h2
 exact h2.symm
theorem N_of_iter {f : σ → Option (σ ⊕ τ)} {s : σ} {t : τ} (h : iter f s = some t) : ∃ n, iterN f n s = some t := by
 unfold iter at h
 split at h
 ·rename_i hx
  have := Classical.choose_spec hx
  cases h
  exact this
 ·cases h
theorem iter_eq (f : σ → Option (σ ⊕ τ)) (s : σ) : iter f s =
  match f s with
  | none => none
  | some (.inl s') => iter f s'
  | some (.inr t) => some t := by
 cases hi : iter f s with
 | some t =>
  obtain ⟨n, hn⟩ := N_of_iter hi
  cases n with
  | zero => cases hn
  | succ n =>
   simp only [iterN] at hn
   split at hn
   ·cases hn
   ·exact (iter_of_N hn).symm
   ·exact hn.symm
 | none =>
  split
  ·rfl
  ·rename_i s' hs
   cases h2 : iter f s' with
   | none => rfl
   | some t =>
    obtain ⟨n, hn⟩ := N_of_iter h2
    have : iter f s = some t := iter_of_N (n := n + 1) (by simp only [iterN, hs]; exact hn)
    rw [hi] at this; cases this
  ·rename_i t hs
   have : iter f s = some t := iter_of_N (n := 1) (by simp only [iterN, hs])
   rw [hi] at this; cases this
end iter
def Env.killR (e : Env) (rs : List (Nat × Nat)) : Env := fun i => if rs.any (fun r => decide (r.1 ≤ i) && decide (i ≤ r.2)) then .dead else e i
def Env.lay (e : Env) : List Nat → List AV → Env
 | t :: ts, v :: vs => (e.lay ts vs).put t v
 | _, _ => e
def normS (L : Nat) (R : List Nat) (h : AH) : AV → AV
 | .own b v o n =>
  if b < L then
   if R.contains b then
    match h[b]? with
    | some (.row v' _ _) => if v = v' then .own b 0 o n else .dead
    | some (.fro v' _ _) => if v = v' then .own b 0 o n else .dead
    | _ => .dead
   else .own b v o n
  else match elems h (.own b v o n) with
   | some es => .lst false es
   | none => .dead
 | .ptr b v i o => if b < L ∧ ¬ R.contains b then .ptr b v i o else .dead
 | .fn f a c => if (a ++ c).all (fun x => x.isE || match x with | .ptr b _ _ _ => decide (b < L) && !R.contains b | .mpv b => decide (b < L) && !R.contains b | _ => false) then .fn f a c else .dead
 | .mpv b => if b < L ∧ ¬ R.contains b then .mpv b else .dead
 | .undef => .undef
 | v => if v.isS then v else .dead
def normV (L : Nat) (R : List Nat) (h : AH) (v : AV) : AV :=
 if v.isE then v else
 match v with
 | .agg cs => .agg (cs.map (normS L R h))
 | v => normS L R h v
def normB (L : Nat) (R : List Nat) (h : AH) (i : Nat) (b : AB) : AB :=
 match b with
 | .var cs => .var (cs.map (normS L R h))
 | .row v sz es => .row (if R.contains i then 0 else v) sz es
 | .fro v sz es => .fro (if R.contains i then 0 else v) sz es
 | .gone => .gone
 | .mp es => .mp (es.map fun p => (p.1, normS L R h p.2))
def normH (L : Nat) (R : List Nat) (h : AH) (i : Nat) : AH → AH
 | [] => []
 | b :: l => normB L R h i b :: normH L R h (i + 1) l
def head (L : Nat) (R : List Nat) (keep : List Nat) (s : St) : List AV × AH :=
 (keep.map fun t => normV L R s.h (s.e t), normH L R s.h 0 (s.h.take L))
def dropR (R : List Nat) (v : AV) : AV :=
 let ok (x : AV) : Bool := x.isE || match x with | .ptr b _ _ _ => !R.contains b | .own b _ _ _ => !R.contains b | .mpv b => !R.contains b | _ => false
 match v with
 | .agg cs => if cs.all ok then .agg cs else .dead
 | .fn f a c => if (a ++ c).all ok then .fn f a c else .dead
 | .undef => .undef
 | .rptr cs => .rptr cs
 | v => if ok v then v else .dead
def preOwn : List (Nat × Nat) → St → St
 | [], s => s
 | (t, sz) :: l, s =>
  match s.e t with
  | .lst true [] => preOwn l ⟨s.e.put t (.own s.h.length 0 0 0), s.h ++ [.row 0 sz []]⟩
  | _ => preOwn l s
def rowsOf (e : Env) : List (Nat × Nat) → List Nat
 | [] => []
 | (t, _) :: l => match e t with
  | .own b _ _ _ => b :: rowsOf e l
  | _ => rowsOf e l
def baseEnv (R : List Nat) (e : Env) : Env := if R.isEmpty then e else fun i => dropR R (e i)
def pickExit {ρ : Type} (e : Env) (k : AX → St → Option ρ) (r : AX × List AV × AH) : List (AX × List Nat) → Option ρ
 | [] => none
 | (x, ts) :: l => if r.1 = x then k x ⟨e.lay ts r.2.1, r.2.2⟩ else pickExit e k r l
def outsOf (x : AX) : List (AX × List Nat) → List Nat
 | [] => []
 | (y, ts) :: l => if x = y then ts else outsOf x l
def volIn (R : List Nat) (L : Nat) (i : Nat) : Bool := R.contains i || decide (L ≤ i)
def getC (s : St) (t o : Nat) : Option AV := match s.e t with
 | .ptr b 0 0 0 => match s.h[b]? with | some (.var cs) => cs[o]? | _ => none
 | .agg cs => cs[o]?
 | _ => none
def setC (s : St) (t o : Nat) (x : AV) : St := match s.e t with
 | .ptr b 0 0 0 => match s.h[b]? with | some (.var cs) => ⟨s.e, s.h.set b (.var (cs.set o x))⟩ | _ => s
 | .agg cs => ⟨s.e.put t (.agg (cs.set o x)), s.h⟩
 | _ => s
def frz1 (s : St) (p : Nat × Nat) : Option St := (getC s p.1 p.2).bind fun y => (purS s.h y).bind fun r => some (setC ⟨s.e, r.2⟩ p.1 p.2 r.1)
def frzA : List (Nat × Nat) → St → Option St
 | [], s => some s
 | p :: l, s => (frz1 s p).bind (frzA l)
def fresh1 (s : St) (p : Nat × Nat × Nat) : St := match getC s p.1 p.2.1 with
 | some (.own b v 0 n) => match s.h[b]? with
  | some (.row v' sz es) => if v = v' ∧ n = es.length then setC ⟨s.e, s.h.set b (.row (v + 1) sz []) ++ [.row 0 sz es]⟩ p.1 p.2.1 (.own s.h.length 0 0 n) else ⟨s.e, s.h ++ [.gone]⟩
  | _ => ⟨s.e, s.h ++ [.gone]⟩
 | some (.lst true []) => setC ⟨s.e, s.h ++ [.row 0 p.2.2 []]⟩ p.1 p.2.1 (.own s.h.length 0 0 0)
 | _ => ⟨s.e, s.h ++ [.gone]⟩
def freshA : List (Nat × Nat × Nat) → St → St
 | [], s => s
 | p :: l, s => freshA l (fresh1 s p)
def reb1 (τ : Nat) (s : St) (p : Nat × Nat × Nat) : St := match getC s p.1 p.2.1 with
 | some (.own b v 0 n) => if b = τ then s else match s.h[b]? with
  | some (.row v' sz es) => match s.h[τ]? with
   | some (.row u _ _) => if v = v' ∧ n = es.length then setC ⟨s.e, (s.h.set b (.row (v + 1) sz [])).set τ (.row (u + 1) sz es)⟩ p.1 p.2.1 (.own τ (u + 1) 0 n) else s
   | _ => s
  | _ => s
 | _ => s
def rebA : Nat → List (Nat × Nat × Nat) → St → St
 | _, [], s => s
 | τ, p :: l, s => rebA (τ + 1) l (reb1 τ s p)
def tgt : Nat → List (Nat × Nat × Nat) → List Nat
 | _, [] => []
 | τ, _ :: l => τ :: tgt (τ + 1) l
noncomputable def eval (Γ : Tab) : AC → (Nat → Bool) → (ρ : Type) → (AX → St → Option ρ) → St → Option ρ
 | .skip, _, _, k, s => k .normal s
 | .ops l, _, _, k, s => (its Γ l s).bind (k .normal)
 | .seq a b, V, ρ, k, s => eval Γ a V ρ (fun x s' => match x with
   | .normal => eval Γ b V ρ k s'
   | x => k x s') s
 | .cond c x y, V, ρ, k, s => match c.get s.e with
   | .bool b => if b = true then eval Γ x V ρ k s else eval Γ y V ρ k s
   | _ => none
 | .block id c, V, ρ, k, s => eval Γ c V ρ (fun x s' => match x with
   | .exit i => if i = id then k .normal s' else k (.exit i) s'
   | x => k x s') s
 | .loop keep wr own outs c, V, _, k, s =>
   if (rowsOf (preOwn own s).e own).all V = true then
   (iter (fun x : List AV × AH => eval Γ c (volIn (rowsOf (preOwn own s).e own) (preOwn own s).h.length) ((List AV × AH) ⊕ (AX × List AV × AH)) (fun ex s' => match ex with
     | .normal => some (.inl (head (preOwn own s).h.length (rowsOf (preOwn own s).e own) keep s'))
     | ex => some (.inr (ex, (outsOf ex outs).map s'.e, s'.h))) ⟨((baseEnv (rowsOf (preOwn own s).e own) (preOwn own s).e).killR wr).lay keep x.1, x.2⟩)
    (head (preOwn own s).h.length (rowsOf (preOwn own s).e own) keep (preOwn own s))).bind fun r => pickExit ((baseEnv (rowsOf (preOwn own s).e own) (preOwn own s).e).killR wr) k r outs
   else none
 | .exit id, _, _, k, s => k (.exit id) s
 | .ret, _, _, k, s => k .ret s
 | .scope c, V, ρ, k, s => eval Γ c V ρ k s
 | .gho c g, V, ρ, k, s => eval Γ c V ρ (fun x s' => match x with
   | .exit i => k (.exit i) s'
   | x => (frzA g s').bind (k x)) s
 | .loopA ad keep wr own outs c, V, _, k, s =>
   if (rowsOf (freshA ad (preOwn own s)).e own).all V = true then
   (iter (fun x : List AV × AH => eval Γ c (volIn (tgt (preOwn own s).h.length ad ++ rowsOf (freshA ad (preOwn own s)).e own) (freshA ad (preOwn own s)).h.length) ((List AV × AH) ⊕ (AX × List AV × AH)) (fun ex s' => match ex with
     | .normal => some (.inl (head (freshA ad (preOwn own s)).h.length (tgt (preOwn own s).h.length ad ++ rowsOf (freshA ad (preOwn own s)).e own) keep (rebA (preOwn own s).h.length ad s')))
     | ex => some (.inr (ex, (outsOf ex outs).map s'.e, s'.h))) ⟨((baseEnv (tgt (preOwn own s).h.length ad ++ rowsOf (freshA ad (preOwn own s)).e own) (freshA ad (preOwn own s)).e).killR wr).lay keep x.1, x.2⟩)
    (head (freshA ad (preOwn own s)).h.length (tgt (preOwn own s).h.length ad ++ rowsOf (freshA ad (preOwn own s)).e own) keep (freshA ad (preOwn own s)))).bind fun r => pickExit ((baseEnv (tgt (preOwn own s).h.length ad ++ rowsOf (freshA ad (preOwn own s)).e own) (freshA ad (preOwn own s)).e).killR wr) k r outs
   else none
noncomputable def roundA (Γ : Tab) (τ : Nat) (ad : List (Nat × Nat × Nat)) (keep : List Nat) (outs : List (AX × List Nat)) (c : AC) (e0 : Env) (L : Nat) (R : List Nat) (x : List AV × AH) : Option ((List AV × AH) ⊕ (AX × List AV × AH)) :=
 eval Γ c (volIn R L) _ (fun ex s' => match ex with
  | .normal => some (.inl (head L R keep (rebA τ ad s')))
  | ex => some (.inr (ex, (outsOf ex outs).map s'.e, s'.h))) ⟨e0.lay keep x.1, x.2⟩
noncomputable def round (Γ : Tab) (keep : List Nat) (outs : List (AX × List Nat)) (c : AC) (e0 : Env) (L : Nat) (R : List Nat) (x : List AV × AH) : Option ((List AV × AH) ⊕ (AX × List AV × AH)) :=
 eval Γ c (volIn R L) _ (fun ex s' => match ex with
  | .normal => some (.inl (head L R keep s'))
  | ex => some (.inr (ex, (outsOf ex outs).map s'.e, s'.h))) ⟨e0.lay keep x.1, x.2⟩
def argEnv (args : List AV) : Env := fun i => args.getD i .dead
def resOne (s : St) : AR → Option AV
 | .t i => some (s.e i)
 | .cell i sz agg => (cellsAt s.h (s.e i)).bind (shape sz agg)
def resAll (s : St) : List AR → Option (List AV)
 | [] => some []
 | r :: l => (resOne s r).bind fun v => (resAll s l).bind fun vs => some (v :: vs)
def resV (s : St) (l : List AR) : Option AV := (resAll s l).bind fun vs => match vs with
 | [v] => some v
 | vs => some (.tup vs)
noncomputable def runH (Γ : Tab) (f : AF) (args : List AV) (h : AH) : Option (AV × AH) :=
 if args.length ≤ f.nt then
  eval Γ f.body (fun i => decide (h.length ≤ i)) (AV × AH) (fun x s => match x with
   | .exit _ => none
   | _ => (resV s f.res).bind fun v => some (v, s.h)) ⟨argEnv args, h⟩
 else none
noncomputable def runP (Γ : Tab) (f : AF) (args : List AV) : Option AV := (runH Γ f args []).bind fun (v, h) => (purP h v).bind fun (v, _) => some v
end Go.Am
