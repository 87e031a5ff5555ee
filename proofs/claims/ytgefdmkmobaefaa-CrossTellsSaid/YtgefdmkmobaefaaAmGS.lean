/-
 The abstract machine: rules of evaluation.
-/
import Derived.Test.YtgefdmkmobaefaaAmGA
set_option linter.unusedSimpArgs false
set_option linter.unusedVariables false
namespace Go.Am
@[simp] theorem ite_bind {α β : Type} (p : Prop) [Decidable p] (x y : Option α) (f : α → Option β) : (if p then x else y).bind f = if p then x.bind f else y.bind f := by split <;> rfl
@[simp] theorem ite_some_bool (p : Prop) [Decidable p] (x y : Bool) (h : AH) : (if p then some (AV.bool x, h) else some (AV.bool y, h)) = some (AV.bool (if p then x else y), h) := by split <;> rfl
class Kt (α β : Type) where
 run : α → Option β
def bnd {α β : Type} (x : Option α) [k : Kt α β] : Option β := x.bind k.run
@[simp] theorem bnd_some {α β : Type} (a : α) (f : α → Option β) : @bnd α β (some a) ⟨f⟩ = f a := rfl
@[simp] theorem bnd_none {α β : Type} (f : α → Option β) : @bnd α β none ⟨f⟩ = none := rfl
@[simp] theorem bnd_ite {α β : Type} (p : Prop) [Decidable p] (x y : Option α) (k : Kt α β) : @bnd α β (if p then x else y) k = if p then @bnd α β x k else @bnd α β y k := by split <;> rfl
class K2 (ρ : Type) where
 x : Unit → Option ρ
 y : Unit → Option ρ
def onBool {ρ : Type} (v : AV) [k : K2 ρ] : Option ρ := match v with
 | .bool b => if b = true then k.x () else k.y ()
 | _ => none
@[simp] theorem onBool_bool {ρ : Type} (b : Bool) (x y : Unit → Option ρ) : @onBool ρ (.bool b) ⟨x, y⟩ = if b = true then x () else y () := rfl
def scV (v : AV) (a : Bool) (h : AH) [k : Kt Unit (AV × AH)] : Option (AV × AH) := match v with
 | .bool b => if b = a then k.run () else some (.bool (!a), h)
 | _ => none
@[simp] theorem scV_bool (b a : Bool) (x : Unit → Option (AV × AH)) (h : AH) : @scV (.bool b) a h ⟨x⟩ = if b = a then x () else some (.bool (!a), h) := rfl
def bOnly (r : AV) (h : AH) : Option (AV × AH) := match r with
 | .bool x => some (.bool x, h)
 | _ => none
@[simp] theorem bOnly_bool (x : Bool) (h : AH) : bOnly (.bool x) h = some (.bool x, h) := rfl
section
variable {Γ : Tab} {V : Nat → Bool} {ρ : Type}
@[simp ↓] theorem eval_ops' (l : IT) (k : AX → St → Option ρ) (s : St) : eval Γ (.ops l) V ρ k s = @bnd _ _ (its Γ l s) ⟨k .normal⟩ := rfl
@[simp ↓] theorem eval_seq' (a b : AC) (k : AX → St → Option ρ) (s : St) : eval Γ (.seq a b) V ρ k s = eval Γ a V ρ (fun x s' => match x with
   | .normal => eval Γ b V ρ k s'
   | x => k x s') s := rfl
@[simp ↓] theorem eval_cond' (c : AO) (x y : AC) (k : AX → St → Option ρ) (s : St) : eval Γ (.cond c x y) V ρ k s = @onBool _ (c.get s.e) ⟨fun _ => eval Γ x V ρ k s, fun _ => eval Γ y V ρ k s⟩ := rfl
@[simp ↓] theorem eval_block' (id : Nat) (c : AC) (k : AX → St → Option ρ) (s : St) : eval Γ (.block id c) V ρ k s = eval Γ c V ρ (fun x s' => match x with
   | .exit i => if i = id then k .normal s' else k (.exit i) s'
   | x => k x s') s := rfl
@[simp ↓] theorem eval_skip' (k : AX → St → Option ρ) (s : St) : eval Γ .skip V ρ k s = k .normal s := rfl
@[simp ↓] theorem eval_exit' (id : Nat) (k : AX → St → Option ρ) (s : St) : eval Γ (.exit id) V ρ k s = k (.exit id) s := rfl
@[simp ↓] theorem eval_scope' (c : AC) (k : AX → St → Option ρ) (s : St) : eval Γ (.scope c) V ρ k s = eval Γ c V ρ k s := rfl
@[simp ↓] theorem eval_gho' (c : AC) (g : List (Nat × Nat)) (k : AX → St → Option ρ) (s : St) : eval Γ (.gho c g) V ρ k s = eval Γ c V ρ (fun x s' => match x with
   | .exit i => k (.exit i) s'
   | x => @bnd _ _ (frzA g s') ⟨k x⟩) s := rfl
@[simp ↓] theorem eval_loopA' (ad : List (Nat × Nat × Nat)) (keep : List Nat) (wr : List (Nat × Nat)) (own : List (Nat × Nat)) (outs : List (AX × List Nat)) (c : AC) (k : AX → St → Option ρ) (s : St) :
  eval Γ (.loopA ad keep wr own outs c) V ρ k s =
   if (rowsOf (freshA ad (preOwn own s)).e own).all V = true then
   @bnd _ _ (iter (roundA Γ (preOwn own s).h.length ad keep outs c ((baseEnv (tgt (preOwn own s).h.length ad ++ rowsOf (freshA ad (preOwn own s)).e own) (freshA ad (preOwn own s)).e).killR wr) (freshA ad (preOwn own s)).h.length (tgt (preOwn own s).h.length ad ++ rowsOf (freshA ad (preOwn own s)).e own))
    (head (freshA ad (preOwn own s)).h.length (tgt (preOwn own s).h.length ad ++ rowsOf (freshA ad (preOwn own s)).e own) keep (freshA ad (preOwn own s)))) ⟨fun r => pickExit ((baseEnv (tgt (preOwn own s).h.length ad ++ rowsOf (freshA ad (preOwn own s)).e own) (freshA ad (preOwn own s)).e).killR wr) k r outs⟩
   else none := rfl
theorem roundA_eq (τ : Nat) (ad : List (Nat × Nat × Nat)) (keep : List Nat) (outs : List (AX × List Nat)) (c : AC) (e0 : Env) (L : Nat) (R : List Nat) (x : List AV × AH) : roundA Γ τ ad keep outs c e0 L R x = eval Γ c (volIn R L) _ (fun ex s' => match ex with
  | .normal => some (.inl (head L R keep (rebA τ ad s')))
  | ex => some (.inr (ex, (outsOf ex outs).map s'.e, s'.h))) ⟨e0.lay keep x.1, x.2⟩ := rfl
@[simp ↓] theorem eval_ret' (k : AX → St → Option ρ) (s : St) : eval Γ .ret V ρ k s = k .ret s := rfl
@[simp ↓] theorem eval_loop' (keep : List Nat) (wr : List (Nat × Nat)) (own : List (Nat × Nat)) (outs : List (AX × List Nat)) (c : AC) (k : AX → St → Option ρ) (s : St) :
  eval Γ (.loop keep wr own outs c) V ρ k s =
   if (rowsOf (preOwn own s).e own).all V = true then
   @bnd _ _ (iter (round Γ keep outs c ((baseEnv (rowsOf (preOwn own s).e own) (preOwn own s).e).killR wr) (preOwn own s).h.length (rowsOf (preOwn own s).e own))
    (head (preOwn own s).h.length (rowsOf (preOwn own s).e own) keep (preOwn own s))) ⟨fun r => pickExit ((baseEnv (rowsOf (preOwn own s).e own) (preOwn own s).e).killR wr) k r outs⟩
   else none := rfl
theorem round_eq (keep : List Nat) (outs : List (AX × List Nat)) (c : AC) (e0 : Env) (L : Nat) (R : List Nat) (x : List AV × AH) : round Γ keep outs c e0 L R x = eval Γ c (volIn R L) _ (fun ex s' => match ex with
  | .normal => some (.inl (head L R keep s'))
  | ex => some (.inr (ex, (outsOf ex outs).map s'.e, s'.h))) ⟨e0.lay keep x.1, x.2⟩ := rfl
theorem runH_eq (f : AF) (args : List AV) (h : AH) : runH Γ f args h = if args.length ≤ f.nt then eval Γ f.body (fun i => decide (h.length ≤ i)) (AV × AH) (fun x s => match x with
   | .exit _ => none
   | _ => @bnd _ _ (resV s f.res) ⟨fun v => some (v, s.h)⟩) ⟨argEnv args, h⟩ else none := by
 unfold runH
 rfl
theorem runP_eq (f : AF) (args : List AV) : runP Γ f args = @bnd _ _ (runH Γ f args []) ⟨fun p => @bnd _ _ (purP p.2 p.1) ⟨fun q => some q.1⟩⟩ := rfl
@[simp ↓] theorem its_nil (s : St) : its Γ .nil s = some s := rfl
@[simp ↓] theorem its_op (d : Nat) (o : AOp) (rest : IT) (s : St) : its Γ (.op (some d) o rest) s = @bnd _ _ (exec Γ s.e s.h o) ⟨fun p => its Γ rest ⟨s.e.put d p.1, p.2⟩⟩ := rfl
@[simp ↓] theorem its_opn (o : AOp) (rest : IT) (s : St) : its Γ (.op none o rest) s = @bnd _ _ (exec Γ s.e s.h o) ⟨fun p => its Γ rest ⟨s.e, p.2⟩⟩ := rfl
@[simp ↓] theorem its_sc (d : Nat) (a : Bool) (c lo hi : Nat) (l : IT) (r : AO) (rest : IT) (s : St) : its Γ (.sc d a c lo hi l r rest) s =
  @bnd _ _ (@scV (s.e c) a s.h ⟨fun _ => @bnd _ _ (its Γ l s) ⟨fun s' => bOnly (r.get s'.e) s'.h⟩⟩) ⟨fun p => its Γ rest ⟨(s.e.kill lo hi).put d p.1, p.2⟩⟩ := by
 simp only [its, scV]
 cases s.e c <;> rfl
@[simp ↓] theorem get_t (e : Env) (i : Nat) : (AO.t i).get e = e i := rfl
@[simp ↓] theorem get_c (e : Env) (v : AV) : (AO.c v).get e = v := rfl
@[simp ↓] theorem put_get (e : Env) (t : Nat) (v : AV) (i : Nat) : (e.put t v) i = if i = t then v else e i := rfl
@[simp ↓] theorem kill_get (e : Env) (lo hi i : Nat) : (e.kill lo hi) i = if lo ≤ i ∧ i ≤ hi then .dead else e i := rfl
@[simp ↓] theorem killR_get (e : Env) (rs : List (Nat × Nat)) (i : Nat) : (e.killR rs) i = if rs.any (fun r => decide (r.1 ≤ i) && decide (i ≤ r.2)) then .dead else e i := rfl
@[simp ↓] theorem lay_cons (e : Env) (t : Nat) (ts : List Nat) (v : AV) (vs : List AV) : e.lay (t :: ts) (v :: vs) = (e.lay ts vs).put t v := rfl
@[simp ↓] theorem lay_nil (e : Env) (vs : List AV) : e.lay [] vs = e := by cases vs <;> rfl
@[simp ↓] theorem argEnv_get (args : List AV) (i : Nat) : argEnv args i = args.getD i .dead := rfl
def headK (L : Nat) (R : List Nat) (h : AH) (e : Env) : List Nat → List AV
 | [] => []
 | t :: ts => normV L R h (e t) :: headK L R h e ts
theorem headK_eq (L : Nat) (R : List Nat) (h : AH) (e : Env) : ∀ ts : List Nat, (ts.map fun t => normV L R h (e t)) = headK L R h e ts
 | [] => rfl
 | t :: ts => by rw [List.map_cons, headK_eq L R h e ts]; rfl
@[simp ↓] theorem head_eq (L : Nat) (R : List Nat) (keep : List Nat) (s : St) : head L R keep s = (headK L R s.h s.e keep, normH L R s.h 0 (s.h.take L)) := by unfold head; rw [headK_eq]
@[simp ↓] theorem headK_nil (L : Nat) (R : List Nat) (h : AH) (e : Env) : headK L R h e [] = [] := rfl
@[simp ↓] theorem headK_cons (L : Nat) (R : List Nat) (h : AH) (e : Env) (t : Nat) (ts : List Nat) : headK L R h e (t :: ts) = normV L R h (e t) :: headK L R h e ts := rfl
@[simp ↓] theorem getAll_nil (e : Env) : getAll e [] = [] := rfl
@[simp ↓] theorem getAll_cons (e : Env) (x : AO) (l : List AO) : getAll e (x :: l) = x.get e :: getAll e l := rfl
end
attribute [simp] nat? slen strBin
attribute [simp] volIn normH rowsOf preOwn outsOf pickExit getC setC frz1 frzA fresh1 freshA reb1 rebA tgt
@[simp] theorem isS_bool (b : Bool) : (AV.bool b).isS = true := by simp only [AV.isS]
@[simp] theorem isS_int (k : IntKind) (n : Int) : (AV.int k n).isS = true := by simp only [AV.isS]
@[simp] theorem isS_str (s : List UInt8) : (AV.str s).isS = true := by simp only [AV.isS]
@[simp] theorem isS_lst (f : Bool) (es : List AV) : (AV.lst f es).isS = true := by simp only [AV.isS]
@[simp] theorem isS_own (b v o n : Nat) : (AV.own b v o n).isS = false := by simp only [AV.isS]
@[simp] theorem isS_mpv (b : Nat) : (AV.mpv b).isS = false := by simp only [AV.isS]
@[simp] theorem isS_ptr (b v o n : Nat) : (AV.ptr b v o n).isS = false := by simp only [AV.isS]
@[simp] theorem isE_bool (b : Bool) : (AV.bool b).isE = true := by simp only [AV.isE, AV.isS]
@[simp] theorem isE_int (k : IntKind) (n : Int) : (AV.int k n).isE = true := by simp only [AV.isE, AV.isS]
@[simp] theorem isE_str (s : List UInt8) : (AV.str s).isE = true := by simp only [AV.isE, AV.isS]
@[simp] theorem isE_lst (f : Bool) (es : List AV) : (AV.lst f es).isE = true := by simp only [AV.isE, AV.isS]
@[simp] theorem isE_agg (cs : List AV) : (AV.agg cs).isE = cs.all AV.isS := by rw [AV.isE]
@[simp] theorem isE_own (b v o n : Nat) : (AV.own b v o n).isE = false := by simp only [AV.isE, AV.isS]
@[simp] theorem isE_mpv (b : Nat) : (AV.mpv b).isE = false := by simp only [AV.isE, AV.isS]
@[simp] theorem isE_ptr (b v o n : Nat) : (AV.ptr b v o n).isE = false := by simp only [AV.isE, AV.isS]
@[simp] theorem isE_dead : AV.dead.isE = false := by simp only [AV.isE, AV.isS]
@[simp] theorem isE_undef : AV.undef.isE = false := by simp only [AV.isE, AV.isS]
@[simp] theorem isE_fn (f : Fn) (a c : List AV) : (AV.fn f a c).isE = false := by simp only [AV.isE, AV.isS]
@[simp] theorem isP_bool (b : Bool) : (AV.bool b).isP = true := by simp only [AV.isP, AV.isE, AV.isS]
@[simp] theorem isP_int (k : IntKind) (n : Int) : (AV.int k n).isP = true := by simp only [AV.isP, AV.isE, AV.isS]
@[simp] theorem isP_str (s : List UInt8) : (AV.str s).isP = true := by simp only [AV.isP, AV.isE, AV.isS]
@[simp] theorem isP_lst (f : Bool) (es : List AV) : (AV.lst f es).isP = true := by simp only [AV.isP, AV.isE, AV.isS]
@[simp] theorem isP_agg (cs : List AV) : (AV.agg cs).isP = cs.all AV.isS := by rw [AV.isP, AV.isE]; simp
@[simp] theorem isP_tup (vs : List AV) : (AV.tup vs).isP = vs.all AV.isE := by rw [AV.isP]
@[simp] theorem isP_own (b v o n : Nat) : (AV.own b v o n).isP = false := by simp only [AV.isP, AV.isE, AV.isS]
@[simp] theorem cells_bool (b : Bool) : (AV.bool b).cells = [.bool b] := rfl
@[simp] theorem cells_int (k : IntKind) (n : Int) : (AV.int k n).cells = [.int k n] := rfl
@[simp] theorem cells_str (s : List UInt8) : (AV.str s).cells = [.str s] := rfl
@[simp] theorem cells_lst (f : Bool) (es : List AV) : (AV.lst f es).cells = [.lst f es] := rfl
@[simp] theorem cells_own (b v o n : Nat) : (AV.own b v o n).cells = [.own b v o n] := rfl
@[simp] theorem cells_mpv (b : Nat) : (AV.mpv b).cells = [.mpv b] := rfl
@[simp] theorem cells_ptr (b v o n : Nat) : (AV.ptr b v o n).cells = [.ptr b v o n] := rfl
@[simp] theorem cells_agg (cs : List AV) : (AV.agg cs).cells = cs := rfl
@[simp] theorem isNil_nilp (neg : Bool) : isNil .pt neg .nilp = some (.bool (!neg)) := rfl
@[simp] theorem isNil_ptr (neg : Bool) (b v i o : Nat) : isNil .pt neg (.ptr b v i o) = some (.bool neg) := rfl
@[simp] theorem isNil_rptr (neg : Bool) (cs : List AV) : isNil .pt neg (.rptr cs) = some (.bool neg) := rfl
@[simp] theorem isNil_nilf (neg : Bool) : isNil .fn neg .nilf = some (.bool (!neg)) := rfl
@[simp] theorem isNil_fn (neg : Bool) (f : Fn) (a c : List AV) : isNil .fn neg (.fn f a c) = some (.bool neg) := rfl
@[simp] theorem isNil_nili (neg : Bool) : isNil .ifc neg .nili = some (.bool (!neg)) := rfl
@[simp] theorem isNil_ifc (neg : Bool) (t : TypeId) (v : AV) : isNil .ifc neg (.ifc t v) = some (.bool neg) := rfl
@[simp] theorem isNil_lst (neg : Bool) (f : Bool) (x : AV) (l : List AV) : isNil .sl neg (.lst f (x :: l)) = some (.bool neg) := rfl
@[simp] theorem isNil_own (neg : Bool) (b v o n : Nat) : isNil .sl neg (.own b v o (n + 1)) = some (.bool neg) := rfl
@[simp] theorem shape_cell (x : AV) (l : List AV) : shape 1 false (x :: l) = some x := by simp [shape]
@[simp] theorem shape_agg (cs : List AV) : shape cs.length true cs = some (.agg cs) := by simp [shape]
@[simp] theorem shape_agg3 (a b c : AV) : shape 3 true [a, b, c] = some (.agg [a, b, c]) := by simp [shape]
@[simp] theorem shape_agg2 (a b : AV) : shape 2 true [a, b] = some (.agg [a, b]) := by simp [shape]
@[simp] theorem shape_agg4 (a b c d : AV) : shape 4 true [a, b, c, d] = some (.agg [a, b, c, d]) := by simp [shape]
@[simp] theorem shape_agg5 (a b c d e : AV) : shape 5 true [a, b, c, d, e] = some (.agg [a, b, c, d, e]) := by simp [shape]
@[simp] theorem shape_agg6 (a b c d e f : AV) : shape 6 true [a, b, c, d, e, f] = some (.agg [a, b, c, d, e, f]) := by simp [shape]
@[simp] theorem cellsAt_rptr (h : AH) (cs : List AV) : cellsAt h (.rptr cs) = some cs := rfl
@[simp] theorem elems_lst (h : AH) (f : Bool) (es : List AV) : elems h (.lst f es) = some es := rfl
@[simp] theorem szOk_nil (sz : Nat) : szOk sz [] = true := rfl
@[simp] theorem szOk_cons (sz : Nat) (x : AV) (l : List AV) : szOk sz (x :: l) = ((x.cells.length == sz) && szOk sz l) := rfl
@[simp] theorem szOk_append (sz : Nat) (l l' : List AV) : szOk sz (l ++ l') = (szOk sz l && szOk sz l') := by simp [szOk]
@[simp] theorem szOk_ints {α : Type} (k : IntKind) (f : α → Int) (l : List α) : szOk 1 (l.map fun x => AV.int k (f x)) = true := by simp [szOk]
@[simp] theorem szOk_int (k : IntKind) (l : List Int) : szOk 1 (l.map (AV.int k)) = true := by simp [szOk]
@[simp] theorem szOk_replicate (k : IntKind) (x : Int) (n : Nat) : szOk 1 (List.replicate n (AV.int k x)) = true := by simp [szOk]
@[simp] theorem normV_own (L : Nat) (R : List Nat) (h : AH) (b v o n : Nat) : normV L R h (.own b v o n) = normS L R h (.own b v o n) := by simp only [normV, isE_own, Bool.false_eq_true, if_false]
@[simp] theorem dropR_int (R : List Nat) (k : IntKind) (n : Int) : dropR R (.int k n) = .int k n := by simp [dropR]
@[simp] theorem dropR_bool (R : List Nat) (b : Bool) : dropR R (.bool b) = .bool b := by simp [dropR]
@[simp] theorem dropR_str (R : List Nat) (x : List UInt8) : dropR R (.str x) = .str x := by simp [dropR]
@[simp] theorem dropR_lst (R : List Nat) (f : Bool) (es : List AV) : dropR R (.lst f es) = .lst f es := by simp [dropR]
theorem baseEnv_cons (r : Nat) (R : List Nat) (e : Env) (i : Nat) : baseEnv (r :: R) e i = dropR (r :: R) (e i) := rfl
attribute [simp] baseEnv_cons
@[simp] theorem baseEnv_nil (e : Env) : baseEnv [] e = e := rfl
end Go.Am

/-
 The abstract machine: what operations make, by their values: rules.
-/
namespace Go.Am
def vPick (c a b : AV) (h : AH) : Option (AV × AH) := match c with
 | .bool t => some (if t then a else b, h)
 | _ => none
@[simp] theorem vPick_bool (t : Bool) (a b : AV) (h : AH) : vPick (.bool t) a b h = some (if t then a else b, h) := rfl
def vNck (v : AV) (h : AH) : Option (AV × AH) := match v with
 | .ptr b v i o => some (.ptr b v i o, h)
 | .rptr cs => some (.rptr cs, h)
 | .fn f a c => match f with | .func g => some (.fn (.func g) a c, h) | _ => none
 | _ => none
@[simp] theorem vNck_ptr (b v i o : Nat) (h : AH) : vNck (.ptr b v i o) h = some (.ptr b v i o, h) := rfl
@[simp] theorem vNck_rptr (cs : List AV) (h : AH) : vNck (.rptr cs) h = some (.rptr cs, h) := rfl
@[simp] theorem vNck_fn (g : FuncId) (a c : List AV) (h : AH) : vNck (.fn (.func g) a c) h = some (.fn (.func g) a c, h) := rfl
def vBeq (neg : Bool) (u v : AV) (h : AH) : Option (AV × AH) := match u, v with
 | .bool a, .bool b => some (.bool (if neg then !decide (a = b) else decide (a = b)), h)
 | _, _ => none
@[simp] theorem vBeq_bool (neg a b : Bool) (h : AH) : vBeq neg (.bool a) (.bool b) h = some (.bool (if neg then !decide (a = b) else decide (a = b)), h) := rfl
def vSeq (neg : Bool) (ks : List Nat) (u v : AV) (h : AH) : Option (AV × AH) := match u, v with
 | .agg a, .agg b => (cellsEq ks a b).bind fun r => if a.length = ks.length ∧ b.length = ks.length then some (.bool (if neg then !r else r), h) else none
 | _, _ => none
@[simp] theorem vSeq_agg (neg : Bool) (ks : List Nat) (a b : List AV) (h : AH) : vSeq neg ks (.agg a) (.agg b) h = @bnd _ _ (cellsEq ks a b) ⟨fun r => if a.length = ks.length ∧ b.length = ks.length then some (.bool (if neg then !r else r), h) else none⟩ := rfl
def vConv (k : IntKind) (v : AV) (h : AH) : Option (AV × AH) := match v with
 | .int _ n => some (.int k (k.wrap n), h)
 | _ => none
@[simp] theorem vConv_int (k k' : IntKind) (n : Int) (h : AH) : vConv k (.int k' n) h = some (.int k (k.wrap n), h) := rfl
def vCstr (v : AV) (h : AH) : Option (AV × AH) := match v with
 | .str s => some (.str s, h)
 | _ => none
@[simp] theorem vCstr_str (s : List UInt8) (h : AH) : vCstr (.str s) h = some (.str s, h) := rfl
def vStb (v : AV) (h : AH) : Option (AV × AH) := match v with
 | .str s => some (.lst false (s.map fun c => .int .u8 (c.toNat : Int)), h)
 | _ => none
@[simp] theorem vStb_str (s : List UInt8) (h : AH) : vStb (.str s) h = some (.lst false (s.map fun c => .int .u8 (c.toNat : Int)), h) := rfl
def vCsl (x : AV) (h : AH) : Option (AV × AH) := match x with
 | .own b v o n => match h[b]? with
  | some (.row v' sz es) => if v = v' ∧ o + n ≤ es.length ∧ 0 < n then some (.lst false ((es.drop o).take n), h.set b (.fro v' sz es)) else none
  | _ => none
 | _ => none
def vCslB (v o n b : Nat) (h : AH) (x : Option AB) : Option (AV × AH) := match x with
 | some (.row v' sz es) => if v = v' ∧ o + n ≤ es.length ∧ 0 < n then some (.lst false ((es.drop o).take n), h.set b (.fro v' sz es)) else none
 | _ => none
@[simp] theorem vCsl_own (b v o n : Nat) (h : AH) : vCsl (.own b v o n) h = vCslB v o n b h h[b]? := rfl
@[simp] theorem vCslB_row (v o n b : Nat) (h : AH) (v' sz : Nat) (es : List AV) : vCslB v o n b h (some (.row v' sz es)) = if v = v' ∧ o + n ≤ es.length ∧ 0 < n then some (.lst false ((es.drop o).take n), h.set b (.fro v' sz es)) else none := rfl
def optV (d : Nat) : Option AV → Option Nat
 | none => some d
 | some v => nat? v
@[simp] theorem optV_none (d : Nat) : optV d none = some d := rfl
@[simp] theorem optV_some (d : Nat) (v : AV) : optV d (some v) = nat? v := rfl
theorem optNat_eq (d : Nat) (e : Env) (x : Option AO) : optNat d e x = optV d (x.map fun y => y.get e) := by cases x <;> rfl
def vMks (sz bytes : Nat) (zero u v : AV) (h : AH) : Option (AV × AH) := match nat? u, nat? v with
 | some n, some m => if n ≤ m ∧ m * bytes ≤ 140737488355328 ∧ m ≤ 140737488355328 then some (.own h.length 0 0 n, h ++ [.row 0 sz (List.replicate n zero)]) else none
 | _, _ => none
@[simp] theorem vMks_int (sz bytes : Nat) (zero : AV) (k k' : IntKind) (n m : Int) (h : AH) : vMks sz bytes zero (.int k n) (.int k' m) h = if 0 ≤ n ∧ 0 ≤ m ∧ n.toNat ≤ m.toNat ∧ m.toNat * bytes ≤ 140737488355328 ∧ m.toNat ≤ 140737488355328 then some (.own h.length 0 0 n.toNat, h ++ [.row 0 sz (List.replicate n.toNat zero)]) else none := by
 unfold vMks nat?
 by_cases h1 : 0 ≤ n <;> by_cases h2 : 0 ≤ m <;> simp [h1, h2]
def vSls (x : AV) (lo hi : Option AV) (h : AH) : Option (AV × AH) := match x with
 | .str s => (optV s.length hi).bind fun b => (optV 0 lo).bind fun a => if a ≤ b ∧ b ≤ s.length then some (.str ((s.take b).drop a), h) else none
 | _ => none
@[simp] theorem vSls_str (s : List UInt8) (lo hi : Option AV) (h : AH) : vSls (.str s) lo hi h = @bnd _ _ (optV s.length hi) ⟨fun b => @bnd _ _ (optV 0 lo) ⟨fun a => if a ≤ b ∧ b ≤ s.length then some (.str ((s.take b).drop a), h) else none⟩⟩ := rfl
def vSll (sz : Nat) (x : AV) (lo hi mx : Option AV) (h : AH) : Option (AV × AH) := match x with
 | .lst full es => (optV es.length hi).bind fun b => (optV 0 lo).bind fun a =>
   match mx with
   | none => if szOk sz es = true ∧ a ≤ b ∧ b ≤ es.length then some (.lst (full && decide (b = es.length)) ((es.take b).drop a), h) else none
   | some m => (nat? m).bind fun m =>
     if szOk sz es = true ∧ hi.isSome = true ∧ a ≤ b ∧ b ≤ m ∧ m ≤ es.length then some (.lst (decide (b = m)) ((es.take b).drop a), h) else none
 | .own r v o n => (optV n hi).bind fun b => (optV 0 lo).bind fun a =>
   match mx with
   | none => if rowSz h r v = some sz ∧ a ≤ b ∧ b ≤ n then some (.own r v (o + a) (b - a), h) else none
   | some m => (nat? m).bind fun m =>
     if rowSz h r v = some sz ∧ hi.isSome = true ∧ a ≤ b ∧ b ≤ m ∧ m ≤ n then some (.own r v (o + a) (b - a), h) else none
 | _ => none
@[simp] theorem vSll_lst (sz : Nat) (full : Bool) (es : List AV) (lo hi : Option AV) (h : AH) : vSll sz (.lst full es) lo hi none h = @bnd _ _ (optV es.length hi) ⟨fun b => @bnd _ _ (optV 0 lo) ⟨fun a => if szOk sz es = true ∧ a ≤ b ∧ b ≤ es.length then some (.lst (full && decide (b = es.length)) ((es.take b).drop a), h) else none⟩⟩ := rfl
@[simp] theorem vSll_own (sz r v o n : Nat) (lo hi : Option AV) (h : AH) : vSll sz (.own r v o n) lo hi none h = @bnd _ _ (optV n hi) ⟨fun b => @bnd _ _ (optV 0 lo) ⟨fun a => if rowSz h r v = some sz ∧ a ≤ b ∧ b ≤ n then some (.own r v (o + a) (b - a), h) else none⟩⟩ := rfl
@[simp] theorem vSll_lst3 (sz : Nat) (full : Bool) (es : List AV) (lo hi : Option AV) (m : AV) (h : AH) : vSll sz (.lst full es) lo hi (some m) h = @bnd _ _ (optV es.length hi) ⟨fun b => @bnd _ _ (optV 0 lo) ⟨fun a => @bnd _ _ (nat? m) ⟨fun m => if szOk sz es = true ∧ hi.isSome = true ∧ a ≤ b ∧ b ≤ m ∧ m ≤ es.length then some (.lst (decide (b = m)) ((es.take b).drop a), h) else none⟩⟩⟩ := rfl
@[simp] theorem vSll_own3 (sz r v o n : Nat) (lo hi : Option AV) (m : AV) (h : AH) : vSll sz (.own r v o n) lo hi (some m) h = @bnd _ _ (optV n hi) ⟨fun b => @bnd _ _ (optV 0 lo) ⟨fun a => @bnd _ _ (nat? m) ⟨fun m => if rowSz h r v = some sz ∧ hi.isSome = true ∧ a ≤ b ∧ b ≤ m ∧ m ≤ n then some (.own r v (o + a) (b - a), h) else none⟩⟩⟩ := rfl
def vFad (off : Nat) (v : AV) (h : AH) : Option (AV × AH) := match v with
 | .ptr b v i o => some (.ptr b v i (o + off), h)
 | .rptr cs => if off ≤ cs.length then some (.rptr (cs.drop off), h) else none
 | _ => none
@[simp] theorem vFad_ptr (off b v i o : Nat) (h : AH) : vFad off (.ptr b v i o) h = some (.ptr b v i (o + off), h) := rfl
@[simp] theorem vFad_rptr (off : Nat) (cs : List AV) (h : AH) : vFad off (.rptr cs) h = if off ≤ cs.length then some (.rptr (cs.drop off), h) else none := rfl
def vFld (off sz : Nat) (agg : Bool) (v : AV) (h : AH) : Option (AV × AH) := match v with
 | .agg cs => if off ≤ cs.length then keepH h (shape sz agg (cs.drop off)) else none
 | _ => none
@[simp] theorem vFld_agg (off sz : Nat) (agg : Bool) (cs : List AV) (h : AH) : vFld off sz agg (.agg cs) h = if off ≤ cs.length then keepH h (shape sz agg (cs.drop off)) else none := rfl
def vIad (sz : Nat) (x i : AV) (h : AH) : Option (AV × AH) := match x with
 | .lst _ es => (nat? i).bind fun n => (es[n]?).bind fun y => if y.cells.length = sz then some (.rptr y.cells, h) else none
 | .own b v o m => (nat? i).bind fun n => if n < m ∧ rowSz h b v = some sz then some (.ptr b v (o + n) 0, h) else none
 | _ => none
@[simp] theorem vIad_lst (sz : Nat) (f : Bool) (es : List AV) (i : AV) (h : AH) : vIad sz (.lst f es) i h = @bnd _ _ (nat? i) ⟨fun n => @bnd _ _ (es[n]?) ⟨fun y => if y.cells.length = sz then some (.rptr y.cells, h) else none⟩⟩ := rfl
@[simp] theorem vIad_own (sz b v o m : Nat) (i : AV) (h : AH) : vIad sz (.own b v o m) i h = @bnd _ _ (nat? i) ⟨fun n => if n < m ∧ rowSz h b v = some sz then some (.ptr b v (o + n) 0, h) else none⟩ := rfl
def vIada (m sz : Nat) (x i : AV) (h : AH) : Option (AV × AH) := (nat? i).bind fun n => if n < m then
   match x with
   | .ptr b v j o => some (.ptr b v j (o + n * sz), h)
   | .rptr cs => if n * sz ≤ cs.length then some (.rptr (cs.drop (n * sz)), h) else none
   | _ => none
   else none
@[simp] theorem vIada_ptr (m sz b v j o : Nat) (i : AV) (h : AH) : vIada m sz (.ptr b v j o) i h = @bnd _ _ (nat? i) ⟨fun n => if n < m then some (.ptr b v j (o + n * sz), h) else none⟩ := rfl
@[simp] theorem vIada_rptr (m sz : Nat) (cs : List AV) (i : AV) (h : AH) : vIada m sz (.rptr cs) i h = @bnd _ _ (nat? i) ⟨fun n => if n < m then (if n * sz ≤ cs.length then some (.rptr (cs.drop (n * sz)), h) else none) else none⟩ := rfl
def vIdxs (x i : AV) (h : AH) : Option (AV × AH) := match x with
 | .str s => (nat? i).bind fun n => (s[n]?).bind fun c => some (.int .u8 c.toNat, h)
 | _ => none
@[simp] theorem vIdxs_str (s : List UInt8) (i : AV) (h : AH) : vIdxs (.str s) i h = @bnd _ _ (nat? i) ⟨fun n => @bnd _ _ (s[n]?) ⟨fun c => some (.int .u8 c.toNat, h)⟩⟩ := rfl
def vIdxa (m sz : Nat) (agg : Bool) (x i : AV) (h : AH) : Option (AV × AH) := match x with
 | .agg cs => (nat? i).bind fun n => if n < m ∧ n * sz ≤ cs.length then keepH h (shape sz agg (cs.drop (n * sz))) else none
 | _ => none
@[simp] theorem vIdxa_agg (m sz : Nat) (agg : Bool) (cs : List AV) (i : AV) (h : AH) : vIdxa m sz agg (.agg cs) i h = @bnd _ _ (nat? i) ⟨fun n => if n < m ∧ n * sz ≤ cs.length then keepH h (shape sz agg (cs.drop (n * sz))) else none⟩ := rfl
def vExt (x : AV) (i : Nat) (h : AH) : Option (AV × AH) := match x with
 | .tup vs => (vs[i]?).bind fun v => some (v, h)
 | _ => none
@[simp] theorem vExt_tup (vs : List AV) (i : Nat) (h : AH) : vExt (.tup vs) i h = @bnd _ _ (vs[i]?) ⟨fun v => some (v, h)⟩ := rfl
def vCallv (Γ : Tab) (f : AV) (args : List AV) (h : AH) : Option (AV × AH) := match f with
 | .fn g first cap => match g with
  | .func g => callA Γ g (first ++ args ++ cap) h
  | _ => none
 | _ => none
@[simp] theorem vCallv_fn (Γ : Tab) (g : FuncId) (first cap args : List AV) (h : AH) : vCallv Γ (.fn (.func g) first cap) args h = callA Γ g (first ++ args ++ cap) h := rfl
def vApps (bytes : Nat) (s x : AV) (h : AH) : Option (AV × AH) := match x with
 | .str t => append h 1 bytes s (t.map fun c => .int .u8 c.toNat)
 | _ => none
@[simp] theorem vApps_str (bytes : Nat) (s : AV) (t : List UInt8) (h : AH) : vApps bytes s (.str t) h = append h 1 bytes s (t.map fun c => .int .u8 c.toNat) := rfl
def vCopyB (sz0 b v o n : Nat) (src : List AV) (h : AH) (X : Option AB) : Option (AV × AH) := match X with
 | some (.row v' sz es) =>
  if v = v' ∧ sz = sz0 ∧ szOk sz0 src = true ∧ o + n ≤ es.length then some (.int .i64 (min src.length n), h.set b (.row v' sz (over es o (src.take n)))) else none
 | _ => none
@[simp] theorem vCopyB_row (sz0 b v o n : Nat) (src : List AV) (h : AH) (v' sz : Nat) (es : List AV) : vCopyB sz0 b v o n src h (some (.row v' sz es)) = if v = v' ∧ sz = sz0 ∧ szOk sz0 src = true ∧ o + n ≤ es.length then some (.int .i64 (min src.length n), h.set b (.row v' sz (over es o (src.take n)))) else none := rfl
def vCopy (sz0 : Nat) (d : AV) (src : List AV) (h : AH) : Option (AV × AH) := match d with
 | .own b v o n => vCopyB sz0 b v o n src h h[b]?
 | .lst _ es => if es = [] then some (.int .i64 0, h) else none
 | _ => none
@[simp] theorem vCopy_own (sz0 b v o n : Nat) (src : List AV) (h : AH) : vCopy sz0 (.own b v o n) src h = vCopyB sz0 b v o n src h h[b]? := rfl
@[simp] theorem vCopy_lst (sz0 : Nat) (f : Bool) (es src : List AV) (h : AH) : vCopy sz0 (.lst f es) src h = if es = [] then some (.int .i64 0, h) else none := rfl
def vMm (isMax : Bool) (vs : List AV) (h : AH) : Option (AV × AH) := match vs with
 | x :: l => keepH h (mmAll isMax x l)
 | [] => none
@[simp] theorem vMm_cons (isMax : Bool) (x : AV) (l : List AV) (h : AH) : vMm isMax (x :: l) h = keepH h (mmAll isMax x l) := rfl
def vClrB (sz0 : Nat) (zero : AV) (b v o n : Nat) (h : AH) (X : Option AB) : Option (AV × AH) := match X with
 | some (.row v' sz es) => if v = v' ∧ sz = sz0 ∧ o + n ≤ es.length then some (.tup [], h.set b (.row v' sz (over es o (List.replicate n zero)))) else none
 | _ => none
@[simp] theorem vClrB_row (sz0 : Nat) (zero : AV) (b v o n : Nat) (h : AH) (v' sz : Nat) (es : List AV) : vClrB sz0 zero b v o n h (some (.row v' sz es)) =
  if v = v' ∧ sz = sz0 ∧ o + n ≤ es.length then some (.tup [], h.set b (.row v' sz (over es o (List.replicate n zero)))) else none := rfl
def vClr (sz0 : Nat) (zero x : AV) (h : AH) : Option (AV × AH) := match x with
 | .own b v o n => vClrB sz0 zero b v o n h h[b]?
 | .lst _ es => if es = [] then some (.tup [], h) else none
 | _ => none
@[simp] theorem vClr_own (sz0 : Nat) (zero : AV) (b v o n : Nat) (h : AH) : vClr sz0 zero (.own b v o n) h = vClrB sz0 zero b v o n h h[b]? := rfl
@[simp] theorem vClr_lst (sz0 : Nat) (zero : AV) (f : Bool) (es : List AV) (h : AH) : vClr sz0 zero (.lst f es) h = if es = [] then some (.tup [], h) else none := rfl
section
variable {Γ : Tab} {e : Env} {h : AH}
@[simp ↓] theorem exec_clr (sz : Nat) (zero : AV) (x : AO) : exec Γ e h (.clr sz zero x) = vClr sz zero (x.get e) h := by
 simp only [exec]
 cases x.get e <;> rfl
@[simp ↓] theorem exec_mv (x : AO) : exec Γ e h (.mv x) = some (x.get e, h) := rfl
@[simp ↓] theorem exec_pick (c a b : AO) : exec Γ e h (.pick c a b) = vPick (c.get e) (a.get e) (b.get e) h := rfl
def mapB (b : Nat) : Option AB → Option (Nat × List (Int × AV))
 | some (.mp es) => some (b, es)
 | _ => none
@[simp] theorem mapB_mp (b : Nat) (es : List (Int × AV)) : mapB b (some (.mp es)) = some (b, es) := rfl
@[simp] theorem mapAt_mpv (h : AH) (b : Nat) : mapAt h (.mpv b) = mapB b h[b]? := by
 simp only [mapAt]
 cases h[b]? with
 | none => rfl
 | some X => cases X <;> rfl
@[simp] theorem keyM_i64 (n : Int) : keyM (.int .i64 n) = some n := rfl
@[simp ↓] theorem exec_mkm : exec Γ e h .mkm = some (.mpv h.length, h ++ [.mp []]) := rfl
@[simp ↓] theorem exec_mget (zero : AV) (m k : AO) : exec Γ e h (.mget zero m k) = @bnd _ _ (mapAt h (m.get e)) ⟨fun p => @bnd _ _ (keyM (k.get e)) ⟨fun n => some (lookM p.2 n zero, h)⟩⟩ := rfl
@[simp ↓] theorem exec_mput (m k x : AO) : exec Γ e h (.mput m k x) = @bnd _ _ (mapAt h (m.get e)) ⟨fun p => @bnd _ _ (keyM (k.get e)) ⟨fun n => if (x.get e).okc = true then some (.undef, h.set p.1 (.mp (putM p.2 n (x.get e)))) else none⟩⟩ := rfl
@[simp ↓] theorem exec_mlen (m : AO) : exec Γ e h (.mlen m) = @bnd _ _ (mapAt h (m.get e)) ⟨fun p => some (.int .i64 p.2.length, h)⟩ := rfl
@[simp ↓] theorem exec_alloc (zero : List AV) : exec Γ e h (.alloc zero) = some (.ptr h.length 0 0 0, h ++ [.var zero]) := rfl
@[simp ↓] theorem exec_box (x : AO) : exec Γ e h (.box x) = if (x.get e).cells.all AV.okc then some (.ptr h.length 0 0 0, h ++ [.var (x.get e).cells]) else none := rfl
@[simp ↓] theorem exec_build (zero : List AV) (ps : List (Nat × Nat × AO)) : exec Γ e h (.build zero ps) = @bnd _ _ (parts e ps zero) ⟨fun cs => some (.agg cs, h)⟩ := rfl
@[simp ↓] theorem exec_bsl (sz : Nat) (zero : AV) (len : Nat) (ps : List (Nat × AO)) : exec Γ e h (.bsl sz zero len ps) = @bnd _ _ (bpartsP e sz ps (List.replicate len zero)) ⟨fun es => some (.lst true es, h)⟩ := rfl
@[simp ↓] theorem exec_bslo (sz : Nat) (zero : AV) (len : Nat) (ps : List (Nat × AO)) : exec Γ e h (.bslo sz zero len ps) = @bnd _ _ (bparts e sz ps (List.replicate len zero) h) ⟨fun p => some (.own p.2.length 0 0 p.1.length, p.2 ++ [.row 0 sz p.1])⟩ := rfl
@[simp ↓] theorem exec_bslh (sz : Nat) (zero : AV) (len : Nat) (ps : List (Nat × AO)) : exec Γ e h (.bslh sz zero len ps) = @bnd _ _ (bparts e sz ps (List.replicate len zero) h) ⟨fun p => some (.lst true p.1, p.2)⟩ := rfl
@[simp ↓] theorem exec_load (sz : Nat) (agg : Bool) (a : AO) : exec Γ e h (.load sz agg a) = @bnd _ _ (cellsAt h (a.get e)) ⟨fun cs => keepH h (shape sz agg cs)⟩ := rfl
@[simp ↓] theorem exec_storer (sz : Nat) (a x : AO) : exec Γ e h (.storer sz a x) = if isVarB h (a.get e) = true then @bnd _ _ (storeAt h sz (a.get e) (x.get e)) ⟨fun q => some (.undef, q)⟩ else none := rfl
@[simp ↓] theorem exec_loadx (sz : Nat) (agg : Bool) (a : AO) (q : Nat) : exec Γ e h (.loadx sz agg a q) = if farFrom (e q) (a.get e) = true then @bnd _ _ (cellsAt h (a.get e)) ⟨fun cs => keepH h (shape sz agg cs)⟩ else none := rfl
@[simp] theorem farFrom_ptr (b v i o b' v' i' o' : Nat) : farFrom (.ptr b v i o) (.ptr b' v' i' o') = decide (b ≠ b') := rfl
@[simp] theorem farFrom_rptr (b v i o : Nat) (cs : List AV) : farFrom (.ptr b v i o) (.rptr cs) = true := rfl
@[simp] theorem isVarB_ptr (h : AH) (b v i o : Nat) : isVarB h (.ptr b v i o) = match h[b]? with | some (.var _) => true | _ => false := rfl
@[simp ↓] theorem exec_store (sz : Nat) (a x : AO) : exec Γ e h (.store sz a x) = @bnd _ _ (storeAt h sz (a.get e) (x.get e)) ⟨fun q => some (.undef, q)⟩ := rfl
@[simp ↓] theorem exec_nck (x : AO) : exec Γ e h (.nck x) = vNck (x.get e) h := rfl
@[simp ↓] theorem exec_bin (op : BinOp) (x y : AO) : exec Γ e h (.bin op x y) = keepH h (bin op (x.get e) (y.get e)) := rfl
@[simp ↓] theorem exec_beq (neg : Bool) (x y : AO) : exec Γ e h (.beq neg x y) = vBeq neg (x.get e) (y.get e) h := rfl
@[simp ↓] theorem exec_seq (neg : Bool) (ks : List Nat) (x y : AO) : exec Γ e h (.seq neg ks x y) = vSeq neg ks (x.get e) (y.get e) h := rfl
@[simp ↓] theorem exec_un (op : UnOp) (x : AO) : exec Γ e h (.un op x) = keepH h (un op (x.get e)) := rfl
@[simp ↓] theorem exec_conv (k : IntKind) (x : AO) : exec Γ e h (.conv k x) = vConv k (x.get e) h := rfl
@[simp ↓] theorem exec_cstr (x : AO) : exec Γ e h (.cstr x) = vCstr (x.get e) h := rfl
@[simp ↓] theorem exec_calls (f : FuncId) (args : List AO) : exec Γ e h (.calls f args) = sameH h (callA Γ f (getAll e args) h) := rfl
@[simp ↓] theorem exec_loadv (sz : Nat) (agg : Bool) (t : Nat) : exec Γ e h (.loadv sz agg t) = if isVarB h (e t) = true then @bnd _ _ (cellsAt h (e t)) ⟨fun cs => @bnd _ _ (shape sz agg cs) ⟨fun v => some (v, h)⟩⟩ else none := rfl
@[simp ↓] theorem exec_stb (x : AO) : exec Γ e h (.stb x) = vStb (x.get e) h := rfl
@[simp ↓] theorem exec_csl (x : AO) : exec Γ e h (.csl x) = vCsl (x.get e) h := rfl
@[simp ↓] theorem exec_bts (x : AO) : exec Γ e h (.bts x) = @bnd _ _ (elems h (x.get e)) ⟨fun es => @bnd _ _ (toBytes es) ⟨fun s => some (.str s, h)⟩⟩ := rfl
@[simp ↓] theorem exec_mki (t : TypeId) (x : AO) : exec Γ e h (.mki t x) = some (.ifc t (x.get e), h) := rfl
@[simp ↓] theorem exec_mkf (f : Fn) (a c : List AO) : exec Γ e h (.mkf f a c) = some (.fn f (getAll e a) (getAll e c), h) := rfl
@[simp ↓] theorem exec_mks (sz bytes : Nat) (zero : AV) (l c : AO) : exec Γ e h (.mks sz bytes zero l c) = vMks sz bytes zero (l.get e) (c.get e) h := rfl
@[simp ↓] theorem exec_sls (x : AO) (lo hi : Option AO) : exec Γ e h (.sls x lo hi) = vSls (x.get e) (lo.map fun y => y.get e) (hi.map fun y => y.get e) h := by simp only [exec, vSls, optNat_eq]; rfl
@[simp ↓] theorem exec_sll (sz : Nat) (x : AO) (lo hi mx : Option AO) : exec Γ e h (.sll sz x lo hi mx) = vSll sz (x.get e) (lo.map fun y => y.get e) (hi.map fun y => y.get e) (mx.map fun y => y.get e) h := by
 cases mx <;> simp only [exec, vSll, optNat_eq, Option.map, Option.isSome_map] <;> cases x.get e <;> cases hi <;> rfl
@[simp ↓] theorem exec_fad (off : Nat) (x : AO) : exec Γ e h (.fad off x) = vFad off (x.get e) h := rfl
@[simp ↓] theorem exec_fld (off sz : Nat) (agg : Bool) (x : AO) : exec Γ e h (.fld off sz agg x) = vFld off sz agg (x.get e) h := rfl
@[simp ↓] theorem exec_iad (sz : Nat) (x i : AO) : exec Γ e h (.iad sz x i) = vIad sz (x.get e) (i.get e) h := rfl
@[simp ↓] theorem exec_iada (m sz : Nat) (x i : AO) : exec Γ e h (.iada m sz x i) = vIada m sz (x.get e) (i.get e) h := rfl
@[simp ↓] theorem exec_idxs (x i : AO) : exec Γ e h (.idxs x i) = vIdxs (x.get e) (i.get e) h := rfl
@[simp ↓] theorem exec_idxa (m sz : Nat) (agg : Bool) (x i : AO) : exec Γ e h (.idxa m sz agg x i) = vIdxa m sz agg (x.get e) (i.get e) h := rfl
@[simp ↓] theorem exec_ext (x : AO) (i : Nat) : exec Γ e h (.ext x i) = vExt (x.get e) i h := rfl
@[simp ↓] theorem exec_call (f : FuncId) (args : List AO) : exec Γ e h (.call f args) = callA Γ f (getAll e args) h := rfl
@[simp ↓] theorem exec_callp (f : FuncId) (args : List AO) : exec Γ e h (.callp f args) = if (getAll e args).all AV.isE then keepH h (Γ.p f (getAll e args)) else none := rfl
@[simp ↓] theorem exec_callv (f : AO) (args : List AO) : exec Γ e h (.callv f args) = vCallv Γ (f.get e) (getAll e args) h := rfl
def vLoadr (sz : Nat) (agg : Bool) (a : AV) (h : AH) : Option (AV × AH) := match a with
 | .rptr cs => keepH h (shape sz agg cs)
 | _ => none
@[simp] theorem vLoadr_rptr (sz : Nat) (agg : Bool) (cs : List AV) (h : AH) : vLoadr sz agg (.rptr cs) h = keepH h (shape sz agg cs) := rfl
noncomputable def vCallr (Γ : Tab) (f : AV) (args : List AV) (h : AH) : Option (AV × AH) := match f with
 | .fn g first cap => match g with
  | .func g => sameH h (callA Γ g (first ++ args ++ cap) h)
  | _ => none
 | _ => none
@[simp] theorem vCallr_fn (g : FuncId) (first cap args : List AV) (h : AH) : vCallr Γ (.fn (.func g) first cap) args h = sameH h (callA Γ g (first ++ args ++ cap) h) := rfl
@[simp] theorem sameH_same (h : AH) (r : AV) : sameH h (some (r, h)) = some (r, h) := by simp [sameH]
@[simp ↓] theorem exec_callq (f : FuncId) (args : List AO) : exec Γ e h (.callq f args) = if (getAll e args).all AV.isE then @bnd _ _ (@bnd _ _ (Γ.h f (getAll e args) []) ⟨fun p => purP p.2 p.1⟩) ⟨fun p => some (p.1, h)⟩ else none := rfl
@[simp ↓] theorem exec_rbox (x : AO) : exec Γ e h (.rbox x) = if (x.get e).cells.all AV.isS then some (.rptr (x.get e).cells, h) else none := rfl
@[simp ↓] theorem exec_loadr (sz : Nat) (agg : Bool) (a : AO) : exec Γ e h (.loadr sz agg a) = vLoadr sz agg (a.get e) h := rfl
@[simp ↓] theorem exec_calla (f : FuncId) (args : List AO) : exec Γ e h (.calla f args) = growH h (callA Γ f (getAll e args) h) := rfl
open Classical in
@[simp] theorem growH_some (h h' : AH) (r : AV) : growH h (some (r, h')) = if h'.take h.length = h then some (r, h') else none := rfl
noncomputable def vCallra (Γ : Tab) (f : AV) (args : List AV) (h : AH) : Option (AV × AH) := match f with
 | .fn g first cap => match g with
  | .func g => growH h (callA Γ g (first ++ args ++ cap) h)
  | _ => none
 | _ => none
@[simp] theorem vCallra_fn (g : FuncId) (first cap args : List AV) (h : AH) : vCallra Γ (.fn (.func g) first cap) args h = growH h (callA Γ g (first ++ args ++ cap) h) := rfl
@[simp ↓] theorem exec_callra (f : AO) (args : List AO) : exec Γ e h (.callra f args) = vCallra Γ (f.get e) (getAll e args) h := rfl
@[simp ↓] theorem exec_callr (f : AO) (args : List AO) : exec Γ e h (.callr f args) = vCallr Γ (f.get e) (getAll e args) h := rfl
@[simp ↓] theorem exec_app (sz bytes : Nat) (s x : AO) : exec Γ e h (.app sz bytes s x) = @bnd _ _ (elems h (x.get e)) ⟨fun news => append h sz bytes (s.get e) news⟩ := rfl
@[simp ↓] theorem exec_appz (sz bytes : Nat) (zero : AV) (s x : AO) : exec Γ e h (.appz sz bytes zero s x) = @bnd _ _ (nat? (x.get e)) ⟨fun n => append h sz bytes (s.get e) (List.replicate n zero)⟩ := rfl
@[simp ↓] theorem exec_apps (bytes : Nat) (s x : AO) : exec Γ e h (.apps bytes s x) = vApps bytes (s.get e) (x.get e) h := rfl
@[simp ↓] theorem exec_copy (sz0 : Nat) (d s : AO) : exec Γ e h (.copy sz0 d s) = @bnd _ _ (elems h (s.get e)) ⟨fun src => vCopy sz0 (d.get e) src h⟩ := by
 simp only [exec]
 congr 1
@[simp ↓] theorem exec_len (str : Bool) (x : AO) : exec Γ e h (.len str x) = @bnd _ _ (slen str (x.get e)) ⟨fun n => some (.int .i64 n, h)⟩ := rfl
@[simp ↓] theorem exec_lena (n : Nat) : exec Γ e h (.lena n) = some (.int .i64 n, h) := rfl
@[simp ↓] theorem exec_mm (isMax : Bool) (xs : List AO) : exec Γ e h (.mm isMax xs) = vMm isMax (getAll e xs) h := rfl
@[simp ↓] theorem exec_no : exec Γ e h .no = none := rfl
@[simp ↓] theorem exec_isnil (k : NK) (neg : Bool) (x : AO) : exec Γ e h (.isnil k neg x) = keepH h (isNil k neg (x.get e)) := rfl
@[simp] theorem keepH_some (v : AV) : keepH h (some v) = some (v, h) := rfl
end
def storeB (h : AH) (sz b v i o : Nat) (x : AV) : Option AB → Option AH
 | some (.var cs) => if v = 0 ∧ i = 0 ∧ x.cells.all AV.okc = true ∧ x.cells.length = sz ∧ o + sz ≤ cs.length then some (h.set b (.var (over cs o x.cells))) else none
 | some (.row _ _ _) => (purE h x).bind fun (x', h') =>
   match h'[b]? with
   | some (.row v' sz' es) => (es[i]?).bind fun e =>
    if v = v' ∧ x'.cells.all AV.isS = true ∧ x'.cells.length = sz ∧ o + sz ≤ e.cells.length then some (h'.set b (.row v' sz' (es.set i (e.withCells (over e.cells o x'.cells))))) else none
   | _ => none
 | _ => none
def storeR (h' : AH) (sz b v i o : Nat) (x' : AV) : Option AB → Option AH
 | some (.row v' sz' es) => (es[i]?).bind fun e =>
   if v = v' ∧ x'.cells.all AV.isS = true ∧ x'.cells.length = sz ∧ o + sz ≤ e.cells.length then some (h'.set b (.row v' sz' (es.set i (e.withCells (over e.cells o x'.cells))))) else none
 | _ => none
@[simp] theorem storeAt_ptr (h : AH) (sz b v i o : Nat) (x : AV) : storeAt h sz (.ptr b v i o) x = storeB h sz b v i o x h[b]? := by
 simp only [storeAt]
 cases h[b]? with
 | none => rfl
 | some X => cases X <;> rfl
@[simp] theorem storeB_var (h : AH) (sz b v i o : Nat) (x : AV) (cs : List AV) : storeB h sz b v i o x (some (.var cs)) = if v = 0 ∧ i = 0 ∧ x.cells.all AV.okc = true ∧ x.cells.length = sz ∧ o + sz ≤ cs.length then some (h.set b (.var (over cs o x.cells))) else none := rfl
@[simp] theorem storeB_row (h : AH) (sz b v i o : Nat) (x : AV) (v' sz' : Nat) (es : List AV) : storeB h sz b v i o x (some (.row v' sz' es)) = @bnd _ _ (purE h x) ⟨fun p => storeR p.2 sz b v i o p.1 p.2[b]?⟩ := by
 simp only [storeB]
 congr 1
@[simp] theorem storeR_row (h' : AH) (sz b v i o : Nat) (x' : AV) (v' sz' : Nat) (es : List AV) : storeR h' sz b v i o x' (some (.row v' sz' es)) = @bnd _ _ (es[i]?) ⟨fun e => if v = v' ∧ x'.cells.all AV.isS = true ∧ x'.cells.length = sz ∧ o + sz ≤ e.cells.length then some (h'.set b (.row v' sz' (es.set i (e.withCells (over e.cells o x'.cells))))) else none⟩ := rfl
def cellsB (v i o : Nat) : Option AB → Option (List AV)
 | some (.var cs) => if v = 0 ∧ i = 0 ∧ o ≤ cs.length then some (cs.drop o) else none
 | some (.row v' _ es) => if v = v' then (es[i]?).bind fun x => if o ≤ x.cells.length then some (x.cells.drop o) else none else none
 | some (.fro v' _ es) => if v = v' then (es[i]?).bind fun x => if o ≤ x.cells.length then some (x.cells.drop o) else none else none
 | _ => none
@[simp] theorem cellsAt_ptr (h : AH) (b v i o : Nat) : cellsAt h (.ptr b v i o) = cellsB v i o h[b]? := by
 simp only [cellsAt]
 cases h[b]? with
 | none => rfl
 | some X => cases X <;> rfl
@[simp] theorem cellsB_var (v i o : Nat) (cs : List AV) : cellsB v i o (some (.var cs)) = if v = 0 ∧ i = 0 ∧ o ≤ cs.length then some (cs.drop o) else none := rfl
@[simp] theorem cellsB_row (v i o v' sz : Nat) (es : List AV) : cellsB v i o (some (.row v' sz es)) = if v = v' then @bnd _ _ (es[i]?) ⟨fun x => if o ≤ x.cells.length then some (x.cells.drop o) else none⟩ else none := rfl
@[simp] theorem cellsB_fro (v i o v' sz : Nat) (es : List AV) : cellsB v i o (some (.fro v' sz es)) = if v = v' then @bnd _ _ (es[i]?) ⟨fun x => if o ≤ x.cells.length then some (x.cells.drop o) else none⟩ else none := rfl
def elemsB (v o n : Nat) : Option AB → Option (List AV)
 | some (.row v' _ es) => if v = v' ∧ o + n ≤ es.length then some ((es.drop o).take n) else none
 | some (.fro v' _ es) => if v = v' ∧ o + n ≤ es.length then some ((es.drop o).take n) else none
 | _ => none
@[simp] theorem elems_own (h : AH) (b v o n : Nat) : elems h (.own b v o n) = elemsB v o n h[b]? := by
 simp only [elems]
 cases h[b]? with
 | none => rfl
 | some X => cases X <;> rfl
@[simp] theorem elemsB_row (v o n v' sz : Nat) (es : List AV) : elemsB v o n (some (.row v' sz es)) = if v = v' ∧ o + n ≤ es.length then some ((es.drop o).take n) else none := rfl
@[simp] theorem elemsB_fro (v o n v' sz : Nat) (es : List AV) : elemsB v o n (some (.fro v' sz es)) = if v = v' ∧ o + n ≤ es.length then some ((es.drop o).take n) else none := rfl
def rowSzB (v : Nat) : Option AB → Option Nat
 | some (.row v' sz _) => if v = v' then some sz else none
 | some (.fro v' sz _) => if v = v' then some sz else none
 | _ => none
@[simp] theorem rowSz_eq (h : AH) (b v : Nat) : rowSz h b v = rowSzB v h[b]? := by
 simp only [rowSz]
 cases h[b]? with
 | none => rfl
 | some X => cases X <;> rfl
@[simp] theorem rowSzB_row (v v' sz : Nat) (es : List AV) : rowSzB v (some (.row v' sz es)) = if v = v' then some sz else none := rfl
@[simp] theorem rowSzB_fro (v v' sz : Nat) (es : List AV) : rowSzB v (some (.fro v' sz es)) = if v = v' then some sz else none := rfl
def appendB (h : AH) (sz bytes b v o n : Nat) (news : List AV) : Option AB → Option (AV × AH)
 | some (.row v' sz' es) =>
   if v = v' ∧ sz' = sz ∧ szOk sz news = true ∧ o + n ≤ es.length ∧ (n + news.length) * bytes ≤ 140737488355328 ∧ n + news.length ≤ 140737488355328 then
    some (.own b (v + 1) 0 (n + news.length), h.set b (.row (v + 1) sz ((es.drop o).take n ++ news)))
   else none
 | _ => none
@[simp] theorem append_own (h : AH) (sz bytes b v o n : Nat) (news : List AV) : append h sz bytes (.own b v o n) news = appendB h sz bytes b v o n news h[b]? := by
 simp only [append]
 cases h[b]? with
 | none => rfl
 | some X => cases X <;> rfl
@[simp] theorem appendB_row (h : AH) (sz bytes b v o n : Nat) (news : List AV) (v' sz' : Nat) (es : List AV) : appendB h sz bytes b v o n news (some (.row v' sz' es)) = if v = v' ∧ sz' = sz ∧ szOk sz news = true ∧ o + n ≤ es.length ∧ (n + news.length) * bytes ≤ 140737488355328 ∧ n + news.length ≤ 140737488355328 then some (.own b (v + 1) 0 (n + news.length), h.set b (.row (v + 1) sz ((es.drop o).take n ++ news))) else none := rfl
@[simp] theorem append_lst (h : AH) (sz bytes : Nat) (es news : List AV) : append h sz bytes (.lst true es) news = if (es = [] ∨ news ≠ []) ∧ szOk sz es = true ∧ szOk sz news = true ∧ (es.length + news.length) * bytes ≤ 140737488355328 ∧ es.length + news.length ≤ 140737488355328 then some (.own h.length 0 0 (es.length + news.length), h ++ [.row 0 sz (es ++ news)]) else none := rfl
def normO (b v o n : Nat) : Option AB → AV
 | some (.row v' _ _) => if v = v' then .own b 0 o n else .dead
 | some (.fro v' _ _) => if v = v' then .own b 0 o n else .dead
 | _ => .dead
@[simp] theorem normO_row (b v o n v' sz : Nat) (es : List AV) : normO b v o n (some (.row v' sz es)) = if v = v' then .own b 0 o n else .dead := rfl
@[simp] theorem normO_fro (b v o n v' sz : Nat) (es : List AV) : normO b v o n (some (.fro v' sz es)) = if v = v' then .own b 0 o n else .dead := rfl
def normL : Option (List AV) → AV
 | some es => .lst false es
 | none => .dead
@[simp] theorem normL_some (es : List AV) : normL (some es) = .lst false es := rfl
theorem normS_own' (L : Nat) (R : List Nat) (h : AH) (b v o n : Nat) : normS L R h (.own b v o n) =
  if b < L then (if R.contains b then normO b v o n h[b]? else .own b v o n) else normL (elems h (.own b v o n)) := by
 simp only [normS]
 split
 ·split
  ·cases h[b]? with
   | none => rfl
   | some X => cases X <;> rfl
  ·rfl
 ·cases elems h (.own b v o n) <;> rfl
attribute [simp] normS_own'
def purO (h : AH) (b v o n : Nat) : Option AB → Option (AV × AH)
 | some (.row v' sz es) => if v = v' ∧ o + n ≤ es.length then some (.lst false ((es.drop o).take n), h.set b (.fro v' sz es)) else none
 | some (.fro v' _ es) => if v = v' ∧ o + n ≤ es.length then some (.lst false ((es.drop o).take n), h) else none
 | _ => none
@[simp] theorem purS_own (h : AH) (b v o n : Nat) : purS h (.own b v o n) = purO h b v o n h[b]? := by
 simp only [purS]
 cases h[b]? with
 | none => rfl
 | some X => cases X <;> rfl
@[simp] theorem purO_row (h : AH) (b v o n v' sz : Nat) (es : List AV) : purO h b v o n (some (.row v' sz es)) = if v = v' ∧ o + n ≤ es.length then some (.lst false ((es.drop o).take n), h.set b (.fro v' sz es)) else none := rfl
@[simp] theorem purO_fro (h : AH) (b v o n v' sz : Nat) (es : List AV) : purO h b v o n (some (.fro v' sz es)) = if v = v' ∧ o + n ≤ es.length then some (.lst false ((es.drop o).take n), h) else none := rfl
@[simp ↓] theorem parts_nil (e : Env) (cs : List AV) : parts e [] cs = some cs := rfl
@[simp ↓] theorem parts_cons (e : Env) (off size : Nat) (x : AO) (l : List (Nat × Nat × AO)) (cs : List AV) : parts e ((off, size, x) :: l) cs =
  @bnd _ _ (if (x.get e).cells.all AV.okc = true ∧ (x.get e).cells.length = size ∧ off + size ≤ cs.length then some (over cs off (x.get e).cells) else none) ⟨fun cs => parts e l cs⟩ := by
 simp only [parts]; split <;> rfl
@[simp ↓] theorem bpartsP_nil (e : Env) (sz : Nat) (es : List AV) : bpartsP e sz [] es = some es := rfl
@[simp ↓] theorem bpartsP_cons (e : Env) (sz i : Nat) (x : AO) (l : List (Nat × AO)) (es : List AV) : bpartsP e sz ((i, x) :: l) es =
  @bnd _ _ (if (x.get e).isE ∧ (x.get e).cells.length = sz ∧ i < es.length then some (es.set i (x.get e)) else none) ⟨fun es => bpartsP e sz l es⟩ := by
 simp only [bpartsP]; split <;> rfl
@[simp ↓] theorem bparts_nil (e : Env) (sz : Nat) (es : List AV) (h : AH) : bparts e sz [] es h = some (es, h) := rfl
@[simp ↓] theorem bparts_cons (e : Env) (sz i : Nat) (x : AO) (l : List (Nat × AO)) (es : List AV) (h : AH) : bparts e sz ((i, x) :: l) es h =
  @bnd _ _ (purE h (x.get e)) ⟨fun p => if p.1.cells.length = sz ∧ i < es.length then bparts e sz l (es.set i p.1) p.2 else none⟩ := rfl
@[simp ↓] theorem resOne_t (s : St) (i : Nat) : resOne s (.t i) = some (s.e i) := rfl
@[simp ↓] theorem resOne_cell (s : St) (i sz : Nat) (agg : Bool) : resOne s (.cell i sz agg) = @bnd _ _ (cellsAt s.h (s.e i)) ⟨fun cs => shape sz agg cs⟩ := rfl
@[simp ↓] theorem resAll_nil (s : St) : resAll s [] = some [] := rfl
@[simp ↓] theorem resAll_cons (s : St) (r : AR) (l : List AR) : resAll s (r :: l) = @bnd _ _ (resOne s r) ⟨fun v => @bnd _ _ (resAll s l) ⟨fun vs => some (v :: vs)⟩⟩ := rfl
def tupOf : List AV → AV
 | [v] => v
 | vs => .tup vs
@[simp] theorem tupOf_nil : tupOf [] = .tup [] := rfl
@[simp] theorem tupOf_one (v : AV) : tupOf [v] = v := rfl
@[simp] theorem tupOf_more (a b : AV) (l : List AV) : tupOf (a :: b :: l) = .tup (a :: b :: l) := rfl
@[simp ↓] theorem resV_eq (s : St) (l : List AR) : resV s l = @bnd _ _ (resAll s l) ⟨fun vs => some (tupOf vs)⟩ := by
 unfold resV bnd
 congr 1
 funext vs
 match vs with
 | [] => rfl
 | [v] => rfl
 | _ :: _ :: _ => rfl
end Go.Am
