/-
  The abstract machine: rules of evaluation.
-/
import Derived.Test.YtldgegojhaamoaaAmB
set_option linter.unusedSimpArgs false
set_option linter.unusedVariables false
namespace Go.Am

theorem eval_skip {Γ : Tab} {V : Nat → Bool} {ρ : Type} (k : AX → St → Option ρ) (s : St) : eval Γ .skip V ρ k s = k .normal s := rfl
theorem eval_ops {Γ : Tab} {V : Nat → Bool} {ρ : Type} (l : IT) (k : AX → St → Option ρ) (s : St) : eval Γ (.ops l) V ρ k s = (its Γ l s).bind (k .normal) := rfl
theorem eval_seq {Γ : Tab} {V : Nat → Bool} {ρ : Type} (a b : AC) (k : AX → St → Option ρ) (s : St) : eval Γ (.seq a b) V ρ k s = eval Γ a V ρ (fun x s' => match x with
      | .normal => eval Γ b V ρ k s'
      | x => k x s') s := rfl
theorem eval_cond {Γ : Tab} {V : Nat → Bool} {ρ : Type} (c : AO) (x y : AC) (k : AX → St → Option ρ) (s : St) : eval Γ (.cond c x y) V ρ k s = match c.get s.e with
      | .bool b => if b = true then eval Γ x V ρ k s else eval Γ y V ρ k s
      | _ => none := rfl
theorem eval_block {Γ : Tab} {V : Nat → Bool} {ρ : Type} (id : Nat) (c : AC) (k : AX → St → Option ρ) (s : St) : eval Γ (.block id c) V ρ k s = eval Γ c V ρ (fun x s' => match x with
      | .exit i => if i = id then k .normal s' else k (.exit i) s'
      | x => k x s') s := rfl
theorem eval_exit {Γ : Tab} {V : Nat → Bool} {ρ : Type} (id : Nat) (k : AX → St → Option ρ) (s : St) : eval Γ (.exit id) V ρ k s = k (.exit id) s := rfl
theorem eval_ret {Γ : Tab} {V : Nat → Bool} {ρ : Type} (k : AX → St → Option ρ) (s : St) : eval Γ .ret V ρ k s = k .ret s := rfl
theorem eval_loop {Γ : Tab} {V : Nat → Bool} {ρ : Type} (keep : List Nat) (wr : List (Nat × Nat)) (own : List (Nat × Nat)) (outs : List (AX × List Nat)) (c : AC) (k : AX → St → Option ρ) (s : St) :
    eval Γ (.loop keep wr own outs c) V ρ k s =
      if (rowsOf (preOwn own s).e own).all V = true then
      (iter (round Γ keep outs c ((baseEnv (rowsOf (preOwn own s).e own) (preOwn own s).e).killR wr) (preOwn own s).h.length (rowsOf (preOwn own s).e own))
        (head (preOwn own s).h.length (rowsOf (preOwn own s).e own) keep (preOwn own s))).bind fun r => pickExit ((baseEnv (rowsOf (preOwn own s).e own) (preOwn own s).e).killR wr) k r outs
      else none := rfl
theorem pickExit_bind {ρ ρ' : Type} (e : Env) (k : AX → St → Option ρ) (g : ρ → Option ρ') (r : AX × List AV × AH) : ∀ l, (pickExit e k r l).bind g = pickExit e (fun x s => (k x s).bind g) r l
  | [] => rfl
  | (x, ts) :: l => by
    simp only [pickExit]
    split
    · rfl
    · exact pickExit_bind e k g r l

/-- What follows goes along. -/
theorem eval_bind (Γ : Tab) : ∀ (c : AC) (V : Nat → Bool) {ρ ρ' : Type} (k : AX → St → Option ρ) (g : ρ → Option ρ') (s : St),
    (eval Γ c V ρ k s).bind g = eval Γ c V ρ' (fun x s => (k x s).bind g) s
  | .skip, _, _, _, _, _, _ => rfl
  | .ops l, _, _, _, _, _, s => by
    simp only [eval]
    cases its Γ l s <;> rfl
  | .seq a b, V, ρ, ρ', k, g, s => by
    simp only [eval]
    rw [eval_bind Γ a]
    congr 1
    funext x s'
    cases x
    · exact eval_bind Γ b V k g s'
    · rfl
    · rfl
  | .cond c x y, V, ρ, ρ', k, g, s => by
    simp only [eval]
    split
    · split
      · exact eval_bind Γ x V k g s
      · exact eval_bind Γ y V k g s
    · rfl
  | .block id c, V, ρ, ρ', k, g, s => by
    simp only [eval]
    rw [eval_bind Γ c]
    congr 1
    funext x s'
    cases x
    · rfl
    · dsimp only
      split <;> rfl
    · rfl
  | .loop keep wr own outs c, V, _, _, k, g, s => by
    simp only [eval]
    split
    · rw [Option.bind_assoc]
      congr 1
      funext r
      exact pickExit_bind _ k g r outs
    · rfl
  | .exit _, _, _, _, _, _, _ => rfl
  | .ret, _, _, _, _, _, _ => rfl

/-- A loop, one round further. -/
theorem iter_round (Γ : Tab) (keep : List Nat) (outs : List (AX × List Nat)) (c : AC) (e0 : Env) (L : Nat) (R : List Nat) (vs : List AV) (h : AH) :
    iter (round Γ keep outs c e0 L R) (vs, h) = eval Γ c (volIn R L) (AX × List AV × AH) (fun ex s' => match ex with
      | .normal => iter (round Γ keep outs c e0 L R) (head L R keep s')
      | ex => some (ex, (outsOf ex outs).map s'.e, s'.h)) ⟨e0.lay keep vs, h⟩ := by
  rw [iter_bind]
  show (eval Γ c _ _ _ _).bind _ = _
  rw [eval_bind]
  congr 1
  funext x s'
  cases x <;> rfl

@[simp] theorem ite_bind {α β : Type} (p : Prop) [Decidable p] (x y : Option α) (f : α → Option β) : (if p then x else y).bind f = if p then x.bind f else y.bind f := by split <;> rfl
@[simp] theorem ite_some_bool (p : Prop) [Decidable p] (x y : Bool) (h : AH) : (if p then some (AV.bool x, h) else some (AV.bool y, h)) = some (AV.bool (if p then x else y), h) := by split <;> rfl

/-- What follows, hidden from the rules till it is come to. -/
class Kt (α β : Type) where
  run : α → Option β
def bnd {α β : Type} (x : Option α) [k : Kt α β] : Option β := x.bind k.run
@[simp] theorem bnd_some {α β : Type} (a : α) (f : α → Option β) : @bnd α β (some a) ⟨f⟩ = f a := rfl
@[simp] theorem bnd_none {α β : Type} (f : α → Option β) : @bnd α β none ⟨f⟩ = none := rfl
@[simp] theorem bnd_ite {α β : Type} (p : Prop) [Decidable p] (x y : Option α) (k : Kt α β) : @bnd α β (if p then x else y) k = if p then @bnd α β x k else @bnd α β y k := by split <;> rfl
class K2 (ρ : Type) where
  x : Unit → Option ρ
  y : Unit → Option ρ
def onBool {ρ : Type} (v : AV) [k : K2 ρ] : Option ρ := match v with
  | .bool b => if b = true then k.x () else k.y ()
  | _ => none
@[simp] theorem onBool_bool {ρ : Type} (b : Bool) (x y : Unit → Option ρ) : @onBool ρ (.bool b) ⟨x, y⟩ = if b = true then x () else y () := rfl
/-- What a kept pair makes. -/
def scV (v : AV) (a : Bool) (h : AH) [k : Kt Unit (AV × AH)] : Option (AV × AH) := match v with
  | .bool b => if b = a then k.run () else some (.bool (!a), h)
  | _ => none
@[simp] theorem scV_bool (b a : Bool) (x : Unit → Option (AV × AH)) (h : AH) : @scV (.bool b) a h ⟨x⟩ = if b = a then x () else some (.bool (!a), h) := rfl
def bOnly (r : AV) (h : AH) : Option (AV × AH) := match r with
  | .bool x => some (.bool x, h)
  | _ => none
@[simp] theorem bOnly_bool (x : Bool) (h : AH) : bOnly (.bool x) h = some (.bool x, h) := rfl

section
variable {Γ : Tab} {V : Nat → Bool} {ρ : Type}
@[simp ↓] theorem eval_ops' (l : IT) (k : AX → St → Option ρ) (s : St) : eval Γ (.ops l) V ρ k s = @bnd _ _ (its Γ l s) ⟨k .normal⟩ := rfl
@[simp ↓] theorem eval_seq' (a b : AC) (k : AX → St → Option ρ) (s : St) : eval Γ (.seq a b) V ρ k s = eval Γ a V ρ (fun x s' => match x with
      | .normal => eval Γ b V ρ k s'
      | x => k x s') s := rfl
@[simp ↓] theorem eval_cond' (c : AO) (x y : AC) (k : AX → St → Option ρ) (s : St) : eval Γ (.cond c x y) V ρ k s = @onBool _ (c.get s.e) ⟨fun _ => eval Γ x V ρ k s, fun _ => eval Γ y V ρ k s⟩ := rfl
@[simp ↓] theorem eval_block' (id : Nat) (c : AC) (k : AX → St → Option ρ) (s : St) : eval Γ (.block id c) V ρ k s = eval Γ c V ρ (fun x s' => match x with
      | .exit i => if i = id then k .normal s' else k (.exit i) s'
      | x => k x s') s := rfl
@[simp ↓] theorem eval_skip' (k : AX → St → Option ρ) (s : St) : eval Γ .skip V ρ k s = k .normal s := rfl
@[simp ↓] theorem eval_exit' (id : Nat) (k : AX → St → Option ρ) (s : St) : eval Γ (.exit id) V ρ k s = k (.exit id) s := rfl
@[simp ↓] theorem eval_ret' (k : AX → St → Option ρ) (s : St) : eval Γ .ret V ρ k s = k .ret s := rfl
@[simp ↓] theorem eval_loop' (keep : List Nat) (wr : List (Nat × Nat)) (own : List (Nat × Nat)) (outs : List (AX × List Nat)) (c : AC) (k : AX → St → Option ρ) (s : St) :
    eval Γ (.loop keep wr own outs c) V ρ k s =
      if (rowsOf (preOwn own s).e own).all V = true then
      @bnd _ _ (iter (round Γ keep outs c ((baseEnv (rowsOf (preOwn own s).e own) (preOwn own s).e).killR wr) (preOwn own s).h.length (rowsOf (preOwn own s).e own))
        (head (preOwn own s).h.length (rowsOf (preOwn own s).e own) keep (preOwn own s))) ⟨fun r => pickExit ((baseEnv (rowsOf (preOwn own s).e own) (preOwn own s).e).killR wr) k r outs⟩
      else none := rfl
theorem round_eq (keep : List Nat) (outs : List (AX × List Nat)) (c : AC) (e0 : Env) (L : Nat) (R : List Nat) (x : List AV × AH) : round Γ keep outs c e0 L R x = eval Γ c (volIn R L) _ (fun ex s' => match ex with
    | .normal => some (.inl (head L R keep s'))
    | ex => some (.inr (ex, (outsOf ex outs).map s'.e, s'.h))) ⟨e0.lay keep x.1, x.2⟩ := rfl
theorem runH_eq (f : AF) (args : List AV) (h : AH) : runH Γ f args h = if args.length ≤ f.nt then eval Γ f.body (fun i => decide (h.length ≤ i)) (AV × AH) (fun x s => match x with
      | .exit _ => none
      | _ => @bnd _ _ (resV s f.res) ⟨fun v => some (v, s.h)⟩) ⟨argEnv args, h⟩ else none := by
  unfold runH
  rfl
theorem runP_eq (f : AF) (args : List AV) : runP Γ f args = @bnd _ _ (runH Γ f args []) ⟨fun p => @bnd _ _ (purP p.2 p.1) ⟨fun q => some q.1⟩⟩ := rfl
@[simp ↓] theorem its_nil (s : St) : its Γ .nil s = some s := rfl
@[simp ↓] theorem its_op (d : Nat) (o : AOp) (rest : IT) (s : St) : its Γ (.op (some d) o rest) s = @bnd _ _ (exec Γ s.e s.h o) ⟨fun p => its Γ rest ⟨s.e.put d p.1, p.2⟩⟩ := rfl
@[simp ↓] theorem its_opn (o : AOp) (rest : IT) (s : St) : its Γ (.op none o rest) s = @bnd _ _ (exec Γ s.e s.h o) ⟨fun p => its Γ rest ⟨s.e, p.2⟩⟩ := rfl
@[simp ↓] theorem its_sc (d : Nat) (a : Bool) (c lo hi : Nat) (l : IT) (r : AO) (rest : IT) (s : St) : its Γ (.sc d a c lo hi l r rest) s =
    @bnd _ _ (@scV (s.e c) a s.h ⟨fun _ => @bnd _ _ (its Γ l s) ⟨fun s' => bOnly (r.get s'.e) s'.h⟩⟩) ⟨fun p => its Γ rest ⟨(s.e.kill lo hi).put d p.1, p.2⟩⟩ := by
  simp only [its, scV]
  cases s.e c <;> rfl
@[simp ↓] theorem get_t (e : Env) (i : Nat) : (AO.t i).get e = e i := rfl
@[simp ↓] theorem get_c (e : Env) (v : AV) : (AO.c v).get e = v := rfl
@[simp ↓] theorem put_get (e : Env) (t : Nat) (v : AV) (i : Nat) : (e.put t v) i = if i = t then v else e i := rfl
@[simp ↓] theorem kill_get (e : Env) (lo hi i : Nat) : (e.kill lo hi) i = if lo ≤ i ∧ i ≤ hi then .dead else e i := rfl
@[simp ↓] theorem killR_get (e : Env) (rs : List (Nat × Nat)) (i : Nat) : (e.killR rs) i = if rs.any (fun r => decide (r.1 ≤ i) && decide (i ≤ r.2)) then .dead else e i := rfl
@[simp ↓] theorem lay_cons (e : Env) (t : Nat) (ts : List Nat) (v : AV) (vs : List AV) : e.lay (t :: ts) (v :: vs) = (e.lay ts vs).put t v := rfl
@[simp ↓] theorem lay_nil (e : Env) (vs : List AV) : e.lay [] vs = e := by cases vs <;> rfl
@[simp ↓] theorem argEnv_get (args : List AV) (i : Nat) : argEnv args i = args.getD i .dead := rfl
def headK (L : Nat) (R : List Nat) (h : AH) (e : Env) : List Nat → List AV
  | [] => []
  | t :: ts => normV L R h (e t) :: headK L R h e ts
theorem headK_eq (L : Nat) (R : List Nat) (h : AH) (e : Env) : ∀ ts : List Nat, (ts.map fun t => normV L R h (e t)) = headK L R h e ts
  | [] => rfl
  | t :: ts => by rw [List.map_cons, headK_eq L R h e ts]; rfl
@[simp ↓] theorem head_eq (L : Nat) (R : List Nat) (keep : List Nat) (s : St) : head L R keep s = (headK L R s.h s.e keep, normH L R s.h 0 (s.h.take L)) := by unfold head; rw [headK_eq]
@[simp ↓] theorem headK_nil (L : Nat) (R : List Nat) (h : AH) (e : Env) : headK L R h e [] = [] := rfl
@[simp ↓] theorem headK_cons (L : Nat) (R : List Nat) (h : AH) (e : Env) (t : Nat) (ts : List Nat) : headK L R h e (t :: ts) = normV L R h (e t) :: headK L R h e ts := rfl
@[simp ↓] theorem getAll_nil (e : Env) : getAll e [] = [] := rfl
@[simp ↓] theorem getAll_cons (e : Env) (x : AO) (l : List AO) : getAll e (x :: l) = x.get e :: getAll e l := rfl
end
attribute [simp] nat? slen strBin
attribute [simp] volIn normH rowsOf preOwn outsOf pickExit
@[simp] theorem isS_bool (b : Bool) : (AV.bool b).isS = true := by simp only [AV.isS]
@[simp] theorem isS_int (k : IntKind) (n : Int) : (AV.int k n).isS = true := by simp only [AV.isS]
@[simp] theorem isS_str (s : List UInt8) : (AV.str s).isS = true := by simp only [AV.isS]
@[simp] theorem isS_lst (f : Bool) (es : List AV) : (AV.lst f es).isS = true := by simp only [AV.isS]
@[simp] theorem isS_own (b v o n : Nat) : (AV.own b v o n).isS = false := by simp only [AV.isS]
@[simp] theorem isS_ptr (b v o n : Nat) : (AV.ptr b v o n).isS = false := by simp only [AV.isS]
@[simp] theorem isE_bool (b : Bool) : (AV.bool b).isE = true := by simp only [AV.isE, AV.isS]
@[simp] theorem isE_int (k : IntKind) (n : Int) : (AV.int k n).isE = true := by simp only [AV.isE, AV.isS]
@[simp] theorem isE_str (s : List UInt8) : (AV.str s).isE = true := by simp only [AV.isE, AV.isS]
@[simp] theorem isE_lst (f : Bool) (es : List AV) : (AV.lst f es).isE = true := by simp only [AV.isE, AV.isS]
@[simp] theorem isE_agg (cs : List AV) : (AV.agg cs).isE = cs.all AV.isS := by rw [AV.isE]
@[simp] theorem isE_own (b v o n : Nat) : (AV.own b v o n).isE = false := by simp only [AV.isE, AV.isS]
@[simp] theorem isE_ptr (b v o n : Nat) : (AV.ptr b v o n).isE = false := by simp only [AV.isE, AV.isS]
@[simp] theorem isE_dead : AV.dead.isE = false := by simp only [AV.isE, AV.isS]
@[simp] theorem isE_undef : AV.undef.isE = false := by simp only [AV.isE, AV.isS]
@[simp] theorem isE_fn (f : Fn) (a c : List AV) : (AV.fn f a c).isE = false := by simp only [AV.isE, AV.isS]
@[simp] theorem isP_bool (b : Bool) : (AV.bool b).isP = true := by simp only [AV.isP, AV.isE, AV.isS]
@[simp] theorem isP_int (k : IntKind) (n : Int) : (AV.int k n).isP = true := by simp only [AV.isP, AV.isE, AV.isS]
@[simp] theorem isP_str (s : List UInt8) : (AV.str s).isP = true := by simp only [AV.isP, AV.isE, AV.isS]
@[simp] theorem isP_lst (f : Bool) (es : List AV) : (AV.lst f es).isP = true := by simp only [AV.isP, AV.isE, AV.isS]
@[simp] theorem isP_agg (cs : List AV) : (AV.agg cs).isP = cs.all AV.isS := by rw [AV.isP, AV.isE]; simp
@[simp] theorem isP_tup (vs : List AV) : (AV.tup vs).isP = vs.all AV.isE := by rw [AV.isP]
@[simp] theorem isP_own (b v o n : Nat) : (AV.own b v o n).isP = false := by simp only [AV.isP, AV.isE, AV.isS]
theorem purP_of {h : AH} {v : AV} (hv : v.isP = true) : purP h v = some (v, h) := by unfold purP; rw [if_pos hv]
theorem purE_of {h : AH} {v : AV} (hv : v.isE = true) : purE h v = some (v, h) := by unfold purE; rw [if_pos hv]
theorem normV_of {L : Nat} {R : List Nat} {h : AH} {v : AV} (hv : v.isE = true) : normV L R h v = v := by unfold normV; rw [if_pos hv]
@[simp] theorem cells_bool (b : Bool) : (AV.bool b).cells = [.bool b] := rfl
@[simp] theorem cells_int (k : IntKind) (n : Int) : (AV.int k n).cells = [.int k n] := rfl
@[simp] theorem cells_str (s : List UInt8) : (AV.str s).cells = [.str s] := rfl
@[simp] theorem cells_lst (f : Bool) (es : List AV) : (AV.lst f es).cells = [.lst f es] := rfl
@[simp] theorem cells_own (b v o n : Nat) : (AV.own b v o n).cells = [.own b v o n] := rfl
@[simp] theorem cells_ptr (b v o n : Nat) : (AV.ptr b v o n).cells = [.ptr b v o n] := rfl
@[simp] theorem cells_agg (cs : List AV) : (AV.agg cs).cells = cs := rfl
@[simp] theorem isNil_nilp (neg : Bool) : isNil .pt neg .nilp = some (.bool (!neg)) := rfl
@[simp] theorem isNil_ptr (neg : Bool) (b v i o : Nat) : isNil .pt neg (.ptr b v i o) = some (.bool neg) := rfl
@[simp] theorem isNil_rptr (neg : Bool) (cs : List AV) : isNil .pt neg (.rptr cs) = some (.bool neg) := rfl
@[simp] theorem isNil_nilf (neg : Bool) : isNil .fn neg .nilf = some (.bool (!neg)) := rfl
@[simp] theorem isNil_fn (neg : Bool) (f : Fn) (a c : List AV) : isNil .fn neg (.fn f a c) = some (.bool neg) := rfl
@[simp] theorem isNil_nili (neg : Bool) : isNil .ifc neg .nili = some (.bool (!neg)) := rfl
@[simp] theorem isNil_ifc (neg : Bool) (t : TypeId) (v : AV) : isNil .ifc neg (.ifc t v) = some (.bool neg) := rfl
@[simp] theorem isNil_lst (neg : Bool) (f : Bool) (x : AV) (l : List AV) : isNil .sl neg (.lst f (x :: l)) = some (.bool neg) := rfl
@[simp] theorem isNil_own (neg : Bool) (b v o n : Nat) : isNil .sl neg (.own b v o (n + 1)) = some (.bool neg) := rfl
@[simp] theorem shape_cell (x : AV) (l : List AV) : shape 1 false (x :: l) = some x := by simp [shape]
@[simp] theorem shape_agg (cs : List AV) : shape cs.length true cs = some (.agg cs) := by simp [shape]
@[simp] theorem shape_agg3 (a b c : AV) : shape 3 true [a, b, c] = some (.agg [a, b, c]) := by simp [shape]
@[simp] theorem shape_agg2 (a b : AV) : shape 2 true [a, b] = some (.agg [a, b]) := by simp [shape]
@[simp] theorem shape_agg4 (a b c d : AV) : shape 4 true [a, b, c, d] = some (.agg [a, b, c, d]) := by simp [shape]
@[simp] theorem shape_agg5 (a b c d e : AV) : shape 5 true [a, b, c, d, e] = some (.agg [a, b, c, d, e]) := by simp [shape]
@[simp] theorem shape_agg6 (a b c d e f : AV) : shape 6 true [a, b, c, d, e, f] = some (.agg [a, b, c, d, e, f]) := by simp [shape]
@[simp] theorem cellsAt_rptr (h : AH) (cs : List AV) : cellsAt h (.rptr cs) = some cs := rfl
@[simp] theorem elems_lst (h : AH) (f : Bool) (es : List AV) : elems h (.lst f es) = some es := rfl
@[simp] theorem szOk_nil (sz : Nat) : szOk sz [] = true := rfl
@[simp] theorem szOk_cons (sz : Nat) (x : AV) (l : List AV) : szOk sz (x :: l) = ((x.cells.length == sz) && szOk sz l) := rfl
@[simp] theorem szOk_append (sz : Nat) (l l' : List AV) : szOk sz (l ++ l') = (szOk sz l && szOk sz l') := by simp [szOk]
@[simp] theorem szOk_ints {α : Type} (k : IntKind) (f : α → Int) (l : List α) : szOk 1 (l.map fun x => AV.int k (f x)) = true := by simp [szOk]
@[simp] theorem szOk_int (k : IntKind) (l : List Int) : szOk 1 (l.map (AV.int k)) = true := by simp [szOk]
@[simp] theorem szOk_replicate (k : IntKind) (x : Int) (n : Nat) : szOk 1 (List.replicate n (AV.int k x)) = true := by simp [szOk]
@[simp] theorem normV_own (L : Nat) (R : List Nat) (h : AH) (b v o n : Nat) : normV L R h (.own b v o n) = normS L R h (.own b v o n) := by simp only [normV, isE_own, Bool.false_eq_true, if_false]
@[simp] theorem dropR_int (R : List Nat) (k : IntKind) (n : Int) : dropR R (.int k n) = .int k n := by simp [dropR]
@[simp] theorem dropR_bool (R : List Nat) (b : Bool) : dropR R (.bool b) = .bool b := by simp [dropR]
@[simp] theorem dropR_str (R : List Nat) (x : List UInt8) : dropR R (.str x) = .str x := by simp [dropR]
@[simp] theorem dropR_lst (R : List Nat) (f : Bool) (es : List AV) : dropR R (.lst f es) = .lst f es := by simp [dropR]
theorem dropR_agg (R : List Nat) (cs : List AV) (h : cs.all AV.isS = true) : dropR R (.agg cs) = .agg cs := by
  have h' : cs.all (fun x => x.isE || match x with | .ptr b _ _ _ => !R.contains b | .own b _ _ _ => !R.contains b | _ => false) = true := by
    rw [List.all_eq_true] at h ⊢
    intro x hx
    have := h x hx
    cases x <;> first | rfl | simp_all [AV.isS]
  exact if_pos h'
theorem baseEnv_cons (r : Nat) (R : List Nat) (e : Env) (i : Nat) : baseEnv (r :: R) e i = dropR (r :: R) (e i) := rfl
attribute [simp] baseEnv_cons
@[simp] theorem baseEnv_nil (e : Env) : baseEnv [] e = e := rfl
end Go.Am
