/-
  The abstract machine: rules of evaluation.
-/
import Derived.Test.YtfdenmkoampgnaaAmGA
set_option linter.unusedSimpArgs false
set_option linter.unusedVariables false
namespace Go.Am

theorem eval_skip {Γ : Tab} {V : Nat → Bool} {ρ : Type} (k : AX → St → Option ρ) (s : St) : eval Γ .skip V ρ k s = k .normal s := rfl
theorem eval_ops {Γ : Tab} {V : Nat → Bool} {ρ : Type} (l : IT) (k : AX → St → Option ρ) (s : St) : eval Γ (.ops l) V ρ k s = (its Γ l s).bind (k .normal) := rfl
theorem eval_seq {Γ : Tab} {V : Nat → Bool} {ρ : Type} (a b : AC) (k : AX → St → Option ρ) (s : St) : eval Γ (.seq a b) V ρ k s = eval Γ a V ρ (fun x s' => match x with
      | .normal => eval Γ b V ρ k s'
      | x => k x s') s := rfl
theorem eval_cond {Γ : Tab} {V : Nat → Bool} {ρ : Type} (c : AO) (x y : AC) (k : AX → St → Option ρ) (s : St) : eval Γ (.cond c x y) V ρ k s = match c.get s.e with
      | .bool b => if b = true then eval Γ x V ρ k s else eval Γ y V ρ k s
      | _ => none := rfl
theorem eval_block {Γ : Tab} {V : Nat → Bool} {ρ : Type} (id : Nat) (c : AC) (k : AX → St → Option ρ) (s : St) : eval Γ (.block id c) V ρ k s = eval Γ c V ρ (fun x s' => match x with
      | .exit i => if i = id then k .normal s' else k (.exit i) s'
      | x => k x s') s := rfl
theorem eval_exit {Γ : Tab} {V : Nat → Bool} {ρ : Type} (id : Nat) (k : AX → St → Option ρ) (s : St) : eval Γ (.exit id) V ρ k s = k (.exit id) s := rfl
theorem eval_ret {Γ : Tab} {V : Nat → Bool} {ρ : Type} (k : AX → St → Option ρ) (s : St) : eval Γ .ret V ρ k s = k .ret s := rfl
theorem eval_loop {Γ : Tab} {V : Nat → Bool} {ρ : Type} (keep : List Nat) (wr : List (Nat × Nat)) (own : List (Nat × Nat)) (outs : List (AX × List Nat)) (c : AC) (k : AX → St → Option ρ) (s : St) :
    eval Γ (.loop keep wr own outs c) V ρ k s =
      if (rowsOf (preOwn own s).e own).all V = true then
      (iter (round Γ keep outs c ((baseEnv (rowsOf (preOwn own s).e own) (preOwn own s).e).killR wr) (preOwn own s).h.length (rowsOf (preOwn own s).e own))
        (head (preOwn own s).h.length (rowsOf (preOwn own s).e own) keep (preOwn own s))).bind fun r => pickExit ((baseEnv (rowsOf (preOwn own s).e own) (preOwn own s).e).killR wr) k r outs
      else none := rfl
theorem pickExit_bind {ρ ρ' : Type} (e : Env) (k : AX → St → Option ρ) (g : ρ → Option ρ') (r : AX × List AV × AH) : ∀ l, (pickExit e k r l).bind g = pickExit e (fun x s => (k x s).bind g) r l
  | [] => rfl
  | (x, ts) :: l => by
    simp only [pickExit]
    split
    · rfl
    · exact pickExit_bind e k g r l

/-- What follows goes along. -/
theorem eval_bind (Γ : Tab) : ∀ (c : AC) (V : Nat → Bool) {ρ ρ' : Type} (k : AX → St → Option ρ) (g : ρ → Option ρ') (s : St),
    (eval Γ c V ρ k s).bind g = eval Γ c V ρ' (fun x s => (k x s).bind g) s
  | .skip, _, _, _, _, _, _ => rfl
  | .ops l, _, _, _, _, _, s => by
    simp only [eval]
    cases its Γ l s <;> rfl
  | .seq a b, V, ρ, ρ', k, g, s => by
    simp only [eval]
    rw [eval_bind Γ a]
    congr 1
    funext x s'
    cases x
    · exact eval_bind Γ b V k g s'
    · rfl
    · rfl
  | .cond c x y, V, ρ, ρ', k, g, s => by
    simp only [eval]
    split
    · split
      · exact eval_bind Γ x V k g s
      · exact eval_bind Γ y V k g s
    · rfl
  | .block id c, V, ρ, ρ', k, g, s => by
    simp only [eval]
    rw [eval_bind Γ c]
    congr 1
    funext x s'
    cases x
    · rfl
    · dsimp only
      split <;> rfl
    · rfl
  | .loop keep wr own outs c, V, _, _, k, g, s => by
    simp only [eval]
    split
    · rw [Option.bind_assoc]
      congr 1
      funext r
      exact pickExit_bind _ k g r outs
    · rfl
  | .exit _, _, _, _, _, _, _ => rfl
  | .ret, _, _, _, _, _, _ => rfl
  | .scope c, V, ρ, ρ', k, g, s => by
    simp only [eval]
    exact eval_bind Γ c V k g s

/-- A loop, one round further. -/
theorem iter_round (Γ : Tab) (keep : List Nat) (outs : List (AX × List Nat)) (c : AC) (e0 : Env) (L : Nat) (R : List Nat) (vs : List AV) (h : AH) :
    iter (round Γ keep outs c e0 L R) (vs, h) = eval Γ c (volIn R L) (AX × List AV × AH) (fun ex s' => match ex with
      | .normal => iter (round Γ keep outs c e0 L R) (head L R keep s')
      | ex => some (ex, (outsOf ex outs).map s'.e, s'.h)) ⟨e0.lay keep vs, h⟩ := by
  rw [iter_bind]
  show (eval Γ c _ _ _ _).bind _ = _
  rw [eval_bind]
  congr 1
  funext x s'
  cases x <;> rfl

@[simp] theorem ite_bind {α β : Type} (p : Prop) [Decidable p] (x y : Option α) (f : α → Option β) : (if p then x else y).bind f = if p then x.bind f else y.bind f := by split <;> rfl
@[simp] theorem ite_some_bool (p : Prop) [Decidable p] (x y : Bool) (h : AH) : (if p then some (AV.bool x, h) else some (AV.bool y, h)) = some (AV.bool (if p then x else y), h) := by split <;> rfl

/-- What follows, hidden from the rules till it is come to. -/
class Kt (α β : Type) where
  run : α → Option β
def bnd {α β : Type} (x : Option α) [k : Kt α β] : Option β := x.bind k.run
@[simp] theorem bnd_some {α β : Type} (a : α) (f : α → Option β) : @bnd α β (some a) ⟨f⟩ = f a := rfl
@[simp] theorem bnd_none {α β : Type} (f : α → Option β) : @bnd α β none ⟨f⟩ = none := rfl
@[simp] theorem bnd_ite {α β : Type} (p : Prop) [Decidable p] (x y : Option α) (k : Kt α β) : @bnd α β (if p then x else y) k = if p then @bnd α β x k else @bnd α β y k := by split <;> rfl
class K2 (ρ : Type) where
  x : Unit → Option ρ
  y : Unit → Option ρ
def onBool {ρ : Type} (v : AV) [k : K2 ρ] : Option ρ := match v with
  | .bool b => if b = true then k.x () else k.y ()
  | _ => none
@[simp] theorem onBool_bool {ρ : Type} (b : Bool) (x y : Unit → Option ρ) : @onBool ρ (.bool b) ⟨x, y⟩ = if b = true then x () else y () := rfl
/-- What a kept pair makes. -/
def scV (v : AV) (a : Bool) (h : AH) [k : Kt Unit (AV × AH)] : Option (AV × AH) := match v with
  | .bool b => if b = a then k.run () else some (.bool (!a), h)
  | _ => none
@[simp] theorem scV_bool (b a : Bool) (x : Unit → Option (AV × AH)) (h : AH) : @scV (.bool b) a h ⟨x⟩ = if b = a then x () else some (.bool (!a), h) := rfl
def bOnly (r : AV) (h : AH) : Option (AV × AH) := match r with
  | .bool x => some (.bool x, h)
  | _ => none
@[simp] theorem bOnly_bool (x : Bool) (h : AH) : bOnly (.bool x) h = some (.bool x, h) := rfl

section
variable {Γ : Tab} {V : Nat → Bool} {ρ : Type}
@[simp ↓] theorem eval_ops' (l : IT) (k : AX → St → Option ρ) (s : St) : eval Γ (.ops l) V ρ k s = @bnd _ _ (its Γ l s) ⟨k .normal⟩ := rfl
@[simp ↓] theorem eval_seq' (a b : AC) (k : AX → St → Option ρ) (s : St) : eval Γ (.seq a b) V ρ k s = eval Γ a V ρ (fun x s' => match x with
      | .normal => eval Γ b V ρ k s'
      | x => k x s') s := rfl
@[simp ↓] theorem eval_cond' (c : AO) (x y : AC) (k : AX → St → Option ρ) (s : St) : eval Γ (.cond c x y) V ρ k s = @onBool _ (c.get s.e) ⟨fun _ => eval Γ x V ρ k s, fun _ => eval Γ y V ρ k s⟩ := rfl
@[simp ↓] theorem eval_block' (id : Nat) (c : AC) (k : AX → St → Option ρ) (s : St) : eval Γ (.block id c) V ρ k s = eval Γ c V ρ (fun x s' => match x with
      | .exit i => if i = id then k .normal s' else k (.exit i) s'
      | x => k x s') s := rfl
@[simp ↓] theorem eval_skip' (k : AX → St → Option ρ) (s : St) : eval Γ .skip V ρ k s = k .normal s := rfl
@[simp ↓] theorem eval_exit' (id : Nat) (k : AX → St → Option ρ) (s : St) : eval Γ (.exit id) V ρ k s = k (.exit id) s := rfl
@[simp ↓] theorem eval_scope' (c : AC) (k : AX → St → Option ρ) (s : St) : eval Γ (.scope c) V ρ k s = eval Γ c V ρ k s := rfl
@[simp ↓] theorem eval_ret' (k : AX → St → Option ρ) (s : St) : eval Γ .ret V ρ k s = k .ret s := rfl
@[simp ↓] theorem eval_loop' (keep : List Nat) (wr : List (Nat × Nat)) (own : List (Nat × Nat)) (outs : List (AX × List Nat)) (c : AC) (k : AX → St → Option ρ) (s : St) :
    eval Γ (.loop keep wr own outs c) V ρ k s =
      if (rowsOf (preOwn own s).e own).all V = true then
      @bnd _ _ (iter (round Γ keep outs c ((baseEnv (rowsOf (preOwn own s).e own) (preOwn own s).e).killR wr) (preOwn own s).h.length (rowsOf (preOwn own s).e own))
        (head (preOwn own s).h.length (rowsOf (preOwn own s).e own) keep (preOwn own s))) ⟨fun r => pickExit ((baseEnv (rowsOf (preOwn own s).e own) (preOwn own s).e).killR wr) k r outs⟩
      else none := rfl
theorem round_eq (keep : List Nat) (outs : List (AX × List Nat)) (c : AC) (e0 : Env) (L : Nat) (R : List Nat) (x : List AV × AH) : round Γ keep outs c e0 L R x = eval Γ c (volIn R L) _ (fun ex s' => match ex with
    | .normal => some (.inl (head L R keep s'))
    | ex => some (.inr (ex, (outsOf ex outs).map s'.e, s'.h))) ⟨e0.lay keep x.1, x.2⟩ := rfl
theorem runH_eq (f : AF) (args : List AV) (h : AH) : runH Γ f args h = if args.length ≤ f.nt then eval Γ f.body (fun i => decide (h.length ≤ i)) (AV × AH) (fun x s => match x with
      | .exit _ => none
      | _ => @bnd _ _ (resV s f.res) ⟨fun v => some (v, s.h)⟩) ⟨argEnv args, h⟩ else none := by
  unfold runH
  rfl
theorem runP_eq (f : AF) (args : List AV) : runP Γ f args = @bnd _ _ (runH Γ f args []) ⟨fun p => @bnd _ _ (purP p.2 p.1) ⟨fun q => some q.1⟩⟩ := rfl
@[simp ↓] theorem its_nil (s : St) : its Γ .nil s = some s := rfl
@[simp ↓] theorem its_op (d : Nat) (o : AOp) (rest : IT) (s : St) : its Γ (.op (some d) o rest) s = @bnd _ _ (exec Γ s.e s.h o) ⟨fun p => its Γ rest ⟨s.e.put d p.1, p.2⟩⟩ := rfl
@[simp ↓] theorem its_opn (o : AOp) (rest : IT) (s : St) : its Γ (.op none o rest) s = @bnd _ _ (exec Γ s.e s.h o) ⟨fun p => its Γ rest ⟨s.e, p.2⟩⟩ := rfl
@[simp ↓] theorem its_sc (d : Nat) (a : Bool) (c lo hi : Nat) (l : IT) (r : AO) (rest : IT) (s : St) : its Γ (.sc d a c lo hi l r rest) s =
    @bnd _ _ (@scV (s.e c) a s.h ⟨fun _ => @bnd _ _ (its Γ l s) ⟨fun s' => bOnly (r.get s'.e) s'.h⟩⟩) ⟨fun p => its Γ rest ⟨(s.e.kill lo hi).put d p.1, p.2⟩⟩ := by
  simp only [its, scV]
  cases s.e c <;> rfl
@[simp ↓] theorem get_t (e : Env) (i : Nat) : (AO.t i).get e = e i := rfl
@[simp ↓] theorem get_c (e : Env) (v : AV) : (AO.c v).get e = v := rfl
@[simp ↓] theorem put_get (e : Env) (t : Nat) (v : AV) (i : Nat) : (e.put t v) i = if i = t then v else e i := rfl
@[simp ↓] theorem kill_get (e : Env) (lo hi i : Nat) : (e.kill lo hi) i = if lo ≤ i ∧ i ≤ hi then .dead else e i := rfl
@[simp ↓] theorem killR_get (e : Env) (rs : List (Nat × Nat)) (i : Nat) : (e.killR rs) i = if rs.any (fun r => decide (r.1 ≤ i) && decide (i ≤ r.2)) then .dead else e i := rfl
@[simp ↓] theorem lay_cons (e : Env) (t : Nat) (ts : List Nat) (v : AV) (vs : List AV) : e.lay (t :: ts) (v :: vs) = (e.lay ts vs).put t v := rfl
@[simp ↓] theorem lay_nil (e : Env) (vs : List AV) : e.lay [] vs = e := by cases vs <;> rfl
@[simp ↓] theorem argEnv_get (args : List AV) (i : Nat) : argEnv args i = args.getD i .dead := rfl
def headK (L : Nat) (R : List Nat) (h : AH) (e : Env) : List Nat → List AV
  | [] => []
  | t :: ts => normV L R h (e t) :: headK L R h e ts
theorem headK_eq (L : Nat) (R : List Nat) (h : AH) (e : Env) : ∀ ts : List Nat, (ts.map fun t => normV L R h (e t)) = headK L R h e ts
  | [] => rfl
  | t :: ts => by rw [List.map_cons, headK_eq L R h e ts]; rfl
@[simp ↓] theorem head_eq (L : Nat) (R : List Nat) (keep : List Nat) (s : St) : head L R keep s = (headK L R s.h s.e keep, normH L R s.h 0 (s.h.take L)) := by unfold head; rw [headK_eq]
@[simp ↓] theorem headK_nil (L : Nat) (R : List Nat) (h : AH) (e : Env) : headK L R h e [] = [] := rfl
@[simp ↓] theorem headK_cons (L : Nat) (R : List Nat) (h : AH) (e : Env) (t : Nat) (ts : List Nat) : headK L R h e (t :: ts) = normV L R h (e t) :: headK L R h e ts := rfl
@[simp ↓] theorem getAll_nil (e : Env) : getAll e [] = [] := rfl
@[simp ↓] theorem getAll_cons (e : Env) (x : AO) (l : List AO) : getAll e (x :: l) = x.get e :: getAll e l := rfl
end
attribute [simp] nat? slen strBin
attribute [simp] volIn normH rowsOf preOwn outsOf pickExit
@[simp] theorem isS_bool (b : Bool) : (AV.bool b).isS = true := by simp only [AV.isS]
@[simp] theorem isS_int (k : IntKind) (n : Int) : (AV.int k n).isS = true := by simp only [AV.isS]
@[simp] theorem isS_str (s : List UInt8) : (AV.str s).isS = true := by simp only [AV.isS]
@[simp] theorem isS_lst (f : Bool) (es : List AV) : (AV.lst f es).isS = true := by simp only [AV.isS]
@[simp] theorem isS_own (b v o n : Nat) : (AV.own b v o n).isS = false := by simp only [AV.isS]
@[simp] theorem isS_mpv (b : Nat) : (AV.mpv b).isS = false := by simp only [AV.isS]
@[simp] theorem isS_ptr (b v o n : Nat) : (AV.ptr b v o n).isS = false := by simp only [AV.isS]
@[simp] theorem isE_bool (b : Bool) : (AV.bool b).isE = true := by simp only [AV.isE, AV.isS]
@[simp] theorem isE_int (k : IntKind) (n : Int) : (AV.int k n).isE = true := by simp only [AV.isE, AV.isS]
@[simp] theorem isE_str (s : List UInt8) : (AV.str s).isE = true := by simp only [AV.isE, AV.isS]
@[simp] theorem isE_lst (f : Bool) (es : List AV) : (AV.lst f es).isE = true := by simp only [AV.isE, AV.isS]
@[simp] theorem isE_agg (cs : List AV) : (AV.agg cs).isE = cs.all AV.isS := by rw [AV.isE]
@[simp] theorem isE_own (b v o n : Nat) : (AV.own b v o n).isE = false := by simp only [AV.isE, AV.isS]
@[simp] theorem isE_mpv (b : Nat) : (AV.mpv b).isE = false := by simp only [AV.isE, AV.isS]
@[simp] theorem isE_ptr (b v o n : Nat) : (AV.ptr b v o n).isE = false := by simp only [AV.isE, AV.isS]
@[simp] theorem isE_dead : AV.dead.isE = false := by simp only [AV.isE, AV.isS]
@[simp] theorem isE_undef : AV.undef.isE = false := by simp only [AV.isE, AV.isS]
@[simp] theorem isE_fn (f : Fn) (a c : List AV) : (AV.fn f a c).isE = false := by simp only [AV.isE, AV.isS]
@[simp] theorem isP_bool (b : Bool) : (AV.bool b).isP = true := by simp only [AV.isP, AV.isE, AV.isS]
@[simp] theorem isP_int (k : IntKind) (n : Int) : (AV.int k n).isP = true := by simp only [AV.isP, AV.isE, AV.isS]
@[simp] theorem isP_str (s : List UInt8) : (AV.str s).isP = true := by simp only [AV.isP, AV.isE, AV.isS]
@[simp] theorem isP_lst (f : Bool) (es : List AV) : (AV.lst f es).isP = true := by simp only [AV.isP, AV.isE, AV.isS]
@[simp] theorem isP_agg (cs : List AV) : (AV.agg cs).isP = cs.all AV.isS := by rw [AV.isP, AV.isE]; simp
@[simp] theorem isP_tup (vs : List AV) : (AV.tup vs).isP = vs.all AV.isE := by rw [AV.isP]
@[simp] theorem isP_own (b v o n : Nat) : (AV.own b v o n).isP = false := by simp only [AV.isP, AV.isE, AV.isS]
theorem purP_of {h : AH} {v : AV} (hv : v.isP = true) : purP h v = some (v, h) := by unfold purP; rw [if_pos hv]
theorem purE_of {h : AH} {v : AV} (hv : v.isE = true) : purE h v = some (v, h) := by unfold purE; rw [if_pos hv]
theorem normV_of {L : Nat} {R : List Nat} {h : AH} {v : AV} (hv : v.isE = true) : normV L R h v = v := by unfold normV; rw [if_pos hv]
@[simp] theorem cells_bool (b : Bool) : (AV.bool b).cells = [.bool b] := rfl
@[simp] theorem cells_int (k : IntKind) (n : Int) : (AV.int k n).cells = [.int k n] := rfl
@[simp] theorem cells_str (s : List UInt8) : (AV.str s).cells = [.str s] := rfl
@[simp] theorem cells_lst (f : Bool) (es : List AV) : (AV.lst f es).cells = [.lst f es] := rfl
@[simp] theorem cells_own (b v o n : Nat) : (AV.own b v o n).cells = [.own b v o n] := rfl
@[simp] theorem cells_mpv (b : Nat) : (AV.mpv b).cells = [.mpv b] := rfl
@[simp] theorem cells_ptr (b v o n : Nat) : (AV.ptr b v o n).cells = [.ptr b v o n] := rfl
@[simp] theorem cells_agg (cs : List AV) : (AV.agg cs).cells = cs := rfl
@[simp] theorem isNil_nilp (neg : Bool) : isNil .pt neg .nilp = some (.bool (!neg)) := rfl
@[simp] theorem isNil_ptr (neg : Bool) (b v i o : Nat) : isNil .pt neg (.ptr b v i o) = some (.bool neg) := rfl
@[simp] theorem isNil_rptr (neg : Bool) (cs : List AV) : isNil .pt neg (.rptr cs) = some (.bool neg) := rfl
@[simp] theorem isNil_nilf (neg : Bool) : isNil .fn neg .nilf = some (.bool (!neg)) := rfl
@[simp] theorem isNil_fn (neg : Bool) (f : Fn) (a c : List AV) : isNil .fn neg (.fn f a c) = some (.bool neg) := rfl
@[simp] theorem isNil_nili (neg : Bool) : isNil .ifc neg .nili = some (.bool (!neg)) := rfl
@[simp] theorem isNil_ifc (neg : Bool) (t : TypeId) (v : AV) : isNil .ifc neg (.ifc t v) = some (.bool neg) := rfl
@[simp] theorem isNil_lst (neg : Bool) (f : Bool) (x : AV) (l : List AV) : isNil .sl neg (.lst f (x :: l)) = some (.bool neg) := rfl
@[simp] theorem isNil_own (neg : Bool) (b v o n : Nat) : isNil .sl neg (.own b v o (n + 1)) = some (.bool neg) := rfl
@[simp] theorem shape_cell (x : AV) (l : List AV) : shape 1 false (x :: l) = some x := by simp [shape]
@[simp] theorem shape_agg (cs : List AV) : shape cs.length true cs = some (.agg cs) := by simp [shape]
@[simp] theorem shape_agg3 (a b c : AV) : shape 3 true [a, b, c] = some (.agg [a, b, c]) := by simp [shape]
@[simp] theorem shape_agg2 (a b : AV) : shape 2 true [a, b] = some (.agg [a, b]) := by simp [shape]
@[simp] theorem shape_agg4 (a b c d : AV) : shape 4 true [a, b, c, d] = some (.agg [a, b, c, d]) := by simp [shape]
@[simp] theorem shape_agg5 (a b c d e : AV) : shape 5 true [a, b, c, d, e] = some (.agg [a, b, c, d, e]) := by simp [shape]
@[simp] theorem shape_agg6 (a b c d e f : AV) : shape 6 true [a, b, c, d, e, f] = some (.agg [a, b, c, d, e, f]) := by simp [shape]
@[simp] theorem cellsAt_rptr (h : AH) (cs : List AV) : cellsAt h (.rptr cs) = some cs := rfl
@[simp] theorem elems_lst (h : AH) (f : Bool) (es : List AV) : elems h (.lst f es) = some es := rfl
@[simp] theorem szOk_nil (sz : Nat) : szOk sz [] = true := rfl
@[simp] theorem szOk_cons (sz : Nat) (x : AV) (l : List AV) : szOk sz (x :: l) = ((x.cells.length == sz) && szOk sz l) := rfl
@[simp] theorem szOk_append (sz : Nat) (l l' : List AV) : szOk sz (l ++ l') = (szOk sz l && szOk sz l') := by simp [szOk]
@[simp] theorem szOk_ints {α : Type} (k : IntKind) (f : α → Int) (l : List α) : szOk 1 (l.map fun x => AV.int k (f x)) = true := by simp [szOk]
@[simp] theorem szOk_int (k : IntKind) (l : List Int) : szOk 1 (l.map (AV.int k)) = true := by simp [szOk]
@[simp] theorem szOk_replicate (k : IntKind) (x : Int) (n : Nat) : szOk 1 (List.replicate n (AV.int k x)) = true := by simp [szOk]
@[simp] theorem normV_own (L : Nat) (R : List Nat) (h : AH) (b v o n : Nat) : normV L R h (.own b v o n) = normS L R h (.own b v o n) := by simp only [normV, isE_own, Bool.false_eq_true, if_false]
@[simp] theorem dropR_int (R : List Nat) (k : IntKind) (n : Int) : dropR R (.int k n) = .int k n := by simp [dropR]
@[simp] theorem dropR_bool (R : List Nat) (b : Bool) : dropR R (.bool b) = .bool b := by simp [dropR]
@[simp] theorem dropR_str (R : List Nat) (x : List UInt8) : dropR R (.str x) = .str x := by simp [dropR]
@[simp] theorem dropR_lst (R : List Nat) (f : Bool) (es : List AV) : dropR R (.lst f es) = .lst f es := by simp [dropR]
theorem dropR_agg (R : List Nat) (cs : List AV) (h : cs.all AV.isS = true) : dropR R (.agg cs) = .agg cs := by
  have h' : cs.all (fun x => x.isE || match x with | .ptr b _ _ _ => !R.contains b | .own b _ _ _ => !R.contains b | .mpv b => !R.contains b | _ => false) = true := by
    rw [List.all_eq_true] at h ⊢
    intro x hx
    have := h x hx
    cases x <;> first | rfl | simp_all [AV.isS]
  exact if_pos h'
theorem baseEnv_cons (r : Nat) (R : List Nat) (e : Env) (i : Nat) : baseEnv (r :: R) e i = dropR (r :: R) (e i) := rfl
attribute [simp] baseEnv_cons
@[simp] theorem baseEnv_nil (e : Env) : baseEnv [] e = e := rfl
end Go.Am

/-
  The abstract machine: what operations make, by their values: rules.
-/
namespace Go.Am

def vPick (c a b : AV) (h : AH) : Option (AV × AH) := match c with
  | .bool t => some (if t then a else b, h)
  | _ => none
@[simp] theorem vPick_bool (t : Bool) (a b : AV) (h : AH) : vPick (.bool t) a b h = some (if t then a else b, h) := rfl
def vNck (v : AV) (h : AH) : Option (AV × AH) := match v with
  | .ptr b v i o => some (.ptr b v i o, h)
  | .rptr cs => some (.rptr cs, h)
  | .fn f a c => match f with | .func g => some (.fn (.func g) a c, h) | _ => none
  | _ => none
@[simp] theorem vNck_ptr (b v i o : Nat) (h : AH) : vNck (.ptr b v i o) h = some (.ptr b v i o, h) := rfl
@[simp] theorem vNck_rptr (cs : List AV) (h : AH) : vNck (.rptr cs) h = some (.rptr cs, h) := rfl
@[simp] theorem vNck_fn (g : FuncId) (a c : List AV) (h : AH) : vNck (.fn (.func g) a c) h = some (.fn (.func g) a c, h) := rfl
def vBeq (neg : Bool) (u v : AV) (h : AH) : Option (AV × AH) := match u, v with
  | .bool a, .bool b => some (.bool (if neg then !decide (a = b) else decide (a = b)), h)
  | _, _ => none
@[simp] theorem vBeq_bool (neg a b : Bool) (h : AH) : vBeq neg (.bool a) (.bool b) h = some (.bool (if neg then !decide (a = b) else decide (a = b)), h) := rfl
def vSeq (neg : Bool) (ks : List Nat) (u v : AV) (h : AH) : Option (AV × AH) := match u, v with
  | .agg a, .agg b => (cellsEq ks a b).bind fun r => if a.length = ks.length ∧ b.length = ks.length then some (.bool (if neg then !r else r), h) else none
  | _, _ => none
@[simp] theorem vSeq_agg (neg : Bool) (ks : List Nat) (a b : List AV) (h : AH) : vSeq neg ks (.agg a) (.agg b) h = @bnd _ _ (cellsEq ks a b) ⟨fun r => if a.length = ks.length ∧ b.length = ks.length then some (.bool (if neg then !r else r), h) else none⟩ := rfl
def vConv (k : IntKind) (v : AV) (h : AH) : Option (AV × AH) := match v with
  | .int _ n => some (.int k (k.wrap n), h)
  | _ => none
@[simp] theorem vConv_int (k k' : IntKind) (n : Int) (h : AH) : vConv k (.int k' n) h = some (.int k (k.wrap n), h) := rfl
def vCstr (v : AV) (h : AH) : Option (AV × AH) := match v with
  | .str s => some (.str s, h)
  | _ => none
@[simp] theorem vCstr_str (s : List UInt8) (h : AH) : vCstr (.str s) h = some (.str s, h) := rfl
def optV (d : Nat) : Option AV → Option Nat
  | none => some d
  | some v => nat? v
@[simp] theorem optV_none (d : Nat) : optV d none = some d := rfl
@[simp] theorem optV_some (d : Nat) (v : AV) : optV d (some v) = nat? v := rfl
theorem optNat_eq (d : Nat) (e : Env) (x : Option AO) : optNat d e x = optV d (x.map fun y => y.get e) := by cases x <;> rfl
def vMks (sz bytes : Nat) (zero u v : AV) (h : AH) : Option (AV × AH) := match nat? u, nat? v with
  | some n, some m => if n ≤ m ∧ m * bytes ≤ 140737488355328 ∧ m ≤ 140737488355328 then some (.own h.length 0 0 n, h ++ [.row 0 sz (List.replicate n zero)]) else none
  | _, _ => none
@[simp] theorem vMks_int (sz bytes : Nat) (zero : AV) (k k' : IntKind) (n m : Int) (h : AH) : vMks sz bytes zero (.int k n) (.int k' m) h = if 0 ≤ n ∧ 0 ≤ m ∧ n.toNat ≤ m.toNat ∧ m.toNat * bytes ≤ 140737488355328 ∧ m.toNat ≤ 140737488355328 then some (.own h.length 0 0 n.toNat, h ++ [.row 0 sz (List.replicate n.toNat zero)]) else none := by
  unfold vMks nat?
  by_cases h1 : 0 ≤ n <;> by_cases h2 : 0 ≤ m <;> simp [h1, h2]
def vSls (x : AV) (lo hi : Option AV) (h : AH) : Option (AV × AH) := match x with
  | .str s => (optV s.length hi).bind fun b => (optV 0 lo).bind fun a => if a ≤ b ∧ b ≤ s.length then some (.str ((s.take b).drop a), h) else none
  | _ => none
@[simp] theorem vSls_str (s : List UInt8) (lo hi : Option AV) (h : AH) : vSls (.str s) lo hi h = @bnd _ _ (optV s.length hi) ⟨fun b => @bnd _ _ (optV 0 lo) ⟨fun a => if a ≤ b ∧ b ≤ s.length then some (.str ((s.take b).drop a), h) else none⟩⟩ := rfl
def vSll (sz : Nat) (x : AV) (lo hi mx : Option AV) (h : AH) : Option (AV × AH) := match x with
  | .lst full es => (optV es.length hi).bind fun b => (optV 0 lo).bind fun a =>
      match mx with
      | none => if szOk sz es = true ∧ a ≤ b ∧ b ≤ es.length then some (.lst (full && decide (b = es.length)) ((es.take b).drop a), h) else none
      | some m => (nat? m).bind fun m =>
          if szOk sz es = true ∧ hi.isSome = true ∧ a ≤ b ∧ b ≤ m ∧ m ≤ es.length then some (.lst (decide (b = m)) ((es.take b).drop a), h) else none
  | .own r v o n => (optV n hi).bind fun b => (optV 0 lo).bind fun a =>
      match mx with
      | none => if rowSz h r v = some sz ∧ a ≤ b ∧ b ≤ n then some (.own r v (o + a) (b - a), h) else none
      | some m => (nat? m).bind fun m =>
          if rowSz h r v = some sz ∧ hi.isSome = true ∧ a ≤ b ∧ b ≤ m ∧ m ≤ n then some (.own r v (o + a) (b - a), h) else none
  | _ => none
@[simp] theorem vSll_lst (sz : Nat) (full : Bool) (es : List AV) (lo hi : Option AV) (h : AH) : vSll sz (.lst full es) lo hi none h = @bnd _ _ (optV es.length hi) ⟨fun b => @bnd _ _ (optV 0 lo) ⟨fun a => if szOk sz es = true ∧ a ≤ b ∧ b ≤ es.length then some (.lst (full && decide (b = es.length)) ((es.take b).drop a), h) else none⟩⟩ := rfl
@[simp] theorem vSll_own (sz r v o n : Nat) (lo hi : Option AV) (h : AH) : vSll sz (.own r v o n) lo hi none h = @bnd _ _ (optV n hi) ⟨fun b => @bnd _ _ (optV 0 lo) ⟨fun a => if rowSz h r v = some sz ∧ a ≤ b ∧ b ≤ n then some (.own r v (o + a) (b - a), h) else none⟩⟩ := rfl
@[simp] theorem vSll_lst3 (sz : Nat) (full : Bool) (es : List AV) (lo hi : Option AV) (m : AV) (h : AH) : vSll sz (.lst full es) lo hi (some m) h = @bnd _ _ (optV es.length hi) ⟨fun b => @bnd _ _ (optV 0 lo) ⟨fun a => @bnd _ _ (nat? m) ⟨fun m => if szOk sz es = true ∧ hi.isSome = true ∧ a ≤ b ∧ b ≤ m ∧ m ≤ es.length then some (.lst (decide (b = m)) ((es.take b).drop a), h) else none⟩⟩⟩ := rfl
@[simp] theorem vSll_own3 (sz r v o n : Nat) (lo hi : Option AV) (m : AV) (h : AH) : vSll sz (.own r v o n) lo hi (some m) h = @bnd _ _ (optV n hi) ⟨fun b => @bnd _ _ (optV 0 lo) ⟨fun a => @bnd _ _ (nat? m) ⟨fun m => if rowSz h r v = some sz ∧ hi.isSome = true ∧ a ≤ b ∧ b ≤ m ∧ m ≤ n then some (.own r v (o + a) (b - a), h) else none⟩⟩⟩ := rfl
def vFad (off : Nat) (v : AV) (h : AH) : Option (AV × AH) := match v with
  | .ptr b v i o => some (.ptr b v i (o + off), h)
  | .rptr cs => if off ≤ cs.length then some (.rptr (cs.drop off), h) else none
  | _ => none
@[simp] theorem vFad_ptr (off b v i o : Nat) (h : AH) : vFad off (.ptr b v i o) h = some (.ptr b v i (o + off), h) := rfl
@[simp] theorem vFad_rptr (off : Nat) (cs : List AV) (h : AH) : vFad off (.rptr cs) h = if off ≤ cs.length then some (.rptr (cs.drop off), h) else none := rfl
def vFld (off sz : Nat) (agg : Bool) (v : AV) (h : AH) : Option (AV × AH) := match v with
  | .agg cs => if off ≤ cs.length then keepH h (shape sz agg (cs.drop off)) else none
  | _ => none
@[simp] theorem vFld_agg (off sz : Nat) (agg : Bool) (cs : List AV) (h : AH) : vFld off sz agg (.agg cs) h = if off ≤ cs.length then keepH h (shape sz agg (cs.drop off)) else none := rfl
def vIad (sz : Nat) (x i : AV) (h : AH) : Option (AV × AH) := match x with
  | .lst _ es => (nat? i).bind fun n => (es[n]?).bind fun y => if y.cells.length = sz then some (.rptr y.cells, h) else none
  | .own b v o m => (nat? i).bind fun n => if n < m ∧ rowSz h b v = some sz then some (.ptr b v (o + n) 0, h) else none
  | _ => none
@[simp] theorem vIad_lst (sz : Nat) (f : Bool) (es : List AV) (i : AV) (h : AH) : vIad sz (.lst f es) i h = @bnd _ _ (nat? i) ⟨fun n => @bnd _ _ (es[n]?) ⟨fun y => if y.cells.length = sz then some (.rptr y.cells, h) else none⟩⟩ := rfl
@[simp] theorem vIad_own (sz b v o m : Nat) (i : AV) (h : AH) : vIad sz (.own b v o m) i h = @bnd _ _ (nat? i) ⟨fun n => if n < m ∧ rowSz h b v = some sz then some (.ptr b v (o + n) 0, h) else none⟩ := rfl
def vIada (m sz : Nat) (x i : AV) (h : AH) : Option (AV × AH) := (nat? i).bind fun n => if n < m then
      match x with
      | .ptr b v j o => some (.ptr b v j (o + n * sz), h)
      | .rptr cs => if n * sz ≤ cs.length then some (.rptr (cs.drop (n * sz)), h) else none
      | _ => none
      else none
@[simp] theorem vIada_ptr (m sz b v j o : Nat) (i : AV) (h : AH) : vIada m sz (.ptr b v j o) i h = @bnd _ _ (nat? i) ⟨fun n => if n < m then some (.ptr b v j (o + n * sz), h) else none⟩ := rfl
@[simp] theorem vIada_rptr (m sz : Nat) (cs : List AV) (i : AV) (h : AH) : vIada m sz (.rptr cs) i h = @bnd _ _ (nat? i) ⟨fun n => if n < m then (if n * sz ≤ cs.length then some (.rptr (cs.drop (n * sz)), h) else none) else none⟩ := rfl
def vIdxs (x i : AV) (h : AH) : Option (AV × AH) := match x with
  | .str s => (nat? i).bind fun n => (s[n]?).bind fun c => some (.int .u8 c.toNat, h)
  | _ => none
@[simp] theorem vIdxs_str (s : List UInt8) (i : AV) (h : AH) : vIdxs (.str s) i h = @bnd _ _ (nat? i) ⟨fun n => @bnd _ _ (s[n]?) ⟨fun c => some (.int .u8 c.toNat, h)⟩⟩ := rfl
def vIdxa (m sz : Nat) (agg : Bool) (x i : AV) (h : AH) : Option (AV × AH) := match x with
  | .agg cs => (nat? i).bind fun n => if n < m ∧ n * sz ≤ cs.length then keepH h (shape sz agg (cs.drop (n * sz))) else none
  | _ => none
@[simp] theorem vIdxa_agg (m sz : Nat) (agg : Bool) (cs : List AV) (i : AV) (h : AH) : vIdxa m sz agg (.agg cs) i h = @bnd _ _ (nat? i) ⟨fun n => if n < m ∧ n * sz ≤ cs.length then keepH h (shape sz agg (cs.drop (n * sz))) else none⟩ := rfl
def vExt (x : AV) (i : Nat) (h : AH) : Option (AV × AH) := match x with
  | .tup vs => (vs[i]?).bind fun v => some (v, h)
  | _ => none
@[simp] theorem vExt_tup (vs : List AV) (i : Nat) (h : AH) : vExt (.tup vs) i h = @bnd _ _ (vs[i]?) ⟨fun v => some (v, h)⟩ := rfl
def vCallv (Γ : Tab) (f : AV) (args : List AV) (h : AH) : Option (AV × AH) := match f with
  | .fn g first cap => match g with
    | .func g => callA Γ g (first ++ args ++ cap) h
    | _ => none
  | _ => none
@[simp] theorem vCallv_fn (Γ : Tab) (g : FuncId) (first cap args : List AV) (h : AH) : vCallv Γ (.fn (.func g) first cap) args h = callA Γ g (first ++ args ++ cap) h := rfl
def vApps (bytes : Nat) (s x : AV) (h : AH) : Option (AV × AH) := match x with
  | .str t => append h 1 bytes s (t.map fun c => .int .u8 c.toNat)
  | _ => none
@[simp] theorem vApps_str (bytes : Nat) (s : AV) (t : List UInt8) (h : AH) : vApps bytes s (.str t) h = append h 1 bytes s (t.map fun c => .int .u8 c.toNat) := rfl
def vCopyB (sz0 b v o n : Nat) (src : List AV) (h : AH) (X : Option AB) : Option (AV × AH) := match X with
  | some (.row v' sz es) =>
    if v = v' ∧ sz = sz0 ∧ szOk sz0 src = true ∧ o + n ≤ es.length then some (.int .i64 (min src.length n), h.set b (.row v' sz (over es o (src.take n)))) else none
  | _ => none
@[simp] theorem vCopyB_row (sz0 b v o n : Nat) (src : List AV) (h : AH) (v' sz : Nat) (es : List AV) : vCopyB sz0 b v o n src h (some (.row v' sz es)) = if v = v' ∧ sz = sz0 ∧ szOk sz0 src = true ∧ o + n ≤ es.length then some (.int .i64 (min src.length n), h.set b (.row v' sz (over es o (src.take n)))) else none := rfl
def vCopy (sz0 : Nat) (d : AV) (src : List AV) (h : AH) : Option (AV × AH) := match d with
  | .own b v o n => vCopyB sz0 b v o n src h h[b]?
  | .lst _ es => if es = [] then some (.int .i64 0, h) else none
  | _ => none
@[simp] theorem vCopy_own (sz0 b v o n : Nat) (src : List AV) (h : AH) : vCopy sz0 (.own b v o n) src h = vCopyB sz0 b v o n src h h[b]? := rfl
@[simp] theorem vCopy_lst (sz0 : Nat) (f : Bool) (es src : List AV) (h : AH) : vCopy sz0 (.lst f es) src h = if es = [] then some (.int .i64 0, h) else none := rfl
def vMm (isMax : Bool) (vs : List AV) (h : AH) : Option (AV × AH) := match vs with
  | x :: l => keepH h (mmAll isMax x l)
  | [] => none
@[simp] theorem vMm_cons (isMax : Bool) (x : AV) (l : List AV) (h : AH) : vMm isMax (x :: l) h = keepH h (mmAll isMax x l) := rfl

def vClrB (sz0 : Nat) (zero : AV) (b v o n : Nat) (h : AH) (X : Option AB) : Option (AV × AH) := match X with
  | some (.row v' sz es) => if v = v' ∧ sz = sz0 ∧ o + n ≤ es.length then some (.tup [], h.set b (.row v' sz (over es o (List.replicate n zero)))) else none
  | _ => none
@[simp] theorem vClrB_row (sz0 : Nat) (zero : AV) (b v o n : Nat) (h : AH) (v' sz : Nat) (es : List AV) : vClrB sz0 zero b v o n h (some (.row v' sz es)) =
    if v = v' ∧ sz = sz0 ∧ o + n ≤ es.length then some (.tup [], h.set b (.row v' sz (over es o (List.replicate n zero)))) else none := rfl
def vClr (sz0 : Nat) (zero x : AV) (h : AH) : Option (AV × AH) := match x with
  | .own b v o n => vClrB sz0 zero b v o n h h[b]?
  | .lst _ es => if es = [] then some (.tup [], h) else none
  | _ => none
@[simp] theorem vClr_own (sz0 : Nat) (zero : AV) (b v o n : Nat) (h : AH) : vClr sz0 zero (.own b v o n) h = vClrB sz0 zero b v o n h h[b]? := rfl
@[simp] theorem vClr_lst (sz0 : Nat) (zero : AV) (f : Bool) (es : List AV) (h : AH) : vClr sz0 zero (.lst f es) h = if es = [] then some (.tup [], h) else none := rfl
section
variable {Γ : Tab} {e : Env} {h : AH}
@[simp ↓] theorem exec_clr (sz : Nat) (zero : AV) (x : AO) : exec Γ e h (.clr sz zero x) = vClr sz zero (x.get e) h := by
  simp only [exec]
  cases x.get e <;> rfl
@[simp ↓] theorem exec_mv (x : AO) : exec Γ e h (.mv x) = some (x.get e, h) := rfl
@[simp ↓] theorem exec_pick (c a b : AO) : exec Γ e h (.pick c a b) = vPick (c.get e) (a.get e) (b.get e) h := rfl
def mapB (b : Nat) : Option AB → Option (Nat × List (Int × AV))
  | some (.mp es) => some (b, es)
  | _ => none
@[simp] theorem mapB_mp (b : Nat) (es : List (Int × AV)) : mapB b (some (.mp es)) = some (b, es) := rfl
@[simp] theorem mapAt_mpv (h : AH) (b : Nat) : mapAt h (.mpv b) = mapB b h[b]? := by
  simp only [mapAt]
  cases h[b]? with
  | none => rfl
  | some X => cases X <;> rfl
@[simp] theorem keyM_i64 (n : Int) : keyM (.int .i64 n) = some n := rfl
@[simp ↓] theorem exec_mkm : exec Γ e h .mkm = some (.mpv h.length, h ++ [.mp []]) := rfl
@[simp ↓] theorem exec_mget (zero : AV) (m k : AO) : exec Γ e h (.mget zero m k) = @bnd _ _ (mapAt h (m.get e)) ⟨fun p => @bnd _ _ (keyM (k.get e)) ⟨fun n => some (lookM p.2 n zero, h)⟩⟩ := rfl
@[simp ↓] theorem exec_mput (m k x : AO) : exec Γ e h (.mput m k x) = @bnd _ _ (mapAt h (m.get e)) ⟨fun p => @bnd _ _ (keyM (k.get e)) ⟨fun n => if (x.get e).okc = true then some (.undef, h.set p.1 (.mp (putM p.2 n (x.get e)))) else none⟩⟩ := rfl
@[simp ↓] theorem exec_mlen (m : AO) : exec Γ e h (.mlen m) = @bnd _ _ (mapAt h (m.get e)) ⟨fun p => some (.int .i64 p.2.length, h)⟩ := rfl
@[simp ↓] theorem exec_alloc (zero : List AV) : exec Γ e h (.alloc zero) = some (.ptr h.length 0 0 0, h ++ [.var zero]) := rfl
@[simp ↓] theorem exec_box (x : AO) : exec Γ e h (.box x) = if (x.get e).cells.all AV.okc then some (.ptr h.length 0 0 0, h ++ [.var (x.get e).cells]) else none := rfl
@[simp ↓] theorem exec_build (zero : List AV) (ps : List (Nat × Nat × AO)) : exec Γ e h (.build zero ps) = @bnd _ _ (parts e ps zero) ⟨fun cs => some (.agg cs, h)⟩ := rfl
@[simp ↓] theorem exec_bsl (sz : Nat) (zero : AV) (len : Nat) (ps : List (Nat × AO)) : exec Γ e h (.bsl sz zero len ps) = @bnd _ _ (bpartsP e sz ps (List.replicate len zero)) ⟨fun es => some (.lst true es, h)⟩ := rfl
@[simp ↓] theorem exec_bslo (sz : Nat) (zero : AV) (len : Nat) (ps : List (Nat × AO)) : exec Γ e h (.bslo sz zero len ps) = @bnd _ _ (bparts e sz ps (List.replicate len zero) h) ⟨fun p => some (.own p.2.length 0 0 p.1.length, p.2 ++ [.row 0 sz p.1])⟩ := rfl
@[simp ↓] theorem exec_bslh (sz : Nat) (zero : AV) (len : Nat) (ps : List (Nat × AO)) : exec Γ e h (.bslh sz zero len ps) = @bnd _ _ (bparts e sz ps (List.replicate len zero) h) ⟨fun p => some (.lst true p.1, p.2)⟩ := rfl
@[simp ↓] theorem exec_load (sz : Nat) (agg : Bool) (a : AO) : exec Γ e h (.load sz agg a) = @bnd _ _ (cellsAt h (a.get e)) ⟨fun cs => keepH h (shape sz agg cs)⟩ := rfl
@[simp ↓] theorem exec_storer (sz : Nat) (a x : AO) : exec Γ e h (.storer sz a x) = if isVarB h (a.get e) = true then @bnd _ _ (storeAt h sz (a.get e) (x.get e)) ⟨fun q => some (.undef, q)⟩ else none := rfl
@[simp ↓] theorem exec_loadx (sz : Nat) (agg : Bool) (a : AO) (q : Nat) : exec Γ e h (.loadx sz agg a q) = if farFrom (e q) (a.get e) = true then @bnd _ _ (cellsAt h (a.get e)) ⟨fun cs => keepH h (shape sz agg cs)⟩ else none := rfl
@[simp] theorem farFrom_ptr (b v i o b' v' i' o' : Nat) : farFrom (.ptr b v i o) (.ptr b' v' i' o') = decide (b ≠ b') := rfl
@[simp] theorem farFrom_rptr (b v i o : Nat) (cs : List AV) : farFrom (.ptr b v i o) (.rptr cs) = true := rfl
@[simp] theorem isVarB_ptr (h : AH) (b v i o : Nat) : isVarB h (.ptr b v i o) = match h[b]? with | some (.var _) => true | _ => false := rfl
@[simp ↓] theorem exec_store (sz : Nat) (a x : AO) : exec Γ e h (.store sz a x) = @bnd _ _ (storeAt h sz (a.get e) (x.get e)) ⟨fun q => some (.undef, q)⟩ := rfl
@[simp ↓] theorem exec_nck (x : AO) : exec Γ e h (.nck x) = vNck (x.get e) h := rfl
@[simp ↓] theorem exec_bin (op : BinOp) (x y : AO) : exec Γ e h (.bin op x y) = keepH h (bin op (x.get e) (y.get e)) := rfl
@[simp ↓] theorem exec_beq (neg : Bool) (x y : AO) : exec Γ e h (.beq neg x y) = vBeq neg (x.get e) (y.get e) h := rfl
@[simp ↓] theorem exec_seq (neg : Bool) (ks : List Nat) (x y : AO) : exec Γ e h (.seq neg ks x y) = vSeq neg ks (x.get e) (y.get e) h := rfl
@[simp ↓] theorem exec_un (op : UnOp) (x : AO) : exec Γ e h (.un op x) = keepH h (un op (x.get e)) := rfl
@[simp ↓] theorem exec_conv (k : IntKind) (x : AO) : exec Γ e h (.conv k x) = vConv k (x.get e) h := rfl
@[simp ↓] theorem exec_cstr (x : AO) : exec Γ e h (.cstr x) = vCstr (x.get e) h := rfl
@[simp ↓] theorem exec_bts (x : AO) : exec Γ e h (.bts x) = @bnd _ _ (elems h (x.get e)) ⟨fun es => @bnd _ _ (toBytes es) ⟨fun s => some (.str s, h)⟩⟩ := rfl
@[simp ↓] theorem exec_mki (t : TypeId) (x : AO) : exec Γ e h (.mki t x) = some (.ifc t (x.get e), h) := rfl
@[simp ↓] theorem exec_mkf (f : Fn) (a c : List AO) : exec Γ e h (.mkf f a c) = some (.fn f (getAll e a) (getAll e c), h) := rfl
@[simp ↓] theorem exec_mks (sz bytes : Nat) (zero : AV) (l c : AO) : exec Γ e h (.mks sz bytes zero l c) = vMks sz bytes zero (l.get e) (c.get e) h := rfl
@[simp ↓] theorem exec_sls (x : AO) (lo hi : Option AO) : exec Γ e h (.sls x lo hi) = vSls (x.get e) (lo.map fun y => y.get e) (hi.map fun y => y.get e) h := by simp only [exec, vSls, optNat_eq]; rfl
@[simp ↓] theorem exec_sll (sz : Nat) (x : AO) (lo hi mx : Option AO) : exec Γ e h (.sll sz x lo hi mx) = vSll sz (x.get e) (lo.map fun y => y.get e) (hi.map fun y => y.get e) (mx.map fun y => y.get e) h := by
  cases mx <;> simp only [exec, vSll, optNat_eq, Option.map, Option.isSome_map] <;> cases x.get e <;> cases hi <;> rfl
@[simp ↓] theorem exec_fad (off : Nat) (x : AO) : exec Γ e h (.fad off x) = vFad off (x.get e) h := rfl
@[simp ↓] theorem exec_fld (off sz : Nat) (agg : Bool) (x : AO) : exec Γ e h (.fld off sz agg x) = vFld off sz agg (x.get e) h := rfl
@[simp ↓] theorem exec_iad (sz : Nat) (x i : AO) : exec Γ e h (.iad sz x i) = vIad sz (x.get e) (i.get e) h := rfl
@[simp ↓] theorem exec_iada (m sz : Nat) (x i : AO) : exec Γ e h (.iada m sz x i) = vIada m sz (x.get e) (i.get e) h := rfl
@[simp ↓] theorem exec_idxs (x i : AO) : exec Γ e h (.idxs x i) = vIdxs (x.get e) (i.get e) h := rfl
@[simp ↓] theorem exec_idxa (m sz : Nat) (agg : Bool) (x i : AO) : exec Γ e h (.idxa m sz agg x i) = vIdxa m sz agg (x.get e) (i.get e) h := rfl
@[simp ↓] theorem exec_ext (x : AO) (i : Nat) : exec Γ e h (.ext x i) = vExt (x.get e) i h := rfl
@[simp ↓] theorem exec_call (f : FuncId) (args : List AO) : exec Γ e h (.call f args) = callA Γ f (getAll e args) h := rfl
@[simp ↓] theorem exec_callp (f : FuncId) (args : List AO) : exec Γ e h (.callp f args) = if (getAll e args).all AV.isE then keepH h (Γ.p f (getAll e args)) else none := rfl
@[simp ↓] theorem exec_callv (f : AO) (args : List AO) : exec Γ e h (.callv f args) = vCallv Γ (f.get e) (getAll e args) h := rfl
def vLoadr (sz : Nat) (agg : Bool) (a : AV) (h : AH) : Option (AV × AH) := match a with
  | .rptr cs => keepH h (shape sz agg cs)
  | _ => none
@[simp] theorem vLoadr_rptr (sz : Nat) (agg : Bool) (cs : List AV) (h : AH) : vLoadr sz agg (.rptr cs) h = keepH h (shape sz agg cs) := rfl
noncomputable def vCallr (Γ : Tab) (f : AV) (args : List AV) (h : AH) : Option (AV × AH) := match f with
  | .fn g first cap => match g with
    | .func g => sameH h (callA Γ g (first ++ args ++ cap) h)
    | _ => none
  | _ => none
@[simp] theorem vCallr_fn (g : FuncId) (first cap args : List AV) (h : AH) : vCallr Γ (.fn (.func g) first cap) args h = sameH h (callA Γ g (first ++ args ++ cap) h) := rfl
@[simp] theorem sameH_same (h : AH) (r : AV) : sameH h (some (r, h)) = some (r, h) := by simp [sameH]
@[simp ↓] theorem exec_callq (f : FuncId) (args : List AO) : exec Γ e h (.callq f args) = if (getAll e args).all AV.isE then @bnd _ _ (@bnd _ _ (Γ.h f (getAll e args) []) ⟨fun p => purP p.2 p.1⟩) ⟨fun p => some (p.1, h)⟩ else none := rfl
@[simp ↓] theorem exec_rbox (x : AO) : exec Γ e h (.rbox x) = if (x.get e).cells.all AV.isS then some (.rptr (x.get e).cells, h) else none := rfl
@[simp ↓] theorem exec_loadr (sz : Nat) (agg : Bool) (a : AO) : exec Γ e h (.loadr sz agg a) = vLoadr sz agg (a.get e) h := rfl
@[simp ↓] theorem exec_calla (f : FuncId) (args : List AO) : exec Γ e h (.calla f args) = growH h (callA Γ f (getAll e args) h) := rfl
open Classical in
@[simp] theorem growH_some (h h' : AH) (r : AV) : growH h (some (r, h')) = if h'.take h.length = h then some (r, h') else none := rfl
@[simp ↓] theorem exec_callr (f : AO) (args : List AO) : exec Γ e h (.callr f args) = vCallr Γ (f.get e) (getAll e args) h := rfl
@[simp ↓] theorem exec_app (sz bytes : Nat) (s x : AO) : exec Γ e h (.app sz bytes s x) = @bnd _ _ (elems h (x.get e)) ⟨fun news => append h sz bytes (s.get e) news⟩ := rfl
@[simp ↓] theorem exec_appz (sz bytes : Nat) (zero : AV) (s x : AO) : exec Γ e h (.appz sz bytes zero s x) = @bnd _ _ (nat? (x.get e)) ⟨fun n => append h sz bytes (s.get e) (List.replicate n zero)⟩ := rfl
@[simp ↓] theorem exec_apps (bytes : Nat) (s x : AO) : exec Γ e h (.apps bytes s x) = vApps bytes (s.get e) (x.get e) h := rfl
@[simp ↓] theorem exec_copy (sz0 : Nat) (d s : AO) : exec Γ e h (.copy sz0 d s) = @bnd _ _ (elems h (s.get e)) ⟨fun src => vCopy sz0 (d.get e) src h⟩ := by
  simp only [exec]
  congr 1
@[simp ↓] theorem exec_len (str : Bool) (x : AO) : exec Γ e h (.len str x) = @bnd _ _ (slen str (x.get e)) ⟨fun n => some (.int .i64 n, h)⟩ := rfl
@[simp ↓] theorem exec_lena (n : Nat) : exec Γ e h (.lena n) = some (.int .i64 n, h) := rfl
@[simp ↓] theorem exec_mm (isMax : Bool) (xs : List AO) : exec Γ e h (.mm isMax xs) = vMm isMax (getAll e xs) h := rfl
@[simp ↓] theorem exec_no : exec Γ e h .no = none := rfl
@[simp ↓] theorem exec_isnil (k : NK) (neg : Bool) (x : AO) : exec Γ e h (.isnil k neg x) = keepH h (isNil k neg (x.get e)) := rfl
@[simp] theorem keepH_some (v : AV) : keepH h (some v) = some (v, h) := rfl
end

def storeB (h : AH) (sz b v i o : Nat) (x : AV) : Option AB → Option AH
  | some (.var cs) => if v = 0 ∧ i = 0 ∧ x.cells.all AV.okc = true ∧ x.cells.length = sz ∧ o + sz ≤ cs.length then some (h.set b (.var (over cs o x.cells))) else none
  | some (.row _ _ _) => (purE h x).bind fun (x', h') =>
      match h'[b]? with
      | some (.row v' sz' es) => (es[i]?).bind fun e =>
        if v = v' ∧ x'.cells.all AV.isS = true ∧ x'.cells.length = sz ∧ o + sz ≤ e.cells.length then some (h'.set b (.row v' sz' (es.set i (e.withCells (over e.cells o x'.cells))))) else none
      | _ => none
  | _ => none
def storeR (h' : AH) (sz b v i o : Nat) (x' : AV) : Option AB → Option AH
  | some (.row v' sz' es) => (es[i]?).bind fun e =>
      if v = v' ∧ x'.cells.all AV.isS = true ∧ x'.cells.length = sz ∧ o + sz ≤ e.cells.length then some (h'.set b (.row v' sz' (es.set i (e.withCells (over e.cells o x'.cells))))) else none
  | _ => none
@[simp] theorem storeAt_ptr (h : AH) (sz b v i o : Nat) (x : AV) : storeAt h sz (.ptr b v i o) x = storeB h sz b v i o x h[b]? := by
  simp only [storeAt]
  cases h[b]? with
  | none => rfl
  | some X => cases X <;> rfl
@[simp] theorem storeB_var (h : AH) (sz b v i o : Nat) (x : AV) (cs : List AV) : storeB h sz b v i o x (some (.var cs)) = if v = 0 ∧ i = 0 ∧ x.cells.all AV.okc = true ∧ x.cells.length = sz ∧ o + sz ≤ cs.length then some (h.set b (.var (over cs o x.cells))) else none := rfl
@[simp] theorem storeB_row (h : AH) (sz b v i o : Nat) (x : AV) (v' sz' : Nat) (es : List AV) : storeB h sz b v i o x (some (.row v' sz' es)) = @bnd _ _ (purE h x) ⟨fun p => storeR p.2 sz b v i o p.1 p.2[b]?⟩ := by
  simp only [storeB]
  congr 1
@[simp] theorem storeR_row (h' : AH) (sz b v i o : Nat) (x' : AV) (v' sz' : Nat) (es : List AV) : storeR h' sz b v i o x' (some (.row v' sz' es)) = @bnd _ _ (es[i]?) ⟨fun e => if v = v' ∧ x'.cells.all AV.isS = true ∧ x'.cells.length = sz ∧ o + sz ≤ e.cells.length then some (h'.set b (.row v' sz' (es.set i (e.withCells (over e.cells o x'.cells))))) else none⟩ := rfl
def cellsB (v i o : Nat) : Option AB → Option (List AV)
  | some (.var cs) => if v = 0 ∧ i = 0 ∧ o ≤ cs.length then some (cs.drop o) else none
  | some (.row v' _ es) => if v = v' then (es[i]?).bind fun x => if o ≤ x.cells.length then some (x.cells.drop o) else none else none
  | some (.fro v' _ es) => if v = v' then (es[i]?).bind fun x => if o ≤ x.cells.length then some (x.cells.drop o) else none else none
  | _ => none
@[simp] theorem cellsAt_ptr (h : AH) (b v i o : Nat) : cellsAt h (.ptr b v i o) = cellsB v i o h[b]? := by
  simp only [cellsAt]
  cases h[b]? with
  | none => rfl
  | some X => cases X <;> rfl
@[simp] theorem cellsB_var (v i o : Nat) (cs : List AV) : cellsB v i o (some (.var cs)) = if v = 0 ∧ i = 0 ∧ o ≤ cs.length then some (cs.drop o) else none := rfl
@[simp] theorem cellsB_row (v i o v' sz : Nat) (es : List AV) : cellsB v i o (some (.row v' sz es)) = if v = v' then @bnd _ _ (es[i]?) ⟨fun x => if o ≤ x.cells.length then some (x.cells.drop o) else none⟩ else none := rfl
@[simp] theorem cellsB_fro (v i o v' sz : Nat) (es : List AV) : cellsB v i o (some (.fro v' sz es)) = if v = v' then @bnd _ _ (es[i]?) ⟨fun x => if o ≤ x.cells.length then some (x.cells.drop o) else none⟩ else none := rfl
def elemsB (v o n : Nat) : Option AB → Option (List AV)
  | some (.row v' _ es) => if v = v' ∧ o + n ≤ es.length then some ((es.drop o).take n) else none
  | some (.fro v' _ es) => if v = v' ∧ o + n ≤ es.length then some ((es.drop o).take n) else none
  | _ => none
@[simp] theorem elems_own (h : AH) (b v o n : Nat) : elems h (.own b v o n) = elemsB v o n h[b]? := by
  simp only [elems]
  cases h[b]? with
  | none => rfl
  | some X => cases X <;> rfl
@[simp] theorem elemsB_row (v o n v' sz : Nat) (es : List AV) : elemsB v o n (some (.row v' sz es)) = if v = v' ∧ o + n ≤ es.length then some ((es.drop o).take n) else none := rfl
@[simp] theorem elemsB_fro (v o n v' sz : Nat) (es : List AV) : elemsB v o n (some (.fro v' sz es)) = if v = v' ∧ o + n ≤ es.length then some ((es.drop o).take n) else none := rfl
def rowSzB (v : Nat) : Option AB → Option Nat
  | some (.row v' sz _) => if v = v' then some sz else none
  | some (.fro v' sz _) => if v = v' then some sz else none
  | _ => none
@[simp] theorem rowSz_eq (h : AH) (b v : Nat) : rowSz h b v = rowSzB v h[b]? := by
  simp only [rowSz]
  cases h[b]? with
  | none => rfl
  | some X => cases X <;> rfl
@[simp] theorem rowSzB_row (v v' sz : Nat) (es : List AV) : rowSzB v (some (.row v' sz es)) = if v = v' then some sz else none := rfl
@[simp] theorem rowSzB_fro (v v' sz : Nat) (es : List AV) : rowSzB v (some (.fro v' sz es)) = if v = v' then some sz else none := rfl
def appendB (h : AH) (sz bytes b v o n : Nat) (news : List AV) : Option AB → Option (AV × AH)
  | some (.row v' sz' es) =>
      if v = v' ∧ sz' = sz ∧ szOk sz news = true ∧ o + n ≤ es.length ∧ (n + news.length) * bytes ≤ 140737488355328 ∧ n + news.length ≤ 140737488355328 then
        some (.own b (v + 1) 0 (n + news.length), h.set b (.row (v + 1) sz ((es.drop o).take n ++ news)))
      else none
  | _ => none
@[simp] theorem append_own (h : AH) (sz bytes b v o n : Nat) (news : List AV) : append h sz bytes (.own b v o n) news = appendB h sz bytes b v o n news h[b]? := by
  simp only [append]
  cases h[b]? with
  | none => rfl
  | some X => cases X <;> rfl
@[simp] theorem appendB_row (h : AH) (sz bytes b v o n : Nat) (news : List AV) (v' sz' : Nat) (es : List AV) : appendB h sz bytes b v o n news (some (.row v' sz' es)) = if v = v' ∧ sz' = sz ∧ szOk sz news = true ∧ o + n ≤ es.length ∧ (n + news.length) * bytes ≤ 140737488355328 ∧ n + news.length ≤ 140737488355328 then some (.own b (v + 1) 0 (n + news.length), h.set b (.row (v + 1) sz ((es.drop o).take n ++ news))) else none := rfl
@[simp] theorem append_lst (h : AH) (sz bytes : Nat) (es news : List AV) : append h sz bytes (.lst true es) news = if (es = [] ∨ news ≠ []) ∧ szOk sz es = true ∧ szOk sz news = true ∧ (es.length + news.length) * bytes ≤ 140737488355328 ∧ es.length + news.length ≤ 140737488355328 then some (.own h.length 0 0 (es.length + news.length), h ++ [.row 0 sz (es ++ news)]) else none := rfl
def normO (b v o n : Nat) : Option AB → AV
  | some (.row v' _ _) => if v = v' then .own b 0 o n else .dead
  | some (.fro v' _ _) => if v = v' then .own b 0 o n else .dead
  | _ => .dead
@[simp] theorem normO_row (b v o n v' sz : Nat) (es : List AV) : normO b v o n (some (.row v' sz es)) = if v = v' then .own b 0 o n else .dead := rfl
@[simp] theorem normO_fro (b v o n v' sz : Nat) (es : List AV) : normO b v o n (some (.fro v' sz es)) = if v = v' then .own b 0 o n else .dead := rfl
def normL : Option (List AV) → AV
  | some es => .lst false es
  | none => .dead
@[simp] theorem normL_some (es : List AV) : normL (some es) = .lst false es := rfl
theorem normS_own' (L : Nat) (R : List Nat) (h : AH) (b v o n : Nat) : normS L R h (.own b v o n) =
    if b < L then (if R.contains b then normO b v o n h[b]? else .own b v o n) else normL (elems h (.own b v o n)) := by
  simp only [normS]
  split
  · split
    · cases h[b]? with
      | none => rfl
      | some X => cases X <;> rfl
    · rfl
  · cases elems h (.own b v o n) <;> rfl
attribute [simp] normS_own'
def purO (h : AH) (b v o n : Nat) : Option AB → Option (AV × AH)
  | some (.row v' sz es) => if v = v' ∧ o + n ≤ es.length then some (.lst false ((es.drop o).take n), h.set b (.fro v' sz es)) else none
  | some (.fro v' _ es) => if v = v' ∧ o + n ≤ es.length then some (.lst false ((es.drop o).take n), h) else none
  | _ => none
@[simp] theorem purS_own (h : AH) (b v o n : Nat) : purS h (.own b v o n) = purO h b v o n h[b]? := by
  simp only [purS]
  cases h[b]? with
  | none => rfl
  | some X => cases X <;> rfl
@[simp] theorem purO_row (h : AH) (b v o n v' sz : Nat) (es : List AV) : purO h b v o n (some (.row v' sz es)) = if v = v' ∧ o + n ≤ es.length then some (.lst false ((es.drop o).take n), h.set b (.fro v' sz es)) else none := rfl
@[simp] theorem purO_fro (h : AH) (b v o n v' sz : Nat) (es : List AV) : purO h b v o n (some (.fro v' sz es)) = if v = v' ∧ o + n ≤ es.length then some (.lst false ((es.drop o).take n), h) else none := rfl
@[simp ↓] theorem parts_nil (e : Env) (cs : List AV) : parts e [] cs = some cs := rfl
@[simp ↓] theorem parts_cons (e : Env) (off size : Nat) (x : AO) (l : List (Nat × Nat × AO)) (cs : List AV) : parts e ((off, size, x) :: l) cs =
    @bnd _ _ (if (x.get e).cells.all AV.okc = true ∧ (x.get e).cells.length = size ∧ off + size ≤ cs.length then some (over cs off (x.get e).cells) else none) ⟨fun cs => parts e l cs⟩ := by
  simp only [parts]; split <;> rfl
@[simp ↓] theorem bpartsP_nil (e : Env) (sz : Nat) (es : List AV) : bpartsP e sz [] es = some es := rfl
@[simp ↓] theorem bpartsP_cons (e : Env) (sz i : Nat) (x : AO) (l : List (Nat × AO)) (es : List AV) : bpartsP e sz ((i, x) :: l) es =
    @bnd _ _ (if (x.get e).isE ∧ (x.get e).cells.length = sz ∧ i < es.length then some (es.set i (x.get e)) else none) ⟨fun es => bpartsP e sz l es⟩ := by
  simp only [bpartsP]; split <;> rfl
@[simp ↓] theorem bparts_nil (e : Env) (sz : Nat) (es : List AV) (h : AH) : bparts e sz [] es h = some (es, h) := rfl
@[simp ↓] theorem bparts_cons (e : Env) (sz i : Nat) (x : AO) (l : List (Nat × AO)) (es : List AV) (h : AH) : bparts e sz ((i, x) :: l) es h =
    @bnd _ _ (purE h (x.get e)) ⟨fun p => if p.1.cells.length = sz ∧ i < es.length then bparts e sz l (es.set i p.1) p.2 else none⟩ := rfl
@[simp ↓] theorem resOne_t (s : St) (i : Nat) : resOne s (.t i) = some (s.e i) := rfl
@[simp ↓] theorem resOne_cell (s : St) (i sz : Nat) (agg : Bool) : resOne s (.cell i sz agg) = @bnd _ _ (cellsAt s.h (s.e i)) ⟨fun cs => shape sz agg cs⟩ := rfl
@[simp ↓] theorem resAll_nil (s : St) : resAll s [] = some [] := rfl
@[simp ↓] theorem resAll_cons (s : St) (r : AR) (l : List AR) : resAll s (r :: l) = @bnd _ _ (resOne s r) ⟨fun v => @bnd _ _ (resAll s l) ⟨fun vs => some (v :: vs)⟩⟩ := rfl
def tupOf : List AV → AV
  | [v] => v
  | vs => .tup vs
@[simp] theorem tupOf_nil : tupOf [] = .tup [] := rfl
@[simp] theorem tupOf_one (v : AV) : tupOf [v] = v := rfl
@[simp] theorem tupOf_more (a b : AV) (l : List AV) : tupOf (a :: b :: l) = .tup (a :: b :: l) := rfl
@[simp ↓] theorem resV_eq (s : St) (l : List AR) : resV s l = @bnd _ _ (resAll s l) ⟨fun vs => some (tupOf vs)⟩ := by
  unfold resV bnd
  congr 1
  funext vs
  match vs with
  | [] => rfl
  | [v] => rfl
  | _ :: _ :: _ => rfl
end Go.Am

/-
  The abstract machine: loops over lists; small rules.
-/
namespace Go.Am

theorem wrap_of {n : Int} (h1 : -9223372036854775808 ≤ n) (h2 : n ≤ 9223372036854775807) : IntKind.i64.wrap n = n := by
  have e : IntKind.i64.wrap n = if decide (n % 18446744073709551616 ≥ 9223372036854775808) = true then n % 18446744073709551616 - 18446744073709551616 else n % 18446744073709551616 := rfl
  rw [e]
  by_cases h : 0 ≤ n
  · rw [Int.emod_eq_of_lt h (by omega)]
    rw [if_neg (by simp; omega)]
  · have : n % 18446744073709551616 = n + 18446744073709551616 := by omega
    rw [this, if_pos (by simp; omega)]; omega

/-- A list gone through, with an early end. -/
def foldE {α σ τ : Type} (g : σ → α → σ ⊕ τ) : List α → σ → σ ⊕ τ
  | [], s => .inl s
  | a :: l, s => match g s a with
    | .inl s' => foldE g l s'
    | .inr t => .inr t

section
variable {α σ X Y : Type} {f : X → Option (X ⊕ Y)}

theorem for_from (emb : Nat → σ → X) (l : List α) (g : σ → α → σ) (fin : σ → Y) (I : Nat → σ → Prop)
    (hstep : ∀ i (hi : i < l.length) s, I i s → I (i + 1) (g s l[i]) ∧ f (emb i s) = some (.inl (emb (i + 1) (g s l[i]))))
    (hend : ∀ s, I l.length s → f (emb l.length s) = some (.inr (fin s))) : ∀ n i s, l.length - i = n → i ≤ l.length → I i s → iter f (emb i s) = some (fin ((l.drop i).foldl g s))
  | 0, i, s, hn, hi, h => by
    have : i = l.length := by omega
    subst this
    rw [iter_eq, hend s h, List.drop_length]
    rfl
  | n + 1, i, s, hn, hi, h => by
    have hlt : i < l.length := by omega
    obtain ⟨h1, h2⟩ := hstep i hlt s h
    rw [iter_eq, h2, List.drop_eq_getElem_cons hlt]
    exact for_from emb l g fin I hstep hend n (i + 1) _ (by omega) hlt h1

theorem for_list (emb : Nat → σ → X) (l : List α) (g : σ → α → σ) (fin : σ → Y) (I : Nat → σ → Prop)
    (hstep : ∀ i (hi : i < l.length) s, I i s → I (i + 1) (g s l[i]) ∧ f (emb i s) = some (.inl (emb (i + 1) (g s l[i]))))
    (hend : ∀ s, I l.length s → f (emb l.length s) = some (.inr (fin s))) (s : σ) (h0 : I 0 s) : iter f (emb 0 s) = some (fin (l.foldl g s)) :=
  for_from emb l g fin I hstep hend _ 0 s rfl (Nat.zero_le _) h0

theorem for_fromE (emb : Nat → σ → X) (l : List α) (g : σ → α → σ ⊕ Y) (fin : σ → Y) (I : Nat → σ → Prop)
    (hstep : ∀ i (hi : i < l.length) s, I i s → match g s l[i] with
      | .inl s' => I (i + 1) s' ∧ f (emb i s) = some (.inl (emb (i + 1) s'))
      | .inr y => f (emb i s) = some (.inr y))
    (hend : ∀ s, I l.length s → f (emb l.length s) = some (.inr (fin s))) : ∀ n i s, l.length - i = n → i ≤ l.length → I i s → iter f (emb i s) = some (match foldE g (l.drop i) s with | .inl s' => fin s' | .inr y => y)
  | 0, i, s, hn, hi, h => by
    have : i = l.length := by omega
    subst this
    rw [iter_eq, hend s h, List.drop_length]
    rfl
  | n + 1, i, s, hn, hi, h => by
    have hlt : i < l.length := by omega
    have h1 := hstep i hlt s h
    rw [List.drop_eq_getElem_cons hlt]
    simp only [foldE]
    split at h1
    · rename_i s' hs
      obtain ⟨h1, h2⟩ := h1
      rw [iter_eq, h2]
      exact for_fromE emb l g fin I hstep hend n (i + 1) _ (by omega) hlt h1
    · rename_i y hs
      rw [iter_eq, h1]

/-- A loop over a list: 'g' one round, 'fin' the end. -/
theorem for_listE (emb : Nat → σ → X) (l : List α) (g : σ → α → σ ⊕ Y) (fin : σ → Y) (I : Nat → σ → Prop)
    (hstep : ∀ i (hi : i < l.length) s, I i s → match g s l[i] with
      | .inl s' => I (i + 1) s' ∧ f (emb i s) = some (.inl (emb (i + 1) s'))
      | .inr y => f (emb i s) = some (.inr y))
    (hend : ∀ s, I l.length s → f (emb l.length s) = some (.inr (fin s))) (s : σ) (h0 : I 0 s) : iter f (emb 0 s) = some (match foldE g l s with | .inl s' => fin s' | .inr y => y) :=
  for_fromE emb l g fin I hstep hend _ 0 s rfl (Nat.zero_le _) h0

theorem for_cmpF {β : Type} (emb : Nat → X) (a : List α) (b : List β) (hl : a.length = b.length) (p : α → β → Bool) (yes no : Y)
    (hstep : ∀ i (h : i < a.length) (h' : i < b.length), f (emb i) = if p a[i] b[i] = true then some (.inl (emb (i + 1))) else some (.inr no))
    (hend : f (emb a.length) = some (.inr yes)) : ∀ n i, a.length - i = n → i ≤ a.length → iter f (emb i) = some (if ((a.drop i).zip (b.drop i)).all (fun x => p x.1 x.2) = true then yes else no)
  | 0, i, hn, hi => by
    have : i = a.length := by omega
    subst this
    rw [iter_eq, hend, List.drop_length]
    rfl
  | n + 1, i, hn, hi => by
    have h1 : i < a.length := by omega
    have h2 : i < b.length := by omega
    rw [iter_eq, hstep i h1 h2, List.drop_eq_getElem_cons h1, List.drop_eq_getElem_cons h2, List.zip_cons_cons, List.all_cons]
    cases hp : p a[i] b[i] with
    | true =>
      simp only [if_true, Bool.true_and]
      exact for_cmpF emb a b hl p yes no hstep hend n (i + 1) (by omega) h1
    | false => simp only [Bool.false_eq_true, if_false, Bool.false_and]
/-- Two lists held against one another. -/
theorem for_cmp {β : Type} (emb : Nat → X) (a : List α) (b : List β) (hl : a.length = b.length) (p : α → β → Bool) (yes no : Y)
    (hstep : ∀ i (h : i < a.length) (h' : i < b.length), f (emb i) = if p a[i] b[i] = true then some (.inl (emb (i + 1))) else some (.inr no))
    (hend : f (emb a.length) = some (.inr yes)) : iter f (emb 0) = some (if (a.zip b).all (fun x => p x.1 x.2) = true then yes else no) :=
  for_cmpF emb a b hl p yes no hstep hend _ 0 rfl (Nat.zero_le _)
theorem for_allF (emb : Nat → X) (a : List α) (p : α → Bool) (yes no : Y)
    (hstep : ∀ i (h : i < a.length), f (emb i) = if p a[i] = true then some (.inl (emb (i + 1))) else some (.inr no))
    (hend : f (emb a.length) = some (.inr yes)) : ∀ n i, a.length - i = n → i ≤ a.length → iter f (emb i) = some (if (a.drop i).all p = true then yes else no)
  | 0, i, hn, hi => by
    have : i = a.length := by omega
    subst this
    rw [iter_eq, hend, List.drop_length]
    rfl
  | n + 1, i, hn, hi => by
    have h1 : i < a.length := by omega
    rw [iter_eq, hstep i h1, List.drop_eq_getElem_cons h1, List.all_cons]
    cases hp : p a[i] with
    | true =>
      simp only [if_true, Bool.true_and]
      exact for_allF emb a p yes no hstep hend n (i + 1) (by omega) h1
    | false => simp only [Bool.false_eq_true, if_false, Bool.false_and]
/-- Is it so of all? -/
theorem for_all (emb : Nat → X) (a : List α) (p : α → Bool) (yes no : Y)
    (hstep : ∀ i (h : i < a.length), f (emb i) = if p a[i] = true then some (.inl (emb (i + 1))) else some (.inr no))
    (hend : f (emb a.length) = some (.inr yes)) : iter f (emb 0) = some (if a.all p = true then yes else no) :=
  for_allF emb a p yes no hstep hend _ 0 rfl (Nat.zero_le _)

/-- Down a list from its end. -/
theorem for_down (emb : Nat → X) (n : Nat) (g : Nat → Option Y) (fin : Y)
    (hstep : ∀ i, i < n → match g i with
      | none => f (emb (i + 1)) = some (.inl (emb i))
      | some y => f (emb (i + 1)) = some (.inr y))
    (hend : f (emb 0) = some (.inr fin)) : ∀ i, i ≤ n → iter f (emb i) = some (((List.range i).reverse.findSome? g).getD fin)
  | 0, _ => by rw [iter_eq, hend]; rfl
  | i + 1, h => by
    have h1 := hstep i h
    rw [List.range_succ, List.reverse_append]
    simp only [List.reverse_cons, List.reverse_nil, List.nil_append, List.cons_append, List.findSome?_cons]
    split at h1
    · rename_i hg
      rw [hg, iter_eq, h1]
      exact for_down emb n g fin hstep hend i (by omega)
    · rename_i y hg
      rw [hg, iter_eq, h1]
      rfl
end

@[simp] theorem okc_bool (b : Bool) : (AV.bool b).okc = true := rfl
@[simp] theorem okc_int (k : IntKind) (n : Int) : (AV.int k n).okc = true := rfl
@[simp] theorem okc_str (s : List UInt8) : (AV.str s).okc = true := rfl
@[simp] theorem okc_lst (f : Bool) (es : List AV) : (AV.lst f es).okc = true := rfl
@[simp] theorem okc_own (b v o n : Nat) : (AV.own b v o n).okc = true := rfl
@[simp] theorem okc_mpv (b : Nat) : (AV.mpv b).okc = true := rfl
@[simp] theorem okc_ptr (b v i o : Nat) : (AV.ptr b v i o).okc = true := rfl
@[simp] theorem okc_fn (f : Fn) (a c : List AV) : (AV.fn f a c).okc = true := rfl
@[simp] theorem okc_nilp : AV.nilp.okc = true := rfl
@[simp] theorem okc_nilm : AV.nilm.okc = true := rfl
@[simp] theorem okc_nilf : AV.nilf.okc = true := rfl
@[simp] theorem okc_nili : AV.nili.okc = true := rfl
@[simp] theorem over_ccons {α : Type} (a x : α) (l xs : List α) : over (a :: l) 0 (x :: xs) = x :: over l 0 xs := by simp [over]
@[simp] theorem over_csucc {α : Type} (a : α) (l xs : List α) (o : Nat) : over (a :: l) (o + 1) xs = a :: over l o xs := by
  have : o + 1 + xs.length = (o + xs.length) + 1 := by omega
  simp [over, this]
@[simp] theorem over_znil {α : Type} (l : List α) : over l 0 [] = l := by simp [over]
@[simp] theorem mm2_int (m : Bool) (k k' : IntKind) (x y : Int) : mm2 m (.int k x) (.int k' y) = some (.int k (if m then max x y else min x y)) := by
  simp only [mm2, Option.some.injEq, AV.int.injEq, true_and]
  cases m
  · simp only [Bool.false_eq_true, if_false]; split <;> omega
  · simp only [if_true]; split <;> omega
@[simp] theorem normB_row (L : Nat) (R : List Nat) (h : AH) (i v sz : Nat) (es : List AV) : normB L R h i (.row v sz es) = .row (if R.contains i then 0 else v) sz es := rfl
@[simp] theorem normB_fro (L : Nat) (R : List Nat) (h : AH) (i v sz : Nat) (es : List AV) : normB L R h i (.fro v sz es) = .fro (if R.contains i then 0 else v) sz es := rfl
@[simp] theorem normB_gone (L : Nat) (R : List Nat) (h : AH) (i : Nat) : normB L R h i .gone = .gone := rfl
@[simp] theorem normB_var (L : Nat) (R : List Nat) (h : AH) (i : Nat) (cs : List AV) : normB L R h i (.var cs) = .var (cs.map (normS L R h)) := rfl
@[simp] theorem ite_lt_cast (a b : Nat) : (if a < b then (a : Int) else (b : Int)) = ((min a b : Nat) : Int) := by split <;> omega
@[simp] theorem ite_lt_cast' (a b : Nat) : (if a < b then (b : Int) else (a : Int)) = ((max a b : Nat) : Int) := by split <;> omega
@[simp] theorem normV_bool (L : Nat) (R : List Nat) (h : AH) (b : Bool) : normV L R h (.bool b) = .bool b := rfl
@[simp] theorem normS_bool (L : Nat) (R : List Nat) (h : AH) (b : Bool) : normS L R h (.bool b) = .bool b := rfl
@[simp] theorem purE_bool (h : AH) (b : Bool) : purE h (.bool b) = some (.bool b, h) := rfl
@[simp] theorem purS_bool (h : AH) (b : Bool) : purS h (.bool b) = some (.bool b, h) := rfl
@[simp] theorem purP_bool (h : AH) (b : Bool) : purP h (.bool b) = some (.bool b, h) := rfl
@[simp] theorem normV_int (L : Nat) (R : List Nat) (h : AH) (k : IntKind) (n : Int) : normV L R h (.int k n) = .int k n := rfl
@[simp] theorem normS_int (L : Nat) (R : List Nat) (h : AH) (k : IntKind) (n : Int) : normS L R h (.int k n) = .int k n := rfl
@[simp] theorem purE_int (h : AH) (k : IntKind) (n : Int) : purE h (.int k n) = some (.int k n, h) := rfl
@[simp] theorem purS_int (h : AH) (k : IntKind) (n : Int) : purS h (.int k n) = some (.int k n, h) := rfl
@[simp] theorem purP_int (h : AH) (k : IntKind) (n : Int) : purP h (.int k n) = some (.int k n, h) := rfl
@[simp] theorem normV_str (L : Nat) (R : List Nat) (h : AH) (x : List UInt8) : normV L R h (.str x) = .str x := rfl
@[simp] theorem normS_str (L : Nat) (R : List Nat) (h : AH) (x : List UInt8) : normS L R h (.str x) = .str x := rfl
@[simp] theorem purE_str (h : AH) (x : List UInt8) : purE h (.str x) = some (.str x, h) := rfl
@[simp] theorem purS_str (h : AH) (x : List UInt8) : purS h (.str x) = some (.str x, h) := rfl
@[simp] theorem purP_str (h : AH) (x : List UInt8) : purP h (.str x) = some (.str x, h) := rfl
@[simp] theorem normV_lst (L : Nat) (R : List Nat) (h : AH) (f : Bool) (es : List AV) : normV L R h (.lst f es) = .lst f es := rfl
@[simp] theorem normS_lst (L : Nat) (R : List Nat) (h : AH) (f : Bool) (es : List AV) : normS L R h (.lst f es) = .lst f es := rfl
@[simp] theorem purE_lst (h : AH) (f : Bool) (es : List AV) : purE h (.lst f es) = some (.lst f es, h) := rfl
@[simp] theorem purS_lst (h : AH) (f : Bool) (es : List AV) : purS h (.lst f es) = some (.lst f es, h) := rfl
@[simp] theorem purP_lst (h : AH) (f : Bool) (es : List AV) : purP h (.lst f es) = some (.lst f es, h) := rfl
@[simp] theorem normV_nilp (L : Nat) (R : List Nat) (h : AH)  : normV L R h (.nilp) = .nilp := rfl
@[simp] theorem normV_nilm (L : Nat) (R : List Nat) (h : AH)  : normV L R h (.nilm) = .nilm := rfl
@[simp] theorem normS_nilp (L : Nat) (R : List Nat) (h : AH)  : normS L R h (.nilp) = .nilp := rfl
@[simp] theorem normS_nilm (L : Nat) (R : List Nat) (h : AH)  : normS L R h (.nilm) = .nilm := rfl
@[simp] theorem purE_nilp (h : AH)  : purE h (.nilp) = some (.nilp, h) := rfl
@[simp] theorem purE_nilm (h : AH)  : purE h (.nilm) = some (.nilm, h) := rfl
@[simp] theorem purS_nilp (h : AH)  : purS h (.nilp) = some (.nilp, h) := rfl
@[simp] theorem purS_nilm (h : AH)  : purS h (.nilm) = some (.nilm, h) := rfl
@[simp] theorem purP_nilp (h : AH)  : purP h (.nilp) = some (.nilp, h) := rfl
@[simp] theorem purP_nilm (h : AH)  : purP h (.nilm) = some (.nilm, h) := rfl
@[simp] theorem isS_nilp : (AV.nilp).isS = true := rfl
@[simp] theorem isS_nilm : (AV.nilm).isS = true := rfl
@[simp] theorem isE_nilp : (AV.nilp).isE = true := rfl
@[simp] theorem isE_nilm : (AV.nilm).isE = true := rfl
@[simp] theorem cells_nilp : (AV.nilp).cells = [.nilp] := rfl
@[simp] theorem cells_nilm : (AV.nilm).cells = [.nilm] := rfl
@[simp] theorem isP_nilp : (AV.nilp).isP = true := rfl
@[simp] theorem isP_nilm : (AV.nilm).isP = true := rfl
@[simp] theorem dropR_nilp (R : List Nat) : dropR R .nilp = .nilp := rfl
@[simp] theorem dropR_nilm (R : List Nat) : dropR R .nilm = .nilm := rfl
@[simp] theorem normV_nilf (L : Nat) (R : List Nat) (h : AH)  : normV L R h (.nilf) = .nilf := rfl
@[simp] theorem normS_nilf (L : Nat) (R : List Nat) (h : AH)  : normS L R h (.nilf) = .nilf := rfl
@[simp] theorem purE_nilf (h : AH)  : purE h (.nilf) = some (.nilf, h) := rfl
@[simp] theorem purS_nilf (h : AH)  : purS h (.nilf) = some (.nilf, h) := rfl
@[simp] theorem purP_nilf (h : AH)  : purP h (.nilf) = some (.nilf, h) := rfl
@[simp] theorem isS_nilf : (AV.nilf).isS = true := rfl
@[simp] theorem isE_nilf : (AV.nilf).isE = true := rfl
@[simp] theorem cells_nilf : (AV.nilf).cells = [.nilf] := rfl
@[simp] theorem isP_nilf : (AV.nilf).isP = true := rfl
@[simp] theorem dropR_nilf (R : List Nat) : dropR R .nilf = .nilf := rfl
@[simp] theorem normV_nili (L : Nat) (R : List Nat) (h : AH)  : normV L R h (.nili) = .nili := rfl
@[simp] theorem normS_nili (L : Nat) (R : List Nat) (h : AH)  : normS L R h (.nili) = .nili := rfl
@[simp] theorem purE_nili (h : AH)  : purE h (.nili) = some (.nili, h) := rfl
@[simp] theorem purS_nili (h : AH)  : purS h (.nili) = some (.nili, h) := rfl
@[simp] theorem purP_nili (h : AH)  : purP h (.nili) = some (.nili, h) := rfl
@[simp] theorem isS_nili : (AV.nili).isS = true := rfl
@[simp] theorem isE_nili : (AV.nili).isE = true := rfl
@[simp] theorem cells_nili : (AV.nili).cells = [.nili] := rfl
@[simp] theorem isP_nili : (AV.nili).isP = true := rfl
@[simp] theorem dropR_nili (R : List Nat) : dropR R .nili = .nili := rfl
@[simp] theorem normV_agg (L : Nat) (R : List Nat) (h : AH) (cs : List AV) : normV L R h (.agg cs) = if cs.all AV.isS then .agg cs else .agg (cs.map (normS L R h)) := by unfold normV; simp only [isE_agg]
@[simp] theorem normV_mpv (L : Nat) (R : List Nat) (h : AH) (b : Nat) : normV L R h (.mpv b) = if b < L ∧ ¬ R.contains b then .mpv b else .dead := rfl
@[simp] theorem normS_mpv (L : Nat) (R : List Nat) (h : AH) (b : Nat) : normS L R h (.mpv b) = if b < L ∧ ¬ R.contains b then .mpv b else .dead := rfl
@[simp] theorem normB_mp (L : Nat) (R : List Nat) (h : AH) (i : Nat) (es : List (Int × AV)) : normB L R h i (.mp es) = .mp (es.map fun p => (p.1, normS L R h p.2)) := rfl
@[simp] theorem normV_ptr (L : Nat) (R : List Nat) (h : AH) (b v i o : Nat) : normV L R h (.ptr b v i o) = if b < L ∧ ¬ R.contains b then .ptr b v i o else .dead := rfl
@[simp] theorem normS_ptr (L : Nat) (R : List Nat) (h : AH) (b v i o : Nat) : normS L R h (.ptr b v i o) = if b < L ∧ ¬ R.contains b then .ptr b v i o else .dead := rfl
@[simp] theorem normV_fn (L : Nat) (R : List Nat) (h : AH) (f : Fn) (a c : List AV) : normV L R h (.fn f a c) = if (a ++ c).all (fun x => x.isE || match x with | .ptr b _ _ _ => decide (b < L) && !R.contains b | .mpv b => decide (b < L) && !R.contains b | _ => false) then .fn f a c else .dead := rfl
@[simp] theorem purE_agg (h : AH) (cs : List AV) : purE h (.agg cs) = if cs.all AV.isS then some (.agg cs, h) else @bnd _ _ (purL h cs) ⟨fun p => some (.agg p.1, p.2)⟩ := by unfold purE; simp only [isE_agg]; rfl
@[simp] theorem purE_own (h : AH) (b v o n : Nat) : purE h (.own b v o n) = purS h (.own b v o n) := rfl
@[simp] theorem purP_own' (h : AH) (b v o n : Nat) : purP h (.own b v o n) = purS h (.own b v o n) := rfl
@[simp] theorem purP_agg (h : AH) (cs : List AV) : purP h (.agg cs) = purE h (.agg cs) := by
  unfold purP
  simp only [isP_agg]
  split
  · rename_i h1; unfold purE; simp only [isE_agg, h1, if_true]
  · rfl
@[simp] theorem purP_tup (h : AH) (vs : List AV) : purP h (.tup vs) = if vs.all AV.isE then some (.tup vs, h) else @bnd _ _ (purEs h vs) ⟨fun p => some (.tup p.1, p.2)⟩ := by unfold purP; simp only [isP_tup]; rfl
@[simp] theorem purL_nil (h : AH) : purL h [] = some ([], h) := rfl
@[simp] theorem purL_cons (h : AH) (a : AV) (l : List AV) : purL h (a :: l) = @bnd _ _ (purS h a) ⟨fun p => @bnd _ _ (purL p.2 l) ⟨fun q => some (p.1 :: q.1, q.2)⟩⟩ := rfl
@[simp] theorem purEs_nil (h : AH) : purEs h [] = some ([], h) := rfl
@[simp] theorem purEs_cons (h : AH) (a : AV) (l : List AV) : purEs h (a :: l) = @bnd _ _ (purE h a) ⟨fun p => @bnd _ _ (purEs p.2 l) ⟨fun q => some (p.1 :: q.1, q.2)⟩⟩ := rfl
@[simp] theorem dropR_agg' (R : List Nat) (cs : List AV) : dropR R (.agg cs) = if cs.all (fun x => x.isE || match x with | .ptr b _ _ _ => !R.contains b | .own b _ _ _ => !R.contains b | .mpv b => !R.contains b | _ => false) then .agg cs else .dead := rfl
@[simp] theorem dropR_fn (R : List Nat) (f : Fn) (a c : List AV) : dropR R (.fn f a c) = if (a ++ c).all (fun x => x.isE || match x with | .ptr b _ _ _ => !R.contains b | .own b _ _ _ => !R.contains b | .mpv b => !R.contains b | _ => false) then .fn f a c else .dead := rfl
@[simp] theorem dropR_rptr (R : List Nat) (cs : List AV) : dropR R (.rptr cs) = .rptr cs := rfl
@[simp] theorem dropR_mpv (R : List Nat) (b : Nat) : dropR R (.mpv b) = if !R.contains b then .mpv b else .dead := by unfold dropR; simp
@[simp] theorem dropR_ptr (R : List Nat) (b v i o : Nat) : dropR R (.ptr b v i o) = if !R.contains b then .ptr b v i o else .dead := by unfold dropR; simp
@[simp] theorem dropR_own (R : List Nat) (b v i o : Nat) : dropR R (.own b v i o) = if !R.contains b then .own b v i o else .dead := by unfold dropR; simp
@[simp] theorem bin_add (k : IntKind) (x y : Int) : bin .add (.int k x) (.int k y) = some (.int k (k.wrap (x + y))) := by simp only [bin, intBin, if_true]
@[simp] theorem bin_sub (k : IntKind) (x y : Int) : bin .sub (.int k x) (.int k y) = some (.int k (k.wrap (x - y))) := by simp only [bin, intBin, if_true]
@[simp] theorem bin_mul (k : IntKind) (x y : Int) : bin .mul (.int k x) (.int k y) = some (.int k (k.wrap (x * y))) := by simp only [bin, intBin, if_true]
@[simp] theorem bin_quo (k : IntKind) (x y : Int) : bin .quo (.int k x) (.int k y) = if y = 0 then none else some (.int k (k.wrap (x.tdiv y))) := by simp only [bin, intBin, if_true]
@[simp] theorem bin_rem (k : IntKind) (x y : Int) : bin .rem (.int k x) (.int k y) = if y = 0 then none else some (.int k (x.tmod y)) := by simp only [bin, intBin, if_true]
@[simp] theorem bin_eql (k : IntKind) (x y : Int) : bin .eql (.int k x) (.int k y) = some (.bool (decide (x = y))) := by simp only [bin, intBin, if_true]
@[simp] theorem bin_neq (k : IntKind) (x y : Int) : bin .neq (.int k x) (.int k y) = some (.bool (!decide (x = y))) := by simp only [bin, intBin, if_true]
@[simp] theorem bin_lss (k : IntKind) (x y : Int) : bin .lss (.int k x) (.int k y) = some (.bool (decide (x < y))) := by simp only [bin, intBin, if_true]
@[simp] theorem bin_leq (k : IntKind) (x y : Int) : bin .leq (.int k x) (.int k y) = some (.bool (decide (x ≤ y))) := by simp only [bin, intBin, if_true]
@[simp] theorem bin_gtr (k : IntKind) (x y : Int) : bin .gtr (.int k x) (.int k y) = some (.bool (decide (y < x))) := by simp only [bin, intBin, if_true]
@[simp] theorem bin_geq (k : IntKind) (x y : Int) : bin .geq (.int k x) (.int k y) = some (.bool (decide (y ≤ x))) := by simp only [bin, intBin, if_true]
@[simp] theorem bin_str (op : BinOp) (x y : List UInt8) : bin op (.str x) (.str y) = strBin x y op := by cases op <;> rfl
@[simp] theorem un_not (b : Bool) : un .not (.bool b) = some (.bool (!b)) := rfl
@[simp] theorem un_neg (k : IntKind) (n : Int) : un .neg (.int k n) = some (.int k (k.wrap (0 - n))) := rfl
@[simp] theorem mmAll_one (m : Bool) (x : AV) : mmAll m x [] = some x := rfl
@[simp] theorem mmAll_cons (m : Bool) (x y : AV) (l : List AV) : mmAll m x (y :: l) = @bnd _ _ (mm2 m x y) ⟨fun z => mmAll m z l⟩ := rfl
@[simp] theorem lget0 {α : Type} (a : α) (l : List α) : (a :: l)[0]? = some a := rfl
theorem take_map_all {α β : Type} {F : α → β} {l : List α} {n : Nat} (h : l.length ≤ n) : (l.map F).take n = l.map F := List.take_of_length_le (by simpa using h)
theorem imin_l {a b : Int} (h : a ≤ b) : min a b = a := by omega
theorem imin_r {a b : Int} (h : b ≤ a) : min a b = b := by omega
theorem imax_l {a b : Int} (h : b ≤ a) : max a b = a := by omega
theorem imax_r {a b : Int} (h : a ≤ b) : max a b = b := by omega
@[simp] theorem withCells_agg (a cs : List AV) : (AV.agg a).withCells cs = .agg cs := rfl
@[simp] theorem withCells_int (k : IntKind) (n : Int) (cs : List AV) : (AV.int k n).withCells cs = cs.headD .dead := rfl
@[simp] theorem withCells_bool (b : Bool) (cs : List AV) : (AV.bool b).withCells cs = cs.headD .dead := rfl
@[simp] theorem withCells_str (b : List UInt8) (cs : List AV) : (AV.str b).withCells cs = cs.headD .dead := rfl
@[simp] theorem withCells_lst (f : Bool) (es cs : List AV) : (AV.lst f es).withCells cs = cs.headD .dead := rfl
@[simp] theorem lgetL {α : Type} (h : List α) (x : α) (l : List α) : (h ++ x :: l)[h.length]? = some x := by simp
@[simp] theorem lgetLk {α : Type} (h : List α) (l : List α) (k : Nat) : (h ++ l)[h.length + k]? = l[k]? := by rw [List.getElem?_append_right (by omega)]; congr 1; omega
@[simp] theorem lsetL {α : Type} (h : List α) (x y : α) (l : List α) : (h ++ x :: l).set h.length y = h ++ y :: l := by simp
@[simp] theorem lsetLk {α : Type} (h : List α) (l : List α) (k : Nat) (y : α) : (h ++ l).set (h.length + k) y = h ++ l.set k y := by rw [List.set_append_right _ _ (by omega)]; congr 2; omega
theorem take_app1 {α β : Type} {F : α → β} {l : List α} {x : β} {n : Nat} (h : l.length + 1 ≤ n) : (l.map F ++ [x]).take n = l.map F ++ [x] := List.take_of_length_le (by simpa using h)
theorem ilt_t {a b : Int} (h : a < b) : (a < b) = True := eq_true h
theorem ilt_f {a b : Int} (h : ¬ a < b) : (a < b) = False := eq_false h
theorem ile_t {a b : Int} (h : a ≤ b) : (a ≤ b) = True := eq_true h
theorem ile_f {a b : Int} (h : ¬ a ≤ b) : (a ≤ b) = False := eq_false h
theorem ieq_t {a b : Int} (h : a = b) : (a = b) = True := eq_true h
theorem ieq_f {a b : Int} (h : ¬ a = b) : (a = b) = False := eq_false h
theorem nlt_t {a b : Nat} (h : a < b) : (a < b) = True := eq_true h
theorem nlt_f {a b : Nat} (h : ¬ a < b) : (a < b) = False := eq_false h
theorem nle_t {a b : Nat} (h : a ≤ b) : (a ≤ b) = True := eq_true h
theorem nle_f {a b : Nat} (h : ¬ a ≤ b) : (a ≤ b) = False := eq_false h
theorem neq_t {a b : Nat} (h : a = b) : (a = b) = True := eq_true h
theorem neq_f {a b : Nat} (h : ¬ a = b) : (a = b) = False := eq_false h
@[simp] theorem toNat_add_cast (a b : Nat) : ((a : Int) + (b : Int)).toNat = a + b := by omega
theorem findSome_map {α β γ : Type} (f : α → Option β) (g : β → γ) : ∀ l : List α, l.findSome? (fun a => (f a).map g) = (l.findSome? f).map g
  | [] => rfl
  | a :: l => by
    simp only [List.findSome?_cons]
    cases f a with
    | none => exact findSome_map f g l
    | some b => rfl
/-- A row of blocks in which no cell is a handle. -/
def plainB : AB → Bool
  | .var cs => cs.all AV.isS
  | .mp es => es.all fun p => p.2.isS
  | _ => true
theorem normH_plain (L : Nat) (h0 : AH) : ∀ (h : AH) (i : Nat), h.all plainB = true → normH L [] h0 i h = h
  | [], _, _ => rfl
  | b :: h, i, hp => by
    simp only [List.all_cons, Bool.and_eq_true] at hp
    simp only [normH, normH_plain L h0 h (i + 1) hp.2]
    congr 1
    cases b with
    | gone => rfl
    | row v sz es => rfl
    | fro v sz es => rfl
    | var cs =>
      simp only [normB, AB.var.injEq]
      have h1 : cs.all AV.isS = true := hp.1
      rw [List.all_eq_true] at h1
      refine (List.map_congr_left fun x hx => ?_).trans (List.map_id _)
      have := h1 x hx
      cases x <;> first | rfl | (simp [AV.isS] at this; done)
    | mp es =>
      simp only [normB, AB.mp.injEq]
      have h1 : (es.all fun p => p.2.isS) = true := hp.1
      rw [List.all_eq_true] at h1
      refine (List.map_congr_left fun x hx => ?_).trans (List.map_id _)
      have := h1 x hx
      obtain ⟨k, y⟩ := x
      cases y <;> first | rfl | (simp [AV.isS] at this; done)
theorem findSome_congr {α β : Type} {f g : α → Option β} : ∀ {l : List α}, (∀ a ∈ l, f a = g a) → l.findSome? f = l.findSome? g
  | [], _ => rfl
  | a :: l, h => by rw [List.findSome?_cons, List.findSome?_cons, h a (by simp), findSome_congr fun b hb => h b (by simp [hb])]
theorem snoc_rec {α : Type} {p : List α → Prop} (h0 : p []) (h1 : ∀ l a, p l → p (l ++ [a])) (l : List α) : p l := by
  have : ∀ l : List α, p l.reverse := by
    intro l
    induction l with
    | nil => exact h0
    | cons a l ih => rw [List.reverse_cons]; exact h1 _ _ ih
  rw [← List.reverse_reverse l]
  exact this _
theorem take_map_len {α β : Type} (f : α → β) (l : List α) : (l.map f).take l.length = l.map f := List.take_of_length_le (by simp)
theorem list_of_emb {α : Type} (F : α → AV) (p : α → Prop) : ∀ es : List AV, (∀ x ∈ es, ∃ d, x = F d ∧ p d) → ∃ l : List α, es = l.map F ∧ ∀ d ∈ l, p d
  | [], _ => ⟨[], rfl, by simp⟩
  | x :: es, h => by
    obtain ⟨d, hd, hp⟩ := h x (by simp)
    obtain ⟨l, hl, hpl⟩ := list_of_emb F p es fun y hy => h y (by simp [hy])
    exact ⟨d :: l, by rw [hd, hl]; rfl, fun e he => by
      rcases List.mem_cons.1 he with rfl | he
      · exact hp
      · exact hpl e he⟩
theorem over_nil' {α : Type} (l : List α) (o : Nat) : over l o [] = l := by simp [over]
theorem over_map {α β : Type} (F : α → β) (l xs : List α) (o : Nat) : over (l.map F) o (xs.map F) = (over l o xs).map F := by simp [over]
end Go.Am

/-
  The abstract machine: more loops.
-/
namespace Go.Am
section
variable {α σ X Y : Type} {f : X → Option (X ⊕ Y)}
theorem for_idxF (emb : Nat → X) (p : α → Bool) (hit : Nat → α → Y) (no : Y) : ∀ (l : List α) (k : Nat)
    (_ : ∀ i (h : i < l.length), f (emb (k + i)) = if p l[i] = true then some (.inr (hit (k + i) l[i])) else some (.inl (emb (k + i + 1))))
    (_ : f (emb (k + l.length)) = some (.inr no)), iter f (emb k) = some ((l.find? p).elim no (hit (k + l.findIdx p)))
  | [], k, _, hend => by
    rw [iter_eq]
    simp only [List.length_nil, Nat.add_zero] at hend
    rw [hend]; rfl
  | x :: l, k, hstep, hend => by
    have h0 := hstep 0 (by simp)
    simp only [Nat.add_zero, List.getElem_cons_zero] at h0
    rw [iter_eq, h0]
    cases hp : p x with
    | true =>
      simp [List.findIdx_cons, hp]
    | false =>
      simp only [Bool.false_eq_true, if_false]
      rw [for_idxF emb p hit no l (k + 1) (fun i hi => by
        have := hstep (i + 1) (by simpa using hi)
        simp only [List.getElem_cons_succ] at this
        rw [show k + 1 + i = k + (i + 1) by omega]
        exact this) (by rw [show k + 1 + l.length = k + (x :: l).length by simp; omega]; exact hend)]
      rw [List.find?_cons_of_neg (by simp [hp])]
      simp only [List.findIdx_cons, hp, cond_false]
      rw [show k + 1 + l.findIdx p = k + (l.findIdx p + 1) by omega]
/-- The first one of which it is so. -/
theorem for_idx (emb : Nat → X) (l : List α) (p : α → Bool) (hit : Nat → α → Y) (no : Y)
    (hstep : ∀ i (h : i < l.length), f (emb i) = if p l[i] = true then some (.inr (hit i l[i])) else some (.inl (emb (i + 1))))
    (hend : f (emb l.length) = some (.inr no)) : iter f (emb 0) = some ((l.find? p).elim no (hit (l.findIdx p))) := by
  have := for_idxF emb p hit no l 0 (fun i hi => by rw [Nat.zero_add]; exact hstep i hi) (by rw [Nat.zero_add]; exact hend)
  simpa using this
/-- As far as it is not so. -/
theorem for_upto (emb : Nat → X) (l : List α) (p : α → Bool) (fin : Nat → Y)
    (hstep : ∀ i (h : i < l.length), f (emb i) = if p l[i] = true then some (.inr (fin i)) else some (.inl (emb (i + 1))))
    (hend : f (emb l.length) = some (.inr (fin l.length))) : iter f (emb 0) = some (fin (l.findIdx p)) := by
  rw [for_idx emb l p (fun i _ => fin i) (fin l.length) hstep hend]
  cases h : l.find? p with
  | none =>
    have : l.findIdx p = l.length := by
      rw [List.findIdx_eq_length]
      intro x hx
      rw [List.find?_eq_none] at h
      simpa using h x hx
    rw [this]; rfl
  | some x => rfl
/-- Halving: 'p' holds of what is below c, and of nothing else. -/
theorem for_half (emb : Nat → Nat → X) (n c : Nat) (hc : c ≤ n) (fin : Nat → Y)
    (hstep : ∀ i j, i < j → j ≤ n → f (emb i j) = some (.inl (if (i + j) / 2 < c then emb ((i + j) / 2 + 1) j else emb i ((i + j) / 2))))
    (hend : ∀ i, i ≤ n → f (emb i i) = some (.inr (fin i))) : ∀ k i j, j - i = k → i ≤ c → c ≤ j → j ≤ n → iter f (emb i j) = some (fin c) := by
  intro k
  induction k using Nat.strongRecOn with
  | _ k ih =>
    intro i j hk hi hj hn
    by_cases h : i < j
    · rw [iter_eq, hstep i j h hn]
      by_cases hm : (i + j) / 2 < c
      · rw [if_pos hm]
        exact ih (j - ((i + j) / 2 + 1)) (by omega) _ _ rfl (by omega) hj hn
      · rw [if_neg hm]
        exact ih ((i + j) / 2 - i) (by omega) _ _ rfl hi (by omega) (by omega)
    · have : i = j := by omega
      subst this
      have : i = c := by omega
      subst this
      rw [iter_eq, hend i hc]
theorem fold_inv (l : List α) (g : σ → α → σ) (I : Nat → σ → Prop) : ∀ (k : Nat) (s : σ), (∀ i (hi : i < l.length) s, I (k + i) s → I (k + i + 1) (g s l[i])) → I k s → I (k + l.length) (l.foldl g s) := by
  induction l with
  | nil => intro k s _ h; exact h
  | cons x l ih =>
    intro k s hs h
    rw [List.foldl_cons, List.length_cons, show k + (l.length + 1) = k + 1 + l.length by omega]
    refine ih (k + 1) _ (fun i hi s h => ?_) (hs 0 (by simp) s h)
    have := hs (i + 1) (by simpa using hi) s (by rw [show k + (i + 1) = k + 1 + i by omega]; exact h)
    rw [show k + 1 + i + 1 = k + (i + 1) + 1 by omega]
    simpa using this
/-- A loop over a list, and what holds at its end. -/
theorem for_listI (emb : Nat → σ → X) (l : List α) (g : σ → α → σ) (fin : σ → Y) (I : Nat → σ → Prop)
    (hstep : ∀ i (hi : i < l.length) s, I i s → I (i + 1) (g s l[i]) ∧ f (emb i s) = some (.inl (emb (i + 1) (g s l[i]))))
    (hend : ∀ s, I l.length s → f (emb l.length s) = some (.inr (fin s))) (s : σ) (h0 : I 0 s) : ∃ t, I l.length t ∧ t = l.foldl g s ∧ iter f (emb 0 s) = some (fin t) := by
  refine ⟨_, ?_, rfl, for_list emb l g fin I hstep hend s h0⟩
  have := fold_inv l g I 0 s (fun i hi s h => by
    rw [Nat.zero_add] at h ⊢
    exact (hstep i hi s h).1) h0
  rwa [Nat.zero_add] at this
end
@[simp] theorem getElem?_findIdx {α : Type} (p : α → Bool) : ∀ l : List α, l[l.findIdx p]? = l.find? p
  | [] => rfl
  | x :: l => by
    cases hp : p x with
    | true => simp [List.findIdx_cons, hp]
    | false => simp [List.findIdx_cons, hp, getElem?_findIdx p l]
@[simp] theorem shape_agg7 (a b c d e f g : AV) : shape 7 true [a, b, c, d, e, f, g] = some (.agg [a, b, c, d, e, f, g]) := by simp [shape]
@[simp] theorem shape_agg8 (a b c d e f g h : AV) : shape 8 true [a, b, c, d, e, f, g, h] = some (.agg [a, b, c, d, e, f, g, h]) := by simp [shape]
@[simp] theorem shape_agg9 (a b c d e f g h i : AV) : shape 9 true [a, b, c, d, e, f, g, h, i] = some (.agg [a, b, c, d, e, f, g, h, i]) := by simp [shape]
@[simp] theorem shape_agg10 (a b c d e f g h i j : AV) : shape 10 true [a, b, c, d, e, f, g, h, i, j] = some (.agg [a, b, c, d, e, f, g, h, i, j]) := by simp [shape]
@[simp] theorem shape_agg1 (a : AV) : shape 1 true [a] = some (.agg [a]) := by simp [shape]
theorem shape_cut (sz : Nat) (cs : List AV) : shape sz true cs = if cs.length < sz then none else some (.agg (cs.take sz)) := rfl
theorem wrap_u64 {n : Int} (h1 : 0 ≤ n) (h2 : n ≤ 9223372036854775807) : IntKind.u64.wrap n = n := by
  have : IntKind.u64.wrap n = n % 18446744073709551616 := by
    unfold IntKind.wrap
    simp [IntKind.bits, IntKind.signed]
  rw [this]; omega
end Go.Am
