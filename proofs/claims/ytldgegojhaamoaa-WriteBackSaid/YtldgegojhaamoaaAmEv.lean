/-
  The abstract machine: what operations make, by their values: rules.
-/
import Derived.Test.YtldgegojhaamoaaAmS
set_option linter.unusedSimpArgs false
set_option linter.unusedVariables false
namespace Go.Am

def vPick (c a b : AV) (h : AH) : Option (AV × AH) := match c with
  | .bool t => some (if t then a else b, h)
  | _ => none
@[simp] theorem vPick_bool (t : Bool) (a b : AV) (h : AH) : vPick (.bool t) a b h = some (if t then a else b, h) := rfl
def vNck (v : AV) (h : AH) : Option (AV × AH) := match v with
  | .ptr b v i o => some (.ptr b v i o, h)
  | .rptr cs => some (.rptr cs, h)
  | .fn f a c => match f with | .func g => some (.fn (.func g) a c, h) | _ => none
  | _ => none
@[simp] theorem vNck_ptr (b v i o : Nat) (h : AH) : vNck (.ptr b v i o) h = some (.ptr b v i o, h) := rfl
@[simp] theorem vNck_rptr (cs : List AV) (h : AH) : vNck (.rptr cs) h = some (.rptr cs, h) := rfl
@[simp] theorem vNck_fn (g : FuncId) (a c : List AV) (h : AH) : vNck (.fn (.func g) a c) h = some (.fn (.func g) a c, h) := rfl
def vBeq (neg : Bool) (u v : AV) (h : AH) : Option (AV × AH) := match u, v with
  | .bool a, .bool b => some (.bool (if neg then !decide (a = b) else decide (a = b)), h)
  | _, _ => none
@[simp] theorem vBeq_bool (neg a b : Bool) (h : AH) : vBeq neg (.bool a) (.bool b) h = some (.bool (if neg then !decide (a = b) else decide (a = b)), h) := rfl
def vSeq (neg : Bool) (ks : List Nat) (u v : AV) (h : AH) : Option (AV × AH) := match u, v with
  | .agg a, .agg b => (cellsEq ks a b).bind fun r => if a.length = ks.length ∧ b.length = ks.length then some (.bool (if neg then !r else r), h) else none
  | _, _ => none
@[simp] theorem vSeq_agg (neg : Bool) (ks : List Nat) (a b : List AV) (h : AH) : vSeq neg ks (.agg a) (.agg b) h = @bnd _ _ (cellsEq ks a b) ⟨fun r => if a.length = ks.length ∧ b.length = ks.length then some (.bool (if neg then !r else r), h) else none⟩ := rfl
def vConv (k : IntKind) (v : AV) (h : AH) : Option (AV × AH) := match v with
  | .int _ n => some (.int k (k.wrap n), h)
  | _ => none
@[simp] theorem vConv_int (k k' : IntKind) (n : Int) (h : AH) : vConv k (.int k' n) h = some (.int k (k.wrap n), h) := rfl
def vCstr (v : AV) (h : AH) : Option (AV × AH) := match v with
  | .str s => some (.str s, h)
  | _ => none
@[simp] theorem vCstr_str (s : List UInt8) (h : AH) : vCstr (.str s) h = some (.str s, h) := rfl
def optV (d : Nat) : Option AV → Option Nat
  | none => some d
  | some v => nat? v
@[simp] theorem optV_none (d : Nat) : optV d none = some d := rfl
@[simp] theorem optV_some (d : Nat) (v : AV) : optV d (some v) = nat? v := rfl
theorem optNat_eq (d : Nat) (e : Env) (x : Option AO) : optNat d e x = optV d (x.map fun y => y.get e) := by cases x <;> rfl
def vMks (sz bytes : Nat) (zero u v : AV) (h : AH) : Option (AV × AH) := match nat? u, nat? v with
  | some n, some m => if n ≤ m ∧ m * bytes ≤ 140737488355328 ∧ m ≤ 140737488355328 then some (.own h.length 0 0 n, h ++ [.row 0 sz (List.replicate n zero)]) else none
  | _, _ => none
@[simp] theorem vMks_int (sz bytes : Nat) (zero : AV) (k k' : IntKind) (n m : Int) (h : AH) : vMks sz bytes zero (.int k n) (.int k' m) h = if 0 ≤ n ∧ 0 ≤ m ∧ n.toNat ≤ m.toNat ∧ m.toNat * bytes ≤ 140737488355328 ∧ m.toNat ≤ 140737488355328 then some (.own h.length 0 0 n.toNat, h ++ [.row 0 sz (List.replicate n.toNat zero)]) else none := by
  unfold vMks nat?
  by_cases h1 : 0 ≤ n <;> by_cases h2 : 0 ≤ m <;> simp [h1, h2]
def vSls (x : AV) (lo hi : Option AV) (h : AH) : Option (AV × AH) := match x with
  | .str s => (optV s.length hi).bind fun b => (optV 0 lo).bind fun a => if a ≤ b ∧ b ≤ s.length then some (.str ((s.take b).drop a), h) else none
  | _ => none
@[simp] theorem vSls_str (s : List UInt8) (lo hi : Option AV) (h : AH) : vSls (.str s) lo hi h = @bnd _ _ (optV s.length hi) ⟨fun b => @bnd _ _ (optV 0 lo) ⟨fun a => if a ≤ b ∧ b ≤ s.length then some (.str ((s.take b).drop a), h) else none⟩⟩ := rfl
def vSll (sz : Nat) (x : AV) (lo hi mx : Option AV) (h : AH) : Option (AV × AH) := match x with
  | .lst full es => (optV es.length hi).bind fun b => (optV 0 lo).bind fun a =>
      match mx with
      | none => if szOk sz es = true ∧ a ≤ b ∧ b ≤ es.length then some (.lst (full && decide (b = es.length)) ((es.take b).drop a), h) else none
      | some m => (nat? m).bind fun m =>
          if szOk sz es = true ∧ hi.isSome = true ∧ a ≤ b ∧ b ≤ m ∧ m ≤ es.length then some (.lst (decide (b = m)) ((es.take b).drop a), h) else none
  | .own r v o n => (optV n hi).bind fun b => (optV 0 lo).bind fun a =>
      match mx with
      | none => if rowSz h r v = some sz ∧ a ≤ b ∧ b ≤ n then some (.own r v (o + a) (b - a), h) else none
      | some m => (nat? m).bind fun m =>
          if rowSz h r v = some sz ∧ hi.isSome = true ∧ a ≤ b ∧ b ≤ m ∧ m ≤ n then some (.own r v (o + a) (b - a), h) else none
  | _ => none
@[simp] theorem vSll_lst (sz : Nat) (full : Bool) (es : List AV) (lo hi : Option AV) (h : AH) : vSll sz (.lst full es) lo hi none h = @bnd _ _ (optV es.length hi) ⟨fun b => @bnd _ _ (optV 0 lo) ⟨fun a => if szOk sz es = true ∧ a ≤ b ∧ b ≤ es.length then some (.lst (full && decide (b = es.length)) ((es.take b).drop a), h) else none⟩⟩ := rfl
@[simp] theorem vSll_own (sz r v o n : Nat) (lo hi : Option AV) (h : AH) : vSll sz (.own r v o n) lo hi none h = @bnd _ _ (optV n hi) ⟨fun b => @bnd _ _ (optV 0 lo) ⟨fun a => if rowSz h r v = some sz ∧ a ≤ b ∧ b ≤ n then some (.own r v (o + a) (b - a), h) else none⟩⟩ := rfl
@[simp] theorem vSll_lst3 (sz : Nat) (full : Bool) (es : List AV) (lo hi : Option AV) (m : AV) (h : AH) : vSll sz (.lst full es) lo hi (some m) h = @bnd _ _ (optV es.length hi) ⟨fun b => @bnd _ _ (optV 0 lo) ⟨fun a => @bnd _ _ (nat? m) ⟨fun m => if szOk sz es = true ∧ hi.isSome = true ∧ a ≤ b ∧ b ≤ m ∧ m ≤ es.length then some (.lst (decide (b = m)) ((es.take b).drop a), h) else none⟩⟩⟩ := rfl
@[simp] theorem vSll_own3 (sz r v o n : Nat) (lo hi : Option AV) (m : AV) (h : AH) : vSll sz (.own r v o n) lo hi (some m) h = @bnd _ _ (optV n hi) ⟨fun b => @bnd _ _ (optV 0 lo) ⟨fun a => @bnd _ _ (nat? m) ⟨fun m => if rowSz h r v = some sz ∧ hi.isSome = true ∧ a ≤ b ∧ b ≤ m ∧ m ≤ n then some (.own r v (o + a) (b - a), h) else none⟩⟩⟩ := rfl
def vFad (off : Nat) (v : AV) (h : AH) : Option (AV × AH) := match v with
  | .ptr b v i o => some (.ptr b v i (o + off), h)
  | .rptr cs => if off ≤ cs.length then some (.rptr (cs.drop off), h) else none
  | _ => none
@[simp] theorem vFad_ptr (off b v i o : Nat) (h : AH) : vFad off (.ptr b v i o) h = some (.ptr b v i (o + off), h) := rfl
@[simp] theorem vFad_rptr (off : Nat) (cs : List AV) (h : AH) : vFad off (.rptr cs) h = if off ≤ cs.length then some (.rptr (cs.drop off), h) else none := rfl
def vFld (off sz : Nat) (agg : Bool) (v : AV) (h : AH) : Option (AV × AH) := match v with
  | .agg cs => if off ≤ cs.length then keepH h (shape sz agg (cs.drop off)) else none
  | _ => none
@[simp] theorem vFld_agg (off sz : Nat) (agg : Bool) (cs : List AV) (h : AH) : vFld off sz agg (.agg cs) h = if off ≤ cs.length then keepH h (shape sz agg (cs.drop off)) else none := rfl
def vIad (sz : Nat) (x i : AV) (h : AH) : Option (AV × AH) := match x with
  | .lst _ es => (nat? i).bind fun n => (es[n]?).bind fun y => if y.cells.length = sz then some (.rptr y.cells, h) else none
  | .own b v o m => (nat? i).bind fun n => if n < m ∧ rowSz h b v = some sz then some (.ptr b v (o + n) 0, h) else none
  | _ => none
@[simp] theorem vIad_lst (sz : Nat) (f : Bool) (es : List AV) (i : AV) (h : AH) : vIad sz (.lst f es) i h = @bnd _ _ (nat? i) ⟨fun n => @bnd _ _ (es[n]?) ⟨fun y => if y.cells.length = sz then some (.rptr y.cells, h) else none⟩⟩ := rfl
@[simp] theorem vIad_own (sz b v o m : Nat) (i : AV) (h : AH) : vIad sz (.own b v o m) i h = @bnd _ _ (nat? i) ⟨fun n => if n < m ∧ rowSz h b v = some sz then some (.ptr b v (o + n) 0, h) else none⟩ := rfl
def vIada (m sz : Nat) (x i : AV) (h : AH) : Option (AV × AH) := (nat? i).bind fun n => if n < m then
      match x with
      | .ptr b v j o => some (.ptr b v j (o + n * sz), h)
      | .rptr cs => if n * sz ≤ cs.length then some (.rptr (cs.drop (n * sz)), h) else none
      | _ => none
      else none
@[simp] theorem vIada_ptr (m sz b v j o : Nat) (i : AV) (h : AH) : vIada m sz (.ptr b v j o) i h = @bnd _ _ (nat? i) ⟨fun n => if n < m then some (.ptr b v j (o + n * sz), h) else none⟩ := rfl
@[simp] theorem vIada_rptr (m sz : Nat) (cs : List AV) (i : AV) (h : AH) : vIada m sz (.rptr cs) i h = @bnd _ _ (nat? i) ⟨fun n => if n < m then (if n * sz ≤ cs.length then some (.rptr (cs.drop (n * sz)), h) else none) else none⟩ := rfl
def vIdxs (x i : AV) (h : AH) : Option (AV × AH) := match x with
  | .str s => (nat? i).bind fun n => (s[n]?).bind fun c => some (.int .u8 c.toNat, h)
  | _ => none
@[simp] theorem vIdxs_str (s : List UInt8) (i : AV) (h : AH) : vIdxs (.str s) i h = @bnd _ _ (nat? i) ⟨fun n => @bnd _ _ (s[n]?) ⟨fun c => some (.int .u8 c.toNat, h)⟩⟩ := rfl
def vIdxa (m sz : Nat) (agg : Bool) (x i : AV) (h : AH) : Option (AV × AH) := match x with
  | .agg cs => (nat? i).bind fun n => if n < m ∧ n * sz ≤ cs.length then keepH h (shape sz agg (cs.drop (n * sz))) else none
  | _ => none
@[simp] theorem vIdxa_agg (m sz : Nat) (agg : Bool) (cs : List AV) (i : AV) (h : AH) : vIdxa m sz agg (.agg cs) i h = @bnd _ _ (nat? i) ⟨fun n => if n < m ∧ n * sz ≤ cs.length then keepH h (shape sz agg (cs.drop (n * sz))) else none⟩ := rfl
def vExt (x : AV) (i : Nat) (h : AH) : Option (AV × AH) := match x with
  | .tup vs => (vs[i]?).bind fun v => some (v, h)
  | _ => none
@[simp] theorem vExt_tup (vs : List AV) (i : Nat) (h : AH) : vExt (.tup vs) i h = @bnd _ _ (vs[i]?) ⟨fun v => some (v, h)⟩ := rfl
def vCallv (Γ : Tab) (f : AV) (args : List AV) (h : AH) : Option (AV × AH) := match f with
  | .fn g first cap => match g with
    | .func g => callA Γ g (first ++ args ++ cap) h
    | _ => none
  | _ => none
@[simp] theorem vCallv_fn (Γ : Tab) (g : FuncId) (first cap args : List AV) (h : AH) : vCallv Γ (.fn (.func g) first cap) args h = callA Γ g (first ++ args ++ cap) h := rfl
def vApps (bytes : Nat) (s x : AV) (h : AH) : Option (AV × AH) := match x with
  | .str t => append h 1 bytes s (t.map fun c => .int .u8 c.toNat)
  | _ => none
@[simp] theorem vApps_str (bytes : Nat) (s : AV) (t : List UInt8) (h : AH) : vApps bytes s (.str t) h = append h 1 bytes s (t.map fun c => .int .u8 c.toNat) := rfl
def vCopyB (sz0 b v o n : Nat) (src : List AV) (h : AH) (X : Option AB) : Option (AV × AH) := match X with
  | some (.row v' sz es) =>
    if v = v' ∧ sz = sz0 ∧ szOk sz0 src = true ∧ o + n ≤ es.length then some (.int .i64 (min src.length n), h.set b (.row v' sz (over es o (src.take n)))) else none
  | _ => none
@[simp] theorem vCopyB_row (sz0 b v o n : Nat) (src : List AV) (h : AH) (v' sz : Nat) (es : List AV) : vCopyB sz0 b v o n src h (some (.row v' sz es)) = if v = v' ∧ sz = sz0 ∧ szOk sz0 src = true ∧ o + n ≤ es.length then some (.int .i64 (min src.length n), h.set b (.row v' sz (over es o (src.take n)))) else none := rfl
def vCopy (sz0 : Nat) (d : AV) (src : List AV) (h : AH) : Option (AV × AH) := match d with
  | .own b v o n => vCopyB sz0 b v o n src h h[b]?
  | .lst _ es => if es = [] then some (.int .i64 0, h) else none
  | _ => none
@[simp] theorem vCopy_own (sz0 b v o n : Nat) (src : List AV) (h : AH) : vCopy sz0 (.own b v o n) src h = vCopyB sz0 b v o n src h h[b]? := rfl
@[simp] theorem vCopy_lst (sz0 : Nat) (f : Bool) (es src : List AV) (h : AH) : vCopy sz0 (.lst f es) src h = if es = [] then some (.int .i64 0, h) else none := rfl
def vMm (isMax : Bool) (vs : List AV) (h : AH) : Option (AV × AH) := match vs with
  | x :: l => keepH h (mmAll isMax x l)
  | [] => none
@[simp] theorem vMm_cons (isMax : Bool) (x : AV) (l : List AV) (h : AH) : vMm isMax (x :: l) h = keepH h (mmAll isMax x l) := rfl

section
variable {Γ : Tab} {e : Env} {h : AH}
@[simp ↓] theorem exec_mv (x : AO) : exec Γ e h (.mv x) = some (x.get e, h) := rfl
@[simp ↓] theorem exec_pick (c a b : AO) : exec Γ e h (.pick c a b) = vPick (c.get e) (a.get e) (b.get e) h := rfl
@[simp ↓] theorem exec_alloc (zero : List AV) : exec Γ e h (.alloc zero) = some (.ptr h.length 0 0 0, h ++ [.var zero]) := rfl
@[simp ↓] theorem exec_box (x : AO) : exec Γ e h (.box x) = if (x.get e).cells.all AV.okc then some (.ptr h.length 0 0 0, h ++ [.var (x.get e).cells]) else none := rfl
@[simp ↓] theorem exec_build (zero : List AV) (ps : List (Nat × Nat × AO)) : exec Γ e h (.build zero ps) = @bnd _ _ (parts e ps zero) ⟨fun cs => some (.agg cs, h)⟩ := rfl
@[simp ↓] theorem exec_bsl (sz : Nat) (zero : AV) (len : Nat) (ps : List (Nat × AO)) : exec Γ e h (.bsl sz zero len ps) = @bnd _ _ (bpartsP e sz ps (List.replicate len zero)) ⟨fun es => some (.lst true es, h)⟩ := rfl
@[simp ↓] theorem exec_bslh (sz : Nat) (zero : AV) (len : Nat) (ps : List (Nat × AO)) : exec Γ e h (.bslh sz zero len ps) = @bnd _ _ (bparts e sz ps (List.replicate len zero) h) ⟨fun p => some (.lst true p.1, p.2)⟩ := rfl
@[simp ↓] theorem exec_load (sz : Nat) (agg : Bool) (a : AO) : exec Γ e h (.load sz agg a) = @bnd _ _ (cellsAt h (a.get e)) ⟨fun cs => keepH h (shape sz agg cs)⟩ := rfl
@[simp ↓] theorem exec_store (sz : Nat) (a x : AO) : exec Γ e h (.store sz a x) = @bnd _ _ (storeAt h sz (a.get e) (x.get e)) ⟨fun q => some (.undef, q)⟩ := rfl
@[simp ↓] theorem exec_nck (x : AO) : exec Γ e h (.nck x) = vNck (x.get e) h := rfl
@[simp ↓] theorem exec_bin (op : BinOp) (x y : AO) : exec Γ e h (.bin op x y) = keepH h (bin op (x.get e) (y.get e)) := rfl
@[simp ↓] theorem exec_beq (neg : Bool) (x y : AO) : exec Γ e h (.beq neg x y) = vBeq neg (x.get e) (y.get e) h := rfl
@[simp ↓] theorem exec_seq (neg : Bool) (ks : List Nat) (x y : AO) : exec Γ e h (.seq neg ks x y) = vSeq neg ks (x.get e) (y.get e) h := rfl
@[simp ↓] theorem exec_un (op : UnOp) (x : AO) : exec Γ e h (.un op x) = keepH h (un op (x.get e)) := rfl
@[simp ↓] theorem exec_conv (k : IntKind) (x : AO) : exec Γ e h (.conv k x) = vConv k (x.get e) h := rfl
@[simp ↓] theorem exec_cstr (x : AO) : exec Γ e h (.cstr x) = vCstr (x.get e) h := rfl
@[simp ↓] theorem exec_bts (x : AO) : exec Γ e h (.bts x) = @bnd _ _ (elems h (x.get e)) ⟨fun es => @bnd _ _ (toBytes es) ⟨fun s => some (.str s, h)⟩⟩ := rfl
@[simp ↓] theorem exec_mki (t : TypeId) (x : AO) : exec Γ e h (.mki t x) = some (.ifc t (x.get e), h) := rfl
@[simp ↓] theorem exec_mkf (f : Fn) (a c : List AO) : exec Γ e h (.mkf f a c) = some (.fn f (getAll e a) (getAll e c), h) := rfl
@[simp ↓] theorem exec_mks (sz bytes : Nat) (zero : AV) (l c : AO) : exec Γ e h (.mks sz bytes zero l c) = vMks sz bytes zero (l.get e) (c.get e) h := rfl
@[simp ↓] theorem exec_sls (x : AO) (lo hi : Option AO) : exec Γ e h (.sls x lo hi) = vSls (x.get e) (lo.map fun y => y.get e) (hi.map fun y => y.get e) h := by simp only [exec, vSls, optNat_eq]; rfl
@[simp ↓] theorem exec_sll (sz : Nat) (x : AO) (lo hi mx : Option AO) : exec Γ e h (.sll sz x lo hi mx) = vSll sz (x.get e) (lo.map fun y => y.get e) (hi.map fun y => y.get e) (mx.map fun y => y.get e) h := by
  cases mx <;> simp only [exec, vSll, optNat_eq, Option.map, Option.isSome_map] <;> cases x.get e <;> cases hi <;> rfl
@[simp ↓] theorem exec_fad (off : Nat) (x : AO) : exec Γ e h (.fad off x) = vFad off (x.get e) h := rfl
@[simp ↓] theorem exec_fld (off sz : Nat) (agg : Bool) (x : AO) : exec Γ e h (.fld off sz agg x) = vFld off sz agg (x.get e) h := rfl
@[simp ↓] theorem exec_iad (sz : Nat) (x i : AO) : exec Γ e h (.iad sz x i) = vIad sz (x.get e) (i.get e) h := rfl
@[simp ↓] theorem exec_iada (m sz : Nat) (x i : AO) : exec Γ e h (.iada m sz x i) = vIada m sz (x.get e) (i.get e) h := rfl
@[simp ↓] theorem exec_idxs (x i : AO) : exec Γ e h (.idxs x i) = vIdxs (x.get e) (i.get e) h := rfl
@[simp ↓] theorem exec_idxa (m sz : Nat) (agg : Bool) (x i : AO) : exec Γ e h (.idxa m sz agg x i) = vIdxa m sz agg (x.get e) (i.get e) h := rfl
@[simp ↓] theorem exec_ext (x : AO) (i : Nat) : exec Γ e h (.ext x i) = vExt (x.get e) i h := rfl
@[simp ↓] theorem exec_call (f : FuncId) (args : List AO) : exec Γ e h (.call f args) = callA Γ f (getAll e args) h := rfl
@[simp ↓] theorem exec_callp (f : FuncId) (args : List AO) : exec Γ e h (.callp f args) = if (getAll e args).all AV.isE then keepH h (Γ.p f (getAll e args)) else none := rfl
@[simp ↓] theorem exec_callv (f : AO) (args : List AO) : exec Γ e h (.callv f args) = vCallv Γ (f.get e) (getAll e args) h := rfl
@[simp ↓] theorem exec_app (sz bytes : Nat) (s x : AO) : exec Γ e h (.app sz bytes s x) = @bnd _ _ (elems h (x.get e)) ⟨fun news => append h sz bytes (s.get e) news⟩ := rfl
@[simp ↓] theorem exec_appz (sz bytes : Nat) (zero : AV) (s x : AO) : exec Γ e h (.appz sz bytes zero s x) = @bnd _ _ (nat? (x.get e)) ⟨fun n => append h sz bytes (s.get e) (List.replicate n zero)⟩ := rfl
@[simp ↓] theorem exec_apps (bytes : Nat) (s x : AO) : exec Γ e h (.apps bytes s x) = vApps bytes (s.get e) (x.get e) h := rfl
@[simp ↓] theorem exec_copy (sz0 : Nat) (d s : AO) : exec Γ e h (.copy sz0 d s) = @bnd _ _ (elems h (s.get e)) ⟨fun src => vCopy sz0 (d.get e) src h⟩ := by
  simp only [exec]
  congr 1
@[simp ↓] theorem exec_len (str : Bool) (x : AO) : exec Γ e h (.len str x) = @bnd _ _ (slen str (x.get e)) ⟨fun n => some (.int .i64 n, h)⟩ := rfl
@[simp ↓] theorem exec_lena (n : Nat) : exec Γ e h (.lena n) = some (.int .i64 n, h) := rfl
@[simp ↓] theorem exec_mm (isMax : Bool) (xs : List AO) : exec Γ e h (.mm isMax xs) = vMm isMax (getAll e xs) h := rfl
@[simp ↓] theorem exec_no : exec Γ e h .no = none := rfl
@[simp ↓] theorem exec_isnil (k : NK) (neg : Bool) (x : AO) : exec Γ e h (.isnil k neg x) = keepH h (isNil k neg (x.get e)) := rfl
@[simp] theorem keepH_some (v : AV) : keepH h (some v) = some (v, h) := rfl
end

def storeB (h : AH) (sz b v i o : Nat) (x : AV) : Option AB → Option AH
  | some (.var cs) => if v = 0 ∧ i = 0 ∧ x.cells.all AV.okc = true ∧ x.cells.length = sz ∧ o + sz ≤ cs.length then some (h.set b (.var (over cs o x.cells))) else none
  | some (.row _ _ _) => (purE h x).bind fun (x', h') =>
      match h'[b]? with
      | some (.row v' sz' es) => (es[i]?).bind fun e =>
        if v = v' ∧ x'.cells.all AV.isS = true ∧ x'.cells.length = sz ∧ o + sz ≤ e.cells.length then some (h'.set b (.row v' sz' (es.set i (e.withCells (over e.cells o x'.cells))))) else none
      | _ => none
  | _ => none
def storeR (h' : AH) (sz b v i o : Nat) (x' : AV) : Option AB → Option AH
  | some (.row v' sz' es) => (es[i]?).bind fun e =>
      if v = v' ∧ x'.cells.all AV.isS = true ∧ x'.cells.length = sz ∧ o + sz ≤ e.cells.length then some (h'.set b (.row v' sz' (es.set i (e.withCells (over e.cells o x'.cells))))) else none
  | _ => none
@[simp] theorem storeAt_ptr (h : AH) (sz b v i o : Nat) (x : AV) : storeAt h sz (.ptr b v i o) x = storeB h sz b v i o x h[b]? := by
  simp only [storeAt]
  cases h[b]? with
  | none => rfl
  | some X => cases X <;> rfl
@[simp] theorem storeB_var (h : AH) (sz b v i o : Nat) (x : AV) (cs : List AV) : storeB h sz b v i o x (some (.var cs)) = if v = 0 ∧ i = 0 ∧ x.cells.all AV.okc = true ∧ x.cells.length = sz ∧ o + sz ≤ cs.length then some (h.set b (.var (over cs o x.cells))) else none := rfl
@[simp] theorem storeB_row (h : AH) (sz b v i o : Nat) (x : AV) (v' sz' : Nat) (es : List AV) : storeB h sz b v i o x (some (.row v' sz' es)) = @bnd _ _ (purE h x) ⟨fun p => storeR p.2 sz b v i o p.1 p.2[b]?⟩ := by
  simp only [storeB]
  congr 1
@[simp] theorem storeR_row (h' : AH) (sz b v i o : Nat) (x' : AV) (v' sz' : Nat) (es : List AV) : storeR h' sz b v i o x' (some (.row v' sz' es)) = @bnd _ _ (es[i]?) ⟨fun e => if v = v' ∧ x'.cells.all AV.isS = true ∧ x'.cells.length = sz ∧ o + sz ≤ e.cells.length then some (h'.set b (.row v' sz' (es.set i (e.withCells (over e.cells o x'.cells))))) else none⟩ := rfl
def cellsB (v i o : Nat) : Option AB → Option (List AV)
  | some (.var cs) => if v = 0 ∧ i = 0 ∧ o ≤ cs.length then some (cs.drop o) else none
  | some (.row v' _ es) => if v = v' then (es[i]?).bind fun x => if o ≤ x.cells.length then some (x.cells.drop o) else none else none
  | some (.fro v' _ es) => if v = v' then (es[i]?).bind fun x => if o ≤ x.cells.length then some (x.cells.drop o) else none else none
  | _ => none
@[simp] theorem cellsAt_ptr (h : AH) (b v i o : Nat) : cellsAt h (.ptr b v i o) = cellsB v i o h[b]? := by
  simp only [cellsAt]
  cases h[b]? with
  | none => rfl
  | some X => cases X <;> rfl
@[simp] theorem cellsB_var (v i o : Nat) (cs : List AV) : cellsB v i o (some (.var cs)) = if v = 0 ∧ i = 0 ∧ o ≤ cs.length then some (cs.drop o) else none := rfl
@[simp] theorem cellsB_row (v i o v' sz : Nat) (es : List AV) : cellsB v i o (some (.row v' sz es)) = if v = v' then @bnd _ _ (es[i]?) ⟨fun x => if o ≤ x.cells.length then some (x.cells.drop o) else none⟩ else none := rfl
@[simp] theorem cellsB_fro (v i o v' sz : Nat) (es : List AV) : cellsB v i o (some (.fro v' sz es)) = if v = v' then @bnd _ _ (es[i]?) ⟨fun x => if o ≤ x.cells.length then some (x.cells.drop o) else none⟩ else none := rfl
def elemsB (v o n : Nat) : Option AB → Option (List AV)
  | some (.row v' _ es) => if v = v' ∧ o + n ≤ es.length then some ((es.drop o).take n) else none
  | some (.fro v' _ es) => if v = v' ∧ o + n ≤ es.length then some ((es.drop o).take n) else none
  | _ => none
@[simp] theorem elems_own (h : AH) (b v o n : Nat) : elems h (.own b v o n) = elemsB v o n h[b]? := by
  simp only [elems]
  cases h[b]? with
  | none => rfl
  | some X => cases X <;> rfl
@[simp] theorem elemsB_row (v o n v' sz : Nat) (es : List AV) : elemsB v o n (some (.row v' sz es)) = if v = v' ∧ o + n ≤ es.length then some ((es.drop o).take n) else none := rfl
@[simp] theorem elemsB_fro (v o n v' sz : Nat) (es : List AV) : elemsB v o n (some (.fro v' sz es)) = if v = v' ∧ o + n ≤ es.length then some ((es.drop o).take n) else none := rfl
def rowSzB (v : Nat) : Option AB → Option Nat
  | some (.row v' sz _) => if v = v' then some sz else none
  | some (.fro v' sz _) => if v = v' then some sz else none
  | _ => none
@[simp] theorem rowSz_eq (h : AH) (b v : Nat) : rowSz h b v = rowSzB v h[b]? := by
  simp only [rowSz]
  cases h[b]? with
  | none => rfl
  | some X => cases X <;> rfl
@[simp] theorem rowSzB_row (v v' sz : Nat) (es : List AV) : rowSzB v (some (.row v' sz es)) = if v = v' then some sz else none := rfl
@[simp] theorem rowSzB_fro (v v' sz : Nat) (es : List AV) : rowSzB v (some (.fro v' sz es)) = if v = v' then some sz else none := rfl
def appendB (h : AH) (sz bytes b v o n : Nat) (news : List AV) : Option AB → Option (AV × AH)
  | some (.row v' sz' es) =>
      if v = v' ∧ sz' = sz ∧ szOk sz news = true ∧ o + n ≤ es.length ∧ (n + news.length) * bytes ≤ 140737488355328 ∧ n + news.length ≤ 140737488355328 then
        some (.own b (v + 1) 0 (n + news.length), h.set b (.row (v + 1) sz ((es.drop o).take n ++ news)))
      else none
  | _ => none
@[simp] theorem append_own (h : AH) (sz bytes b v o n : Nat) (news : List AV) : append h sz bytes (.own b v o n) news = appendB h sz bytes b v o n news h[b]? := by
  simp only [append]
  cases h[b]? with
  | none => rfl
  | some X => cases X <;> rfl
@[simp] theorem appendB_row (h : AH) (sz bytes b v o n : Nat) (news : List AV) (v' sz' : Nat) (es : List AV) : appendB h sz bytes b v o n news (some (.row v' sz' es)) = if v = v' ∧ sz' = sz ∧ szOk sz news = true ∧ o + n ≤ es.length ∧ (n + news.length) * bytes ≤ 140737488355328 ∧ n + news.length ≤ 140737488355328 then some (.own b (v + 1) 0 (n + news.length), h.set b (.row (v + 1) sz ((es.drop o).take n ++ news))) else none := rfl
@[simp] theorem append_lst (h : AH) (sz bytes : Nat) (es news : List AV) : append h sz bytes (.lst true es) news = if (es = [] ∨ news ≠ []) ∧ szOk sz es = true ∧ szOk sz news = true ∧ (es.length + news.length) * bytes ≤ 140737488355328 ∧ es.length + news.length ≤ 140737488355328 then some (.own h.length 0 0 (es.length + news.length), h ++ [.row 0 sz (es ++ news)]) else none := rfl
def normO (b v o n : Nat) : Option AB → AV
  | some (.row v' _ _) => if v = v' then .own b 0 o n else .dead
  | some (.fro v' _ _) => if v = v' then .own b 0 o n else .dead
  | _ => .dead
@[simp] theorem normO_row (b v o n v' sz : Nat) (es : List AV) : normO b v o n (some (.row v' sz es)) = if v = v' then .own b 0 o n else .dead := rfl
@[simp] theorem normO_fro (b v o n v' sz : Nat) (es : List AV) : normO b v o n (some (.fro v' sz es)) = if v = v' then .own b 0 o n else .dead := rfl
def normL : Option (List AV) → AV
  | some es => .lst false es
  | none => .dead
@[simp] theorem normL_some (es : List AV) : normL (some es) = .lst false es := rfl
theorem normS_own' (L : Nat) (R : List Nat) (h : AH) (b v o n : Nat) : normS L R h (.own b v o n) =
    if b < L then (if R.contains b then normO b v o n h[b]? else .own b v o n) else normL (elems h (.own b v o n)) := by
  simp only [normS]
  split
  · split
    · cases h[b]? with
      | none => rfl
      | some X => cases X <;> rfl
    · rfl
  · cases elems h (.own b v o n) <;> rfl
attribute [simp] normS_own'
def purO (h : AH) (b v o n : Nat) : Option AB → Option (AV × AH)
  | some (.row v' sz es) => if v = v' ∧ o + n ≤ es.length then some (.lst false ((es.drop o).take n), h.set b (.fro v' sz es)) else none
  | some (.fro v' _ es) => if v = v' ∧ o + n ≤ es.length then some (.lst false ((es.drop o).take n), h) else none
  | _ => none
@[simp] theorem purS_own (h : AH) (b v o n : Nat) : purS h (.own b v o n) = purO h b v o n h[b]? := by
  simp only [purS]
  cases h[b]? with
  | none => rfl
  | some X => cases X <;> rfl
@[simp] theorem purO_row (h : AH) (b v o n v' sz : Nat) (es : List AV) : purO h b v o n (some (.row v' sz es)) = if v = v' ∧ o + n ≤ es.length then some (.lst false ((es.drop o).take n), h.set b (.fro v' sz es)) else none := rfl
@[simp] theorem purO_fro (h : AH) (b v o n v' sz : Nat) (es : List AV) : purO h b v o n (some (.fro v' sz es)) = if v = v' ∧ o + n ≤ es.length then some (.lst false ((es.drop o).take n), h) else none := rfl
@[simp ↓] theorem parts_nil (e : Env) (cs : List AV) : parts e [] cs = some cs := rfl
@[simp ↓] theorem parts_cons (e : Env) (off size : Nat) (x : AO) (l : List (Nat × Nat × AO)) (cs : List AV) : parts e ((off, size, x) :: l) cs =
    @bnd _ _ (if (x.get e).cells.all AV.okc = true ∧ (x.get e).cells.length = size ∧ off + size ≤ cs.length then some (over cs off (x.get e).cells) else none) ⟨fun cs => parts e l cs⟩ := by
  simp only [parts]; split <;> rfl
@[simp ↓] theorem bpartsP_nil (e : Env) (sz : Nat) (es : List AV) : bpartsP e sz [] es = some es := rfl
@[simp ↓] theorem bpartsP_cons (e : Env) (sz i : Nat) (x : AO) (l : List (Nat × AO)) (es : List AV) : bpartsP e sz ((i, x) :: l) es =
    @bnd _ _ (if (x.get e).isE ∧ (x.get e).cells.length = sz ∧ i < es.length then some (es.set i (x.get e)) else none) ⟨fun es => bpartsP e sz l es⟩ := by
  simp only [bpartsP]; split <;> rfl
@[simp ↓] theorem bparts_nil (e : Env) (sz : Nat) (es : List AV) (h : AH) : bparts e sz [] es h = some (es, h) := rfl
@[simp ↓] theorem bparts_cons (e : Env) (sz i : Nat) (x : AO) (l : List (Nat × AO)) (es : List AV) (h : AH) : bparts e sz ((i, x) :: l) es h =
    @bnd _ _ (purE h (x.get e)) ⟨fun p => if p.1.cells.length = sz ∧ i < es.length then bparts e sz l (es.set i p.1) p.2 else none⟩ := rfl
@[simp ↓] theorem resOne_t (s : St) (i : Nat) : resOne s (.t i) = some (s.e i) := rfl
@[simp ↓] theorem resOne_cell (s : St) (i sz : Nat) (agg : Bool) : resOne s (.cell i sz agg) = @bnd _ _ (cellsAt s.h (s.e i)) ⟨fun cs => shape sz agg cs⟩ := rfl
@[simp ↓] theorem resAll_nil (s : St) : resAll s [] = some [] := rfl
@[simp ↓] theorem resAll_cons (s : St) (r : AR) (l : List AR) : resAll s (r :: l) = @bnd _ _ (resOne s r) ⟨fun v => @bnd _ _ (resAll s l) ⟨fun vs => some (v :: vs)⟩⟩ := rfl
def tupOf : List AV → AV
  | [v] => v
  | vs => .tup vs
@[simp] theorem tupOf_nil : tupOf [] = .tup [] := rfl
@[simp] theorem tupOf_one (v : AV) : tupOf [v] = v := rfl
@[simp] theorem tupOf_more (a b : AV) (l : List AV) : tupOf (a :: b :: l) = .tup (a :: b :: l) := rfl
@[simp ↓] theorem resV_eq (s : St) (l : List AR) : resV s l = @bnd _ _ (resAll s l) ⟨fun vs => some (tupOf vs)⟩ := by
  unfold resV bnd
  congr 1
  funext vs
  match vs with
  | [] => rfl
  | [v] => rfl
  | _ :: _ :: _ => rfl
end Go.Am
