/-
  The abstract machine: code, and what it makes of a state.
-/
import Derived.Test.YtldgegojhaamoaaAmA
set_option linter.unusedSimpArgs false
set_option linter.unusedVariables false
namespace Go.Am

/-- A loop: kept slots; the places that a round writes; which kept slots are slices of one's own (with their elements' cells); the slots that count behind each exit. -/
inductive AC where
  | skip
  | ops (l : IT)
  | seq (a b : AC)
  | cond (c : AO) (x y : AC)
  | block (id : Nat) (c : AC)
  | loop (keep : List Nat) (wr : List (Nat × Nat)) (own : List (Nat × Nat)) (outs : List (AX × List Nat)) (c : AC)
  | exit (id : Nat)
  | ret
  deriving Inhabited

inductive AR where
  | t (i : Nat)
  | cell (i sz : Nat) (agg : Bool)
  deriving Inhabited

structure AF where
  nt : Nat
  res : List AR
  body : AC
  deriving Inhabited

section iter
variable {σ τ : Type}
def iterN (f : σ → Option (σ ⊕ τ)) : Nat → σ → Option τ
  | 0, _ => none
  | n + 1, s =>
    match f s with
    | none => none
    | some (.inl s') => iterN f n s'
    | some (.inr t) => some t

theorem iterN_succ {f : σ → Option (σ ⊕ τ)} {n : Nat} {s : σ} {t : τ} (h : iterN f n s = some t) : iterN f (n + 1) s = some t := by
  induction n generalizing s with
  | zero => cases h
  | succ n ih =>
    rw [iterN] at h ⊢
    cases hs : f s with
    | none => rw [hs] at h; cases h
    | some r =>
      rw [hs] at h
      cases r with
      | inl s' => exact ih h
      | inr t' => exact h

theorem iterN_le {f : σ → Option (σ ⊕ τ)} {n m : Nat} {s : σ} {t : τ} (h : iterN f n s = some t) (hm : n ≤ m) : iterN f m s = some t := by
  induction hm with
  | refl => exact h
  | step _ ih => exact iterN_succ ih

open Classical in
/-- A step again and again, till it says that it is over. -/
noncomputable def iter (f : σ → Option (σ ⊕ τ)) (s : σ) : Option τ :=
  if h : ∃ t, ∃ n, iterN f n s = some t then some (Classical.choose h) else none

theorem iter_of_N {f : σ → Option (σ ⊕ τ)} {n : Nat} {s : σ} {t : τ} (h : iterN f n s = some t) : iter f s = some t := by
  have hx : ∃ t, ∃ n, iterN f n s = some t := ⟨t, n, h⟩
  unfold iter
  rw [dif_pos hx]
  obtain ⟨m, hm⟩ := Classical.choose_spec hx
  have h1 := iterN_le h (Nat.le_max_left n m)
  have h2 := iterN_le hm (Nat.le_max_right n m)
  rw [h1] at h2
  exact h2.symm

theorem N_of_iter {f : σ → Option (σ ⊕ τ)} {s : σ} {t : τ} (h : iter f s = some t) : ∃ n, iterN f n s = some t := by
  unfold iter at h
  split at h
  · rename_i hx
    have := Classical.choose_spec hx
    cases h
    exact this
  · cases h

theorem iter_eq (f : σ → Option (σ ⊕ τ)) (s : σ) : iter f s =
    match f s with
    | none => none
    | some (.inl s') => iter f s'
    | some (.inr t) => some t := by
  cases hi : iter f s with
  | some t =>
    obtain ⟨n, hn⟩ := N_of_iter hi
    cases n with
    | zero => cases hn
    | succ n =>
      simp only [iterN] at hn
      split at hn
      · cases hn
      · exact (iter_of_N hn).symm
      · exact hn.symm
  | none =>
    split
    · rfl
    · rename_i s' hs
      cases h2 : iter f s' with
      | none => rfl
      | some t =>
        obtain ⟨n, hn⟩ := N_of_iter h2
        have : iter f s = some t := iter_of_N (n := n + 1) (by simp only [iterN, hs]; exact hn)
        rw [hi] at this; cases this
    · rename_i t hs
      have : iter f s = some t := iter_of_N (n := 1) (by simp only [iterN, hs])
      rw [hi] at this; cases this
/-- What a step that has been made comes to. -/
noncomputable def iterK (f : σ → Option (σ ⊕ τ)) : σ ⊕ τ → Option τ
  | .inl s' => iter f s'
  | .inr t => some t
theorem iter_bind (f : σ → Option (σ ⊕ τ)) (s : σ) : iter f s = (f s).bind (iterK f) := by
  rw [iter_eq]
  cases f s with
  | none => rfl
  | some r => cases r <;> rfl
end iter

/-- Places that are not known any more. -/
def Env.killR (e : Env) (rs : List (Nat × Nat)) : Env := fun i => if rs.any (fun r => decide (r.1 ≤ i) && decide (i ≤ r.2)) then .dead else e i
/-- Values laid into slots. -/
def Env.lay (e : Env) : List Nat → List AV → Env
  | t :: ts, v :: vs => (e.lay ts vs).put t v
  | _, _ => e

/-- One cell or value as it stands at a loop's head, of L rows; those of R count anew. -/
def normS (L : Nat) (R : List Nat) (h : AH) : AV → AV
  | .own b v o n =>
    if b < L then
      if R.contains b then
        match h[b]? with
        | some (.row v' _ _) => if v = v' then .own b 0 o n else .dead
        | some (.fro v' _ _) => if v = v' then .own b 0 o n else .dead
        | _ => .dead
      else .own b v o n
    else match elems h (.own b v o n) with
      | some es => .lst false es
      | none => .dead
  | .ptr b v i o => if b < L ∧ ¬ R.contains b then .ptr b v i o else .dead
  | .fn f a c => if (a ++ c).all (fun x => x.isE || match x with | .ptr b _ _ _ => decide (b < L) && !R.contains b | _ => false) then .fn f a c else .dead
  | .undef => .undef
  | v => if v.isS then v else .dead
def normV (L : Nat) (R : List Nat) (h : AH) (v : AV) : AV :=
  if v.isE then v else
  match v with
  | .agg cs => .agg (cs.map (normS L R h))
  | v => normS L R h v
def normB (L : Nat) (R : List Nat) (h : AH) (i : Nat) (b : AB) : AB :=
  match b with
  | .var cs => .var (cs.map (normS L R h))
  | .row v sz es => .row (if R.contains i then 0 else v) sz es
  | .fro v sz es => .fro (if R.contains i then 0 else v) sz es
  | .gone => .gone
def normH (L : Nat) (R : List Nat) (h : AH) (i : Nat) : AH → AH
  | [] => []
  | b :: l => normB L R h i b :: normH L R h (i + 1) l
/-- A loop's head. -/
def head (L : Nat) (R : List Nat) (keep : List Nat) (s : St) : List AV × AH :=
  (keep.map fun t => normV L R s.h (s.e t), normH L R s.h 0 (s.h.take L))

/-- What does not change in a loop keeps no handle to rows that count anew. -/
def dropR (R : List Nat) (v : AV) : AV :=
  let ok (x : AV) : Bool := x.isE || match x with | .ptr b _ _ _ => !R.contains b | .own b _ _ _ => !R.contains b | _ => false
  match v with
  | .agg cs => if cs.all ok then .agg cs else .dead
  | .fn f a c => if (a ++ c).all ok then .fn f a c else .dead
  | .undef => .undef
  | v => if ok v then v else .dead

/-- Ahead of a loop: empty slices that are appended to in it become rows. -/
def preOwn : List (Nat × Nat) → St → St
  | [], s => s
  | (t, sz) :: l, s =>
    match s.e t with
    | .lst true [] => preOwn l ⟨s.e.put t (.own s.h.length 0 0 0), s.h ++ [.row 0 sz []]⟩
    | _ => preOwn l s
def rowsOf (e : Env) : List (Nat × Nat) → List Nat
  | [] => []
  | (t, _) :: l => match e t with
    | .own b _ _ _ => b :: rowsOf e l
    | _ => rowsOf e l
def baseEnv (R : List Nat) (e : Env) : Env := if R.isEmpty then e else fun i => dropR R (e i)

def pickExit {ρ : Type} (e : Env) (k : AX → St → Option ρ) (r : AX × List AV × AH) : List (AX × List Nat) → Option ρ
  | [] => none
  | (x, ts) :: l => if r.1 = x then k x ⟨e.lay ts r.2.1, r.2.2⟩ else pickExit e k r l

def outsOf (x : AX) : List (AX × List Nat) → List Nat
  | [] => []
  | (y, ts) :: l => if x = y then ts else outsOf x l

/-- Rows whose count may start anew in a loop's round: those of the loop, and those made in it. -/
def volIn (R : List Nat) (L : Nat) (i : Nat) : Bool := R.contains i || decide (L ≤ i)

noncomputable def eval (Γ : Tab) : AC → (Nat → Bool) → (ρ : Type) → (AX → St → Option ρ) → St → Option ρ
  | .skip, _, _, k, s => k .normal s
  | .ops l, _, _, k, s => (its Γ l s).bind (k .normal)
  | .seq a b, V, ρ, k, s => eval Γ a V ρ (fun x s' => match x with
      | .normal => eval Γ b V ρ k s'
      | x => k x s') s
  | .cond c x y, V, ρ, k, s => match c.get s.e with
      | .bool b => if b = true then eval Γ x V ρ k s else eval Γ y V ρ k s
      | _ => none
  | .block id c, V, ρ, k, s => eval Γ c V ρ (fun x s' => match x with
      | .exit i => if i = id then k .normal s' else k (.exit i) s'
      | x => k x s') s
  | .loop keep wr own outs c, V, _, k, s =>
      if (rowsOf (preOwn own s).e own).all V = true then
      (iter (fun x : List AV × AH => eval Γ c (volIn (rowsOf (preOwn own s).e own) (preOwn own s).h.length) ((List AV × AH) ⊕ (AX × List AV × AH)) (fun ex s' => match ex with
          | .normal => some (.inl (head (preOwn own s).h.length (rowsOf (preOwn own s).e own) keep s'))
          | ex => some (.inr (ex, (outsOf ex outs).map s'.e, s'.h))) ⟨((baseEnv (rowsOf (preOwn own s).e own) (preOwn own s).e).killR wr).lay keep x.1, x.2⟩)
        (head (preOwn own s).h.length (rowsOf (preOwn own s).e own) keep (preOwn own s))).bind fun r => pickExit ((baseEnv (rowsOf (preOwn own s).e own) (preOwn own s).e).killR wr) k r outs
      else none
  | .exit id, _, _, k, s => k (.exit id) s
  | .ret, _, _, k, s => k .ret s

/-- One round of a loop. -/
noncomputable def round (Γ : Tab) (keep : List Nat) (outs : List (AX × List Nat)) (c : AC) (e0 : Env) (L : Nat) (R : List Nat) (x : List AV × AH) : Option ((List AV × AH) ⊕ (AX × List AV × AH)) :=
  eval Γ c (volIn R L) _ (fun ex s' => match ex with
    | .normal => some (.inl (head L R keep s'))
    | ex => some (.inr (ex, (outsOf ex outs).map s'.e, s'.h))) ⟨e0.lay keep x.1, x.2⟩

def argEnv (args : List AV) : Env := fun i => args.getD i .dead

def resOne (s : St) : AR → Option AV
  | .t i => some (s.e i)
  | .cell i sz agg => (cellsAt s.h (s.e i)).bind (shape sz agg)
def resAll (s : St) : List AR → Option (List AV)
  | [] => some []
  | r :: l => (resOne s r).bind fun v => (resAll s l).bind fun vs => some (v :: vs)
def resV (s : St) (l : List AR) : Option AV := (resAll s l).bind fun vs => match vs with
  | [v] => some v
  | vs => some (.tup vs)

/-- A function, with the rows. -/
noncomputable def runH (Γ : Tab) (f : AF) (args : List AV) (h : AH) : Option (AV × AH) :=
  if args.length ≤ f.nt then
    eval Γ f.body (fun i => decide (h.length ≤ i)) (AV × AH) (fun x s => match x with
      | .exit _ => none
      | _ => (resV s f.res).bind fun v => some (v, s.h)) ⟨argEnv args, h⟩
  else none
/-- A function of values without handles, whose result has none. -/
noncomputable def runP (Γ : Tab) (f : AF) (args : List AV) : Option AV := (runH Γ f args []).bind fun (v, h) => (purP h v).bind fun (v, _) => some v

end Go.Am
