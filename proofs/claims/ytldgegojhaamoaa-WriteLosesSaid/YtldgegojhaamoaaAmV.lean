/-
  The abstract machine: regions.
-/
import Derived.Test.YtldgegojhaamoaaAmU
import Derived.Orders
set_option linter.unusedSimpArgs false
set_option linter.unusedVariables false
namespace Go.Am

/-- One operation of a region, with its guard, is meant. -/
def okAI (P : Program) (n : Nat) (all : List Oper) (o : Oper) (x : AI) : Bool :=
  decide (o.dst = x.dst) && (optL x.dst).all (fun t => decide (t < n)) && okOp P o.op x.op &&
  (match o.guard, x.guard with
    | none, none => true
    | some (j, want), some (t, want') => decide (want = want') && decide ((all[j]?).bind (·.dst) = some t)
    | _, _ => false)

def okAIs (P : Program) (n : Nat) (all : List Oper) : List Oper → List AI → Bool
  | [], [] => true
  | o :: os, x :: xs => okAI P n all o x && okAIs P n all os xs
  | _, _ => false

section
variable {P : Program} {Z : Nat → Prop} {β : Bds} {w : World} {Γ : Tab}

theorem yielded_bool {ops : Array Oper} {a : Act} {j t : Nat} {b : Bool} (ht : (ops[j]?).bind (·.dst) = some t) (hb : a.tmps.getD t Go.undef = .bool b) : yielded ops a.tmps j = some b := by
  unfold yielded
  rw [ht]
  simp only [Option.bind_some]
  rw [Array.getD_eq_getD_getElem?] at hb
  cases hq : a.tmps[t]? with
  | none => rw [hq] at hb; cases hb
  | some v => rw [hq] at hb; simp only [Option.getD_some] at hb; rw [hb]
theorem yielded_undef {ops : Array Oper} {a : Act} {j t : Nat} (ht : (ops[j]?).bind (·.dst) = some t) (hb : a.tmps.getD t Go.undef = Go.undef) : yielded ops a.tmps j = none := by
  unfold yielded
  rw [ht]
  simp only [Option.bind_some]
  rw [Array.getD_eq_getD_getElem?] at hb
  cases hq : a.tmps[t]? with
  | none => rfl
  | some v => rw [hq] at hb; simp only [Option.getD_some] at hb; rw [hb]; rfl

/-- One operation of a region. -/
theorem step1_wp {s : St} {a : Act} {n : Nat} (R : Rel Z β s.h w) (hΓ : TabOK P Γ) (E : EnvR Z β s.h w s.e a n) {ops : Array Oper} {o : Oper} {x : AI} (ok : okAI P n ops.toList o x = true) {v : AV} {h' : AH}
    (hx : step1 Γ x s = some (v, h')) {K : Act → World → Prop} {Q : Exit → Act → World → Prop}
    (k : ∀ u w' β', Rel Z β' h' w' → Fr Z β s.h w β' h' w' → VR β' (Own Z β' h') w' v u → K (a.put x.dst u) w') :
    if Region.wanted o (yielded ops a.tmps) then o.wp P a w K Q ∨ (o.asks P a w ∧ LetsOut Q) else K (a.put o.dst Go.undef) w := by
  unfold okAI at ok
  simp only [Bool.and_eq_true, decide_eq_true_eq] at ok
  obtain ⟨⟨⟨ok1, ok2⟩, ok3⟩, ok4⟩ := ok
  have go : exec Γ s.e s.h x.op = some (v, h') → o.wp P a w K Q := fun hx => exec_sound R hΓ E ok3 hx fun u w' β' r f hv => by rw [ok1]; exact k u w' β' r f hv
  have sk : some (AV.undef, s.h) = some (v, h') → K (a.put o.dst Go.undef) w := fun hx => by
    cases hx
    rw [ok1]
    exact k Go.undef w β R (Fr.refl Z β s.h w) .undef
  unfold step1 at hx
  cases hg : x.guard with
  | none =>
    rw [hg] at hx ok4
    cases hg' : o.guard with
    | some g => rw [hg'] at ok4; cases ok4
    | none =>
      rw [if_pos (by simp [Region.wanted, hg'])]
      exact .inl (go hx)
  | some g =>
    obtain ⟨t, want⟩ := g
    rw [hg] at hx ok4
    cases hg' : o.guard with
    | none => rw [hg'] at ok4; cases ok4
    | some g' =>
      obtain ⟨j, want'⟩ := g'
      rw [hg'] at ok4
      simp only [Bool.and_eq_true, decide_eq_true_eq, Array.getElem?_toList] at ok4
      obtain ⟨rfl, ht⟩ := ok4
      simp only at hx
      have hv := E.2 t
      split at hx
      · rename_i b hb
        rw [hb] at hv
        have hy := yielded_bool ht hv.bool_inv
        split at hx
        · rename_i hbw
          subst hbw
          rw [if_pos (by simp [Region.wanted, hg', hy])]
          exact .inl (go hx)
        · rename_i hbw
          rw [if_neg (by simp [Region.wanted, hg', hy]; exact fun e => hbw e)]
          exact sk hx
      · rename_i hb
        rw [hb] at hv
        have hy := yielded_undef ht hv.undef_inv
        rw [if_neg (by simp [Region.wanted, hg', hy])]
        exact sk hx
      · cases hx

theorem EnvR.putO {h : AH} {e : Env} {a : Act} {n : Nat} (E : EnvR Z β h w e a n) {d : Option Nat} (hd : (optL d).all (fun t => decide (t < n)) = true) {av : AV} {v : Value} (hv : VR β (Own Z β h) w av v) :
    EnvR Z β h w (St.put ⟨e, h⟩ d av).e (a.put d v) n := by
  cases d with
  | none => exact E
  | some t => exact E.put (by simpa [optL] using hd) hv

theorem put_h (e : Env) (h : AH) (d : Option Nat) (v : AV) : (St.put ⟨e, h⟩ d v).h = h := by cases d <;> rfl
theorem act_put_defers (a : Act) (d : Option Tmp) (v : Value) : (a.put d v).defers = a.defers := by cases d <;> rfl

/-- Nothing but these places is written; no call is put off. -/
structure Keeps (W : Nat → Bool) (a a' : Act) : Prop where
  defers : a'.defers = a.defers
  same : ∀ t, W t = false → a'.tmps.getD t Go.undef = a.tmps.getD t Go.undef
theorem Keeps.refl (W : Nat → Bool) (a : Act) : Keeps W a a := ⟨rfl, fun _ _ => rfl⟩
theorem Keeps.trans {W : Nat → Bool} {a a' a'' : Act} (h : Keeps W a a') (h' : Keeps W a' a'') : Keeps W a a'' := ⟨h'.defers.trans h.defers, fun t ht => (h'.same t ht).trans (h.same t ht)⟩
theorem Keeps.put {W : Nat → Bool} (a : Act) (d : Option Tmp) (v : Value) (hW : ∀ t, d = some t → W t = true) : Keeps W a (a.put d v) := by
  refine ⟨act_put_defers a d v, fun t ht => ?_⟩
  cases d with
  | none => rfl
  | some q =>
    have hne : q ≠ t := by
      rintro rfl
      rw [hW q rfl] at ht
      cases ht
    simp [Act.put, Array.getElem?_setIfInBounds_ne hne]

/-- In the order of the text. -/
theorem flat_wp (hΓ : TabOK P Γ) {n : Nat} {W : Nat → Bool} {ops : Array Oper} {Q : Exit → Act → World → Prop} : ∀ (os : List Oper) (xs : List AI) (s s' : St) (a : Act) (w : World) (β : Bds), okAIs P n ops.toList os xs = true →
    (∀ x ∈ xs, ∀ t, x.dst = some t → W t = true) → flat Γ xs s = some s' → Rel Z β s.h w → EnvR Z β s.h w s.e a n →
    (∀ a' w' β', Rel Z β' s'.h w' → Fr Z β s.h w β' s'.h w' → EnvR Z β' s'.h w' s'.e a' n → Keeps W a a' → Q .normal a' w') → wpList P ops Q os a w
  | [], [], s, s', a, w, β, _, _, hf, R, E, k => by
    simp only [flat] at hf
    cases hf
    exact k a w β R (Fr.refl Z β s.h w) E (Keeps.refl W a)
  | [], _ :: _, _, _, _, _, _, ok, _, _, _, _, _ => by simp [okAIs] at ok
  | _ :: _, [], _, _, _, _, _, ok, _, _, _, _, _ => by simp [okAIs] at ok
  | o :: os, x :: xs, s, s', a, w, β, ok, hW, hf, R, E, k => by
    simp only [okAIs, Bool.and_eq_true] at ok
    rw [flat_cons] at hf
    simp only [Option.bind_eq_some_iff] at hf
    obtain ⟨⟨v, h'⟩, hx, hf⟩ := hf
    have hd : (optL x.dst).all (fun t => decide (t < n)) = true := by
      have := ok.1
      unfold okAI at this
      simp only [Bool.and_eq_true] at this
      exact this.1.1.2
    unfold wpList
    refine step1_wp R hΓ E ok.1 hx fun u w' β' R' F' hv => ?_
    refine flat_wp hΓ os xs _ s' _ w' β' ok.2 (fun y hy => hW y (by simp [hy])) hf (by rw [put_h]; exact R') (by rw [put_h]; exact (E.fr F').putO hd hv) fun a'' w'' β'' R'' F'' E'' hd'' => ?_
    rw [put_h] at F''
    exact k a'' w'' β'' R'' (F'.trans F'') E'' ((Keeps.put a x.dst u (hW x (by simp))).trans hd'')

/-! ### Whatever order is drawn -/

/-- What an operation looks at: its operands, its guard. -/
def AI.reads (x : AI) : List Nat := (x.op.ops.filterMap fun o => match o with | .t i => some i | .c _ => none) ++ (match x.guard with | some (g, _) => [g] | none => [])

/-- Which of the pair of numbers waits for the other. -/
def ordered (pre : List Nat) (i j : Nat) : Bool := if j < i then (pre.getD i 0).testBit j else (pre.getD j 0).testBit i

def clash (x y : AI) : Bool := (match y.dst with | some d => x.reads.contains d | none => false) || (!y.op.isR && !x.op.isN && !(x.op.isVer && y.op.isW0))
def sameDst (x y : AI) : Bool := match x.dst with | some d => decide (y.dst = some d) | none => false

def okPair (pre : List Nat) (i j : Nat) (x y : AI) : Bool := decide (i = j) || (!sameDst x y && (!clash x y || ordered pre i j))

def okRow (pre : List Nat) (i : Nat) (x : AI) : Nat → List AI → Bool
  | _, [] => true
  | j, y :: l => okPair pre i j x y && okRow pre i x (j + 1) l
def okRows (pre : List Nat) (all : List AI) : Nat → List AI → Bool
  | _, [] => true
  | i, x :: l => okRow pre i x 0 all && okRows pre all (i + 1) l

def preOf (pre : List Nat) (o : Oper) : Nat := o.after.toList.foldl (fun s e => if Region.binds .any e then s ||| 2 ^ e.on ||| pre.getD e.on 0 else s) 0
def okPre (pre : List Nat) : Nat → List Oper → Bool
  | _, [] => true
  | i, o :: l => decide (pre.getD i 0 = preOf pre o) && o.after.all (fun e => !Region.binds .any e || decide (e.on < i)) && okPre pre (i + 1) l
def mkPre : List Nat → List Oper → List Nat
  | acc, [] => acc
  | acc, o :: l => mkPre (acc ++ [preOf acc o]) l

def okAny (ops : List Oper) (xs : List AI) : Bool := okPre (mkPre [] ops) 0 ops && okRows (mkPre [] ops) xs 0 xs

theorem okRow_spec {pre : List Nat} {i : Nat} {x : AI} : ∀ (l : List AI) (k : Nat), okRow pre i x k l = true → ∀ (j : Nat) (y : AI), l[j]? = some y → okPair pre i (k + j) x y = true
  | [], _, _, j, y, hy => by simp at hy
  | z :: l, k, h, j, y, hy => by
    simp only [okRow, Bool.and_eq_true] at h
    cases j with
    | zero => simp at hy; subst hy; exact h.1
    | succ j =>
      have := okRow_spec l (k + 1) h.2 j y (by simpa using hy)
      rwa [show k + 1 + j = k + (j + 1) from by omega] at this
theorem okRows_spec {pre : List Nat} {all : List AI} : ∀ (l : List AI) (k : Nat), okRows pre all k l = true → ∀ (i : Nat) (x : AI), l[i]? = some x → ∀ (j : Nat) (y : AI), all[j]? = some y → okPair pre (k + i) j x y = true
  | [], _, _, i, x, hx => by simp at hx
  | z :: l, k, h, i, x, hx => by
    simp only [okRows, Bool.and_eq_true] at h
    intro j y hy
    cases i with
    | zero =>
      simp at hx; subst hx
      have := okRow_spec all 0 h.1 j y hy
      simpa using this
    | succ i =>
      have := okRows_spec l (k + 1) h.2 i x (by simpa using hx) j y hy
      rwa [show k + 1 + i = k + (i + 1) from by omega] at this
theorem okPre_spec {pre : List Nat} : ∀ (l : List Oper) (k : Nat), okPre pre k l = true → ∀ (i : Nat) (o : Oper), l[i]? = some o → pre.getD (k + i) 0 = preOf pre o ∧ ∀ e ∈ o.after, Region.binds .any e = true → e.on < k + i
  | [], _, _, i, o, ho => by simp at ho
  | z :: l, k, h, i, o, ho => by
    simp only [okPre, Bool.and_eq_true, decide_eq_true_eq] at h
    cases i with
    | zero =>
      simp at ho; subst ho
      refine ⟨h.1.1, fun e he hb => ?_⟩
      have := Array.all_eq_true_iff_forall_mem.1 h.1.2 e he
      rw [hb] at this
      simpa using this
    | succ i =>
      have := okPre_spec l (k + 1) h.2 i o (by simpa using ho)
      rwa [show k + 1 + i = k + (i + 1) from by omega] at this

theorem preOf_bit {pre : List Nat} {o : Oper} {i : Nat} (h : (preOf pre o).testBit i = true) : ∃ e ∈ o.after, Region.binds .any e = true ∧ (i = e.on ∨ (pre.getD e.on 0).testBit i = true) := by
  unfold preOf at h
  have key : ∀ (l : List Edge) (s : Nat), (l.foldl (fun s e => if Region.binds .any e then s ||| 2 ^ e.on ||| pre.getD e.on 0 else s) s).testBit i = true →
      s.testBit i = true ∨ ∃ e ∈ l, Region.binds .any e = true ∧ (i = e.on ∨ (pre.getD e.on 0).testBit i = true) := by
    intro l
    induction l with
    | nil => intro s h; exact .inl h
    | cons e l ih =>
      intro s h
      rw [List.foldl_cons] at h
      rcases ih _ h with h | ⟨e', he', h⟩
      · split at h
        · rename_i hb
          rw [Nat.testBit_or, Nat.testBit_or, Bool.or_eq_true, Bool.or_eq_true] at h
          rcases h with (h | h) | h
          · exact .inl h
          · refine .inr ⟨e, by simp, hb, .inl ?_⟩
            rw [Nat.testBit_two_pow] at h
            exact (by simpa using h : e.on = i).symm
          · exact .inr ⟨e, by simp, hb, .inr h⟩
        · exact .inl h
      · exact .inr ⟨e', by simp [he'], h⟩
  rcases key _ 0 h with h | ⟨e, he, h⟩
  · simp at h
  · exact ⟨e, Array.mem_toList_iff.1 he, h⟩
end
end Go.Am
