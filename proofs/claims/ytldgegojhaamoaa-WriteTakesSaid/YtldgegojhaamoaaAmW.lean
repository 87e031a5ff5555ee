/-
  The abstract machine: a region's operations in whatever order is drawn.
-/
import Derived.Test.YtldgegojhaamoaaAmV
set_option linter.unusedSimpArgs false
set_option linter.unusedVariables false
namespace Go.Am

section
variable {P : Program} {Z : Nat → Prop} {Γ : Tab}

theorem okAIs_spec {n : Nat} {all : List Oper} : ∀ (os : List Oper) (xs : List AI), okAIs P n all os xs = true → os.length = xs.length ∧ ∀ (i : Nat) (o : Oper) (x : AI), os[i]? = some o → xs[i]? = some x → okAI P n all o x = true
  | [], [], _ => ⟨rfl, fun i o x h => by simp at h⟩
  | [], _ :: _, h => by simp [okAIs] at h
  | _ :: _, [], h => by simp [okAIs] at h
  | o :: os, x :: xs, h => by
    simp only [okAIs, Bool.and_eq_true] at h
    obtain ⟨h1, h2⟩ := okAIs_spec os xs h.2
    refine ⟨by simp [h1], fun i o' x' ho hx => ?_⟩
    cases i with
    | zero => simp at ho hx; subst ho; subst hx; exact h.1
    | succ i => exact h2 i o' x' (by simpa using ho) (by simpa using hx)

theorem lex_run : ∀ (xs : List AI) (s s' : St), flat Γ xs s = some s' → ∃ (f : Nat → St) (val : Nat → AV), f 0 = s ∧ f xs.length = s' ∧
    ∀ (k : Nat) (x : AI), xs[k]? = some x → step1 Γ x (f k) = some (val k, (f (k + 1)).h) ∧ (f (k + 1)).e = (St.put ⟨(f k).e, (f (k + 1)).h⟩ x.dst (val k)).e
  | [], s, s', h => by
    simp only [flat] at h
    cases h
    exact ⟨fun _ => s, fun _ => .dead, rfl, rfl, fun k x hx => by simp at hx⟩
  | x :: xs, s, s', h => by
    rw [flat_cons] at h
    simp only [Option.bind_eq_some_iff] at h
    obtain ⟨⟨v, h'⟩, hx, h⟩ := h
    obtain ⟨f, val, f0, fn, fk⟩ := lex_run xs _ s' h
    refine ⟨fun k => match k with | 0 => s | k + 1 => f k, fun k => match k with | 0 => v | k + 1 => val k, rfl, fn, fun k y hy => ?_⟩
    cases k with
    | zero =>
      simp at hy; subst hy
      have : (f 0).h = h' := by rw [f0]; exact put_h _ _ _ _
      dsimp only
      rw [this]
      exact ⟨hx, by rw [f0]⟩
    | succ k => exact fk k y (by simpa using hy)

open Classical in
/-- The values of those that have come up. -/
noncomputable def eS (xs : List AI) (val : Nat → AV) (e0 : Env) (S : Nat → Bool) : Env := fun t =>
  if h : ∃ j, ∃ x, xs[j]? = some x ∧ x.dst = some t ∧ S j = true then val (Classical.choose h) else e0 t

def Dist (xs : List AI) : Prop := ∀ (i j : Nat) (x y : AI) (t : Nat), xs[i]? = some x → xs[j]? = some y → x.dst = some t → y.dst = some t → i = j

variable {xs : List AI} {val : Nat → AV} {e0 : Env} {S S' : Nat → Bool}

theorem eS_of (D : Dist xs) {j : Nat} {x : AI} {t : Nat} (hx : xs[j]? = some x) (hd : x.dst = some t) (hS : S j = true) : eS xs val e0 S t = val j := by
  have h : ∃ j, ∃ x, xs[j]? = some x ∧ x.dst = some t ∧ S j = true := ⟨j, x, hx, hd, hS⟩
  unfold eS
  rw [dif_pos h]
  obtain ⟨y, hy, hd', _⟩ := Classical.choose_spec h
  rw [D _ j y x t hy hx hd' hd]
theorem eS_not {t : Nat} (h : ∀ (j : Nat) (x : AI), xs[j]? = some x → x.dst = some t → S j = false) : eS xs val e0 S t = e0 t := by
  unfold eS
  rw [dif_neg]
  rintro ⟨j, x, hx, hd, hS⟩
  rw [h j x hx hd] at hS
  cases hS
theorem eS_congr (D : Dist xs) {t : Nat} (h : ∀ (j : Nat) (x : AI), xs[j]? = some x → x.dst = some t → S j = S' j) : eS xs val e0 S t = eS xs val e0 S' t := by
  by_cases hx : ∃ j, ∃ x, xs[j]? = some x ∧ x.dst = some t ∧ S j = true
  · obtain ⟨j, x, hx, hd, hS⟩ := hx
    rw [eS_of D hx hd hS, eS_of D hx hd (by rw [← h j x hx hd]; exact hS)]
  · have h0 : ∀ (j : Nat) (x : AI), xs[j]? = some x → x.dst = some t → S j = false := by
      intro j x hx' hd
      cases hS : S j with
      | false => rfl
      | true => exact absurd ⟨j, x, hx', hd, hS⟩ hx
    rw [eS_not h0, eS_not fun j x hx' hd => by rw [← h j x hx' hd]; exact h0 j x hx' hd]
theorem eS_put (D : Dist xs) {i : Nat} {x : AI} (hx : xs[i]? = some x) (hi : S' i = true) (hS : ∀ j, j ≠ i → S' j = S j) (h : AH) : eS xs val e0 S' = (St.put ⟨eS xs val e0 S, h⟩ x.dst (val i)).e := by
  funext t
  cases hd : x.dst with
  | none =>
    refine eS_congr D fun j y hy hyd => hS j ?_
    rintro rfl
    rw [hx] at hy; cases hy
    rw [hd] at hyd; cases hyd
  | some d =>
    show _ = if t = d then val i else _
    split
    · rename_i ht
      subst ht
      exact eS_of D hx hd hi
    · rename_i ht
      refine eS_congr D fun j y hy hyd => hS j ?_
      rintro rfl
      rw [hx] at hy; cases hy
      rw [hd] at hyd; cases hyd
      exact ht rfl

theorem step1_R {x : AI} {s : St} {v : AV} {h' : AH} (hr : x.op.isR = true) (h : step1 Γ x s = some (v, h')) : h' = s.h := by
  unfold step1 at h
  split at h
  · exact exec_R _ hr h
  · split at h
    · split at h
      · exact exec_R _ hr h
      · cases h; rfl
    · cases h; rfl
    · cases h

theorem step1_N {x : AI} {e : Env} {h h' : AH} {v : AV} (hn : x.op.isN = true) (hx : step1 Γ x ⟨e, h⟩ = some (v, h')) (h2 : AH) : step1 Γ x ⟨e, h2⟩ = some (v, h2) := by
  have go : ∀ {h'}, exec Γ e h x.op = some (v, h') → exec Γ e h2 x.op = some (v, h2) := by
    intro h' hq
    rw [exec_N _ hn] at hq ⊢
    cases hz : exec Γ e [] x.op with
    | none => rw [hz] at hq; cases hq
    | some r => rw [hz] at hq; cases hq; rfl
  unfold step1 at hx ⊢
  split at hx
  · exact go hx
  · dsimp only at hx ⊢
    split at hx
    · split at hx
      · rename_i hb; rw [if_pos hb]; exact go hx
      · rename_i hb; rw [if_neg hb]; cases hx; rfl
    · cases hx; rfl
    · cases hx

theorem step1_congr {x : AI} {e e' : Env} {h : AH} (hr : ∀ t ∈ x.reads, e t = e' t) : step1 Γ x ⟨e, h⟩ = step1 Γ x ⟨e', h⟩ := by
  have h1 : exec Γ e h x.op = exec Γ e' h x.op := exec_congr _ fun o ho => by
    cases o with
    | c v => rfl
    | t i => exact hr i (by unfold AI.reads; exact List.mem_append_left _ (List.mem_filterMap.2 ⟨.t i, ho, rfl⟩))
  unfold step1
  cases hg : x.guard with
  | none => exact h1
  | some g =>
    obtain ⟨g, want⟩ := g
    dsimp only
    rw [hr g (by unfold AI.reads; exact List.mem_append_right _ (by rw [hg]; simp)), h1]

theorem heap_same {f : Nat → St} {s' : St} (hk : ∀ (k : Nat) (x : AI), xs[k]? = some x → step1 Γ x (f k) = some (val k, (f (k + 1)).h)) : ∀ (m k : Nat), m ≤ k → k ≤ xs.length →
    (∀ (j : Nat) (x : AI), xs[j]? = some x → x.op.isR = false → (j < m ↔ j < k)) → (f m).h = (f k).h := by
  intro m k hmk
  induction hmk with
  | refl => intro _ _; rfl
  | step hmk ih =>
    rename_i k
    intro hlen hw
    have hlt : k < xs.length := hlen
    have hx : xs[k]? = some xs[k] := List.getElem?_eq_getElem hlt
    have hR : xs[k].op.isR = true := by
      cases hr : xs[k].op.isR with
      | true => rfl
      | false =>
        have h1 := (hw k _ hx hr).2 (Nat.lt_succ_self k)
        have h2 : m ≤ k := hmk
        omega
    rw [step1_R hR (hk k _ hx)]
    refine ih (by omega) fun j x hx' hr => ?_
    have h1 := hw j x hx' hr
    have h2 : m ≤ k := hmk
    constructor
    · intro h; omega
    · intro h; exact h1.2 (by omega)
theorem heap_same' {f : Nat → St} (hk : ∀ (k : Nat) (x : AI), xs[k]? = some x → step1 Γ x (f k) = some (val k, (f (k + 1)).h)) (m k : Nat) (hm : m ≤ xs.length) (hkl : k ≤ xs.length)
    (hw : ∀ (j : Nat) (x : AI), xs[j]? = some x → x.op.isR = false → (j < m ↔ j < k)) : (f m).h = (f k).h := by
  rcases Nat.le_total m k with h | h
  · exact heap_same (s' := f 0) hk m k h hkl hw
  · exact (heap_same (s' := f 0) hk k m h hm fun j x hx hr => (hw j x hx hr).symm).symm

theorem step1_ver {x : AI} {e : Env} {h h' : AH} {v : AV} (hn : x.op.isVer = true) (hx : step1 Γ x ⟨e, h⟩ = some (v, h')) {h2 : AH} (hr : ∀ b u, rowSz h2 b u = rowSz h b u) : step1 Γ x ⟨e, h2⟩ = some (v, h2) := by
  unfold step1 at hx ⊢
  split at hx
  · exact exec_ver _ hn hr hx
  · dsimp only at hx ⊢
    split at hx
    · split at hx
      · rename_i hb; rw [if_pos hb]; exact exec_ver _ hn hr hx
      · rename_i hb; rw [if_neg hb]; cases hx; rfl
    · cases hx; rfl
    · cases hx
theorem step1_W0 {x : AI} {s : St} {v : AV} {h' : AH} (hr : x.op.isW0 = true) (h : step1 Γ x s = some (v, h')) (b u : Nat) : rowSz h' b u = rowSz s.h b u := by
  unfold step1 at h
  split at h
  · exact exec_W0 _ hr h b u
  · split at h
    · split at h
      · exact exec_W0 _ hr h b u
      · cases h; rfl
    · cases h; rfl
    · cases h

theorem rows_same {f : Nat → St} (hk : ∀ (k : Nat) (x : AI), xs[k]? = some x → step1 Γ x (f k) = some (val k, (f (k + 1)).h)) : ∀ (m k : Nat), m ≤ k → k ≤ xs.length →
    (∀ (j : Nat) (x : AI), xs[j]? = some x → x.op.isR = false → x.op.isW0 = false → (j < m ↔ j < k)) → ∀ b u, rowSz (f m).h b u = rowSz (f k).h b u := by
  intro m k hmk
  induction hmk with
  | refl => intro _ _ _ _; rfl
  | step hmk ih =>
    rename_i k
    intro hlen hw b u
    have hlt : k < xs.length := hlen
    have hx : xs[k]? = some xs[k] := List.getElem?_eq_getElem hlt
    have hstep : rowSz (f (k + 1)).h b u = rowSz (f k).h b u := by
      cases hr : xs[k].op.isR with
      | true => rw [step1_R hr (hk k _ hx)]
      | false =>
        cases hr0 : xs[k].op.isW0 with
        | true => exact step1_W0 hr0 (hk k _ hx) b u
        | false =>
          have h1 := (hw k _ hx hr hr0).2 (Nat.lt_succ_self k)
          have h2 : m ≤ k := hmk
          omega
    rw [hstep]
    refine ih (by omega) (fun j x hx' hr hr0 => ?_) b u
    have h1 := hw j x hx' hr hr0
    have h2 : m ≤ k := hmk
    constructor
    · intro h; omega
    · intro h; exact h1.2 (by omega)
theorem rows_same' {f : Nat → St} (hk : ∀ (k : Nat) (x : AI), xs[k]? = some x → step1 Γ x (f k) = some (val k, (f (k + 1)).h)) (m k : Nat) (hm : m ≤ xs.length) (hkl : k ≤ xs.length)
    (hw : ∀ (j : Nat) (x : AI), xs[j]? = some x → x.op.isR = false → x.op.isW0 = false → (j < m ↔ j < k)) (b u : Nat) : rowSz (f m).h b u = rowSz (f k).h b u := by
  rcases Nat.le_total m k with h | h
  · exact rows_same hk m k h hkl hw b u
  · exact (rows_same hk k m h hm (fun j x hx hr hr0 => (hw j x hx hr hr0).symm) b u).symm

theorem ready_all {ops : Array Oper} {listed : Array Bool} (hsz : listed.size = ops.size) (hafter : ∀ (i : Nat) (o : Oper), ops[i]? = some o → ∀ e ∈ o.after, Region.binds .any e = true → e.on < i) (h0 : Region.ready .any ops listed = []) :
    ∀ j, j < ops.size → listed.getD j false = true := by
  intro j
  induction j using Nat.strongRecOn with
  | _ j ih =>
    intro hj
    cases hl : listed.getD j false with
    | true => rfl
    | false =>
      have : j ∈ Region.ready .any ops listed := by
        rw [mem_ready]
        have hjl : j < listed.size := by omega
        refine ⟨?_, ops[j], Array.getElem?_eq_getElem hj, fun e he hb => ?_⟩
        · simp [hjl] at hl ⊢; exact hl
        · have := hafter j ops[j] (Array.getElem?_eq_getElem hj) e he hb
          exact ih e.on this (by omega)
      rw [h0] at this
      cases this

theorem flat_any_go (hΓ : TabOK P Γ) {W : Nat → Bool} (hWs : ∀ x ∈ xs, ∀ t, x.dst = some t → W t = true) {n : Nat} {ops : Array Oper} {Q : Exit → Act → World → Prop} (ok : okAIs P n ops.toList ops.toList xs = true) {pre : List Nat} (okp : okPre pre 0 ops.toList = true) (okr : okRows pre xs 0 xs = true)
    {s s' : St} {f : Nat → St} (f0 : f 0 = s) (fn : f xs.length = s') (hk : ∀ (k : Nat) (x : AI), xs[k]? = some x → step1 Γ x (f k) = some (val k, (f (k + 1)).h) ∧ (f (k + 1)).e = (St.put ⟨(f k).e, (f (k + 1)).h⟩ x.dst (val k)).e)
    {β0 : Bds} {w0 : World} {a0 : Act} (k : ∀ a' w' β', Rel Z β' s'.h w' → Fr Z β0 s.h w0 β' s'.h w' → EnvR Z β' s'.h w' s'.e a' n → Keeps W a0 a' → Q .normal a' w') :
    ∀ (fuel : Nat) (listed : Array Bool) (a : Act) (w : World) (β : Bds) (m : Nat), listed.size = ops.size → listed.toList.count false = fuel → m ≤ xs.length →
      (∀ j i, listed.getD j false = true → (pre.getD j 0).testBit i = true → listed.getD i false = true) →
      (∀ (j : Nat) (x : AI), xs[j]? = some x → x.op.isR = false → (j < m ↔ listed.getD j false = true)) →
      Rel Z β (f m).h w → Fr Z β0 s.h w0 β (f m).h w → EnvR Z β (f m).h w (eS xs val s.e fun j => listed.getD j false) a n → Keeps W a0 a → wpAny P .any ops Q fuel listed a w := by
  obtain ⟨hlen, hoks⟩ := okAIs_spec _ _ ok
  have hlen' : ops.size = xs.length := by simpa using hlen
  have hrow := okRows_spec xs 0 okr
  have hpre := okPre_spec ops.toList 0 okp
  have D : Dist xs := by
    intro i j x y t hx hy hxd hyd
    have := hrow i x hx j y hy
    unfold okPair at this
    simp only [Bool.or_eq_true, Bool.and_eq_true, decide_eq_true_eq, Nat.zero_add] at this
    rcases this with h | ⟨h, _⟩
    · exact h
    · simp [sameDst, hxd, hyd] at h
  have hafter : ∀ (i : Nat) (o : Oper), ops[i]? = some o → ∀ e ∈ o.after, Region.binds .any e = true → e.on < i := by
    intro i o ho e he hb
    have := (hpre i o (by simpa using ho)).2 e he hb
    simpa using this
  have hfe : ∀ i, i ≤ xs.length → (f i).e = eS xs val s.e fun j => decide (j < i) := by
    intro i
    induction i with
    | zero =>
      intro _
      rw [f0]
      funext t
      exact (eS_not fun j x _ _ => by simp).symm
    | succ i ih =>
      intro hi
      have hx : xs[i]? = some xs[i] := List.getElem?_eq_getElem (by omega)
      rw [(hk i _ hx).2, ih (by omega)]
      refine (eS_put D hx (by simp) (fun j hj => ?_) _).symm
      simp only [decide_eq_decide]
      omega
  intro fuel
  -- all have come up
  have done : ∀ (listed : Array Bool) (a : Act) (w : World) (β : Bds) (m : Nat), m ≤ xs.length → (∀ j, j < ops.size → listed.getD j false = true) →
      (∀ (j : Nat) (x : AI), xs[j]? = some x → x.op.isR = false → (j < m ↔ listed.getD j false = true)) →
      Rel Z β (f m).h w → Fr Z β0 s.h w0 β (f m).h w → EnvR Z β (f m).h w (eS xs val s.e fun j => listed.getD j false) a n → Keeps W a0 a → Q .normal a w := by
    intro listed a w β m hm hall hW R F E hd
    have hlt : ∀ (j : Nat) (x : AI), xs[j]? = some x → j < xs.length := fun j x hx => (List.getElem?_eq_some_iff.1 hx).1
    have hh : (f m).h = s'.h := by
      rw [heap_same' (fun k x hx => (hk k x hx).1) m xs.length hm (Nat.le_refl _) fun j x hx hr => by
        rw [hW j x hx hr]
        have := hlt j x hx
        exact ⟨fun _ => this, fun _ => hall j (by omega)⟩, fn]
    have he : (eS xs val s.e fun j => listed.getD j false) = s'.e := by
      rw [← fn, hfe xs.length (Nat.le_refl _)]
      funext t
      exact eS_congr D fun j x hx _ => by
        have := hlt j x hx
        rw [hall j (by omega)]; simp [this]
    rw [hh] at R F E
    rw [he] at E
    exact k a w β R F E hd
  induction fuel with
  | zero =>
    intro listed a w β m hsz hcnt hm hcl hW R F E hd
    have hall : ∀ j, j < ops.size → listed.getD j false = true := by
      intro j hj
      have hjl : j < listed.size := by omega
      have h0 := List.count_eq_zero.1 hcnt
      have hmem : listed[j] ∈ listed.toList := by simp
      cases hq : listed[j] with
      | true => simp [hjl, hq]
      | false => rw [hq] at hmem; exact absurd hmem h0
    refine ⟨?_, done listed a w β m hm hall hW R F E hd⟩
    apply List.eq_nil_iff_forall_not_mem.2
    intro i hi
    obtain ⟨h1, o, ho, _⟩ := mem_ready.1 hi
    have hlt : i < ops.size := (Array.getElem?_eq_some_iff.1 ho).1
    have h2 := hall i hlt
    have hil : i < listed.size := by omega
    simp [hil] at h1 h2
    rw [h1] at h2; cases h2
  | succ fuel ih =>
    intro listed a w β m hsz hcnt hm hcl hW R F E hd
    refine ⟨fun h0 => done listed a w β m hm (ready_all hsz hafter h0) hW R F E hd, fun i hi => ?_⟩
    obtain ⟨h1, o, ho, hall⟩ := mem_ready.1 hi
    have hio : i < ops.size := (Array.getElem?_eq_some_iff.1 ho).1
    have hil : i < listed.size := by omega
    have hix : i < xs.length := by omega
    have hx : xs[i]? = some xs[i] := List.getElem?_eq_getElem hix
    generalize hxi : xs[i] = x at hx
    have hSi : listed.getD i false = false := by simp [hil] at h1 ⊢; exact h1
    have hwait : ∀ j, (pre.getD i 0).testBit j = true → listed.getD j false = true := by
      intro j hj
      have hp := (hpre i o (by simpa using ho)).1
      rw [Nat.zero_add] at hp
      rw [hp] at hj
      obtain ⟨e, he, hb, hj⟩ := preOf_bit hj
      have hle := hall e he hb
      rcases hj with rfl | hj
      · exact hle
      · exact hcl _ _ hle hj
    have hord : ∀ (j : Nat) (y : AI), xs[j]? = some y → clash x y = true → listed.getD j false = decide (j < i) := by
      intro j y hy hc
      have := hrow i x hx j y hy
      unfold okPair at this
      simp only [Bool.or_eq_true, Bool.and_eq_true, decide_eq_true_eq, Nat.zero_add] at this
      rcases this with h | ⟨_, h⟩
      · subst h; rw [hSi]; simp
      · rcases h with h | h
        · rw [hc] at h; cases h
        · unfold ordered at h
          split at h
          · rename_i hlt
            rw [hwait j h]; simp [hlt]
          · rename_i hlt
            cases hS : listed.getD j false with
            | false => simp [hlt]
            | true =>
              have := hcl j i hS h
              rw [hSi] at this; cases this
    have hagree : ∀ t ∈ x.reads, eS xs val s.e (fun j => listed.getD j false) t = (f i).e t := by
      intro t ht
      rw [hfe i (by omega)]
      exact eS_congr D fun j y hy hyd => hord j y hy (by simp [clash, hyd, ht])
    obtain ⟨hst, hfi⟩ := hk i x hx
    have hstep : ∃ m', step1 Γ x ⟨eS xs val s.e fun j => listed.getD j false, (f m).h⟩ = some (val i, (f m').h) ∧ m' ≤ xs.length ∧
        (∀ (j : Nat) (y : AI), xs[j]? = some y → y.op.isR = false → (j < m' ↔ (j = i ∨ listed.getD j false = true))) := by
      by_cases hn : x.op.isN = true
      · refine ⟨m, ?_, hm, fun j y hy hr => ?_⟩
        · have e1 : step1 Γ x ⟨eS xs val s.e fun j => listed.getD j false, (f i).h⟩ = some (val i, (f (i + 1)).h) := by rw [step1_congr hagree]; exact hst
          exact step1_N hn e1 _
        · rw [hW j y hy hr]
          constructor
          · exact .inr
          · rintro (rfl | h)
            · rw [hx] at hy; cases hy
              cases hxo : x.op <;> rw [hxo] at hn hr <;> first | (cases hn; done) | (cases hr; done)
            · exact h
      · by_cases hver : x.op.isVer = true
        · have hh : ∀ b u, rowSz (f m).h b u = rowSz (f i).h b u := rows_same' (fun k x hx => (hk k x hx).1) m i hm (by omega) fun j y hy hr hr0 => by
            rw [hW j y hy hr, hord j y hy (by simp [clash, hr, hn, hr0])]; simp
          have e1 : step1 Γ x ⟨eS xs val s.e fun j => listed.getD j false, (f i).h⟩ = some (val i, (f (i + 1)).h) := by rw [step1_congr hagree]; exact hst
          refine ⟨m, step1_ver hver e1 hh, hm, fun j y hy hr => ?_⟩
          rw [hW j y hy hr]
          constructor
          · exact .inr
          · rintro (rfl | h)
            · rw [hx] at hy; cases hy
              cases hxo : x.op <;> rw [hxo] at hver hr <;> first | (cases hver; done) | (cases hr; done)
            · exact h
        have hver : x.op.isVer = false := by simpa using hver
        have hh : (f m).h = (f i).h := heap_same' (fun k x hx => (hk k x hx).1) m i hm (by omega) fun j y hy hr => by
          rw [hW j y hy hr, hord j y hy (by simp [clash, hr, hn, hver])]; simp
        have e1 : step1 Γ x ⟨eS xs val s.e fun j => listed.getD j false, (f m).h⟩ = some (val i, (f (i + 1)).h) := by rw [hh, step1_congr hagree]; exact hst
        by_cases hR : x.op.isR = true
        · have e2 := step1_R hR e1
          refine ⟨m, by rw [e1, e2], hm, fun j y hy hr => ?_⟩
          rw [hW j y hy hr]
          constructor
          · exact .inr
          · rintro (rfl | h)
            · rw [hx] at hy; cases hy
              rw [hR] at hr; cases hr
            · exact h
        · refine ⟨i + 1, e1, by omega, fun j y hy hr => ?_⟩
          have h2 := hord j y hy (by simp [clash, hr, hn, hver])
          rw [h2]
          simp only [decide_eq_true_eq]
          omega
    obtain ⟨m', hstep, hm', hW'⟩ := hstep
    have hok := hoks i o x (by simpa using ho) hx
    unfold wpOp
    simp only [ho]
    refine step1_wp (s := ⟨eS xs val s.e fun j => listed.getD j false, (f m).h⟩) R hΓ E hok hstep fun u w' β' R' F' hv => ?_
    have hset : ∀ j, (listed.setIfInBounds i true).getD j false = true ↔ (j = i ∨ listed.getD j false = true) := by
      intro j
      by_cases hji : j = i
      · subst hji; simp [hil]
      · rw [getD_set_ne false (fun e => hji e.symm)]; simp [hji]
    refine ih (listed.setIfInBounds i true) (a.put x.dst u) w' β' m' (by simp [hsz]) ?_ hm' ?_ (fun j y hy hr => by rw [hset]; exact hW' j y hy hr) R' (F.trans F') ?_ (hd.trans (Keeps.put a x.dst u (hWs x (List.mem_of_getElem? hx))))
    · rw [Array.toList_setIfInBounds, List.count_set (by simpa using hil)]
      have hb : listed.toList[i]'(by simpa using hil) = false := by simp [hil] at hSi; simpa using hSi
      rw [hcnt, hb]; simp
    · intro j q hj hq
      rw [hset] at hj ⊢
      rcases hj with rfl | hj
      · exact .inr (hwait q hq)
      · exact .inr (hcl j q hj hq)
    · have hd2 : (optL x.dst).all (fun t => decide (t < n)) = true := by
        unfold okAI at hok
        simp only [Bool.and_eq_true] at hok
        exact hok.1.1.2
      have := (E.fr F').putO hd2 hv
      rw [← eS_put (S' := fun j => (listed.setIfInBounds i true).getD j false) D hx ((hset i).2 (.inl rfl)) (fun j hj => by rw [getD_set_ne false (fun e => hj e.symm)]) (f m').h] at this
      exact this

/-- In whatever order. -/
theorem flat_any (hm : P.follows .mixedOrders = true) (hΓ : TabOK P Γ) {W : Nat → Bool} (hWs : ∀ x ∈ xs, ∀ t, x.dst = some t → W t = true) {n : Nat} {ops : Array Oper} {Q : Exit → Act → World → Prop} (ok : okAIs P n ops.toList ops.toList xs = true) (oka : okAny ops.toList xs = true)
    {s s' : St} (hf : flat Γ xs s = some s') {a : Act} {w : World} {β : Bds} (R : Rel Z β s.h w) (E : EnvR Z β s.h w s.e a n) {id : Nat}
    (k : ∀ a' w' β', Rel Z β' s'.h w' → Fr Z β s.h w β' s'.h w' → EnvR Z β' s'.h w' s'.e a' n → Keeps W a a' → Q .normal a' w') : (Code.region id ops true).wp P Q a w := by
  unfold okAny at oka
  simp only [Bool.and_eq_true] at oka
  obtain ⟨f, val, f0, fn, hk⟩ := lex_run xs s s' hf
  have F1 : Fr Z β s.h w β s.h { w with drawn := w.drawn + 1 } := ⟨fun _ _ _ => rfl, rfl, rfl, rfl, fun _ _ _ e => e, Stay.drew (Stay.refl _ _)⟩
  have R1 : Rel Z β s.h { w with drawn := w.drawn + 1 } := (R.drawn _).1
  refine wp_region_any hm (flat_any_go hΓ hWs ok oka.1 oka.2 f0 fn hk (β0 := β) (w0 := w) (a0 := a) k ops.size (Array.replicate ops.size false) a _ β 0 (by simp) (by simp) (Nat.zero_le _) ?_ ?_ (by rw [f0]; exact R1) (by rw [f0]; exact F1) ?_ (Keeps.refl W a))
  · intro j i hj
    simp [Array.getElem?_replicate] at hj
    split at hj <;> simp at hj
  · intro j x hx hr
    constructor
    · intro h; omega
    · intro h
      simp [Array.getElem?_replicate] at h
      split at h <;> simp at h
  · rw [f0]
    have : (eS xs val s.e fun j => (Array.replicate ops.size false).getD j false) = s.e := by
      funext t
      refine eS_not fun j x _ _ => ?_
      simp [Array.getElem?_replicate]
      split <;> simp
    rw [this]
    exact E.fr F1
end
end Go.Am
