/-
 The abstract machine: a region's operations, one behind the other; as a tree.
-/
import Derived.Test.YtgefdmkmobaefaaAmGO
import Derived.Tactics
import Derived.Orders
import Derived.LoopN
import Derived.Scope
set_option linter.unusedSimpArgs false
set_option linter.unusedVariables false
namespace Go.Am
noncomputable def step1 (Γ : Tab) (x : AI) (s : St) : Option (AV × AH) :=
 match x.guard with
 | none => exec Γ s.e s.h x.op
 | some (g, want) =>
  match s.e g with
  | .bool b => if b = want then exec Γ s.e s.h x.op else some (.undef, s.h)
  | .undef => some (.undef, s.h)
  | _ => none
theorem flat_cons (Γ : Tab) (x : AI) (l : List AI) (s : St) : flat Γ (x :: l) s = (step1 Γ x s).bind fun r => flat Γ l (St.put ⟨s.e, r.2⟩ x.dst r.1) := by
 obtain ⟨dst, guard, op⟩ := x
 cases guard with
 | none => rfl
 | some g =>
  obtain ⟨g, want⟩ := g
  simp only [flat, step1]
  generalize s.e g = q
  cases q <;> first | rfl | (dsimp only; split <;> rfl)
theorem flat_append (Γ : Tab) : ∀ (l l' : List AI) (s : St), flat Γ (l ++ l') s = (flat Γ l s).bind (flat Γ l')
 | [], l', s => rfl
 | x :: l, l', s => by
  rw [List.cons_append, flat_cons, flat_cons, Option.bind_assoc]
  congr 1
  funext r
  exact flat_append Γ l l' _
/-! ### The tree as a list -/
def flatten : IT → Option (Nat × Bool) → List AI
 | .nil, _ => []
 | .op d o rest, g => ⟨d, g, o⟩ :: flatten rest g
 | .sc d a c _ _ l r rest, g => flatten l (some (c, a)) ++ ⟨some d, g, .pick (.t c) (if a then r else .c (.bool true)) (if a then .c (.bool false) else r)⟩ :: flatten rest g
def optL (d : Option Nat) : List Nat := match d with | some t => [t] | none => []
def wr : IT → List Nat
 | .nil => []
 | .op d _ rest => optL d ++ wr rest
 | .sc d _ _ _ _ l _ rest => wr l ++ (d :: wr rest)
def deadIn (K : List (Nat × Nat)) (t : Nat) : Bool := K.any fun r => decide (r.1 ≤ t) && decide (t ≤ r.2)
def AO.live (K : List (Nat × Nat)) : AO → Bool
 | .t i => !deadIn K i
 | .c _ => true
def kills : IT → List (Nat × Nat)
 | .nil => []
 | .op _ _ rest => kills rest
 | .sc _ _ _ lo hi _ _ rest => (lo, hi) :: kills rest
def okSkip : List Nat → IT → Bool
 | _, .nil => true
 | D, .op d _ rest => okSkip (optL d ++ D) rest
 | D, .sc d _ c _ _ l _ rest => D.contains c && okSkip D l && okSkip (d :: (wr l ++ D)) rest
def okIts : List (Nat × Nat) → IT → Bool
 | _, .nil => true
 | K, .op d o rest => o.ops.all (AO.live K) && (optL d).all (fun t => !deadIn K t) && okIts K rest
 | K, .sc d a c lo hi l r rest => !deadIn K c && !(wr l).contains c && (wr l).all (fun t => decide (lo ≤ t) && decide (t ≤ hi)) && okIts K l && r.live (kills l ++ K) && okSkip [] l &&
   !deadIn ((lo, hi) :: K) d && okIts ((lo, hi) :: K) rest
def skipped (s : St) (g : Nat × Bool) : Prop := s.e g.1 = .undef ∨ ∃ b, s.e g.1 = .bool b ∧ b ≠ g.2
theorem step1_skip {Γ : Tab} {x : AI} {s : St} {g : Nat × Bool} (hg : x.guard = some g) (h : skipped s g) : step1 Γ x s = some (.undef, s.h) := by
 unfold step1
 rw [hg]
 obtain ⟨c, a⟩ := g
 rcases h with h | ⟨b, h, hb⟩
 ·simp only [h]
 ·simp only [h, if_neg hb]
theorem skipped_put {s : St} {g : Nat × Bool} (h : skipped s g) (d : Option Nat) : skipped (s.put d .undef) g := by
 cases d with
 | none => exact h
 | some t =>
  by_cases ht : g.1 = t
  ·exact .inl (by simp [St.put, Env.put, ht])
  ·unfold skipped St.put Env.put
   simp only [if_neg ht]
   exact h
theorem flat_skip (Γ : Tab) : ∀ (l : IT) (g : Nat × Bool) (s : St) (D : List Nat), skipped s g → (∀ t ∈ D, s.e t = .undef) → okSkip D l = true →
  ∃ s', flat Γ (flatten l (some g)) s = some s' ∧ s'.h = s.h ∧ (∀ t, t ∉ wr l → s'.e t = s.e t) ∧ (∀ t, t ∈ wr l → s'.e t = .undef)
 | .nil, g, s, D, h, hD, ok => ⟨s, rfl, rfl, fun _ _ => rfl, fun _ ht => by cases ht⟩
 | .op d o rest, g, s, D, h, hD, ok => by
  simp only [flatten]
  rw [flat_cons, step1_skip rfl h]
  simp only [okSkip] at ok
  have hput : ∀ t, (s.put d .undef).e t = if t ∈ optL d then .undef else s.e t := by
   intro t
   cases d with
   | none => simp [St.put, optL]
   | some q => simp [St.put, Env.put, optL]
  obtain ⟨s', h1, h2, h3, h4⟩ := flat_skip Γ rest g (s.put d .undef) (optL d ++ D) (skipped_put h d) (fun t ht => by
   rw [hput]
   split
   ·rfl
   ·rename_i hn
    rcases List.mem_append.1 ht with ht | ht
    ·exact absurd ht hn
    ·exact hD t ht) ok
  refine ⟨s', h1, by rw [h2]; cases d <;> rfl, fun t ht => ?_, fun t ht => ?_⟩
  ·simp only [wr, List.mem_append, not_or] at ht
   rw [h3 t ht.2, hput, if_neg ht.1]
  ·by_cases hr : t ∈ wr rest
   ·exact h4 t hr
   ·rw [h3 t hr, hput]
    simp only [wr, List.mem_append] at ht
    rw [if_pos (ht.resolve_right hr)]
 | .sc d a c lo hi l r rest, g, s, D, h, hD, ok => by
  simp only [okSkip, Bool.and_eq_true] at ok
  obtain ⟨⟨ok1, ok2⟩, ok3⟩ := ok
  simp only [flatten]
  rw [flat_append]
  have hc : s.e c = .undef := hD c (by simpa using ok1)
  obtain ⟨s1, h1, h2, h3, h4⟩ := flat_skip Γ l (c, a) s D (.inl hc) hD ok2
  rw [h1]
  simp only [Option.bind_some]
  have hs1 : skipped s1 g := by
   by_cases hg : g.1 ∈ wr l
   ·exact .inl (h4 _ hg)
   ·unfold skipped
    rw [h3 _ hg]
    exact h
  rw [flat_cons, step1_skip rfl hs1]
  simp only [Option.bind_some]
  have hput : ∀ t, (s1.put (some d) .undef).e t = if t = d then .undef else s1.e t := fun t => rfl
  obtain ⟨s', k1, k2, k3, k4⟩ := flat_skip Γ rest g (s1.put (some d) .undef) (d :: (wr l ++ D)) (skipped_put hs1 (some d)) (fun t ht => by
   rw [hput]
   split
   ·rfl
   ·rename_i hn
    rcases List.mem_cons.1 ht with ht | ht
    ·exact absurd ht hn
    ·by_cases hl : t ∈ wr l
     ·exact h4 t hl
     ·rw [h3 t hl]
      exact hD t ((List.mem_append.1 ht).resolve_left hl)) ok3
  refine ⟨s', k1, by rw [k2]; exact h2, fun t ht => ?_, fun t ht => ?_⟩
  ·simp only [wr, List.mem_append, List.mem_cons, not_or] at ht
   rw [k3 t ht.2.2, hput, if_neg ht.2.1, h3 t ht.1]
  ·by_cases hr : t ∈ wr rest
   ·exact k4 t hr
   ·rw [k3 t hr, hput]
    split
    ·rfl
    ·rename_i hn
     simp only [wr, List.mem_append, List.mem_cons] at ht
     rcases ht with ht | ht | ht
     ·exact h4 t ht
     ·exact absurd ht hn
     ·exact absurd ht hr
theorem get_live {K : List (Nat × Nat)} {s s1 : St} (ha : ∀ t, deadIn K t = false → s1.e t = s.e t) {x : AO} (hx : x.live K = true) : x.get s1.e = x.get s.e := by
 cases x with
 | t i => exact ha i (by simpa [AO.live] using hx)
 | c v => rfl
theorem deadIn_cons {r : Nat × Nat} {K : List (Nat × Nat)} {t : Nat} : deadIn (r :: K) t = ((decide (r.1 ≤ t) && decide (t ≤ r.2)) || deadIn K t) := rfl
theorem its_flat (Γ : Tab) : ∀ (l : IT) (K : List (Nat × Nat)) (g : Option (Nat × Bool)) (s s' s1 : St), okIts K l = true → (∀ c a, g = some (c, a) → s1.e c = .bool a ∧ c ∉ wr l) →
  its Γ l s = some s' → s1.h = s.h → (∀ t, deadIn K t = false → s1.e t = s.e t) → (∀ t, deadIn K t = true → s.e t = .dead) →
  ∃ s1', flat Γ (flatten l g) s1 = some s1' ∧ s1'.h = s'.h ∧ (∀ t, deadIn (kills l ++ K) t = false → s1'.e t = s'.e t) ∧ (∀ t, deadIn (kills l ++ K) t = true → s'.e t = .dead) ∧ (∀ t, t ∉ wr l → s1'.e t = s1.e t)
 | .nil, K, g, s, s', s1, ok, hg, hi, hh, ha, hd => by
  simp only [its] at hi
  cases hi
  exact ⟨s1, rfl, hh, ha, hd, fun _ _ => rfl⟩
 | .op d o rest, K, g, s, s', s1, ok, hg, hi, hh, ha, hd => by
  simp only [okIts, Bool.and_eq_true, List.all_eq_true] at ok
  obtain ⟨⟨ok1, ok2⟩, ok3⟩ := ok
  simp only [its, Option.bind_eq_some_iff] at hi
  obtain ⟨⟨v, h'⟩, hx, hi⟩ := hi
  have hx1 : exec Γ s1.e s1.h o = some (v, h') := by
   rw [hh, exec_congr o fun x hx => get_live ha (ok1 x hx)]; exact hx
  have hs : step1 Γ ⟨d, g, o⟩ s1 = some (v, h') := by
   unfold step1
   cases g with
   | none => exact hx1
   | some g =>
    obtain ⟨c, a⟩ := g
    simp only [(hg c a rfl).1, if_true]
    exact hx1
  simp only [flatten]
  rw [flat_cons, hs]
  simp only [Option.bind_some]
  have hput : ∀ (s : St) t, (St.put ⟨s.e, h'⟩ d v).e t = if t ∈ optL d then v else s.e t := by
   intro s t
   cases d with
   | none => simp [St.put, optL]
   | some q => simp [St.put, Env.put, optL]
  have hph : ∀ (s : St), (St.put ⟨s.e, h'⟩ d v).h = h' := fun s => by cases d <;> rfl
  obtain ⟨s1', k1, k2, k3, k4, k5⟩ := its_flat Γ rest K g (St.put ⟨s.e, h'⟩ d v) s' (St.put ⟨s1.e, h'⟩ d v) ok3 (fun c a hga => by
    obtain ⟨q1, q2⟩ := hg c a hga
    simp only [wr, List.mem_append, not_or] at q2
    exact ⟨by rw [hput, if_neg q2.1]; exact q1, q2.2⟩) hi (by rw [hph, hph]) (fun t ht => by rw [hput, hput, ha t ht]) (fun t ht => by
    rw [hput, if_neg]
    ·exact hd t ht
    ·intro hm
     have := ok2 t hm
     rw [ht] at this
     cases this)
  refine ⟨s1', k1, k2, k3, k4, fun t ht => ?_⟩
  simp only [wr, List.mem_append, not_or] at ht
  rw [k5 t ht.2, hput, if_neg ht.1]
 | .sc d a c lo hi l r rest, K, g, s, s', s1, ok, hg, hi', hh, ha, hd => by
  simp only [okIts, Bool.and_eq_true, Bool.not_eq_true'] at ok
  obtain ⟨⟨⟨⟨⟨⟨⟨ok1, ok2⟩, ok3⟩, ok4⟩, ok5⟩, ok6⟩, ok7⟩, ok8⟩ := ok
  have hcw : c ∉ wr l := by simpa using ok2
  have hin : ∀ t, t ∈ wr l → lo ≤ t ∧ t ≤ hi := by
   intro t ht
   have := List.all_eq_true.1 ok3 t ht
   simpa using this
  simp only [its] at hi'
  split at hi'
  ·rename_i b hb
   have hb1 : s1.e c = .bool b := by rw [ha c ok1]; exact hb
   simp only [Option.bind_eq_some_iff] at hi'
   obtain ⟨⟨v, h'⟩, hv, hi'⟩ := hi'
   have key : ∃ s2, flat Γ (flatten l (some (c, a))) s1 = some s2 ∧ s2.h = h' ∧ (∀ t, t ∉ wr l → s2.e t = s1.e t) ∧
     exec Γ s2.e s2.h (.pick (.t c) (if a then r else .c (.bool true)) (if a then .c (.bool false) else r)) = some (v, h') := by
    split at hv
    ·rename_i hba
     subst hba
     simp only [Option.bind_eq_some_iff] at hv
     obtain ⟨s3, hs3, hv⟩ := hv
     obtain ⟨s2, k1, k2, k3, k4, k5⟩ := its_flat Γ l K (some (c, b)) s s3 s1 ok4 (fun c' a' he => by cases he; exact ⟨hb1, hcw⟩) hs3 hh ha hd
     split at hv
     ·rename_i x hx
      cases hv
      refine ⟨s2, k1, k2, k5, ?_⟩
      have hc2 : s2.e c = .bool b := by rw [k5 c hcw]; exact hb1
      have hr : r.get s2.e = .bool x := by rw [get_live k3 ok5]; exact hx
      have hg2 : (AO.t c).get s2.e = .bool b := hc2
      cases b
      ·simp only [exec, hg2, Bool.false_eq_true, if_false, hr, k2]
      ·simp only [exec, hg2, if_true, hr, k2]
     ·cases hv
    ·rename_i hba
     cases hv
     obtain ⟨s2, k1, k2, k3, k4⟩ := flat_skip Γ l (c, a) s1 [] (.inr ⟨b, hb1, hba⟩) (fun _ h => by cases h) ok6
     refine ⟨s2, k1, by rw [k2, hh], k3, ?_⟩
     have hc2 : s2.e c = .bool b := by rw [k3 c hcw]; exact hb1
     cases a <;> cases b <;> first | exact absurd rfl hba | (have hg2 := hc2; simp only [exec, AO.get, hg2, k2, hh, Bool.not_true, Bool.not_false, if_true, if_false, Bool.false_eq_true])
   obtain ⟨s2, k1, k2, k3, k4⟩ := key
   have hs : step1 Γ ⟨some d, g, .pick (.t c) (if a then r else .c (.bool true)) (if a then .c (.bool false) else r)⟩ s2 = some (v, h') := by
    unfold step1
    cases g with
    | none => exact k4
    | some g =>
     obtain ⟨c', a'⟩ := g
     obtain ⟨q1, q2⟩ := hg c' a' rfl
     simp only [wr, List.mem_append, not_or] at q2
     have : s2.e c' = .bool a' := by rw [k3 c' q2.1]; exact q1
     simp only [this, if_true]
     exact k4
   have hagree : ∀ t, deadIn ((lo, hi) :: K) t = false → (St.put ⟨s2.e, h'⟩ (some d) v).e t = ((s.e.kill lo hi).put d v) t := by
    intro t ht
    rw [deadIn_cons, Bool.or_eq_false_iff] at ht
    show (if t = d then v else s2.e t) = if t = d then v else (if lo ≤ t ∧ t ≤ hi then .dead else s.e t)
    split
    ·rfl
    ·have hnin : ¬ (lo ≤ t ∧ t ≤ hi) := by
      intro hc
      have := ht.1
      simp [hc.1, hc.2] at this
     rw [if_neg hnin, k3 t fun hm => hnin (hin t hm), ha t ht.2]
   have hdead : ∀ t, deadIn ((lo, hi) :: K) t = true → ((s.e.kill lo hi).put d v) t = .dead := by
    intro t ht
    show (if t = d then v else (if lo ≤ t ∧ t ≤ hi then .dead else s.e t)) = .dead
    have htd : t ≠ d := by
     rintro rfl
     rw [ok7] at ht
     cases ht
    rw [if_neg htd]
    split
    ·rfl
    ·rename_i hnin
     rw [deadIn_cons, Bool.or_eq_true] at ht
     refine hd t (ht.resolve_left ?_)
     simpa using hnin
   obtain ⟨s1', m1, m2, m3, m4, m5⟩ := its_flat Γ rest ((lo, hi) :: K) g ⟨(s.e.kill lo hi).put d v, h'⟩ s' (St.put ⟨s2.e, h'⟩ (some d) v) ok8 (fun c' a' he => by
    obtain ⟨q1, q2⟩ := hg c' a' he
    simp only [wr, List.mem_append, List.mem_cons, not_or] at q2
    refine ⟨?_, q2.2.2⟩
    show (if c' = d then v else s2.e c') = _
    rw [if_neg q2.2.1, k3 c' q2.1]
    exact q1) hi' rfl hagree hdead
   have hK : ∀ t, deadIn (kills rest ++ (lo, hi) :: K) t = deadIn (kills (.sc d a c lo hi l r rest) ++ K) t := by
    intro t
    simp only [kills, deadIn, List.any_append, List.any_cons, List.cons_append]
    cases (kills rest).any _ <;> simp
   refine ⟨s1', ?_, m2, fun t ht => m3 t (by rw [hK]; exact ht), fun t ht => m4 t (by rw [hK]; exact ht), fun t ht => ?_⟩
   ·simp only [flatten]
    rw [flat_append, k1]
    simp only [Option.bind_some]
    rw [flat_cons, hs]
    exact m1
   ·simp only [wr, List.mem_append, List.mem_cons, not_or] at ht
    rw [m5 t ht.2.2]
    show (if t = d then v else s2.e t) = _
    rw [if_neg ht.2.1, k3 t ht.1]
  ·cases hi'
end Go.Am

/-
 The abstract machine: regions.
-/
namespace Go.Am
def okAI (P : Program) (n : Nat) (all : List Oper) (o : Oper) (x : AI) : Bool :=
 decide (o.dst = x.dst) && (optL x.dst).all (fun t => decide (t < n)) && okOp P o.op x.op &&
 (match o.guard, x.guard with
  | none, none => true
  | some (j, want), some (t, want') => decide (want = want') && decide ((all[j]?).bind (·.dst) = some t)
  | _, _ => false)
def okAIs (P : Program) (n : Nat) (all : List Oper) : List Oper → List AI → Bool
 | [], [] => true
 | o :: os, x :: xs => okAI P n all o x && okAIs P n all os xs
 | _, _ => false
section
variable {P : Program} {Z : Nat → Prop} {β : Bds} {w : World} {Γ : Tab}
theorem yielded_bool {ops : Array Oper} {a : Act} {j t : Nat} {b : Bool} (ht : (ops[j]?).bind (·.dst) = some t) (hb : a.tmps.getD t Go.undef = .bool b) : yielded ops a.tmps j = some b := by
 unfold yielded
 rw [ht]
 simp only [Option.bind_some]
 rw [Array.getD_eq_getD_getElem?] at hb
 cases hq : a.tmps[t]? with
 | none => rw [hq] at hb; cases hb
 | some v => rw [hq] at hb; simp only [Option.getD_some] at hb; rw [hb]
theorem yielded_undef {ops : Array Oper} {a : Act} {j t : Nat} (ht : (ops[j]?).bind (·.dst) = some t) (hb : a.tmps.getD t Go.undef = Go.undef) : yielded ops a.tmps j = none := by
 unfold yielded
 rw [ht]
 simp only [Option.bind_some]
 rw [Array.getD_eq_getD_getElem?] at hb
 cases hq : a.tmps[t]? with
 | none => rfl
 | some v => rw [hq] at hb; simp only [Option.getD_some] at hb; rw [hb]; rfl
theorem step1_wp {s : St} {a : Act} {n : Nat} (R : Rel Z β s.h w) (hΓ : TabOK P Γ) (E : EnvR Z β s.h w s.e a n) {ops : Array Oper} {o : Oper} {x : AI} (ok : okAI P n ops.toList o x = true) {v : AV} {h' : AH}
  (hx : step1 Γ x s = some (v, h')) {K : Act → World → Prop} {Q : Exit → Act → World → Prop}
  (k : ∀ u w' β', Rel Z β' h' w' → Fr Z β s.h w β' h' w' → VR β' (Own Z β' h') w' v u → K (a.put x.dst u) w') :
  if Region.wanted o (yielded ops a.tmps) then o.wp P a w K Q ∨ (o.asks P a w ∧ LetsOut Q) else K (a.put o.dst Go.undef) w := by
 unfold okAI at ok
 simp only [Bool.and_eq_true, decide_eq_true_eq] at ok
 obtain ⟨⟨⟨ok1, ok2⟩, ok3⟩, ok4⟩ := ok
 have go : exec Γ s.e s.h x.op = some (v, h') → o.wp P a w K Q := fun hx => exec_sound R hΓ E ok3 hx fun u w' β' r f hv => by rw [ok1]; exact k u w' β' r f hv
 have sk : some (AV.undef, s.h) = some (v, h') → K (a.put o.dst Go.undef) w := fun hx => by
  cases hx
  rw [ok1]
  exact k Go.undef w β R (Fr.refl Z β s.h w) .undef
 unfold step1 at hx
 cases hg : x.guard with
 | none =>
  rw [hg] at hx ok4
  cases hg' : o.guard with
  | some g => rw [hg'] at ok4; cases ok4
  | none =>
   rw [if_pos (by simp [Region.wanted, hg'])]
   exact .inl (go hx)
 | some g =>
  obtain ⟨t, want⟩ := g
  rw [hg] at hx ok4
  cases hg' : o.guard with
  | none => rw [hg'] at ok4; cases ok4
  | some g' =>
   obtain ⟨j, want'⟩ := g'
   rw [hg'] at ok4
   simp only [Bool.and_eq_true, decide_eq_true_eq, Array.getElem?_toList] at ok4
   obtain ⟨rfl, ht⟩ := ok4
   simp only at hx
   have hv := E.2 t
   split at hx
   ·rename_i b hb
    rw [hb] at hv
    have hy := yielded_bool ht hv.bool_inv
    split at hx
    ·rename_i hbw
     subst hbw
     rw [if_pos (by simp [Region.wanted, hg', hy])]
     exact .inl (go hx)
    ·rename_i hbw
     rw [if_neg (by simp [Region.wanted, hg', hy]; exact fun e => hbw e)]
     exact sk hx
   ·rename_i hb
    rw [hb] at hv
    have hy := yielded_undef ht hv.undef_inv
    rw [if_neg (by simp [Region.wanted, hg', hy])]
    exact sk hx
   ·cases hx
theorem EnvR.putO {h : AH} {e : Env} {a : Act} {n : Nat} (E : EnvR Z β h w e a n) {d : Option Nat} (hd : (optL d).all (fun t => decide (t < n)) = true) {av : AV} {v : Value} (hv : VR β (Own Z β h) w av v) :
  EnvR Z β h w (St.put ⟨e, h⟩ d av).e (a.put d v) n := by
 cases d with
 | none => exact E
 | some t => exact E.put (by simpa [optL] using hd) hv
theorem put_h (e : Env) (h : AH) (d : Option Nat) (v : AV) : (St.put ⟨e, h⟩ d v).h = h := by cases d <;> rfl
theorem act_put_defers (a : Act) (d : Option Tmp) (v : Value) : (a.put d v).defers = a.defers := by cases d <;> rfl
structure Keeps (W : Nat → Bool) (a a' : Act) : Prop where
 defers : a'.defers = a.defers
 same : ∀ t, W t = false → a'.tmps.getD t Go.undef = a.tmps.getD t Go.undef
theorem Keeps.refl (W : Nat → Bool) (a : Act) : Keeps W a a := ⟨rfl, fun _ _ => rfl⟩
theorem Keeps.trans {W : Nat → Bool} {a a' a'' : Act} (h : Keeps W a a') (h' : Keeps W a' a'') : Keeps W a a'' := ⟨h'.defers.trans h.defers, fun t ht => (h'.same t ht).trans (h.same t ht)⟩
theorem Keeps.put {W : Nat → Bool} (a : Act) (d : Option Tmp) (v : Value) (hW : ∀ t, d = some t → W t = true) : Keeps W a (a.put d v) := by
 refine ⟨act_put_defers a d v, fun t ht => ?_⟩
 cases d with
 | none => rfl
 | some q =>
  have hne : q ≠ t := by
   rintro rfl
   rw [hW q rfl] at ht
   cases ht
  simp [Act.put, Array.getElem?_setIfInBounds_ne hne]
theorem flat_wp (hΓ : TabOK P Γ) {n : Nat} {W : Nat → Bool} {ops : Array Oper} {Q : Exit → Act → World → Prop} : ∀ (os : List Oper) (xs : List AI) (s s' : St) (a : Act) (w : World) (β : Bds), okAIs P n ops.toList os xs = true →
  (∀ x ∈ xs, ∀ t, x.dst = some t → W t = true) → flat Γ xs s = some s' → Rel Z β s.h w → EnvR Z β s.h w s.e a n →
  (∀ a' w' β', Rel Z β' s'.h w' → Fr Z β s.h w β' s'.h w' → EnvR Z β' s'.h w' s'.e a' n → Keeps W a a' → Q .normal a' w') → wpList P ops Q os a w
 | [], [], s, s', a, w, β, _, _, hf, R, E, k => by
  simp only [flat] at hf
  cases hf
  exact k a w β R (Fr.refl Z β s.h w) E (Keeps.refl W a)
 | [], _ :: _, _, _, _, _, _, ok, _, _, _, _, _ => by simp [okAIs] at ok
 | _ :: _, [], _, _, _, _, _, ok, _, _, _, _, _ => by simp [okAIs] at ok
 | o :: os, x :: xs, s, s', a, w, β, ok, hW, hf, R, E, k => by
  simp only [okAIs, Bool.and_eq_true] at ok
  rw [flat_cons] at hf
  simp only [Option.bind_eq_some_iff] at hf
  obtain ⟨⟨v, h'⟩, hx, hf⟩ := hf
  have hd : (optL x.dst).all (fun t => decide (t < n)) = true := by
   have := ok.1
   unfold okAI at this
   simp only [Bool.and_eq_true] at this
   exact this.1.1.2
  unfold wpList
  refine step1_wp R hΓ E ok.1 hx fun u w' β' R' F' hv => ?_
  refine flat_wp hΓ os xs _ s' _ w' β' ok.2 (fun y hy => hW y (by simp [hy])) hf (by rw [put_h]; exact R') (by rw [put_h]; exact (E.fr F').putO hd hv) fun a'' w'' β'' R'' F'' E'' hd'' => ?_
  rw [put_h] at F''
  exact k a'' w'' β'' R'' (F'.trans F'') E'' ((Keeps.put a x.dst u (hW x (by simp))).trans hd'')
/-! ### Whatever order is drawn -/
def AI.reads (x : AI) : List Nat := (x.op.ops.filterMap fun o => match o with | .t i => some i | .c _ => none) ++ (match x.guard with | some (g, _) => [g] | none => [])
def ordered (pre : List Nat) (i j : Nat) : Bool := if j < i then (pre.getD i 0).testBit j else (pre.getD j 0).testBit i
def isFar (x y : AOp) : Bool := match x, y with
 | .loadx _ _ (.t _) q, .storer _ (.t q') _ => decide (q = q')
 | _, _ => false
def frz (i : Nat) (x : AI) : Nat → List AI → Bool
 | _, [] => true
 | k, y :: l => (decide (k < i) || (match y.dst with | some d => !x.reads.contains d | none => true)) && frz i x (k + 1) l
theorem frz_spec {i : Nat} {x : AI} : ∀ (l : List AI) (k : Nat), frz i x k l = true → ∀ (j : Nat) (y : AI), l[j]? = some y → k + j < i ∨ ∀ d, y.dst = some d → d ∉ x.reads
 | [], _, _, j, y, hy => by simp at hy
 | z :: l, k, h, j, y, hy => by
  simp only [frz, Bool.and_eq_true] at h
  cases j with
  | zero =>
   simp at hy; subst hy
   have h1 := h.1
   simp only [Bool.or_eq_true, decide_eq_true_eq] at h1
   rcases h1 with h1 | h1
   ·exact .inl (by omega)
   ·right
    intro d hd
    rw [hd] at h1
    simpa using h1
  | succ j =>
   have := frz_spec l (k + 1) h.2 j y (by simpa using hy)
   rcases this with h | h
   ·exact .inl (by omega)
   ·exact .inr h
def clash (fx : Bool) (i j : Nat) (x y : AI) : Bool := (match y.dst with | some d => x.reads.contains d | none => false) || (!y.op.isR && !x.op.isN && !(x.op.isVer && y.op.isW0) && !(x.op.isLdv && y.op.isRow) && !(x.op.isLd && y.op.isAlc && (decide (i < j) || x.op.isLdp)) && !(isFar x.op y.op && (fx && decide (i < j))))
def sameDst (x y : AI) : Bool := match x.dst with | some d => decide (y.dst = some d) | none => false
def okPair (pre : List Nat) (fx : Bool) (i j : Nat) (x y : AI) : Bool := decide (i = j) || (!sameDst x y && (!clash fx i j x y || ordered pre i j))
def okRow (pre : List Nat) (fx : Bool) (i : Nat) (x : AI) : Nat → List AI → Bool
 | _, [] => true
 | j, y :: l => okPair pre fx i j x y && okRow pre fx i x (j + 1) l
def okRows (pre : List Nat) (all : List AI) : Nat → List AI → Bool
 | _, [] => true
 | i, x :: l => okRow pre (frz i x 0 all) i x 0 all && okRows pre all (i + 1) l
def preOf (pre : List Nat) (o : Oper) : Nat := o.after.toList.foldl (fun s e => if Region.binds .any e then s ||| 2 ^ e.on ||| pre.getD e.on 0 else s) 0
def okPre (pre : List Nat) : Nat → List Oper → Bool
 | _, [] => true
 | i, o :: l => decide (pre.getD i 0 = preOf pre o) && o.after.all (fun e => !Region.binds .any e || decide (e.on < i)) && okPre pre (i + 1) l
def mkPre : List Nat → List Oper → List Nat
 | acc, [] => acc
 | acc, o :: l => mkPre (acc ++ [preOf acc o]) l
def okAny (ops : List Oper) (xs : List AI) : Bool := okPre (mkPre [] ops) 0 ops && okRows (mkPre [] ops) xs 0 xs
theorem okRow_spec {pre : List Nat} {fx : Bool} {i : Nat} {x : AI} : ∀ (l : List AI) (k : Nat), okRow pre fx i x k l = true → ∀ (j : Nat) (y : AI), l[j]? = some y → okPair pre fx i (k + j) x y = true
 | [], _, _, j, y, hy => by simp at hy
 | z :: l, k, h, j, y, hy => by
  simp only [okRow, Bool.and_eq_true] at h
  cases j with
  | zero => simp at hy; subst hy; exact h.1
  | succ j =>
   have := okRow_spec l (k + 1) h.2 j y (by simpa using hy)
   rwa [show k + 1 + j = k + (j + 1) from by omega] at this
theorem okRows_spec {pre : List Nat} {all : List AI} : ∀ (l : List AI) (k : Nat), okRows pre all k l = true → ∀ (i : Nat) (x : AI), l[i]? = some x → ∀ (j : Nat) (y : AI), all[j]? = some y → okPair pre (frz (k + i) x 0 all) (k + i) j x y = true
 | [], _, _, i, x, hx => by simp at hx
 | z :: l, k, h, i, x, hx => by
  simp only [okRows, Bool.and_eq_true] at h
  intro j y hy
  cases i with
  | zero =>
   simp at hx; subst hx
   have := okRow_spec all 0 h.1 j y hy
   simpa using this
  | succ i =>
   have := okRows_spec l (k + 1) h.2 i x (by simpa using hx) j y hy
   rwa [show k + 1 + i = k + (i + 1) from by omega] at this
theorem okPre_spec {pre : List Nat} : ∀ (l : List Oper) (k : Nat), okPre pre k l = true → ∀ (i : Nat) (o : Oper), l[i]? = some o → pre.getD (k + i) 0 = preOf pre o ∧ ∀ e ∈ o.after, Region.binds .any e = true → e.on < k + i
 | [], _, _, i, o, ho => by simp at ho
 | z :: l, k, h, i, o, ho => by
  simp only [okPre, Bool.and_eq_true, decide_eq_true_eq] at h
  cases i with
  | zero =>
   simp at ho; subst ho
   refine ⟨h.1.1, fun e he hb => ?_⟩
   have := Array.all_eq_true_iff_forall_mem.1 h.1.2 e he
   rw [hb] at this
   simpa using this
  | succ i =>
   have := okPre_spec l (k + 1) h.2 i o (by simpa using ho)
   rwa [show k + 1 + i = k + (i + 1) from by omega] at this
theorem preOf_bit {pre : List Nat} {o : Oper} {i : Nat} (h : (preOf pre o).testBit i = true) : ∃ e ∈ o.after, Region.binds .any e = true ∧ (i = e.on ∨ (pre.getD e.on 0).testBit i = true) := by
 unfold preOf at h
 have key : ∀ (l : List Edge) (s : Nat), (l.foldl (fun s e => if Region.binds .any e then s ||| 2 ^ e.on ||| pre.getD e.on 0 else s) s).testBit i = true →
   s.testBit i = true ∨ ∃ e ∈ l, Region.binds .any e = true ∧ (i = e.on ∨ (pre.getD e.on 0).testBit i = true) := by
  intro l
  induction l with
  | nil => intro s h; exact .inl h
  | cons e l ih =>
   intro s h
   rw [List.foldl_cons] at h
   rcases ih _ h with h | ⟨e', he', h⟩
   ·split at h
    ·rename_i hb
     rw [Nat.testBit_or, Nat.testBit_or, Bool.or_eq_true, Bool.or_eq_true] at h
     rcases h with (h | h) | h
     ·exact .inl h
     ·refine .inr ⟨e, by simp, hb, .inl ?_⟩
      rw [Nat.testBit_two_pow] at h
      exact (by simpa using h : e.on = i).symm
     ·exact .inr ⟨e, by simp, hb, .inr h⟩
    ·exact .inl h
   ·exact .inr ⟨e', by simp [he'], h⟩
 rcases key _ 0 h with h | ⟨e, he, h⟩
 ·simp at h
 ·exact ⟨e, Array.mem_toList_iff.1 he, h⟩
end
end Go.Am

/-
 The abstract machine: a region's operations in whatever order is drawn.
-/
namespace Go.Am
section
variable {P : Program} {Z : Nat → Prop} {Γ : Tab}
theorem okAIs_spec {n : Nat} {all : List Oper} : ∀ (os : List Oper) (xs : List AI), okAIs P n all os xs = true → os.length = xs.length ∧ ∀ (i : Nat) (o : Oper) (x : AI), os[i]? = some o → xs[i]? = some x → okAI P n all o x = true
 | [], [], _ => ⟨rfl, fun i o x h => by simp at h⟩
 | [], _ :: _, h => by simp [okAIs] at h
 | _ :: _, [], h => by simp [okAIs] at h
 | o :: os, x :: xs, h => by
  simp only [okAIs, Bool.and_eq_true] at h
  obtain ⟨h1, h2⟩ := okAIs_spec os xs h.2
  refine ⟨by simp [h1], fun i o' x' ho hx => ?_⟩
  cases i with
  | zero => simp at ho hx; subst ho; subst hx; exact h.1
  | succ i => exact h2 i o' x' (by simpa using ho) (by simpa using hx)
theorem lex_run : ∀ (xs : List AI) (s s' : St), flat Γ xs s = some s' → ∃ (f : Nat → St) (val : Nat → AV), f 0 = s ∧ f xs.length = s' ∧
  ∀ (k : Nat) (x : AI), xs[k]? = some x → step1 Γ x (f k) = some (val k, (f (k + 1)).h) ∧ (f (k + 1)).e = (St.put ⟨(f k).e, (f (k + 1)).h⟩ x.dst (val k)).e
 | [], s, s', h => by
  simp only [flat] at h
  cases h
  exact ⟨fun _ => s, fun _ => .dead, rfl, rfl, fun k x hx => by simp at hx⟩
 | x :: xs, s, s', h => by
  rw [flat_cons] at h
  simp only [Option.bind_eq_some_iff] at h
  obtain ⟨⟨v, h'⟩, hx, h⟩ := h
  obtain ⟨f, val, f0, fn, fk⟩ := lex_run xs _ s' h
  refine ⟨fun k => match k with | 0 => s | k + 1 => f k, fun k => match k with | 0 => v | k + 1 => val k, rfl, fn, fun k y hy => ?_⟩
  cases k with
  | zero =>
   simp at hy; subst hy
   have : (f 0).h = h' := by rw [f0]; exact put_h _ _ _ _
   dsimp only
   rw [this]
   exact ⟨hx, by rw [f0]⟩
  | succ k => exact fk k y (by simpa using hy)
open Classical in
noncomputable def eS (xs : List AI) (val : Nat → AV) (e0 : Env) (S : Nat → Bool) : Env := fun t =>
 if h : ∃ j, ∃ x, xs[j]? = some x ∧ x.dst = some t ∧ S j = true then val (Classical.choose h) else e0 t
def Dist (xs : List AI) : Prop := ∀ (i j : Nat) (x y : AI) (t : Nat), xs[i]? = some x → xs[j]? = some y → x.dst = some t → y.dst = some t → i = j
variable {xs : List AI} {val : Nat → AV} {e0 : Env} {S S' : Nat → Bool}
theorem eS_of (D : Dist xs) {j : Nat} {x : AI} {t : Nat} (hx : xs[j]? = some x) (hd : x.dst = some t) (hS : S j = true) : eS xs val e0 S t = val j := by
 have h : ∃ j, ∃ x, xs[j]? = some x ∧ x.dst = some t ∧ S j = true := ⟨j, x, hx, hd, hS⟩
 unfold eS
 rw [dif_pos h]
 obtain ⟨y, hy, hd', _⟩ := Classical.choose_spec h
 rw [D _ j y x t hy hx hd' hd]
theorem eS_not {t : Nat} (h : ∀ (j : Nat) (x : AI), xs[j]? = some x → x.dst = some t → S j = false) : eS xs val e0 S t = e0 t := by
 unfold eS
 rw [dif_neg]
 rintro ⟨j, x, hx, hd, hS⟩
 rw [h j x hx hd] at hS
 cases hS
theorem eS_congr (D : Dist xs) {t : Nat} (h : ∀ (j : Nat) (x : AI), xs[j]? = some x → x.dst = some t → S j = S' j) : eS xs val e0 S t = eS xs val e0 S' t := by
 by_cases hx : ∃ j, ∃ x, xs[j]? = some x ∧ x.dst = some t ∧ S j = true
 ·obtain ⟨j, x, hx, hd, hS⟩ := hx
  rw [eS_of D hx hd hS, eS_of D hx hd (by rw [← h j x hx hd]; exact hS)]
 ·have h0 : ∀ (j : Nat) (x : AI), xs[j]? = some x → x.dst = some t → S j = false := by
   intro j x hx' hd
   cases hS : S j with
   | false => rfl
   | true => exact absurd ⟨j, x, hx', hd, hS⟩ hx
  rw [eS_not h0, eS_not fun j x hx' hd => by rw [← h j x hx' hd]; exact h0 j x hx' hd]
theorem eS_put (D : Dist xs) {i : Nat} {x : AI} (hx : xs[i]? = some x) (hi : S' i = true) (hS : ∀ j, j ≠ i → S' j = S j) (h : AH) : eS xs val e0 S' = (St.put ⟨eS xs val e0 S, h⟩ x.dst (val i)).e := by
 funext t
 cases hd : x.dst with
 | none =>
  refine eS_congr D fun j y hy hyd => hS j ?_
  rintro rfl
  rw [hx] at hy; cases hy
  rw [hd] at hyd; cases hyd
 | some d =>
  show _ = if t = d then val i else _
  split
  ·rename_i ht
   subst ht
   exact eS_of D hx hd hi
  ·rename_i ht
   refine eS_congr D fun j y hy hyd => hS j ?_
   rintro rfl
   rw [hx] at hy; cases hy
   rw [hd] at hyd; cases hyd
   exact ht rfl
theorem step1_R {x : AI} {s : St} {v : AV} {h' : AH} (hr : x.op.isR = true) (h : step1 Γ x s = some (v, h')) : h' = s.h := by
 unfold step1 at h
 split at h
 ·exact exec_R _ hr h
 ·split at h
  ·split at h
   ·exact exec_R _ hr h
   ·cases h; rfl
  ·cases h; rfl
  ·cases h
theorem step1_N {x : AI} {e : Env} {h h' : AH} {v : AV} (hn : x.op.isN = true) (hx : step1 Γ x ⟨e, h⟩ = some (v, h')) (h2 : AH) : step1 Γ x ⟨e, h2⟩ = some (v, h2) := by
 have go : ∀ {h'}, exec Γ e h x.op = some (v, h') → exec Γ e h2 x.op = some (v, h2) := by
  intro h' hq
  rw [exec_N _ hn] at hq ⊢
  cases hz : exec Γ e [] x.op with
  | none => rw [hz] at hq; cases hq
  | some r => rw [hz] at hq; cases hq; rfl
 unfold step1 at hx ⊢
 split at hx
 ·exact go hx
 ·dsimp only at hx ⊢
  split at hx
  ·split at hx
   ·rename_i hb; rw [if_pos hb]; exact go hx
   ·rename_i hb; rw [if_neg hb]; cases hx; rfl
  ·cases hx; rfl
  ·cases hx
theorem step1_congr {x : AI} {e e' : Env} {h : AH} (hr : ∀ t ∈ x.reads, e t = e' t) : step1 Γ x ⟨e, h⟩ = step1 Γ x ⟨e', h⟩ := by
 have h1 : exec Γ e h x.op = exec Γ e' h x.op := exec_congr _ fun o ho => by
  cases o with
  | c v => rfl
  | t i => exact hr i (by unfold AI.reads; exact List.mem_append_left _ (List.mem_filterMap.2 ⟨.t i, ho, rfl⟩))
 unfold step1
 cases hg : x.guard with
 | none => exact h1
 | some g =>
  obtain ⟨g, want⟩ := g
  dsimp only
  rw [hr g (by unfold AI.reads; exact List.mem_append_right _ (by rw [hg]; simp)), h1]
theorem heap_same {f : Nat → St} {s' : St} (hk : ∀ (k : Nat) (x : AI), xs[k]? = some x → step1 Γ x (f k) = some (val k, (f (k + 1)).h)) : ∀ (m k : Nat), m ≤ k → k ≤ xs.length →
  (∀ (j : Nat) (x : AI), xs[j]? = some x → x.op.isR = false → (j < m ↔ j < k)) → (f m).h = (f k).h := by
 intro m k hmk
 induction hmk with
 | refl => intro _ _; rfl
 | step hmk ih =>
  rename_i k
  intro hlen hw
  have hlt : k < xs.length := hlen
  have hx : xs[k]? = some xs[k] := List.getElem?_eq_getElem hlt
  have hR : xs[k].op.isR = true := by
   cases hr : xs[k].op.isR with
   | true => rfl
   | false =>
    have h1 := (hw k _ hx hr).2 (Nat.lt_succ_self k)
    have h2 : m ≤ k := hmk
    omega
  rw [step1_R hR (hk k _ hx)]
  refine ih (by omega) fun j x hx' hr => ?_
  have h1 := hw j x hx' hr
  have h2 : m ≤ k := hmk
  constructor
  ·intro h; omega
  ·intro h; exact h1.2 (by omega)
theorem heap_same' {f : Nat → St} (hk : ∀ (k : Nat) (x : AI), xs[k]? = some x → step1 Γ x (f k) = some (val k, (f (k + 1)).h)) (m k : Nat) (hm : m ≤ xs.length) (hkl : k ≤ xs.length)
  (hw : ∀ (j : Nat) (x : AI), xs[j]? = some x → x.op.isR = false → (j < m ↔ j < k)) : (f m).h = (f k).h := by
 rcases Nat.le_total m k with h | h
 ·exact heap_same (s' := f 0) hk m k h hkl hw
 ·exact (heap_same (s' := f 0) hk k m h hm fun j x hx hr => (hw j x hx hr).symm).symm
theorem step1_ver {x : AI} {e : Env} {h h' : AH} {v : AV} (hn : x.op.isVer = true) (hx : step1 Γ x ⟨e, h⟩ = some (v, h')) {h2 : AH} (hr : ∀ b u, rowSz h2 b u = rowSz h b u) : step1 Γ x ⟨e, h2⟩ = some (v, h2) := by
 unfold step1 at hx ⊢
 split at hx
 ·exact exec_ver _ hn hr hx
 ·dsimp only at hx ⊢
  split at hx
  ·split at hx
   ·rename_i hb; rw [if_pos hb]; exact exec_ver _ hn hr hx
   ·rename_i hb; rw [if_neg hb]; cases hx; rfl
  ·cases hx; rfl
  ·cases hx
theorem step1_W0 {x : AI} {s : St} {v : AV} {h' : AH} (hr : x.op.isW0 = true) (h : step1 Γ x s = some (v, h')) (b u : Nat) : rowSz h' b u = rowSz s.h b u := by
 unfold step1 at h
 split at h
 ·exact exec_W0 _ hr h b u
 ·split at h
  ·split at h
   ·exact exec_W0 _ hr h b u
   ·cases h; rfl
  ·cases h; rfl
  ·cases h
theorem step1_ld {x : AI} {e : Env} {h h' : AH} {v : AV} (hn : x.op.isLd = true) (hx : step1 Γ x ⟨e, h⟩ = some (v, h')) (bs : AH) : step1 Γ x ⟨e, h ++ bs⟩ = some (v, h ++ bs) := by
 unfold step1 at hx ⊢
 split at hx
 ·exact exec_ld _ hn hx bs
 ·dsimp only at hx ⊢
  split at hx
  ·split at hx
   ·rename_i hb; rw [if_pos hb]; exact exec_ld _ hn hx bs
   ·rename_i hb; rw [if_neg hb]; cases hx; rfl
  ·cases hx; rfl
  ·cases hx
theorem step1_ldp {x : AI} {e : Env} {h h' bs : AH} {v : AV} {sz t : Nat} {agg : Bool} (hxo : x.op = .load sz agg (.t t)) (hp : ∀ b v i o, e t = .ptr b v i o → b < h.length) (hx : step1 Γ x ⟨e, h ++ bs⟩ = some (v, h')) : step1 Γ x ⟨e, h⟩ = some (v, h) := by
 have key : ∀ {r}, exec Γ e (h ++ bs) x.op = some r → exec Γ e h x.op = some (r.1, h) := fun {r} hr => by
  rw [hxo] at hr ⊢
  exact exec_ldp (h' := r.2) hp hr
 unfold step1 at hx ⊢
 split at hx
 ·exact key hx
 ·dsimp only at hx ⊢
  split at hx
  ·split at hx
   ·rename_i hb; rw [if_pos hb]; exact key hx
   ·rename_i hb; rw [if_neg hb]; cases hx; rfl
  ·cases hx; rfl
  ·cases hx
theorem step1_alc {x : AI} {s : St} {v : AV} {h' : AH} (hr : x.op.isAlc = true) (h : step1 Γ x s = some (v, h')) : ∃ bs, h' = s.h ++ bs := by
 unfold step1 at h
 split at h
 ·exact exec_alc _ hr h
 ·split at h
  ·split at h
   ·exact exec_alc _ hr h
   ·cases h; exact ⟨[], by simp⟩
  ·cases h; exact ⟨[], by simp⟩
  ·cases h
theorem heap_grows {f : Nat → St} (hk : ∀ (k : Nat) (x : AI), xs[k]? = some x → step1 Γ x (f k) = some (val k, (f (k + 1)).h)) : ∀ (m k : Nat), m ≤ k → k ≤ xs.length →
  (∀ (j : Nat) (x : AI), xs[j]? = some x → m ≤ j → j < k → x.op.isR = false → x.op.isAlc = true) → ∃ bs, (f k).h = (f m).h ++ bs := by
 intro m k hmk
 induction hmk with
 | refl => intro _ _; exact ⟨[], by simp⟩
 | step hmk ih =>
  rename_i k
  intro hlen hw
  have hlt : k < xs.length := hlen
  have hx : xs[k]? = some xs[k] := List.getElem?_eq_getElem hlt
  have h2 : m ≤ k := hmk
  obtain ⟨bs, hb⟩ := ih (by omega) fun j x hx' h1 h3 hr => hw j x hx' h1 (by omega) hr
  cases hr : xs[k].op.isR with
  | true => exact ⟨bs, by rw [step1_R hr (hk k _ hx), hb]⟩
  | false =>
   obtain ⟨cs, hc⟩ := step1_alc (hw k _ hx h2 (Nat.lt_succ_self k) hr) (hk k _ hx)
   exact ⟨bs ++ cs, by rw [hc, hb, List.append_assoc]⟩
theorem step1_row {x : AI} {s : St} {v : AV} {h' : AH} (hr : x.op.isRow = true) (h : step1 Γ x s = some (v, h')) : VarKept s.h h' := by
 unfold step1 at h
 split at h
 ·exact exec_row _ hr h
 ·split at h
  ·split at h
   ·exact exec_row _ hr h
   ·cases h; exact VarKept.refl _
  ·cases h; exact VarKept.refl _
  ·cases h
theorem step1_ldv {x : AI} {e : Env} {h h' h2 : AH} {v : AV} {sz t : Nat} {agg : Bool} (hxo : x.op = .loadv sz agg t) (hv : ∀ (b : Nat) (cs : List AV), (∃ v i o, e t = .ptr b v i o) → h[b]? = some (.var cs) → h2[b]? = some (.var cs)) (hx : step1 Γ x ⟨e, h⟩ = some (v, h')) : step1 Γ x ⟨e, h2⟩ = some (v, h2) := by
 have key : ∀ {r}, exec Γ e h x.op = some r → exec Γ e h2 x.op = some (r.1, h2) := fun {r} hr => by
  rw [hxo] at hr ⊢
  exact exec_ldv (h' := r.2) hr hv
 unfold step1 at hx ⊢
 split at hx
 ·exact key hx
 ·dsimp only at hx ⊢
  split at hx
  ·split at hx
   ·rename_i hb; rw [if_pos hb]; exact key hx
   ·rename_i hb; rw [if_neg hb]; cases hx; rfl
  ·cases hx; rfl
  ·cases hx
theorem var_grows {f : Nat → St} (hk : ∀ (k : Nat) (x : AI), xs[k]? = some x → step1 Γ x (f k) = some (val k, (f (k + 1)).h)) : ∀ (m k : Nat), m ≤ k → k ≤ xs.length →
  (∀ (j : Nat) (x : AI), xs[j]? = some x → m ≤ j → j < k → x.op.isR = false → x.op.isRow = true) → VarKept (f m).h (f k).h := by
 intro m k hmk
 induction hmk with
 | refl => intro _ _; exact VarKept.refl _
 | step hmk ih =>
  rename_i k
  intro hlen hw
  have hlt : k < xs.length := hlen
  have hx : xs[k]? = some xs[k] := List.getElem?_eq_getElem hlt
  have h2 : m ≤ k := hmk
  have h1 := ih (by omega) fun j x hx' h1 h3 hr => hw j x hx' h1 (by omega) hr
  cases hr : xs[k].op.isR with
  | true => rw [step1_R hr (hk k _ hx)]; exact h1
  | false => exact h1.trans (step1_row (hw k _ hx h2 (Nat.lt_succ_self k) hr) (hk k _ hx))
theorem step1_load {x : AI} {e : Env} {h h' h2 : AH} {v : AV} {sz : Nat} {agg : Bool} {t0 q0 : Nat} (hxo : x.op = .loadx sz agg (.t t0) q0) (hx : step1 Γ x ⟨e, h⟩ = some (v, h')) (hc : farFrom (e q0) (e t0) = true → ∀ cs, cellsAt h (e t0) = some cs → cellsAt h2 (e t0) = some cs) : step1 Γ x ⟨e, h2⟩ = some (v, h2) := by
 have key : ∀ {r}, exec Γ e h x.op = some r → exec Γ e h2 x.op = some (r.1, h2) := fun {r} hr => by
  rw [hxo] at hr ⊢
  simp only [exec, keepH] at hr ⊢
  by_cases hf : farFrom (e q0) ((AO.t t0).get e) = true
  ·rw [if_pos hf] at hr ⊢
   simp only [Option.bind_eq_some_iff] at hr ⊢
   obtain ⟨cs, h1, r1, h3, hr⟩ := hr
   cases hr
   exact ⟨cs, hc hf cs h1, _, h3, rfl⟩
  ·rw [if_neg hf] at hr; cases hr
 unfold step1 at hx ⊢
 split at hx
 ·exact key hx
 ·dsimp only at hx ⊢
  split at hx
  ·split at hx
   ·rename_i hb; rw [if_pos hb]; exact key hx
   ·rename_i hb; rw [if_neg hb]; cases hx; rfl
  ·cases hx; rfl
  ·cases hx
theorem isFar_inv {sz : Nat} {agg : Bool} {t0 q0 : Nat} {y : AOp} (h : isFar (.loadx sz agg (.t t0) q0) y = true) : ∃ sz' z, y = .storer sz' (.t q0) z := by
 cases y <;> first | (simp [isFar] at h; done) | skip
 rename_i sz' a z
 cases a with
 | t q =>
  simp [isFar] at h
  subst h
  exact ⟨_, _, rfl⟩
 | c v => simp [isFar] at h
theorem step1_far {y : AI} {s : St} {v : AV} {h' : AH} {t0 q0 sz0 : Nat} {agg0 : Bool} (hf : isFar (.loadx sz0 agg0 (.t t0) q0) y.op = true) (h : step1 Γ y s = some (v, h')) {p : AV} (hp : farFrom (s.e q0) p = true) {cs : List AV} (hc : cellsAt s.h p = some cs) : cellsAt h' p = some cs := by
 have key : ∀ {r}, exec Γ s.e s.h y.op = some r → cellsAt r.2 p = some cs := fun {r} hr => by
  obtain ⟨sz', z, hy⟩ := isFar_inv hf
  rw [hy] at hr
  simp only [exec] at hr
  by_cases hv : isVarB s.h ((AO.t q0).get s.e) = true
  ·rw [if_pos hv] at hr
   simp only [Option.bind_eq_some_iff] at hr
   obtain ⟨h1, hst, hr⟩ := hr
   cases hr
   exact storer_cells hv hst hp hc
  ·rw [if_neg hv] at hr; cases hr
 unfold step1 at h
 split at h
 ·exact key h
 ·split at h
  ·split at h
   ·exact key h
   ·cases h; exact hc
  ·cases h; exact hc
  ·cases h
theorem cells_keep {f : Nat → St} {x0 : AI} {i t0 q0 sz0 : Nat} {agg0 : Bool} {p : AV} (hk : ∀ (k : Nat) (x : AI), xs[k]? = some x → step1 Γ x (f k) = some (val k, (f (k + 1)).h) ∧ (f (k + 1)).e = (St.put ⟨(f k).e, (f (k + 1)).h⟩ x.dst (val k)).e)
  (hfe : ∀ k, i ≤ k → k ≤ xs.length → frz i x0 0 xs = true → (f k).e q0 = (f i).e q0) (hp : farFrom ((f i).e q0) p = true) : ∀ (m : Nat), i ≤ m → m ≤ xs.length →
  (∀ (q : Nat) (y : AI), xs[q]? = some y → i ≤ q → q < m → y.op.isR = false → y.op.isAlc = true ∨ (isFar (.loadx sz0 agg0 (.t t0) q0) y.op = true ∧ frz i x0 0 xs = true)) → ∀ cs, cellsAt (f i).h p = some cs → cellsAt (f m).h p = some cs := by
 intro m hjm
 induction hjm with
 | refl => intro _ _ cs hc; exact hc
 | step hjm ih =>
  rename_i m
  intro hlen hw cs hc
  have hlt : m < xs.length := hlen
  have hx : xs[m]? = some xs[m] := List.getElem?_eq_getElem hlt
  have hjm' : i ≤ m := hjm
  have hc' := ih (by omega) (fun q y hq h1 h2 hr => hw q y hq h1 (by omega) hr) cs hc
  cases hr : xs[m].op.isR with
  | true => rw [step1_R hr (hk m _ hx).1]; exact hc'
  | false =>
   rcases hw m _ hx hjm' (Nat.lt_succ_self m) hr with h | ⟨h, h'⟩
   ·obtain ⟨bs, hb⟩ := step1_alc h (hk m _ hx).1
    rw [hb]
    exact cellsAt_grow hc' bs
   ·exact step1_far h (hk m _ hx).1 (by rw [hfe m (by omega) (by omega) h']; exact hp) hc'
theorem rows_same {f : Nat → St} (hk : ∀ (k : Nat) (x : AI), xs[k]? = some x → step1 Γ x (f k) = some (val k, (f (k + 1)).h)) : ∀ (m k : Nat), m ≤ k → k ≤ xs.length →
  (∀ (j : Nat) (x : AI), xs[j]? = some x → x.op.isR = false → x.op.isW0 = false → (j < m ↔ j < k)) → ∀ b u, rowSz (f m).h b u = rowSz (f k).h b u := by
 intro m k hmk
 induction hmk with
 | refl => intro _ _ _ _; rfl
 | step hmk ih =>
  rename_i k
  intro hlen hw b u
  have hlt : k < xs.length := hlen
  have hx : xs[k]? = some xs[k] := List.getElem?_eq_getElem hlt
  have hstep : rowSz (f (k + 1)).h b u = rowSz (f k).h b u := by
   cases hr : xs[k].op.isR with
   | true => rw [step1_R hr (hk k _ hx)]
   | false =>
    cases hr0 : xs[k].op.isW0 with
    | true => exact step1_W0 hr0 (hk k _ hx) b u
    | false =>
     have h1 := (hw k _ hx hr hr0).2 (Nat.lt_succ_self k)
     have h2 : m ≤ k := hmk
     omega
  rw [hstep]
  refine ih (by omega) (fun j x hx' hr hr0 => ?_) b u
  have h1 := hw j x hx' hr hr0
  have h2 : m ≤ k := hmk
  constructor
  ·intro h; omega
  ·intro h; exact h1.2 (by omega)
theorem rows_same' {f : Nat → St} (hk : ∀ (k : Nat) (x : AI), xs[k]? = some x → step1 Γ x (f k) = some (val k, (f (k + 1)).h)) (m k : Nat) (hm : m ≤ xs.length) (hkl : k ≤ xs.length)
  (hw : ∀ (j : Nat) (x : AI), xs[j]? = some x → x.op.isR = false → x.op.isW0 = false → (j < m ↔ j < k)) (b u : Nat) : rowSz (f m).h b u = rowSz (f k).h b u := by
 rcases Nat.le_total m k with h | h
 ·exact rows_same hk m k h hkl hw b u
 ·exact (rows_same hk k m h hm (fun j x hx hr hr0 => (hw j x hx hr hr0).symm) b u).symm
theorem ready_all {ops : Array Oper} {listed : Array Bool} (hsz : listed.size = ops.size) (hafter : ∀ (i : Nat) (o : Oper), ops[i]? = some o → ∀ e ∈ o.after, Region.binds .any e = true → e.on < i) (h0 : Region.ready .any ops listed = []) :
  ∀ j, j < ops.size → listed.getD j false = true := by
 intro j
 induction j using Nat.strongRecOn with
 | _ j ih =>
  intro hj
  cases hl : listed.getD j false with
  | true => rfl
  | false =>
   have : j ∈ Region.ready .any ops listed := by
    rw [mem_ready]
    have hjl : j < listed.size := by omega
    refine ⟨?_, ops[j], Array.getElem?_eq_getElem hj, fun e he hb => ?_⟩
    ·simp [hjl] at hl ⊢; exact hl
    ·have := hafter j ops[j] (Array.getElem?_eq_getElem hj) e he hb
     exact ih e.on this (by omega)
   rw [h0] at this
   cases this
theorem flat_any_go (hΓ : TabOK P Γ) {W : Nat → Bool} (hWs : ∀ x ∈ xs, ∀ t, x.dst = some t → W t = true) {n : Nat} {ops : Array Oper} {Q : Exit → Act → World → Prop} (ok : okAIs P n ops.toList ops.toList xs = true) {pre : List Nat} (okp : okPre pre 0 ops.toList = true) (okr : okRows pre xs 0 xs = true)
  {s s' : St} {f : Nat → St} (f0 : f 0 = s) (fn : f xs.length = s') (hk : ∀ (k : Nat) (x : AI), xs[k]? = some x → step1 Γ x (f k) = some (val k, (f (k + 1)).h) ∧ (f (k + 1)).e = (St.put ⟨(f k).e, (f (k + 1)).h⟩ x.dst (val k)).e)
  {β0 : Bds} {w0 : World} {a0 : Act} (k : ∀ a' w' β', Rel Z β' s'.h w' → Fr Z β0 s.h w0 β' s'.h w' → EnvR Z β' s'.h w' s'.e a' n → Keeps W a0 a' → Q .normal a' w') :
  ∀ (fuel : Nat) (listed : Array Bool) (a : Act) (w : World) (β : Bds) (m : Nat), listed.size = ops.size → listed.toList.count false = fuel → m ≤ xs.length →
   (∀ j i, listed.getD j false = true → (pre.getD j 0).testBit i = true → listed.getD i false = true) →
   (∀ (j : Nat) (x : AI), xs[j]? = some x → x.op.isR = false → (j < m ↔ listed.getD j false = true)) →
   Rel Z β (f m).h w → Fr Z β0 s.h w0 β (f m).h w → EnvR Z β (f m).h w (eS xs val s.e fun j => listed.getD j false) a n → Keeps W a0 a → wpAny P .any ops Q fuel listed a w := by
 obtain ⟨hlen, hoks⟩ := okAIs_spec _ _ ok
 have hlen' : ops.size = xs.length := by simpa using hlen
 have hrow := okRows_spec xs 0 okr
 have hpre := okPre_spec ops.toList 0 okp
 have D : Dist xs := by
  intro i j x y t hx hy hxd hyd
  have := hrow i x hx j y hy
  unfold okPair at this
  simp only [Bool.or_eq_true, Bool.and_eq_true, decide_eq_true_eq, Nat.zero_add] at this
  rcases this with h | ⟨h, _⟩
  ·exact h
  ·simp [sameDst, hxd, hyd] at h
 have hafter : ∀ (i : Nat) (o : Oper), ops[i]? = some o → ∀ e ∈ o.after, Region.binds .any e = true → e.on < i := by
  intro i o ho e he hb
  have := (hpre i o (by simpa using ho)).2 e he hb
  simpa using this
 have hfe : ∀ i, i ≤ xs.length → (f i).e = eS xs val s.e fun j => decide (j < i) := by
  intro i
  induction i with
  | zero =>
   intro _
   rw [f0]
   funext t
   exact (eS_not fun j x _ _ => by simp).symm
  | succ i ih =>
   intro hi
   have hx : xs[i]? = some xs[i] := List.getElem?_eq_getElem (by omega)
   rw [(hk i _ hx).2, ih (by omega)]
   refine (eS_put D hx (by simp) (fun j hj => ?_) _).symm
   simp only [decide_eq_decide]
   omega
 intro fuel
 -- all have come up
 have done : ∀ (listed : Array Bool) (a : Act) (w : World) (β : Bds) (m : Nat), m ≤ xs.length → (∀ j, j < ops.size → listed.getD j false = true) →
   (∀ (j : Nat) (x : AI), xs[j]? = some x → x.op.isR = false → (j < m ↔ listed.getD j false = true)) →
   Rel Z β (f m).h w → Fr Z β0 s.h w0 β (f m).h w → EnvR Z β (f m).h w (eS xs val s.e fun j => listed.getD j false) a n → Keeps W a0 a → Q .normal a w := by
  intro listed a w β m hm hall hW R F E hd
  have hlt : ∀ (j : Nat) (x : AI), xs[j]? = some x → j < xs.length := fun j x hx => (List.getElem?_eq_some_iff.1 hx).1
  have hh : (f m).h = s'.h := by
   rw [heap_same' (fun k x hx => (hk k x hx).1) m xs.length hm (Nat.le_refl _) fun j x hx hr => by
    rw [hW j x hx hr]
    have := hlt j x hx
    exact ⟨fun _ => this, fun _ => hall j (by omega)⟩, fn]
  have he : (eS xs val s.e fun j => listed.getD j false) = s'.e := by
   rw [← fn, hfe xs.length (Nat.le_refl _)]
   funext t
   exact eS_congr D fun j x hx _ => by
    have := hlt j x hx
    rw [hall j (by omega)]; simp [this]
  rw [hh] at R F E
  rw [he] at E
  exact k a w β R F E hd
 induction fuel with
 | zero =>
  intro listed a w β m hsz hcnt hm hcl hW R F E hd
  have hall : ∀ j, j < ops.size → listed.getD j false = true := by
   intro j hj
   have hjl : j < listed.size := by omega
   have h0 := List.count_eq_zero.1 hcnt
   have hmem : listed[j] ∈ listed.toList := by simp
   cases hq : listed[j] with
   | true => simp [hjl, hq]
   | false => rw [hq] at hmem; exact absurd hmem h0
  refine ⟨?_, done listed a w β m hm hall hW R F E hd⟩
  apply List.eq_nil_iff_forall_not_mem.2
  intro i hi
  obtain ⟨h1, o, ho, _⟩ := mem_ready.1 hi
  have hlt : i < ops.size := (Array.getElem?_eq_some_iff.1 ho).1
  have h2 := hall i hlt
  have hil : i < listed.size := by omega
  simp [hil] at h1 h2
  rw [h1] at h2; cases h2
 | succ fuel ih =>
  intro listed a w β m hsz hcnt hm hcl hW R F E hd
  refine ⟨fun h0 => done listed a w β m hm (ready_all hsz hafter h0) hW R F E hd, fun i hi => ?_⟩
  obtain ⟨h1, o, ho, hall⟩ := mem_ready.1 hi
  have hio : i < ops.size := (Array.getElem?_eq_some_iff.1 ho).1
  have hil : i < listed.size := by omega
  have hix : i < xs.length := by omega
  have hx : xs[i]? = some xs[i] := List.getElem?_eq_getElem hix
  generalize hxi : xs[i] = x at hx
  have hSi : listed.getD i false = false := by simp [hil] at h1 ⊢; exact h1
  have hwait : ∀ j, (pre.getD i 0).testBit j = true → listed.getD j false = true := by
   intro j hj
   have hp := (hpre i o (by simpa using ho)).1
   rw [Nat.zero_add] at hp
   rw [hp] at hj
   obtain ⟨e, he, hb, hj⟩ := preOf_bit hj
   have hle := hall e he hb
   rcases hj with rfl | hj
   ·exact hle
   ·exact hcl _ _ hle hj
  have hord : ∀ (j : Nat) (y : AI), xs[j]? = some y → clash (frz i x 0 xs) i j x y = true → listed.getD j false = decide (j < i) := by
   intro j y hy hc
   have := hrow i x hx j y hy
   unfold okPair at this
   simp only [Bool.or_eq_true, Bool.and_eq_true, decide_eq_true_eq, Nat.zero_add] at this
   rcases this with h | ⟨_, h⟩
   ·subst h; rw [hSi]; simp
   ·rcases h with h | h
    ·rw [hc] at h; cases h
    ·unfold ordered at h
     split at h
     ·rename_i hlt
      rw [hwait j h]; simp [hlt]
     ·rename_i hlt
      cases hS : listed.getD j false with
      | false => simp [hlt]
      | true =>
       have := hcl j i hS h
       rw [hSi] at this; cases this
  have hagree : ∀ t ∈ x.reads, eS xs val s.e (fun j => listed.getD j false) t = (f i).e t := by
   intro t ht
   rw [hfe i (by omega)]
   exact eS_congr D fun j y hy hyd => hord j y hy (by simp [clash, hyd, ht])
  obtain ⟨hst, hfi⟩ := hk i x hx
  have hstep : ∃ m', step1 Γ x ⟨eS xs val s.e fun j => listed.getD j false, (f m).h⟩ = some (val i, (f m').h) ∧ m' ≤ xs.length ∧
    (∀ (j : Nat) (y : AI), xs[j]? = some y → y.op.isR = false → (j < m' ↔ (j = i ∨ listed.getD j false = true))) := by
   by_cases hn : x.op.isN = true
   ·refine ⟨m, ?_, hm, fun j y hy hr => ?_⟩
    ·have e1 : step1 Γ x ⟨eS xs val s.e fun j => listed.getD j false, (f i).h⟩ = some (val i, (f (i + 1)).h) := by rw [step1_congr hagree]; exact hst
     exact step1_N hn e1 _
    ·rw [hW j y hy hr]
     constructor
     ·exact .inr
     ·rintro (rfl | h)
      ·rw [hx] at hy; cases hy
       cases hxo : x.op <;> rw [hxo] at hn hr <;> first | (cases hn; done) | (cases hr; done)
      ·exact h
   ·by_cases hldv : ∃ sz agg t0, x.op = .loadv sz agg t0
    ·obtain ⟨sz, agg, t0, hxo⟩ := hldv
     have hRx : x.op.isR = true := by rw [hxo]; rfl
     have e1 : step1 Γ x ⟨eS xs val s.e fun j => listed.getD j false, (f i).h⟩ = some (val i, (f (i + 1)).h) := by rw [step1_congr hagree]; exact hst
     have hnf1 : ∀ y, isFar x.op y = false := fun y => by rw [hxo]; rfl
     have hcl0 : ∀ (j : Nat) (y : AI), xs[j]? = some y → y.op.isR = false → y.op.isRow = false → listed.getD j false = decide (j < i) := fun j y hy hr h0 =>
      hord j y hy (by
       have hc1 : x.op.isN = false := by rw [hxo]; rfl
       have hc2 : x.op.isVer = false := by rw [hxo]; rfl
       have hc3 : x.op.isLd = false := by rw [hxo]; rfl
       simp [clash, hr, hc1, hc2, hc3, h0, hnf1])
     have hpt : ∀ b, (∃ v i o, eS xs val s.e (fun j => listed.getD j false) t0 = .ptr b v i o) → b < (f m).h.length := by
      rintro b ⟨v, i, o, he⟩
      have hv := E.2 t0
      rw [he] at hv
      generalize a.tmps.getD t0 Go.undef = u at hv
      rcases Nat.lt_or_ge b (f m).h.length with hlt | hge
      ·exact hlt
      ·cases hv with
       | pure _ _ hv => cases hv
       | ptr _ _ _ _ bd c h1 h2 => rw [R.fresh b v hge] at h1; cases h1
     have e3 : step1 Γ x ⟨eS xs val s.e fun j => listed.getD j false, (f m).h⟩ = some (val i, (f m).h) := by
      refine step1_ldv hxo (fun b cs hb hc => ?_) e1
      rcases Nat.le_total m i with hmi | hmi
      ·have hv := var_grows (fun k x hx => (hk k x hx).1) m i hmi (by omega) fun j y hy h1 h2 hr => by
        cases ha : y.op.isRow with
        | true => rfl
        | false =>
         have := hcl0 j y hy hr ha
         have h3 := (hW j y hy hr).2 (by rw [this]; simpa using h2)
         omega
       exact (hv.2 b cs (hpt b hb)).2 hc
      ·have hv := var_grows (fun k x hx => (hk k x hx).1) i m hmi hm fun j y hy h1 h2 hr => by
        cases ha : y.op.isRow with
        | true => rfl
        | false =>
         have := hcl0 j y hy hr ha
         have h3 := (hW j y hy hr).1 h2
         rw [this] at h3
         simp at h3
         omega
       have hbl : b < (f i).h.length := (List.getElem?_eq_some_iff.1 hc).1
       exact (hv.2 b cs hbl).1 hc
     refine ⟨m, e3, hm, fun j y hy hr => ?_⟩
     rw [hW j y hy hr]
     constructor
     ·exact .inr
     ·rintro (rfl | h)
      ·rw [hx] at hy; cases hy
       rw [hRx] at hr; cases hr
      ·exact h
    have hnv : x.op.isLdv = false := by
     cases hxo : x.op <;> first | rfl | exact absurd ⟨_, _, _, hxo⟩ hldv
    by_cases hver : x.op.isVer = true
    ·have hld0 : x.op.isLd = false := by
      cases hxo : x.op <;> rw [hxo] at hver <;> first | (cases hver; done) | rfl
     have hnf0 : ∀ y, isFar x.op y = false := fun y => by
      cases hxo : x.op <;> rw [hxo] at hver <;> first | (cases hver; done) | rfl
     have hh : ∀ b u, rowSz (f m).h b u = rowSz (f i).h b u := rows_same' (fun k x hx => (hk k x hx).1) m i hm (by omega) fun j y hy hr hr0 => by
      rw [hW j y hy hr, hord j y hy (by simp [clash, hr, hn, hr0, hld0, hnf0, hnv])]; simp
     have e1 : step1 Γ x ⟨eS xs val s.e fun j => listed.getD j false, (f i).h⟩ = some (val i, (f (i + 1)).h) := by rw [step1_congr hagree]; exact hst
     refine ⟨m, step1_ver hver e1 hh, hm, fun j y hy hr => ?_⟩
     rw [hW j y hy hr]
     constructor
     ·exact .inr
     ·rintro (rfl | h)
      ·rw [hx] at hy; cases hy
       cases hxo : x.op <;> rw [hxo] at hver hr <;> first | (cases hver; done) | (cases hr; done)
      ·exact h
    have hver : x.op.isVer = false := by simpa using hver
    by_cases hL : ∃ sz agg t0 q0, x.op = .loadx sz agg (.t t0) q0
    ·obtain ⟨sz, agg, t0, q0, hxo⟩ := hL
     have hRx : x.op.isR = true := by rw [hxo]; rfl
     have e1 : step1 Γ x ⟨eS xs val s.e fun j => listed.getD j false, (f i).h⟩ = some (val i, (f (i + 1)).h) := by rw [step1_congr hagree]; exact hst
     have ht0 : t0 ∈ x.reads := by unfold AI.reads; rw [hxo]; simp [AOp.ops]
     have hq0 : q0 ∈ x.reads := by unfold AI.reads; rw [hxo]; simp [AOp.ops]
     have hlp : x.op.isLdp = false := by rw [hxo]; rfl
     have early : ∀ (j : Nat) (y : AI), xs[j]? = some y → y.op.isR = false → j < i → j < m := fun j y hy hr hlt => by
      rw [hW j y hy hr, hord j y hy (by simp [clash, hr, hn, hnv, hver, hlp]; omega)]; simpa using hlt
     have late : ∀ (j : Nat) (y : AI), xs[j]? = some y → y.op.isR = false → i ≤ j → j < m → y.op.isAlc = true ∨ (isFar x.op y.op = true ∧ frz i x 0 xs = true) := fun j y hy hr hle h => by
      apply Classical.byContradiction
      intro hno
      have hno1 : y.op.isAlc = false := by
       cases hq : y.op.isAlc with
       | false => rfl
       | true => exact absurd (.inl hq) hno
      have hno2 : (isFar x.op y.op && frz i x 0 xs) = false := by
       cases hq : (isFar x.op y.op && frz i x 0 xs) with
       | false => rfl
       | true => rw [Bool.and_eq_true] at hq; exact absurd (.inr hq) hno
      rw [hW j y hy hr, hord j y hy (by
       simp only [clash, hr, hn, hnv, hver, hno1, Bool.not_false, Bool.true_and, Bool.false_and, Bool.and_false]
       rw [← Bool.and_assoc, hno2]
       simp [hn])] at h
      simp at h; omega
     have hcells : m ≤ i ∨ (farFrom ((f i).e q0) ((f i).e t0) = true → ∀ cs, cellsAt (f i).h ((f i).e t0) = some cs → cellsAt (f m).h ((f i).e t0) = some cs) := by
      rcases Nat.le_total m i with hmi | hmi
      ·exact .inl hmi
      ·right
       intro hfar
       exact cells_keep (hk := hk) (hfe := fun k hk1 hk2 hfz => by
        rw [hfe k (by omega), hfe i (by omega)]
        exact eS_congr D fun q y hq hyd => by
         rcases frz_spec xs 0 hfz q y hq with h | h
         ·rw [Nat.zero_add] at h
          simp only [decide_eq_decide]; omega
         ·exact absurd hq0 (h q0 hyd)) hfar m hmi hm fun j y hy h1 h2 hr => by
        rcases late j y hy hr h1 h2 with h | ⟨h, h'⟩
        ·exact .inl h
        ·rw [hxo] at h; exact .inr ⟨h, h'⟩
     have e3 : step1 Γ x ⟨eS xs val s.e fun j => listed.getD j false, (f m).h⟩ = some (val i, (f m).h) := by
      rcases hcells with hmi | hcells
      ·have hh : (f m).h = (f i).h := heap_same' (fun k x hx => (hk k x hx).1) m i hm (by omega) fun j y hy hr => ⟨fun h => by omega, early j y hy hr⟩
       have e2 := step1_R hRx e1
       rw [hh, e1, e2]
      ·refine step1_load hxo e1 fun hfar cs hc => ?_
       rw [hagree t0 ht0] at hc hfar ⊢
       rw [hagree q0 hq0] at hfar
       exact hcells hfar cs hc
     refine ⟨m, e3, hm, fun j y hy hr => ?_⟩
     rw [hW j y hy hr]
     constructor
     ·exact .inr
     ·rintro (rfl | h)
      ·rw [hx] at hy; cases hy
       rw [hRx] at hr; cases hr
      ·exact h
    have hnf : ∀ y, isFar x.op y = false := fun y => by
     cases hq : isFar x.op y with
     | false => rfl
     | true =>
      exfalso
      apply hL
      unfold isFar at hq
      split at hq
      ·exact ⟨_, _, _, _, by assumption⟩
      ·cases hq
    by_cases hld : x.op.isLd = true
    ·have hRx : x.op.isR = true := by
      cases hxo : x.op <;> rw [hxo] at hld <;> first | (cases hld; done) | rfl
     have e1 : step1 Γ x ⟨eS xs val s.e fun j => listed.getD j false, (f i).h⟩ = some (val i, (f (i + 1)).h) := by rw [step1_congr hagree]; exact hst
     have early : x.op.isLdp = false → ∀ (j : Nat) (y : AI), xs[j]? = some y → y.op.isR = false → j < i → j < m := fun hp j y hy hr hlt => by
      rw [hW j y hy hr, hord j y hy (by simp [clash, hr, hn, hnv, hver, hnf, hp]; exact .inr (.inr (Nat.le_of_lt hlt)))]; simpa using hlt
     have early' : ∀ (j : Nat) (y : AI), xs[j]? = some y → y.op.isR = false → y.op.isAlc = false → j < i → j < m := fun j y hy hr ha hlt => by
      rw [hW j y hy hr, hord j y hy (by simp [clash, hr, hn, hnv, hver, ha, hnf])]; simpa using hlt
     have late : ∀ (j : Nat) (y : AI), xs[j]? = some y → y.op.isR = false → y.op.isAlc = false → i ≤ j → ¬ j < m := fun j y hy hr ha hle h => by
      rw [hW j y hy hr, hord j y hy (by simp [clash, hr, hn, hnv, hver, ha, hnf])] at h
      simp at h; omega
     have e3 : step1 Γ x ⟨eS xs val s.e fun j => listed.getD j false, (f m).h⟩ = some (val i, (f m).h) := by
      rcases Nat.le_total m i with hmi | hmi
      ·cases hp : x.op.isLdp with
       | false =>
        have hh : (f m).h = (f i).h := heap_same' (fun k x hx => (hk k x hx).1) m i hm (by omega) fun j y hy hr => ⟨fun h => by omega, early hp j y hy hr⟩
        have e2 := step1_R hRx e1
        rw [hh, e1, e2]
       | true =>
        obtain ⟨sz, agg, t0, hxo⟩ : ∃ sz agg t0, x.op = .load sz agg (.t t0) := by
         unfold AOp.isLdp at hp
         split at hp
         ·exact ⟨_, _, _, by assumption⟩
         ·cases hp
        obtain ⟨bs, hb⟩ := heap_grows (fun k x hx => (hk k x hx).1) m i hmi (by omega) fun j y hy h1 h2 hr => by
         cases ha : y.op.isAlc with
         | true => rfl
         | false => have := early' j y hy hr ha h2; omega
        rw [hb] at e1
        refine step1_ldp hxo (fun b v i o he => ?_) e1
        have hv := E.2 t0
        rw [he] at hv
        generalize a.tmps.getD t0 Go.undef = u at hv
        rcases Nat.lt_or_ge b (f m).h.length with hlt | hge
        ·exact hlt
        ·cases hv with
         | pure _ _ hv => cases hv
         | ptr _ _ _ _ bd c h1 h2 => rw [R.fresh b v hge] at h1; cases h1
      ·obtain ⟨bs, hb⟩ := heap_grows (fun k x hx => (hk k x hx).1) i m hmi hm fun j y hy h1 h2 hr => by
        cases ha : y.op.isAlc with
        | true => rfl
        | false => exact absurd h2 (late j y hy hr ha h1)
       rw [hb]
       exact step1_ld hld e1 bs
     refine ⟨m, e3, hm, fun j y hy hr => ?_⟩
     rw [hW j y hy hr]
     constructor
     ·exact .inr
     ·rintro (rfl | h)
      ·rw [hx] at hy; cases hy
       rw [hRx] at hr; cases hr
      ·exact h
    have hld : x.op.isLd = false := by simpa using hld
    have hh : (f m).h = (f i).h := heap_same' (fun k x hx => (hk k x hx).1) m i hm (by omega) fun j y hy hr => by
     rw [hW j y hy hr, hord j y hy (by simp [clash, hr, hn, hnv, hver, hld, hnf])]; simp
    have e1 : step1 Γ x ⟨eS xs val s.e fun j => listed.getD j false, (f m).h⟩ = some (val i, (f (i + 1)).h) := by rw [hh, step1_congr hagree]; exact hst
    by_cases hR : x.op.isR = true
    ·have e2 := step1_R hR e1
     refine ⟨m, by rw [e1, e2], hm, fun j y hy hr => ?_⟩
     rw [hW j y hy hr]
     constructor
     ·exact .inr
     ·rintro (rfl | h)
      ·rw [hx] at hy; cases hy
       rw [hR] at hr; cases hr
      ·exact h
    ·refine ⟨i + 1, e1, by omega, fun j y hy hr => ?_⟩
     have h2 := hord j y hy (by simp [clash, hr, hn, hnv, hver, hld, hnf])
     rw [h2]
     simp only [decide_eq_true_eq]
     omega
  obtain ⟨m', hstep, hm', hW'⟩ := hstep
  have hok := hoks i o x (by simpa using ho) hx
  unfold wpOp
  simp only [ho]
  refine step1_wp (s := ⟨eS xs val s.e fun j => listed.getD j false, (f m).h⟩) R hΓ E hok hstep fun u w' β' R' F' hv => ?_
  have hset : ∀ j, (listed.setIfInBounds i true).getD j false = true ↔ (j = i ∨ listed.getD j false = true) := by
   intro j
   by_cases hji : j = i
   ·subst hji; simp [hil]
   ·rw [getD_set_ne false (fun e => hji e.symm)]; simp [hji]
  refine ih (listed.setIfInBounds i true) (a.put x.dst u) w' β' m' (by simp [hsz]) ?_ hm' ?_ (fun j y hy hr => by rw [hset]; exact hW' j y hy hr) R' (F.trans F') ?_ (hd.trans (Keeps.put a x.dst u (hWs x (List.mem_of_getElem? hx))))
  ·rw [Array.toList_setIfInBounds, List.count_set (by simpa using hil)]
   have hb : listed.toList[i]'(by simpa using hil) = false := by simp [hil] at hSi; simpa using hSi
   rw [hcnt, hb]; simp
  ·intro j q hj hq
   rw [hset] at hj ⊢
   rcases hj with rfl | hj
   ·exact .inr (hwait q hq)
   ·exact .inr (hcl j q hj hq)
  ·have hd2 : (optL x.dst).all (fun t => decide (t < n)) = true := by
    unfold okAI at hok
    simp only [Bool.and_eq_true] at hok
    exact hok.1.1.2
   have := (E.fr F').putO hd2 hv
   rw [← eS_put (S' := fun j => (listed.setIfInBounds i true).getD j false) D hx ((hset i).2 (.inl rfl)) (fun j hj => by rw [getD_set_ne false (fun e => hj e.symm)]) (f m').h] at this
   exact this
theorem flat_any (hm : P.follows .mixedOrders = true) (hΓ : TabOK P Γ) {W : Nat → Bool} (hWs : ∀ x ∈ xs, ∀ t, x.dst = some t → W t = true) {n : Nat} {ops : Array Oper} {Q : Exit → Act → World → Prop} (ok : okAIs P n ops.toList ops.toList xs = true) (oka : okAny ops.toList xs = true)
  {s s' : St} (hf : flat Γ xs s = some s') {a : Act} {w : World} {β : Bds} (R : Rel Z β s.h w) (E : EnvR Z β s.h w s.e a n) {id : Nat}
  (k : ∀ a' w' β', Rel Z β' s'.h w' → Fr Z β s.h w β' s'.h w' → EnvR Z β' s'.h w' s'.e a' n → Keeps W a a' → Q .normal a' w') : (Code.region id ops true).wp P Q a w := by
 unfold okAny at oka
 simp only [Bool.and_eq_true] at oka
 obtain ⟨f, val, f0, fn, hk⟩ := lex_run xs s s' hf
 have F1 : Fr Z β s.h w β s.h { w with drawn := w.drawn + 1 } := ⟨fun _ _ _ => rfl, rfl, rfl, rfl, fun _ _ _ e => e, Stay.drew (Stay.refl _ _)⟩
 have R1 : Rel Z β s.h { w with drawn := w.drawn + 1 } := (R.drawn _).1
 refine wp_region_any hm (flat_any_go hΓ hWs ok oka.1 oka.2 f0 fn hk (β0 := β) (w0 := w) (a0 := a) k ops.size (Array.replicate ops.size false) a _ β 0 (by simp) (by simp) (Nat.zero_le _) ?_ ?_ (by rw [f0]; exact R1) (by rw [f0]; exact F1) ?_ (Keeps.refl W a))
 ·intro j i hj
  simp [Array.getElem?_replicate] at hj
  split at hj <;> simp at hj
 ·intro j x hx hr
  constructor
  ·intro h; omega
  ·intro h
   simp [Array.getElem?_replicate] at h
   split at h <;> simp at h
 ·rw [f0]
  have : (eS xs val s.e fun j => (Array.replicate ops.size false).getD j false) = s.e := by
   funext t
   refine eS_not fun j x _ _ => ?_
   simp [Array.getElem?_replicate]
   split <;> simp
  rw [this]
  exact E.fr F1
end
end Go.Am

/-
 The abstract machine: loops' heads.
-/
namespace Go.Am
structure FrV (V : Nat → Bool) (Z : Nat → Prop) (β : Bds) (h : AH) (w : World) (β' : Bds) (h' : AH) (w' : World) : Prop where
 xkeep : ∀ b, b < w.heap.size → Z b → w'.heap[b]? = w.heap[b]?
 os : w'.os = w.os
 tape : w'.tape = w.tape
 output : w'.output = w.output
 ext : ∀ i v bd, V i = false → β i v = some bd → β' i v = some bd
 stay : Stay (Own Z β h) w (Own Z β' h') w'
theorem Fr.toV {V : Nat → Bool} {Z : Nat → Prop} {β β' : Bds} {h h' : AH} {w w' : World} (f : Fr Z β h w β' h' w') : FrV V Z β h w β' h' w' :=
 ⟨f.xkeep, f.os, f.tape, f.output, fun i v bd _ e => f.ext i v bd e, f.stay⟩
theorem FrV.trans {V : Nat → Bool} {Z : Nat → Prop} {β β' β'' : Bds} {h h' h'' : AH} {w w' w'' : World} (a : FrV V Z β h w β' h' w') (b : FrV V Z β' h' w' β'' h'' w'') : FrV V Z β h w β'' h'' w'' :=
 ⟨fun k hk hx => (b.xkeep k (Nat.lt_of_lt_of_le hk a.stay.1) hx).trans (a.xkeep k hk hx), b.os.trans a.os, b.tape.trans a.tape, b.output.trans a.output,
  fun i v bd hv e => b.ext i v bd hv (a.ext i v bd hv e), a.stay.trans b.stay⟩
section
variable {P : Program} {Z : Nat → Prop} {β : Bds} {h : AH} {w : World}
def ver (h : AH) (i : Nat) : Nat := match h[i]? with
 | some (.row v _ _) => v
 | some (.fro v _ _) => v
 | _ => 0
def bdH (β : Bds) (h : AH) (L : Nat) (R : List Nat) : Bds := fun i v => if i < L then (if R.contains i then (if v = 0 then β i (ver h i) else none) else β i v) else none
theorem normH_get (L : Nat) (R : List Nat) (h : AH) : ∀ (l : AH) (k i : Nat), (normH L R h k l)[i]? = (l[i]?).map (normB L R h (k + i))
 | [], k, i => by simp [normH]
 | b :: l, k, i => by
  cases i with
  | zero => simp [normH]
  | succ i =>
   simp only [normH, List.getElem?_cons_succ]
   rw [normH_get L R h l (k + 1) i, show k + 1 + i = k + (i + 1) from by omega]
theorem normH_length (L : Nat) (R : List Nat) (h : AH) : ∀ (l : AH) (k : Nat), (normH L R h k l).length = l.length
 | [], _ => rfl
 | _ :: l, k => by simp [normH, normH_length L R h l]
theorem head_get {L : Nat} {R : List Nat} {i : Nat} {X' : AB} (hX : (normH L R h 0 (h.take L))[i]? = some X') : ∃ X, h[i]? = some X ∧ i < L ∧ X' = normB L R h i X := by
 rw [normH_get, Nat.zero_add] at hX
 rw [List.getElem?_take] at hX
 split at hX
 ·rename_i hlt
  cases hx : h[i]? with
  | none => rw [hx] at hX; cases hX
  | some X => rw [hx] at hX; simp at hX; exact ⟨X, rfl, hlt, hX.symm⟩
 ·cases hX
theorem owned_head {L : Nat} {R : List Nat} {i c : Nat} (ho : owned (bdH β h L R) (normH L R h 0 (h.take L)) i c) : owned β h i c ∧ i < L := by
 obtain ⟨X', hX', bd, hcb, hm⟩ := ho
 obtain ⟨X, hX, hi, rfl⟩ := head_get hX'
 refine ⟨⟨X, hX, bd, hcb, ?_⟩, hi⟩
 cases X with
 | gone => exact hm
 | var cs =>
  simp only [normB, bdH, if_pos hi] at hm ⊢
  have hv : ver h i = 0 := by unfold ver; rw [hX]
  rw [hv] at hm
  split at hm <;> simpa using hm
 | row v sz es =>
  simp only [normB, bdH, if_pos hi] at hm ⊢
  have hv : ver h i = v := by unfold ver; rw [hX]
  rw [hv] at hm
  split at hm <;> simpa using hm
 | fro v sz es => exact hm
 | mp es =>
  simp only [normB, bdH, if_pos hi] at hm ⊢
  have hv : ver h i = 0 := by unfold ver; rw [hX]
  rw [hv] at hm
  split at hm <;> simpa using hm
theorem own_head {L : Nat} {R : List Nat} {c : Nat} (ho : Own Z (bdH β h L R) (normH L R h 0 (h.take L)) c) : Own Z β h c := by
 rcases ho with ho | ⟨i, ho⟩
 ·exact .inl ho
 ·exact .inr ⟨i, (owned_head ho).1⟩
theorem stay_head {L : Nat} {R : List Nat} : Stay (Own Z β h) w (Own Z (bdH β h L R) (normH L R h 0 (h.take L))) w :=
 ⟨Nat.le_refl _, fun _ _ hO => ⟨rfl, fun h => hO (own_head h)⟩⟩
theorem bdH_keep {L : Nat} {R : List Nat} {i v : Nat} {bd : Bd} (hi : i < L) (hR : R.contains i = false) (hb : β i v = some bd) : bdH β h L R i v = some bd := by
 unfold bdH
 rw [if_pos hi, hR]
 simpa using hb
theorem kept_rel {L : Nat} {R : List Nat} {x : AV} {u : Value} (hx : (x.isE || match x with | .ptr b _ _ _ => decide (b < L) && !R.contains b | .mpv b => decide (b < L) && !R.contains b | _ => false) = true) (hv : VR β (Own Z β h) w x u) :
  VR (bdH β h L R) (Own Z (bdH β h L R) (normH L R h 0 (h.take L))) w x u := by
 rw [Bool.or_eq_true] at hx
 rcases hx with hx | hx
 ·exact .pure _ _ ((hv.pureE hx).mono stay_head)
 ·split at hx
  ·simp only [Bool.and_eq_true, decide_eq_true_eq, Bool.not_eq_true'] at hx
   obtain ⟨bd, c, h1, h2, rfl⟩ := hv.ptr_inv
   exact .ptr _ _ _ _ bd c (bdH_keep hx.1 hx.2 h1) h2
  ·simp only [Bool.and_eq_true, decide_eq_true_eq, Bool.not_eq_true'] at hx
   obtain ⟨bd, c, h1, h2, rfl⟩ := hv.mpv_inv
   exact .mpv _ bd c (bdH_keep hx.1 hx.2 h1) h2
  ·cases hx
theorem normS_rel (R0 : Rel Z β h w) (L : Nat) (R : List Nat) {a : AV} {v : Value} (hv : VR β (Own Z β h) w a v) :
  VR (bdH β h L R) (Own Z (bdH β h L R) (normH L R h 0 (h.take L))) w (normS L R h a) v := by
 have pure : ∀ {a : AV}, VR β (Own Z β h) w a v → VR (bdH β h L R) (Own Z (bdH β h L R) (normH L R h 0 (h.take L))) w (if a.isS then a else .dead) v := by
  intro a hv
  split
  ·rename_i hs
   exact .pure _ _ ((hv.pureS hs).mono stay_head)
  ·exact .dead v
 cases a with
 | own b vv o n =>
  simp only [normS]
  split
  ·rename_i hb
   cases hR : R.contains b with
   | false =>
    simp only [Bool.false_eq_true, if_false]
    obtain ⟨bd, a, c, h1, rfl, h2⟩ := hv.own_inv
    exact .own b vv o n bd a c (bdH_keep hb hR h1) h2
   | true =>
    simp only [if_true]
    obtain ⟨bd, a, c, h1, rfl, h2⟩ := hv.own_inv
    have go : ver h b = vv → VR (bdH β h L R) (Own Z (bdH β h L R) (normH L R h 0 (h.take L))) w (.own b 0 o n) (.slice a n c) := by
     intro hver
     refine .own b 0 o n bd a c ?_ h2
     unfold bdH
     rw [if_pos hb, hR, hver]
     simpa using h1
    split
    ·rename_i v' sz es hX
     split
     ·rename_i he; exact go (by unfold ver; rw [hX]; exact he.symm)
     ·exact .dead _
    ·rename_i v' sz es hX
     split
     ·rename_i he; exact go (by unfold ver; rw [hX]; exact he.symm)
     ·exact .dead _
    ·exact .dead _
  ·rename_i hb
   split
   ·rename_i es hes
    obtain ⟨bd, a, c, h1, rfl, h2⟩ := hv.own_inv
    refine .pure _ _ ?_
    -- the row is not one of those at the head
    simp only [elems] at hes
    have build : ∀ {cb sz : Nat} {es' : List AV}, 0 < sz → bd.sz = sz → bd.cb = some cb → (¬ Own Z (bdH β h L R) (normH L R h 0 (h.take L)) cb) → cb < w.heap.size → o + n ≤ es'.length →
      (∃ cur elem fr, w.heap[cb]? = some (.cells cur elem fr) ∧ ElemsAt (Own Z β h) w cur bd.base sz es') → PVR (Own Z (bdH β h L R) (normH L R h 0 (h.take L))) w (.lst false ((es'.drop o).take n)) (.slice a n c) := by
     intro cb sz es' hsz e1 e2 hO hlt hon hcur
     obtain ⟨cur, elem, fr, g2, g5⟩ := hcur
     have hlen : ((es'.drop o).take n).length = n := by simp; omega
     rcases h2 with ⟨z1, z2⟩ | ⟨cb', q1, q2, q3, q4⟩
     ·subst z1 z2
      have hz : (es'.drop o).take 0 = [] := by simp
      rw [hz]
      exact .lst false [] a 0 0 0 0 (fun _ _ => Go.undef) (fun h => by cases h) (Nat.le_refl _) (fun h => absurd rfl h) (fun i x hx => by simp at hx) (fun i x hx => by simp at hx) (fun i x hx => by simp at hx) (fun i x hx => by simp at hx)
     ·rw [e2] at q1
      cases q1
      rw [q2]
      have := lst_of_src (w := w) (full := false) (c := c) hsz hO hlt ((row_src (o := o) (n := n) g2 g5).mono stay_head) (fun h => by cases h) (by rw [hlen]; exact q3)
      rw [hlen] at this
      rw [e1]
      exact this
    split at hes
    ·rename_i v' sz es' hX
     split at hes
     ·rename_i hc
      cases hes
      obtain ⟨rfl, hon⟩ := hc
      obtain ⟨hsz, bd', e1, e2, e3⟩ := R0.blk b _ hX
      rw [h1] at e1; cases e1
      rcases e3 with ⟨e3, e4⟩ | ⟨cb, cur, elem, e3, e4, e5, e6, e7⟩
      ·subst e4
       have hn0 : n = 0 := by simp at hon; omega
       subst hn0
       simp only [List.drop_nil, List.take_nil]
       refine .lst false [] a c 0 0 0 (fun _ _ => Go.undef) (fun h => by cases h) (Nat.zero_le _) (fun h => absurd rfl h) (fun i x hx => by simp at hx) (fun i x hx => by simp at hx) (fun i x hx => by simp at hx) (fun i x hx => by simp at hx)
      ·have hown : owned β h b cb := ⟨_, hX, bd, e3, h1⟩
       refine build hsz e2 e3 ?_ (Array.getElem?_eq_some_iff.1 e4).1 hon ⟨cur, elem, _, e4, e7⟩
       rintro (hz | ⟨i, hi⟩)
       ·exact R0.xap b cb hown hz
       ·obtain ⟨hi, hlt⟩ := owned_head hi
        have := R0.apart i b cb hi hown
        omega
     ·cases hes
    ·rename_i v' sz es' hX
     split at hes
     ·rename_i hc
      cases hes
      obtain ⟨rfl, hon⟩ := hc
      obtain ⟨hsz, bd', e1, e2, e3⟩ := R0.blk b _ hX
      rw [h1] at e1; cases e1
      rcases e3 with ⟨e3, e4⟩ | ⟨cb, cur, elem, fr, e3, e0, e4, e5, e6, e7⟩
      ·subst e4
       have hn0 : n = 0 := by simp at hon; omega
       subst hn0
       simp only [List.drop_nil, List.take_nil]
       refine .lst false [] a c 0 0 0 (fun _ _ => Go.undef) (fun h => by cases h) (Nat.zero_le _) (fun h => absurd rfl h) (fun i x hx => by simp at hx) (fun i x hx => by simp at hx) (fun i x hx => by simp at hx) (fun i x hx => by simp at hx)
      ·exact build hsz e2 e3 (fun ho => e0 (own_head ho)) (Array.getElem?_eq_some_iff.1 e4).1 hon ⟨cur, elem, fr, e4, e7⟩
     ·cases hes
    ·cases hes
   ·exact .dead _
 | ptr b vv i o =>
  simp only [normS]
  split
  ·rename_i hb
   obtain ⟨bd, c, h1, h2, rfl⟩ := hv.ptr_inv
   refine .ptr _ _ _ _ bd c (bdH_keep hb.1 ?_ h1) h2
   cases hR : R.contains b with
   | false => rfl
   | true => exact absurd hR hb.2
  ·exact .dead _
 | mpv b =>
  simp only [normS]
  split
  ·rename_i hb
   obtain ⟨bd, c, h1, h2, rfl⟩ := hv.mpv_inv
   refine .mpv _ bd c (bdH_keep hb.1 ?_ h1) h2
   cases hR : R.contains b with
   | false => rfl
   | true => exact absurd hR hb.2
  ·exact .dead _
 | fn f a c =>
  simp only [normS]
  split
  ·rename_i hall
   cases hv with
   | pure _ _ hv => cases hv
   | fn _ _ _ va vc q1 q2 q3 q4 =>
    have hall' := List.all_eq_true.1 hall
    refine .fn _ _ _ va vc q1 q2 (fun j y u hy hu => kept_rel (hall' y ?_) (q3 j y u hy hu)) (fun j y u hy hu => kept_rel (hall' y ?_) (q4 j y u hy hu))
    ·exact List.mem_append_left _ (List.mem_of_getElem? hy)
    ·exact List.mem_append_right _ (List.mem_of_getElem? hy)
  ·exact .dead _
 | undef => rw [hv.undef_inv]; exact .undef
 | _ => exact pure hv
theorem normV_rel (R0 : Rel Z β h w) (L : Nat) (R : List Nat) {a : AV} {v : Value} (hv : VR β (Own Z β h) w a v) :
  VR (bdH β h L R) (Own Z (bdH β h L R) (normH L R h 0 (h.take L))) w (normV L R h a) v := by
 unfold normV
 split
 ·rename_i hE
  exact .pure _ _ ((hv.pureE hE).mono stay_head)
 ·split
  ·rename_i cs hne
   obtain ⟨vs, rfl, hl, h1, h2⟩ := hv.agg_inv
   refine .agg _ vs (by simpa using hl) h1 fun j y u hy hu => ?_
   rw [List.getElem?_map] at hy
   cases hc : cs[j]? with
   | none => rw [hc] at hy; cases hy
   | some y' =>
    rw [hc] at hy
    simp only [Option.map_some, Option.some.injEq] at hy
    subst hy
    exact normS_rel R0 L R (h2 j y' u hc hu)
  ·exact normS_rel R0 L R hv
theorem head_rel (R0 : Rel Z β h w) (L : Nat) (R : List Nat) : Rel Z (bdH β h L R) (normH L R h 0 (h.take L)) w := by
 refine ⟨R0.xlt, fun i c ho => R0.xap i c (owned_head ho).1, fun i v hi => ?_, fun i v sz es v' hX hv => ?_, fun i X' hX => ?_, fun i j c hi hj => R0.apart i j c (owned_head hi).1 (owned_head hj).1⟩
 ·rw [normH_length, List.length_take] at hi
  unfold bdH
  split
  ·rename_i hlt
   have hh : h.length ≤ i := by omega
   simp only [R0.fresh i _ hh]
   split
   ·split <;> rfl
   ·rfl
  ·rfl
 ·obtain ⟨X, hX', hi, he⟩ := head_get hX
  cases X with
  | row v0 sz0 es0 =>
   simp only [normB, AB.row.injEq] at he
   obtain ⟨rfl, rfl, rfl⟩ := he
   unfold bdH
   rw [if_pos hi]
   split
   ·rename_i hR
    rw [if_pos hR] at hv
    rw [if_neg (by omega)]
   ·rename_i hR
    rw [if_neg hR] at hv
    exact R0.later i v0 sz es v' hX' hv
  | _ => simp [normB] at he
 ·obtain ⟨X, hX', hi, rfl⟩ := head_get hX
  have hb := R0.blk i X hX'
  cases X with
  | gone => trivial
  | var cs =>
   obtain ⟨c, cur, elem, e1, e2, e3, e4⟩ := hb
   have hv : ver h i = 0 := by unfold ver; rw [hX']
   refine ⟨c, cur, elem, ?_, e2, by simpa using e3, fun j y hy => ?_⟩
   ·unfold bdH
    rw [if_pos hi, hv]
    simp only [List.length_map]
    split <;> simpa using e1
   ·rw [List.getElem?_map] at hy
    cases hc : cs[j]? with
    | none => rw [hc] at hy; cases hy
    | some y' =>
     rw [hc] at hy
     simp only [Option.map_some, Option.some.injEq] at hy
     subst hy
     obtain ⟨u, k1, k2, k3⟩ := e4 j y' hc
     exact ⟨u, k1, k2, normS_rel R0 L R k3⟩
  | mp es =>
   obtain ⟨c, arr, clock, e1, e2, e3, e4⟩ := hb
   have hv : ver h i = 0 := by unfold ver; rw [hX']
   refine ⟨c, arr, clock, ?_, e2, by simpa using e3, fun j p hp => ?_⟩
   ·unfold bdH
    rw [if_pos hi, hv]
    split <;> simpa using e1
   ·rw [List.getElem?_map] at hp
    cases hc : es[j]? with
    | none => rw [hc] at hp; cases hp
    | some p' =>
     rw [hc] at hp
     simp only [Option.map_some, Option.some.injEq] at hp
     subst hp
     obtain ⟨e, k1, k2, k3, k4⟩ := e4 j p' hc
     exact ⟨e, k1, k2, k3, normS_rel R0 L R k4⟩
  | row v sz es =>
   obtain ⟨hsz, bd, e1, e2, e3⟩ := hb
   have hv : ver h i = v := by unfold ver; rw [hX']
   refine ⟨hsz, bd, ?_, e2, ?_⟩
   ·unfold bdH
    rw [if_pos hi, hv]
    split
    ·simpa using e1
    ·exact e1
   ·rcases e3 with e3 | ⟨c, cur, elem, k1, k2, k3, k4, k5⟩
    ·exact .inl e3
    ·exact .inr ⟨c, cur, elem, k1, k2, k3, k4, SrcAt.mono stay_head k5⟩
  | fro v sz es =>
   obtain ⟨hsz, bd, e1, e2, e3⟩ := hb
   have hv : ver h i = v := by unfold ver; rw [hX']
   refine ⟨hsz, bd, ?_, e2, ?_⟩
   ·unfold bdH
    rw [if_pos hi, hv]
    split
    ·simpa using e1
    ·exact e1
   ·rcases e3 with e3 | ⟨c, cur, elem, fr, k1, k0, k2, k3, k4, k5⟩
    ·exact .inl e3
    ·exact .inr ⟨c, cur, elem, fr, k1, fun ho => k0 (own_head ho), k2, k3, k4, SrcAt.mono stay_head k5⟩
theorem head_frV {L : Nat} {R : List Nat} : FrV (volIn R L) Z β h w (bdH β h L R) (normH L R h 0 (h.take L)) w := by
 refine ⟨fun _ _ _ => rfl, rfl, rfl, rfl, fun i v bd hv hb => ?_, stay_head⟩
 unfold volIn at hv
 rw [Bool.or_eq_false_iff] at hv
 exact bdH_keep (by have := hv.2; simp at this; omega) hv.1 hb
theorem dropR_rel {R : List Nat} {β' : Bds} {O O' : Nat → Prop} {w' : World} (hext : ∀ i v bd, R.contains i = false → β i v = some bd → β' i v = some bd) (hst : Stay O w O' w') {a : AV} {v : Value} (hv : VR β O w a v) :
  VR β' O' w' (dropR R a) v := by
 have one : ∀ {x : AV} {u : Value}, (x.isE || match x with | .ptr b _ _ _ => !R.contains b | .own b _ _ _ => !R.contains b | .mpv b => !R.contains b | _ => false) = true → VR β O w x u → VR β' O' w' x u := by
  intro x u hx hv
  rw [Bool.or_eq_true] at hx
  rcases hx with hx | hx
  ·exact .pure _ _ ((hv.pureE hx).mono hst)
  ·split at hx
   ·obtain ⟨bd, c, h1, h2, rfl⟩ := hv.ptr_inv
    exact .ptr _ _ _ _ bd c (hext _ _ _ (by simpa using hx) h1) h2
   ·obtain ⟨bd, a, c, h1, rfl, h2⟩ := hv.own_inv
    exact .own _ _ _ _ bd a c (hext _ _ _ (by simpa using hx) h1) h2
   ·obtain ⟨bd, c, h1, h2, rfl⟩ := hv.mpv_inv
    exact .mpv _ bd c (hext _ _ _ (by simpa using hx) h1) h2
   ·cases hx
 have two : ∀ {x : AV} {u : Value}, VR β O w x u → VR β' O' w' (if (x.isE || match x with | .ptr b _ _ _ => !R.contains b | .own b _ _ _ => !R.contains b | .mpv b => !R.contains b | _ => false) = true then x else .dead) u := by
  intro x u hv
  exact iteInduction (motive := fun z => VR β' O' w' z u) (fun hx => one hx hv) (fun _ => .dead _)
 cases a with
 | agg cs =>
  simp only [dropR]
  split
  ·rename_i hall
   obtain ⟨vs, rfl, hl, h1, h2⟩ := hv.agg_inv
   exact .agg _ vs hl h1 fun j y u hy hu => one (List.all_eq_true.1 hall y (List.mem_of_getElem? hy)) (h2 j y u hy hu)
  ·exact .dead _
 | fn f a c =>
  simp only [dropR]
  split
  ·rename_i hall
   cases hv with
   | pure _ _ hv => cases hv
   | fn _ _ _ va vc q1 q2 q3 q4 =>
    have hall' := List.all_eq_true.1 hall
    refine .fn _ _ _ va vc q1 q2 (fun j y u hy hu => one (hall' y ?_) (q3 j y u hy hu)) (fun j y u hy hu => one (hall' y ?_) (q4 j y u hy hu))
    ·exact List.mem_append_left _ (List.mem_of_getElem? hy)
    ·exact List.mem_append_right _ (List.mem_of_getElem? hy)
  ·exact .dead _
 | undef => rw [hv.undef_inv]; exact .undef
 | rptr cs =>
  cases hv with
  | pure _ _ hv => cases hv
  | rptr _ blk o f hO hw h1 h3 h2 =>
   refine .rptr cs blk o f (hst.2 blk hw hO).2 (Nat.lt_of_lt_of_le hw hst.1) (fun j y hy => ?_) h3 (fun j y hy => (h2 j y hy).mono hst)
   rw [cell_stay hst hO hw]
   exact h1 j y hy
 | _ => exact two hv
theorem baseEnv_rel {R : List Nat} {β' : Bds} {O O' : Nat → Prop} {w' : World} (hext : ∀ i v bd, R.contains i = false → β i v = some bd → β' i v = some bd) (hst : Stay O w O' w') {e : Env} {t : Nat} {v : Value} (hv : VR β O w (e t) v) :
  VR β' O' w' (baseEnv R e t) v := by
 unfold baseEnv
 split
 ·rename_i hR
  have : R = [] := by simpa using hR
  subst this
  exact hv.mono (fun i v bd => hext i v bd rfl) hst
 ·exact dropR_rel hext hst hv
theorem lay_rel {β' : Bds} {O : Nat → Prop} {w' : World} {tm : Nat → Value} {e0 : Env} (h0 : ∀ t, VR β' O w' (e0 t) (tm t)) : ∀ (ts : List Nat) (vs : List AV), (∀ p ∈ ts.zip vs, VR β' O w' p.2 (tm p.1)) → ∀ t, VR β' O w' (e0.lay ts vs t) (tm t)
 | [], _, _, t => by simp only [Env.lay]; exact h0 t
 | _ :: _, [], _, t => by simp only [Env.lay]; exact h0 t
 | q :: ts, v :: vs, hp, t => by
  simp only [Env.lay, Env.put]
  split
  ·rename_i ht
   subst ht
   exact hp (t, v) (by simp)
  ·exact lay_rel h0 ts vs (fun p hq => hp p (by simp [hq])) t
theorem preOwn_rel {a : Act} {n : Nat} : ∀ (own : List (Nat × Nat)) (s : St) (β : Bds), own.all (fun p => decide (0 < p.2)) = true → Rel Z β s.h w → EnvR Z β s.h w s.e a n →
  ∃ β', Rel Z β' (preOwn own s).h w ∧ Fr Z β s.h w β' (preOwn own s).h w ∧ EnvR Z β' (preOwn own s).h w (preOwn own s).e a n
 | [], s, β, _, R, E => ⟨β, R, Fr.refl _ _ _ _, E⟩
 | (t, sz) :: l, s, β, ok, R, E => by
  simp only [List.all_cons, Bool.and_eq_true, decide_eq_true_eq] at ok
  unfold preOwn
  split
  ·rename_i he
   obtain ⟨β1, R1, F1, hv⟩ := R.push_none sz ok.1
   have E1 : EnvR Z β1 (s.h ++ [.row 0 sz []]) w (s.e.put t (.own s.h.length 0 0 0)) a n := by
    refine ⟨E.1, fun q => ?_⟩
    simp only [Env.put]
    split
    ·rename_i hq
     subst hq
     have h0 := E.2 q
     rw [he] at h0
     have h1 := h0.lst_inv
     generalize a.tmps.getD q Go.undef = u at h1
     cases h1 with
     | lst _ _ ad c _ _ _ _ hf _ _ _ _ _ _ =>
      have hc := hf rfl
      simp only [List.length_nil] at hc ⊢
      subst hc
      exact hv ad
    ·exact (E.2 q).fr F1
   obtain ⟨β2, R2, F2, E2⟩ := preOwn_rel l ⟨s.e.put t (.own s.h.length 0 0 0), s.h ++ [.row 0 sz []]⟩ β1 ok.2 R1 E1
   exact ⟨β2, R2, F1.trans F2, E2⟩
  ·exact preOwn_rel l s β ok.2 R E
end
end Go.Am

/-
 The abstract machine: what is done beside the code: cells' rows that are read-only from some place on, or get another block.
-/
namespace Go.Am
section
variable {P : Program} {Z : Nat → Prop} {β : Bds} {h : AH} {w : World}
theorem boxc_rel (R : Rel Z β h w) {B o : Nat} {cs : List AV} (hB : h[B]? = some (.var cs)) {y x : AV} (hy : cs[o]? = some y) (hx : ∀ v, VR β (Own Z β h) w y v → VR β (Own Z β h) w x v) :
  Rel Z β (h.set B (.var (cs.set o x))) w ∧ Fr Z β h w β (h.set B (.var (cs.set o x))) w := by
 have hlt : B < h.length := (List.getElem?_eq_some_iff.1 hB).1
 refine R.upd (X' := .var (cs.set o x)) hlt rfl rfl rfl (fun _ _ _ => rfl) (fun _ _ e => e) (fun _ _ _ _ e => by cases e) (fun c hc => ?_) (Nat.le_refl _) (fun _ _ _ => rfl) (fun hst => ?_)
 ·obtain ⟨bd, q1, q2⟩ := hc
  exact .inl ⟨_, hB, bd, q1, q2⟩
 ·obtain ⟨c, cur, elem, e1, e2, e3, e4⟩ := R.blk B _ hB
  refine ⟨c, cur, elem, by simpa using e1, e2, by simpa using e3, fun j y' hj => ?_⟩
  by_cases hjo : o = j
  ·subst hjo
   have hol : o < cs.length := (List.getElem?_eq_some_iff.1 hy).1
   rw [List.getElem?_set_self hol] at hj
   cases hj
   obtain ⟨v, k1, k2, k3⟩ := e4 o y hy
   exact ⟨v, k1, k2, (hx v k3).mono (fun _ _ _ e => e) hst⟩
  ·rw [List.getElem?_set_ne hjo] at hj
   obtain ⟨v, k1, k2, k3⟩ := e4 j y' hj
   exact ⟨v, k1, k2, k3.mono (fun _ _ _ e => e) hst⟩
theorem setC_rel {s : St} {a : Act} {n : Nat} (R : Rel Z β s.h w) (E : EnvR Z β s.h w s.e a n) {t o : Nat} {y x : AV} (hy : getC s t o = some y) (hx : ∀ v, VR β (Own Z β s.h) w y v → VR β (Own Z β s.h) w x v) :
  Rel Z β (setC s t o x).h w ∧ Fr Z β s.h w β (setC s t o x).h w ∧ EnvR Z β (setC s t o x).h w (setC s t o x).e a n := by
 unfold getC at hy
 unfold setC
 generalize he : s.e t = q at hy
 split at hy
 ·rename_i b
  split at hy
  ·rename_i cs hB
   simp only [hB]
   obtain ⟨R1, F1⟩ := boxc_rel R hB hy hx
   exact ⟨R1, F1, E.fr F1⟩
  ·cases hy
 ·rename_i cs
  refine ⟨R, Fr.refl _ _ _ _, E.1, fun q => ?_⟩
  simp only [Env.put]
  split
  ·rename_i hq
   subst hq
   have h0 := E.2 q
   rw [he] at h0
   obtain ⟨vs, hv, hl, h1, h2⟩ := h0.agg_inv
   rw [hv]
   refine .agg _ vs (by simpa using hl) h1 fun j y' u hj hu => ?_
   by_cases hjo : o = j
   ·subst hjo
    have hol : o < cs.length := (List.getElem?_eq_some_iff.1 hy).1
    rw [List.getElem?_set_self hol] at hj
    cases hj
    exact hx u (h2 o y u hy hu)
   ·rw [List.getElem?_set_ne hjo] at hj
    exact h2 j y' u hj hu
  ·exact E.2 q
 ·cases hy
theorem getC_set {s : St} {t o : Nat} {y : AV} (hy : getC s t o = some y) {h' : AH} (hh : ∀ (b : Nat) (cs : List AV), s.h[b]? = some (.var cs) → h'[b]? = some (.var cs)) : getC ⟨s.e, h'⟩ t o = some y := by
 unfold getC at hy ⊢
 split at hy
 ·rename_i b he
  simp only [he]
  split at hy
  ·rename_i cs hB
   simp only [hh b cs hB]
   exact hy
  ·cases hy
 ·rename_i cs he
  simp only [he]
  exact hy
 ·cases hy
theorem reb_rel (R : Rel Z β h w) {b v sz τ u : Nat} {es : List AV} (hb : h[b]? = some (.row v sz es)) (hτ : τ < h.length) (hne : b ≠ τ) (hβ : ∀ v', u ≤ v' → β τ v' = none) :
  ∃ β', Rel Z β' ((h.set b (.row (v + 1) sz [])).set τ (.row u sz es)) w ∧ Fr Z β h w β' ((h.set b (.row (v + 1) sz [])).set τ (.row u sz es)) w ∧
   ∀ (n : Nat) (x : Value), VR β (Own Z β h) w (.own b v 0 n) x → VR β' (Own Z β' ((h.set b (.row (v + 1) sz [])).set τ (.row u sz es))) w (.own τ u 0 n) x := by
 have hbl : b < h.length := (List.getElem?_eq_some_iff.1 hb).1
 obtain ⟨hsz, bd, b1, b2, b3⟩ := R.blk b _ hb
 obtain ⟨β', hβ'⟩ : ∃ β' : Bds, β' = fun i k => if i = τ ∧ k = u then β b v else if i = b ∧ k = v + 1 then some ⟨none, 0, 0, sz⟩ else β i k := ⟨_, rfl⟩
 have e1 : β' τ u = some bd := by rw [hβ']; simp [b1]
 have e2 : ∀ i k, ¬ (i = τ ∧ k = u) → ¬ (i = b ∧ k = v + 1) → β' i k = β i k := fun i k hh h2 => by rw [hβ']; simp only; rw [if_neg hh, if_neg h2]
 have e3 : β' b (v + 1) = some ⟨none, 0, 0, sz⟩ := by rw [hβ']; simp only; rw [if_neg (fun hh => hne hh.1)]; simp
 have ext : ∀ i k bd, β i k = some bd → β' i k = some bd := fun i k bd' hh => by
  rw [e2 i k ?_ ?_]
  ·exact hh
  ·rintro ⟨rfl, rfl⟩
   rw [hβ k (Nat.le_refl _)] at hh
   cases hh
  ·rintro ⟨rfl, rfl⟩
   rw [R.later i v sz es (v + 1) hb (by omega)] at hh
   cases hh
 obtain ⟨h', hh'⟩ : ∃ h', h' = (h.set b (.row (v + 1) sz [])).set τ (.row u sz es) := ⟨_, rfl⟩
 have gτ : h'[τ]? = some (.row u sz es) := by rw [hh']; exact List.getElem?_set_self (by simpa using hτ)
 have gb : h'[b]? = some (.row (v + 1) sz []) := by rw [hh', List.getElem?_set_ne (Ne.symm hne)]; exact List.getElem?_set_self hbl
 have go : ∀ i, i ≠ τ → i ≠ b → h'[i]? = h[i]? := fun i i1 i2 => by rw [hh', List.getElem?_set_ne (Ne.symm i1), List.getElem?_set_ne (Ne.symm i2)]
 have own : ∀ {i c}, owned β' h' i c → (i = τ ∧ owned β h b c) ∨ (i ≠ τ ∧ i ≠ b ∧ owned β h i c) := by
  rintro i c ⟨X, hX, bd', q1, q2⟩
  by_cases i1 : i = τ
  ·subst i1
   rw [gτ] at hX
   cases hX
   simp only [e1] at q2
   cases q2
   exact .inl ⟨rfl, _, hb, bd, q1, b1⟩
  ·by_cases i2 : i = b
   ·subst i2
    rw [gb] at hX
    cases hX
    simp only [e3, Option.some.injEq] at q2
    rw [← q2] at q1
    cases q1
   ·rw [go i i1 i2] at hX
    refine .inr ⟨i1, i2, X, hX, bd', q1, ?_⟩
    cases X <;> simp only at q2 ⊢ <;> first | (rw [e2 i _ (fun hh => i1 hh.1) (fun hh => i2 hh.1)] at q2; exact q2) | exact q2
 have own' : ∀ {c}, Own Z β' h' c → Own Z β h c := by
  rintro c (hz | ⟨i, ho⟩)
  ·exact .inl hz
  ·rcases own ho with ⟨_, ho⟩ | ⟨_, _, ho⟩
   ·exact .inr ⟨b, ho⟩
   ·exact .inr ⟨i, ho⟩
 have st : Stay (Own Z β h) w (Own Z β' h') w := ⟨Nat.le_refl _, fun c _ hO => ⟨rfl, fun hh => hO (own' hh)⟩⟩
 have vr : ∀ {y : AV} {x : Value}, VR β (Own Z β h) w y x → VR β' (Own Z β' h') w y x := fun hv => hv.mono ext st
 rw [← hh']
 refine ⟨β', ⟨R.xlt, fun i c ho => ?_, fun i k hi => ?_, fun i k sz' es' v' hX hv => ?_, fun i X hX => ?_, fun i j c hi hj => ?_⟩, ⟨fun _ _ _ => rfl, rfl, rfl, rfl, ext, st⟩, fun n x hv => ?_⟩
 ·rcases own ho with ⟨_, ho⟩ | ⟨_, _, ho⟩
  ·exact R.xap b c ho
  ·exact R.xap i c ho
 ·have hi : h.length ≤ i := by rw [hh'] at hi; simpa using hi
  rw [e2 i k (fun hh => by omega) (fun hh => by omega)]
  exact R.fresh i k hi
 ·by_cases i1 : i = τ
  ·subst i1
   rw [gτ] at hX
   cases hX
   rw [e2 i v' (fun hh => by omega) (fun hh => hne hh.1.symm)]
   exact hβ v' (by omega)
  ·by_cases i2 : i = b
   ·subst i2
    rw [gb] at hX
    cases hX
    rw [e2 i v' (fun hh => i1 hh.1) (fun hh => by omega)]
    exact R.later i v sz es v' hb (by omega)
   ·rw [go i i1 i2] at hX
    rw [e2 i v' (fun hh => i1 hh.1) (fun hh => i2 hh.1)]
    exact R.later i k sz' es' v' hX hv
 ·by_cases i1 : i = τ
  ·subst i1
   rw [gτ] at hX
   cases hX
   refine ⟨hsz, bd, e1, b2, ?_⟩
   rcases b3 with b3 | ⟨c, cur, elem, k1, k2, k3, k4, k5⟩
   ·exact .inl b3
   ·exact .inr ⟨c, cur, elem, k1, k2, k3, k4, SrcAt.mono st k5⟩
  ·by_cases i2 : i = b
   ·subst i2
    rw [gb] at hX
    cases hX
    exact ⟨hsz, _, e3, rfl, .inl ⟨rfl, rfl⟩⟩
   ·rw [go i i1 i2] at hX
    have hr := R.blk i X hX
    exact hr.mono st ext (fun _ _ => rfl)
 ·rcases own hi with ⟨rfl, hi⟩ | ⟨i1, i2, hi⟩
  ·rcases own hj with ⟨rfl, hj⟩ | ⟨j1, j2, hj⟩
   ·rfl
   ·exact absurd (R.apart _ _ _ hi hj).symm j2
  ·rcases own hj with ⟨rfl, hj⟩ | ⟨j1, j2, hj⟩
   ·exact absurd (R.apart _ _ _ hi hj) i2
   ·exact R.apart _ _ _ hi hj
 ·obtain ⟨bd', ad, c, h1, rfl, h2⟩ := hv.own_inv
  rw [b1] at h1
  cases h1
  exact .own τ u 0 n bd ad c e1 h2
theorem gone_rel (R : Rel Z β h w) : Rel Z β (h ++ [.gone]) w ∧ Fr Z β h w β (h ++ [.gone]) w := by
 have own : ∀ {i c}, owned β (h ++ [.gone]) i c → owned β h i c := by
  rintro i c ⟨X, hX, q⟩
  by_cases hi : i < h.length
  ·rw [List.getElem?_append_left hi] at hX
   exact ⟨X, hX, q⟩
  ·rw [List.getElem?_append_right (by omega)] at hX
   have : X = .gone := by
    cases hk : i - h.length with
    | zero => rw [hk] at hX; simp at hX; exact hX.symm
    | succ k => rw [hk] at hX; simp at hX
   subst this
   obtain ⟨_, _, q⟩ := q
   exact q.elim
 have st : Stay (Own Z β h) w (Own Z β (h ++ [.gone])) w := ⟨Nat.le_refl _, fun c _ hO => ⟨rfl, fun hh => hO (by
  rcases hh with hz | ⟨i, ho⟩
  ·exact .inl hz
  ·exact .inr ⟨i, own ho⟩)⟩⟩
 refine ⟨⟨R.xlt, fun i c ho => R.xap i c (own ho), fun i k hi => R.fresh i k (by simp at hi; omega), fun i k sz es v' hX hv => ?_, fun i X hX => ?_, fun i j c hi hj => R.apart i j c (own hi) (own hj)⟩, ⟨fun _ _ _ => rfl, rfl, rfl, rfl, fun _ _ _ e => e, st⟩⟩
 ·by_cases hi : i < h.length
  ·rw [List.getElem?_append_left hi] at hX
   exact R.later i k sz es v' hX hv
  ·exact R.fresh i v' (by omega)
 ·by_cases hi : i < h.length
  ·rw [List.getElem?_append_left hi] at hX
   exact (R.blk i X hX).mono st (fun _ _ _ e => e) (fun _ _ => rfl)
  ·rw [List.getElem?_append_right (by omega)] at hX
   have : X = .gone := by
    cases hk : i - h.length with
    | zero => rw [hk] at hX; simp at hX; exact hX.symm
    | succ k => rw [hk] at hX; simp at hX
   subst this
   trivial
theorem frz1_rel {s s' : St} {a : Act} {n : Nat} (R : Rel Z β s.h w) (E : EnvR Z β s.h w s.e a n) {p : Nat × Nat} (hf : frz1 s p = some s') :
  Rel Z β s'.h w ∧ Fr Z β s.h w β s'.h w ∧ EnvR Z β s'.h w s'.e a n := by
 unfold frz1 at hf
 simp only [Option.bind_eq_some_iff] at hf
 obtain ⟨y, hy, ⟨y', h'⟩, hp, hf⟩ := hf
 cases hf
 dsimp only
 by_cases hS : y.isS = true
 ·have : purS s.h y = some (y, s.h) := by
   cases y <;> simp [AV.isS] at hS <;> simp [purS, AV.isS]
  rw [this] at hp
  cases hp
  exact setC_rel R E hy (fun _ hv => hv)
 ·cases y with
  | own b v o m =>
   have hvar : ∀ (k : Nat) (cs : List AV), s.h[k]? = some (.var cs) → h'[k]? = some (.var cs) := by
    intro k cs hk
    unfold purS at hp
    dsimp only at hp
    split at hp
    ·rename_i v' sz es hb
     split at hp
     ·cases hp
      have hkb : b ≠ k := by
       rintro rfl
       rw [hb] at hk; cases hk
      rw [List.getElem?_set_ne hkb]
      exact hk
     ·cases hp
    ·split at hp
     ·cases hp; exact hk
     ·cases hp
    ·cases hp
   -- the rows, read-only
   have key : ∃ F : Rel Z β h' w, Fr Z β s.h w β h' w := by
    unfold purS at hp
    dsimp only at hp
    split at hp
    ·rename_i v' sz es hb
     split at hp
     ·cases hp
      obtain ⟨R', F⟩ := R.freeze hb
      exact ⟨R', F⟩
     ·cases hp
    ·split at hp
     ·cases hp; exact ⟨R, Fr.refl _ _ _ _⟩
     ·cases hp
    ·cases hp
   obtain ⟨R1, F1⟩ := key
   have hy1 : getC ⟨s.e, h'⟩ p.1 p.2 = some (.own b v o m) := getC_set hy hvar
   obtain ⟨r1, r2, r3⟩ := setC_rel (s := ⟨s.e, h'⟩) (x := y') R1 (E.fr F1) hy1 (fun u hv => by
    obtain ⟨bd, ad, c, h1, rfl, h2⟩ := hv.own_inv
    obtain ⟨_, _, V, _⟩ := purS_rel R hp (.own b v o m bd ad c h1 h2)
    exact V)
   exact ⟨r1, F1.trans r2, r3⟩
  | _ => simp [purS, AV.isS] at hp hS
theorem frzA_rel : ∀ (g : List (Nat × Nat)) {s s' : St} {a : Act} {n : Nat}, Rel Z β s.h w → EnvR Z β s.h w s.e a n → frzA g s = some s' →
  Rel Z β s'.h w ∧ Fr Z β s.h w β s'.h w ∧ EnvR Z β s'.h w s'.e a n
 | [], s, s', a, n, R, E, hf => by
  cases hf
  exact ⟨R, Fr.refl _ _ _ _, E⟩
 | p :: l, s, s', a, n, R, E, hf => by
  simp only [frzA, Option.bind_eq_some_iff] at hf
  obtain ⟨s1, h1, hf⟩ := hf
  obtain ⟨R1, F1, E1⟩ := frz1_rel R E h1
  obtain ⟨R2, F2, E2⟩ := frzA_rel l R1 E1 hf
  exact ⟨R2, F1.trans F2, E2⟩
theorem fresh1_rel {s : St} {a : Act} {n : Nat} (R : Rel Z β s.h w) (E : EnvR Z β s.h w s.e a n) {p : Nat × Nat × Nat} (hsz : 0 < p.2.2) :
  ∃ β', Rel Z β' (fresh1 s p).h w ∧ Fr Z β s.h w β' (fresh1 s p).h w ∧ EnvR Z β' (fresh1 s p).h w (fresh1 s p).e a n := by
 have gone : ∃ β', Rel Z β' (s.h ++ [.gone]) w ∧ Fr Z β s.h w β' (s.h ++ [.gone]) w ∧ EnvR Z β' (s.h ++ [.gone]) w s.e a n := by
  obtain ⟨R1, F1⟩ := gone_rel R
  exact ⟨β, R1, F1, E.fr F1⟩
 unfold fresh1
 split
 ·rename_i b v m hy
  split
  ·rename_i v' sz es hb
   split
   ·rename_i hc
    obtain ⟨rfl, rfl⟩ := hc
    have hbl : b < s.h.length := (List.getElem?_eq_some_iff.1 hb).1
    obtain ⟨R0, F0⟩ := gone_rel R
    have hb0 : (s.h ++ [AB.gone])[b]? = some (.row v sz es) := by rw [List.getElem?_append_left hbl]; exact hb
    obtain ⟨β1, R1, F1, V1⟩ := reb_rel R0 hb0 (τ := s.h.length) (u := 0) (by simp) (by omega) (fun k _ => R.fresh _ _ (Nat.le_refl _))
    have he : ((s.h ++ [AB.gone]).set b (.row (v + 1) sz [])).set s.h.length (.row 0 sz es) = s.h.set b (.row (v + 1) sz []) ++ [.row 0 sz es] := by
     rw [List.set_append_left _ _ hbl, List.set_append_right _ _ (by simp)]
     simp
    rw [he] at R1 F1 V1
    have F01 := F0.trans F1
    have hy1 : getC ⟨s.e, s.h.set b (.row (v + 1) sz []) ++ [.row 0 sz es]⟩ p.1 p.2.1 = some (.own b v 0 es.length) := getC_set hy (fun k cs hk => by
     have hkl : k < s.h.length := (List.getElem?_eq_some_iff.1 hk).1
     rw [List.getElem?_append_left (by simpa using hkl), List.getElem?_set_ne]
     ·exact hk
     ·rintro rfl
      rw [hb] at hk; cases hk)
    obtain ⟨r1, r2, r3⟩ := setC_rel (s := ⟨s.e, s.h.set b (.row (v + 1) sz []) ++ [.row 0 sz es]⟩) (x := .own s.h.length 0 0 es.length) R1 (E.fr F01) hy1 (fun u hv => by
     obtain ⟨bd, ad, c, h1, rfl, h2⟩ := hv.own_inv
     refine V1 es.length _ ?_
     have hrow := (R.blk b _ hb)
     obtain ⟨_, bd', q1, _⟩ := hrow
     have := F01.ext _ _ _ q1
     rw [this] at h1
     cases h1
     exact .own b v 0 es.length bd ad c q1 h2)
    exact ⟨β1, r1, F01.trans r2, r3⟩
   ·exact gone
  ·exact gone
 ·rename_i hy
  obtain ⟨β1, R1, F1, V1⟩ := R.push_none p.2.2 hsz
  have hy1 : getC ⟨s.e, s.h ++ [.row 0 p.2.2 []]⟩ p.1 p.2.1 = some (.lst true []) := getC_set hy (fun k cs hk => by
   rw [List.getElem?_append_left (List.getElem?_eq_some_iff.1 hk).1]
   exact hk)
  obtain ⟨r1, r2, r3⟩ := setC_rel (s := ⟨s.e, s.h ++ [.row 0 p.2.2 []]⟩) (x := .own s.h.length 0 0 0) R1 (E.fr F1) hy1 (fun u hv => by
   have h1 := hv.lst_inv
   cases h1 with
   | lst _ _ ad c _ _ _ _ hf _ _ _ _ _ _ =>
    have hc := hf rfl
    simp only [List.length_nil] at hc ⊢
    subst hc
    exact V1 ad)
  exact ⟨β1, r1, F1.trans r2, r3⟩
 ·exact gone
theorem freshA_rel : ∀ (ad : List (Nat × Nat × Nat)) {s : St} {β : Bds} {a : Act} {n : Nat}, ad.all (fun p => decide (0 < p.2.2)) = true → Rel Z β s.h w → EnvR Z β s.h w s.e a n →
  ∃ β', Rel Z β' (freshA ad s).h w ∧ Fr Z β s.h w β' (freshA ad s).h w ∧ EnvR Z β' (freshA ad s).h w (freshA ad s).e a n
 | [], s, β, a, n, _, R, E => ⟨β, R, Fr.refl _ _ _ _, E⟩
 | p :: l, s, β, a, n, ok, R, E => by
  simp only [List.all_cons, Bool.and_eq_true, decide_eq_true_eq] at ok
  obtain ⟨β1, R1, F1, E1⟩ := fresh1_rel R E ok.1
  obtain ⟨β2, R2, F2, E2⟩ := freshA_rel l ok.2 R1 E1
  exact ⟨β2, R2, F1.trans F2, E2⟩
theorem reb1_rel {s : St} {a : Act} {n : Nat} (R : Rel Z β s.h w) (E : EnvR Z β s.h w s.e a n) (τ : Nat) (p : Nat × Nat × Nat) :
  ∃ β', Rel Z β' (reb1 τ s p).h w ∧ Fr Z β s.h w β' (reb1 τ s p).h w ∧ EnvR Z β' (reb1 τ s p).h w (reb1 τ s p).e a n := by
 have same : ∃ β', Rel Z β' s.h w ∧ Fr Z β s.h w β' s.h w ∧ EnvR Z β' s.h w s.e a n := ⟨β, R, Fr.refl _ _ _ _, E⟩
 unfold reb1
 split
 ·rename_i b v m hy
  split
  ·exact same
  ·rename_i hne
   split
   ·rename_i v' sz es hb
    split
    ·rename_i u sz' es' hτ
     split
     ·rename_i hc
      obtain ⟨rfl, rfl⟩ := hc
      obtain ⟨β1, R1, F1, V1⟩ := reb_rel R hb (τ := τ) (u := u + 1) (List.getElem?_eq_some_iff.1 hτ).1 hne (fun k hk => R.later τ u sz' es' k hτ (by omega))
      have hy1 : getC ⟨s.e, (s.h.set b (.row (v + 1) sz [])).set τ (.row (u + 1) sz es)⟩ p.1 p.2.1 = some (.own b v 0 es.length) := getC_set hy (fun k cs hk => by
       rw [List.getElem?_set_ne, List.getElem?_set_ne]
       ·exact hk
       ·rintro rfl
        rw [hb] at hk; cases hk
       ·rintro rfl
        rw [hτ] at hk; cases hk)
      obtain ⟨r1, r2, r3⟩ := setC_rel (s := ⟨s.e, (s.h.set b (.row (v + 1) sz [])).set τ (.row (u + 1) sz es)⟩) (x := .own τ (u + 1) 0 es.length) R1 (E.fr F1) hy1 (fun u' hv => by
       obtain ⟨bd, ad, c, h1, rfl, h2⟩ := hv.own_inv
       refine V1 es.length _ ?_
       obtain ⟨_, bd', q1, _⟩ := R.blk b _ hb
       have := F1.ext _ _ _ q1
       rw [this] at h1
       cases h1
       exact .own b v 0 es.length bd ad c q1 h2)
      exact ⟨β1, r1, F1.trans r2, r3⟩
     ·exact same
    ·exact same
   ·exact same
 ·exact same
theorem rebA_rel : ∀ (ad : List (Nat × Nat × Nat)) (τ : Nat) {s : St} {β : Bds} {a : Act} {n : Nat}, Rel Z β s.h w → EnvR Z β s.h w s.e a n →
  ∃ β', Rel Z β' (rebA τ ad s).h w ∧ Fr Z β s.h w β' (rebA τ ad s).h w ∧ EnvR Z β' (rebA τ ad s).h w (rebA τ ad s).e a n
 | [], τ, s, β, a, n, R, E => ⟨β, R, Fr.refl _ _ _ _, E⟩
 | p :: l, τ, s, β, a, n, R, E => by
  obtain ⟨β1, R1, F1, E1⟩ := reb1_rel R E τ p
  obtain ⟨β2, R2, F2, E2⟩ := rebA_rel l (τ + 1) R1 E1
  exact ⟨β2, R2, F1.trans F2, E2⟩
theorem tgt_ge : ∀ (ad : List (Nat × Nat × Nat)) (τ i : Nat), (tgt τ ad).contains i = true → τ ≤ i
 | [], τ, i, h => by simp [tgt] at h
 | _ :: l, τ, i, h => by
  simp only [tgt, List.contains_cons, Bool.or_eq_true, beq_iff_eq] at h
  rcases h with rfl | h
  ·exact Nat.le_refl _
  ·have := tgt_ge l (τ + 1) i h
   omega
end
end Go.Am

/-
 The abstract machine: code.
-/
namespace Go.Am
def AX.exit' : AX → Exit
 | .normal => .normal
 | .exit id => .exit id
 | .ret => .ret
def wrC : AC → List Nat
 | .ops l => wr l
 | .seq a b => wrC a ++ wrC b
 | .cond _ x y => wrC x ++ wrC y
 | .block _ c => wrC c
 | .loop _ _ _ _ c => wrC c
 | .scope c => wrC c
 | .gho c _ => wrC c
 | .loopA _ _ _ _ _ c => wrC c
 | _ => []
def okCode (P : Program) (n : Nat) : Code → AC → Bool
 | c, .gho c' _ => okCode P n c c'
 | .loop c, .loopA ad _ wr own _ c' => okCode P n c c' && (wrC c').all (fun t => deadIn wr t) && own.all (fun p => decide (0 < p.2)) && ad.all (fun p => decide (0 < p.2.2))
 | .skip, .skip => true
 | .label _, .skip => true
 | .region _ ops draw, .ops l => okIts [] l && okAIs P n ops.toList ops.toList (flatten l none) && (!draw || okAny ops.toList (flatten l none))
 | .seq a b, .seq a' b' => okCode P n a a' && okCode P n b b'
 | .cond c x y, .cond c' x' y' => okO c c' && okCode P n x x' && okCode P n y y'
 | .block id c, .block id' c' => decide (id = id') && okCode P n c c'
 | .loop c, .loop _ wr own _ c' => okCode P n c c' && (wrC c').all (fun t => deadIn wr t) && own.all (fun p => decide (0 < p.2))
 | .exit id, .exit id' => decide (id = id')
 | .ret, .ret => true
 | .scope c, .scope c' => okCode P n c c'
 | _, _ => false
section
variable {P : Program} {Z : Nat → Prop} {Γ : Tab}
theorem wr_flatten : ∀ (l : IT) (g : Option (Nat × Bool)) (x : AI) (t : Nat), x ∈ flatten l g → x.dst = some t → t ∈ wr l
 | .nil, g, x, t, hx, _ => by cases hx
 | .op d o rest, g, x, t, hx, hd => by
  simp only [flatten, List.mem_cons] at hx
  simp only [wr, List.mem_append]
  rcases hx with rfl | hx
  ·left; dsimp only at hd; subst hd; simp [optL]
  ·exact .inr (wr_flatten rest g x t hx hd)
 | .sc d a c lo hi l r rest, g, x, t, hx, hd => by
  simp only [flatten, List.mem_append, List.mem_cons] at hx
  simp only [wr, List.mem_append, List.mem_cons]
  rcases hx with hx | rfl | hx
  ·exact .inl (wr_flatten l _ x t hx hd)
  ·right; left; dsimp only at hd; cases hd; rfl
  ·exact .inr (.inr (wr_flatten rest g x t hx hd))
theorem region_sound (hm : P.follows .mixedOrders = true) (hΓ : TabOK P Γ) {n : Nat} {id : Nat} {ops : Array Oper} {draw : Bool} {l : IT} (ok : okCode P n (.region id ops draw) (.ops l) = true)
  {s s' : St} (hi : its Γ l s = some s') {W : Nat → Bool} (hW : ∀ t ∈ wr l, W t = true) {a : Act} {w : World} {β : Bds} (R : Rel Z β s.h w) (E : EnvR Z β s.h w s.e a n) {Q : Exit → Act → World → Prop}
  (k : ∀ a' w' β', Rel Z β' s'.h w' → Fr Z β s.h w β' s'.h w' → EnvR Z β' s'.h w' s'.e a' n → Keeps W a a' → Q .normal a' w') : (Code.region id ops draw).wp P Q a w := by
 simp only [okCode, Bool.and_eq_true] at ok
 obtain ⟨⟨ok1, ok2⟩, ok3⟩ := ok
 obtain ⟨s1, h1, h2, h3, h4, _⟩ := its_flat Γ l [] none s s' s ok1 (fun c a h => by cases h) hi rfl (fun _ _ => rfl) (fun t ht => by simp [deadIn] at ht)
 have hWs : ∀ x ∈ flatten l none, ∀ t, x.dst = some t → W t = true := fun x hx t hd => hW t (wr_flatten l none x t hx hd)
 have k' : ∀ a' w' β', Rel Z β' s1.h w' → Fr Z β s.h w β' s1.h w' → EnvR Z β' s1.h w' s1.e a' n → Keeps W a a' → Q .normal a' w' := by
  intro a' w' β' R' F' E' K'
  rw [h2] at R' F' E'
  refine k a' w' β' R' F' ⟨E'.1, fun t => ?_⟩ K'
  cases hd : deadIn (kills l ++ []) t with
  | true => rw [h4 t hd]; exact .dead _
  | false => rw [← h3 t hd]; exact E'.2 t
 cases draw with
 | false => exact wp_region_list (flat_wp hΓ ops.toList (flatten l none) s s1 a w β ok2 hWs h1 R E k')
 | true =>
  simp only [Bool.not_true, Bool.false_or] at ok3
  exact flat_any hm hΓ hWs ok2 ok3 h1 R E k'
theorem pickExit_spec {ρ : Type} {e : Env} {k : AX → St → Option ρ} {ex : AX} {vs : List AV} {h : AH} {r : ρ} : ∀ (outs : List (AX × List Nat)), pickExit e k (ex, vs, h) outs = some r → k ex ⟨e.lay (outsOf ex outs) vs, h⟩ = some r
 | [], hp => by cases hp
 | (x, ts) :: l, hp => by
  simp only [pickExit] at hp
  simp only [outsOf]
  split at hp
  ·rename_i he; subst he; rw [if_pos rfl]; exact hp
  ·rename_i he; rw [if_neg he]; exact pickExit_spec l hp
theorem mem_zip_map {α β : Type} {f : α → β} : ∀ (l : List α) (p : α × β), p ∈ l.zip (l.map f) → p.2 = f p.1
 | [], p, h => by cases h
 | x :: l, p, h => by
  simp only [List.map_cons, List.zip_cons_cons, List.mem_cons] at h
  rcases h with rfl | h
  ·rfl
  ·exact mem_zip_map l p h
theorem eval_sound (hm : P.follows .mixedOrders = true) (hΓ : TabOK P Γ) {n : Nat} : ∀ (c' : AC) (c : Code), okCode P n c c' = true → ∀ {V : Nat → Bool} {ρ : Type} {k : AX → St → Option ρ} {s : St} {r : ρ}, eval Γ c' V ρ k s = some r →
  ∀ {W : Nat → Bool}, (∀ t ∈ wrC c', W t = true) → ∀ {β : Bds} {a : Act} {w : World}, Rel Z β s.h w → EnvR Z β s.h w s.e a n → ∀ {Q : Exit → Act → World → Prop},
  (∀ x s' a' w' β', k x s' = some r → Rel Z β' s'.h w' → FrV V Z β s.h w β' s'.h w' → EnvR Z β' s'.h w' s'.e a' n → Keeps W a a' → Q x.exit' a' w') → c.wp P Q a w
 | .skip, c, ok, V, ρ, k, s, r, he, W, hW, β, a, w, R, E, Q, K => by
  cases c <;> first | (cases ok; done) | exact wp_skip (K .normal s a w β he R (Fr.refl _ _ _ _).toV E (Keeps.refl _ _)) | exact wp_label (K .normal s a w β he R (Fr.refl _ _ _ _).toV E (Keeps.refl _ _))
 | .exit id, c, ok, V, ρ, k, s, r, he, W, hW, β, a, w, R, E, Q, K => by
  cases c <;> first | (cases ok; done) | skip
  rename_i id'
  have : id' = id := by simpa [okCode] using ok
  subst this
  exact wp_exit (K (.exit id') s a w β he R (Fr.refl _ _ _ _).toV E (Keeps.refl _ _))
 | .ret, c, ok, V, ρ, k, s, r, he, W, hW, β, a, w, R, E, Q, K => by
  cases c <;> first | (cases ok; done) | skip
  exact wp_ret (K .ret s a w β he R (Fr.refl _ _ _ _).toV E (Keeps.refl _ _))
 | .scope x, c, ok, V, ρ, k, s, r, he, W, hW, β, a, w, R, E, Q, K => by
  cases c <;> first | (cases ok; done) | skip
  simp only [eval] at he
  refine wp_scope_straight (eval_sound hm hΓ x _ ok he hW R E fun ex s' a' w' β' hk R' F' E' K' => ?_)
  have := K ex s' a' w' β' hk R' F' E' K'
  cases ex <;> exact this
 | .ops l, c, ok, V, ρ, k, s, r, he, W, hW, β, a, w, R, E, Q, K => by
  cases c <;> first | (cases ok; done) | skip
  simp only [eval, Option.bind_eq_some_iff] at he
  obtain ⟨s', hi, he⟩ := he
  exact region_sound hm hΓ ok hi hW R E fun a' w' β' R' F' E' K' => K .normal s' a' w' β' he R' F'.toV E' K'
 | .seq x y, c, ok, V, ρ, k, s, r, he, W, hW, β, a, w, R, E, Q, K => by
  cases c <;> first | (cases ok; done) | skip
  simp only [okCode, Bool.and_eq_true] at ok
  simp only [wrC, List.mem_append] at hW
  simp only [eval] at he
  refine wp_seq (eval_sound hm hΓ x _ ok.1 he (fun t ht => hW t (.inl ht)) R E fun ex s' a' w' β' hk R' F' E' K' => ?_)
  cases ex with
  | normal => exact eval_sound hm hΓ y _ ok.2 hk (fun t ht => hW t (.inr ht)) R' E' fun ex s'' a'' w'' β'' hk' R'' F'' E'' K'' => K ex s'' a'' w'' β'' hk' R'' (F'.trans F'') E'' (K'.trans K'')
  | exit id => exact K (.exit id) s' a' w' β' hk R' F' E' K'
  | ret => exact K .ret s' a' w' β' hk R' F' E' K'
 | .cond x y z, c, ok, V, ρ, k, s, r, he, W, hW, β, a, w, R, E, Q, K => by
  cases c <;> first | (cases ok; done) | skip
  simp only [okCode, Bool.and_eq_true] at ok
  simp only [wrC, List.mem_append] at hW
  simp only [eval] at he
  have v1 := okO_rel E ok.1.1
  split at he
  ·rename_i b hb
   rw [hb] at v1
   refine wp_cond v1.bool_inv ?_
   split at he
   ·rename_i hb; subst hb
    rw [if_pos rfl]
    exact eval_sound hm hΓ y _ ok.1.2 he (fun t ht => hW t (.inl ht)) R E K
   ·rename_i hb
    rw [if_neg hb]
    exact eval_sound hm hΓ z _ ok.2 he (fun t ht => hW t (.inr ht)) R E K
  ·cases he
 | .block id x, c, ok, V, ρ, k, s, r, he, W, hW, β, a, w, R, E, Q, K => by
  cases c <;> first | (cases ok; done) | skip
  simp only [okCode, Bool.and_eq_true, decide_eq_true_eq] at ok
  obtain ⟨rfl, ok⟩ := ok
  simp only [eval] at he
  refine wp_block (eval_sound hm hΓ x _ ok he hW R E fun ex s' a' w' β' hk R' F' E' K' => ?_)
  cases ex with
  | normal => exact K .normal s' a' w' β' hk R' F' E' K'
  | ret => exact K .ret s' a' w' β' hk R' F' E' K'
  | exit i =>
   show if i = _ then Q .normal a' w' else Q (.exit i) a' w'
   dsimp only at hk
   split at hk
   ·rename_i hi; rw [if_pos hi]; exact K .normal s' a' w' β' hk R' F' E' K'
   ·rename_i hi; rw [if_neg hi]; exact K (.exit i) s' a' w' β' hk R' F' E' K'
 | .gho x g, c, ok, V, ρ, k, s, r, he, W, hW, β, a, w, R, E, Q, K => by
  have ok' : okCode P n c x = true := by
   cases c <;> exact ok
  simp only [eval] at he
  refine eval_sound hm hΓ x c ok' he (fun t ht => hW t (by simpa [wrC] using ht)) R E fun ex s' a' w' β' hk R' F' E' K' => ?_
  cases ex with
  | exit id => exact K (.exit id) s' a' w' β' hk R' F' E' K'
  | normal =>
   simp only [Option.bind_eq_some_iff] at hk
   obtain ⟨s2, h1, h2⟩ := hk
   obtain ⟨R2, F2, E2⟩ := frzA_rel g R' E' h1
   exact K .normal s2 a' w' β' h2 R2 (F'.trans F2.toV) E2 K'
  | ret =>
   simp only [Option.bind_eq_some_iff] at hk
   obtain ⟨s2, h1, h2⟩ := hk
   obtain ⟨R2, F2, E2⟩ := frzA_rel g R' E' h1
   exact K .ret s2 a' w' β' h2 R2 (F'.trans F2.toV) E2 K'
 | .loopA ad keep wrs own outs x, c, ok, V, ρ, k, s, r, he, W, hW, β, a, w, R, E, Q, K => by
  cases c <;> first | (cases ok; done) | skip
  rename_i body
  simp only [okCode, Bool.and_eq_true] at ok
  obtain ⟨⟨⟨ok1, ok2⟩, ok3⟩, ok4⟩ := ok
  simp only [wrC] at hW
  simp only [eval] at he
  obtain ⟨β0, R0, F0, E0⟩ := preOwn_rel own s β ok3 R E
  generalize hpre0 : preOwn own s = p0 at he R0 F0 E0
  obtain ⟨β1, R1, F01, E1⟩ := freshA_rel ad ok4 R0 E0
  have F1 := F0.trans F01
  generalize hpre : freshA ad p0 = pre at he R1 F01 F1 E1
  generalize hL : pre.h.length = L at he
  generalize hR0 : rowsOf pre.e own = RR0 at he
  generalize hR : tgt p0.h.length ad ++ RR0 = RR at he
  split at he
  ·rename_i hV
   simp only [Option.bind_eq_some_iff] at he
   obtain ⟨⟨ex, vals, hx⟩, hit, hpick⟩ := he
   have hk := pickExit_spec outs hpick
   obtain ⟨m, hm'⟩ := N_of_iter hit
   generalize he1 : (baseEnv RR pre.e).killR wrs = e1 at hm' hk
   -- what does not change
   have base : ∀ {β' : Bds} {h' : AH} {w' : World} {a' : Act}, FrV (volIn RR L) Z β1 pre.h w β' h' w' → Keeps (fun t => (wrC x).contains t) a a' → ∀ t, VR β' (Own Z β' h') w' (e1 t) (a'.tmps.getD t Go.undef) := by
    intro β' h' w' a' F' K' t
    rw [← he1]
    unfold Env.killR
    split
    ·exact .dead _
    ·rename_i hd
     have hnt : (wrC x).contains t = false := by
      cases hc : (wrC x).contains t with
      | false => rfl
      | true =>
       have := List.all_eq_true.1 ok2 t (by simpa using hc)
       exact absurd this hd
     rw [K'.same t hnt]
     refine baseEnv_rel (fun i v bd hi hb => F'.ext i v bd ?_ hb) F'.stay (E1.2 t)
     unfold volIn
     rw [hi, Bool.false_or, decide_eq_false_iff_not, ← hL]
     intro hle
     rw [R1.fresh i v hle] at hb
     cases hb
   have out : ∀ {β' : Bds} {h' : AH} {w' : World}, FrV (volIn RR L) Z β1 pre.h w β' h' w' → FrV V Z β s.h w β' h' w' := by
    intro β' h' w' F'
    refine ⟨F'.xkeep, F'.os, F'.tape, F'.output, fun i v bd hv hb => F'.ext i v bd ?_ (F1.ext i v bd hb), F1.stay.trans F'.stay⟩
    unfold volIn
    rw [Bool.or_eq_false_iff]
    constructor
    ·cases hc : RR.contains i with
     | false => rfl
     | true =>
      rw [← hR, List.contains_eq_mem, decide_eq_true_eq, List.mem_append] at hc
      rcases hc with hc | hc
      ·have hle := tgt_ge ad _ i (by simpa using hc)
       have h1 := F0.ext i v bd hb
       rw [R0.fresh i v hle] at h1
       cases h1
      ·have := List.all_eq_true.1 hV i hc
       rw [hv] at this; cases this
    ·rw [decide_eq_false_iff_not, ← hL]
     intro hle
     have h1 := F1.ext i v bd hb
     rw [R1.fresh i v hle] at h1
     cases h1
   have keepW : ∀ {a' : Act}, Keeps (fun t => (wrC x).contains t) a a' → Keeps W a a' := by
    intro a' K'
    refine ⟨K'.defers, fun t ht => K'.same t ?_⟩
    cases hc : (wrC x).contains t with
    | false => rfl
    | true =>
     have := hW t (by simpa using hc)
     rw [ht] at this; cases this
   have rounds : ∀ (m : Nat) (vs : List AV) (h : AH), iterN (fun y : List AV × AH => eval Γ x (volIn RR L) ((List AV × AH) ⊕ (AX × List AV × AH)) (fun ex s' => match ex with
      | .normal => some (.inl (head L RR keep (rebA p0.h.length ad s')))
      | ex => some (.inr (ex, (outsOf ex outs).map s'.e, s'.h))) ⟨e1.lay keep y.1, y.2⟩) m (vs, h) = some (ex, vals, hx) →
     ∀ (β' : Bds) (a' : Act) (w' : World), Rel Z β' h w' → FrV (volIn RR L) Z β1 pre.h w β' h w' → a'.tmps.size = n → Keeps (fun t => (wrC x).contains t) a a' →
     (∀ p ∈ keep.zip vs, VR β' (Own Z β' h) w' p.2 (a'.tmps.getD p.1 Go.undef)) → Code.rounds P body Q m a' w' := by
    intro m
    induction m with
    | zero => intro vs h hi; cases hi
    | succ m ih =>
     intro vs h hi β' a' w' R' F' hn K' hvs
     rw [rounds_succ]
     have E' : EnvR Z β' h w' (e1.lay keep vs) a' n := ⟨hn, lay_rel (tm := fun t => a'.tmps.getD t Go.undef) (base F' K') keep vs hvs⟩
     simp only [iterN] at hi
     split at hi
     ·cases hi
     ·rename_i y hy
      obtain ⟨vs', h'⟩ := y
      refine eval_sound hm hΓ x body ok1 hy (W := fun t => (wrC x).contains t) (fun t ht => by simpa using ht) R' E' fun ex' s' a'' w'' β'' hk' R'' F'' E'' K'' => ?_
      cases ex' with
      | normal =>
       simp only [Option.some.injEq, Sum.inl.injEq, head, Prod.mk.injEq] at hk'
       obtain ⟨rfl, rfl⟩ := hk'
       obtain ⟨β3, R3, F3, E3⟩ := rebA_rel ad p0.h.length R'' E''
       refine ih _ _ hi _ a'' w'' (head_rel R3 L RR) (((F'.trans F'').trans F3.toV).trans head_frV) E3.1 (K'.trans K'') fun p hp => ?_
       rw [mem_zip_map keep p hp]
       exact normV_rel R3 L RR (E3.2 p.1)
      | exit id => simp at hk'
      | ret => simp at hk'
     ·rename_i y hy
      cases hi
      refine eval_sound hm hΓ x body ok1 hy (W := fun t => (wrC x).contains t) (fun t ht => by simpa using ht) R' E' fun ex' s' a'' w'' β'' hk' R'' F'' E'' K'' => ?_
      have fin : some (Sum.inr (α := List AV × AH) (ex', (outsOf ex' outs).map s'.e, s'.h)) = some (.inr (ex, vals, hx)) → Q ex'.exit' a'' w'' := by
       intro hq
       simp only [Option.some.injEq, Sum.inr.injEq, Prod.mk.injEq] at hq
       obtain ⟨rfl, rfl, rfl⟩ := hq
       have F3 := F'.trans F''
       have K3 := K'.trans K''
       refine K ex' _ a'' w'' β'' hk R'' (out F3) ⟨E''.1, lay_rel (tm := fun t => a''.tmps.getD t Go.undef) (base F3 K3) _ _ fun p hp => ?_⟩ (keepW K3)
       rw [mem_zip_map _ p hp]
       exact E''.2 p.1
      cases ex' with
      | normal => simp at hk'
      | exit id => exact fin hk'
      | ret => exact fin hk'
   refine wp_loop_rounds m (rounds m _ _ hm' (bdH β1 pre.h L RR) a w (head_rel R1 L RR) head_frV E1.1 (Keeps.refl _ _) fun p hp => ?_)
   rw [mem_zip_map keep p hp]
   exact normV_rel R1 L RR (E1.2 p.1)
  ·cases he
 | .loop keep wrs own outs x, c, ok, V, ρ, k, s, r, he, W, hW, β, a, w, R, E, Q, K => by
  cases c <;> first | (cases ok; done) | skip
  rename_i body
  simp only [okCode, Bool.and_eq_true] at ok
  obtain ⟨⟨ok1, ok2⟩, ok3⟩ := ok
  simp only [wrC] at hW
  simp only [eval] at he
  obtain ⟨β1, R1, F1, E1⟩ := preOwn_rel own s β ok3 R E
  generalize hpre : preOwn own s = pre at he R1 F1 E1
  generalize hL : pre.h.length = L at he
  generalize hR : rowsOf pre.e own = RR at he
  split at he
  ·rename_i hV
   simp only [Option.bind_eq_some_iff] at he
   obtain ⟨⟨ex, vals, hx⟩, hit, hpick⟩ := he
   have hk := pickExit_spec outs hpick
   obtain ⟨m, hm'⟩ := N_of_iter hit
   generalize he1 : (baseEnv RR pre.e).killR wrs = e1 at hm' hk
   -- what does not change
   have base : ∀ {β' : Bds} {h' : AH} {w' : World} {a' : Act}, FrV (volIn RR L) Z β1 pre.h w β' h' w' → Keeps (fun t => (wrC x).contains t) a a' → ∀ t, VR β' (Own Z β' h') w' (e1 t) (a'.tmps.getD t Go.undef) := by
    intro β' h' w' a' F' K' t
    rw [← he1]
    unfold Env.killR
    split
    ·exact .dead _
    ·rename_i hd
     have hnt : (wrC x).contains t = false := by
      cases hc : (wrC x).contains t with
      | false => rfl
      | true =>
       have := List.all_eq_true.1 ok2 t (by simpa using hc)
       exact absurd this hd
     rw [K'.same t hnt]
     refine baseEnv_rel (fun i v bd hi hb => F'.ext i v bd ?_ hb) F'.stay (E1.2 t)
     unfold volIn
     rw [hi, Bool.false_or, decide_eq_false_iff_not, ← hL]
     intro hle
     rw [R1.fresh i v hle] at hb
     cases hb
   have out : ∀ {β' : Bds} {h' : AH} {w' : World}, FrV (volIn RR L) Z β1 pre.h w β' h' w' → FrV V Z β s.h w β' h' w' := by
    intro β' h' w' F'
    refine ⟨F'.xkeep, F'.os, F'.tape, F'.output, fun i v bd hv hb => F'.ext i v bd ?_ (F1.ext i v bd hb), F1.stay.trans F'.stay⟩
    unfold volIn
    rw [Bool.or_eq_false_iff]
    constructor
    ·cases hc : RR.contains i with
     | false => rfl
     | true =>
      have := List.all_eq_true.1 hV i (by simpa using hc)
      rw [hv] at this; cases this
    ·rw [decide_eq_false_iff_not, ← hL]
     intro hle
     have h1 := F1.ext i v bd hb
     rw [R1.fresh i v hle] at h1
     cases h1
   have keepW : ∀ {a' : Act}, Keeps (fun t => (wrC x).contains t) a a' → Keeps W a a' := by
    intro a' K'
    refine ⟨K'.defers, fun t ht => K'.same t ?_⟩
    cases hc : (wrC x).contains t with
    | false => rfl
    | true =>
     have := hW t (by simpa using hc)
     rw [ht] at this; cases this
   have rounds : ∀ (m : Nat) (vs : List AV) (h : AH), iterN (fun y : List AV × AH => eval Γ x (volIn RR L) ((List AV × AH) ⊕ (AX × List AV × AH)) (fun ex s' => match ex with
      | .normal => some (.inl (head L RR keep s'))
      | ex => some (.inr (ex, (outsOf ex outs).map s'.e, s'.h))) ⟨e1.lay keep y.1, y.2⟩) m (vs, h) = some (ex, vals, hx) →
     ∀ (β' : Bds) (a' : Act) (w' : World), Rel Z β' h w' → FrV (volIn RR L) Z β1 pre.h w β' h w' → a'.tmps.size = n → Keeps (fun t => (wrC x).contains t) a a' →
     (∀ p ∈ keep.zip vs, VR β' (Own Z β' h) w' p.2 (a'.tmps.getD p.1 Go.undef)) → Code.rounds P body Q m a' w' := by
    intro m
    induction m with
    | zero => intro vs h hi; cases hi
    | succ m ih =>
     intro vs h hi β' a' w' R' F' hn K' hvs
     rw [rounds_succ]
     have E' : EnvR Z β' h w' (e1.lay keep vs) a' n := ⟨hn, lay_rel (tm := fun t => a'.tmps.getD t Go.undef) (base F' K') keep vs hvs⟩
     simp only [iterN] at hi
     split at hi
     ·cases hi
     ·rename_i y hy
      obtain ⟨vs', h'⟩ := y
      refine eval_sound hm hΓ x body ok1 hy (W := fun t => (wrC x).contains t) (fun t ht => by simpa using ht) R' E' fun ex' s' a'' w'' β'' hk' R'' F'' E'' K'' => ?_
      cases ex' with
      | normal =>
       simp only [Option.some.injEq, Sum.inl.injEq, head, Prod.mk.injEq] at hk'
       obtain ⟨rfl, rfl⟩ := hk'
       refine ih _ _ hi _ a'' w'' (head_rel R'' L RR) ((F'.trans F'').trans head_frV) E''.1 (K'.trans K'') fun p hp => ?_
       rw [mem_zip_map keep p hp]
       exact normV_rel R'' L RR (E''.2 p.1)
      | exit id => simp at hk'
      | ret => simp at hk'
     ·rename_i y hy
      cases hi
      refine eval_sound hm hΓ x body ok1 hy (W := fun t => (wrC x).contains t) (fun t ht => by simpa using ht) R' E' fun ex' s' a'' w'' β'' hk' R'' F'' E'' K'' => ?_
      have fin : some (Sum.inr (α := List AV × AH) (ex', (outsOf ex' outs).map s'.e, s'.h)) = some (.inr (ex, vals, hx)) → Q ex'.exit' a'' w'' := by
       intro hq
       simp only [Option.some.injEq, Sum.inr.injEq, Prod.mk.injEq] at hq
       obtain ⟨rfl, rfl, rfl⟩ := hq
       have F3 := F'.trans F''
       have K3 := K'.trans K''
       refine K ex' _ a'' w'' β'' hk R'' (out F3) ⟨E''.1, lay_rel (tm := fun t => a''.tmps.getD t Go.undef) (base F3 K3) _ _ fun p hp => ?_⟩ (keepW K3)
       rw [mem_zip_map _ p hp]
       exact E''.2 p.1
      cases ex' with
      | normal => simp at hk'
      | exit id => exact fin hk'
      | ret => exact fin hk'
   refine wp_loop_rounds m (rounds m _ _ hm' (bdH β1 pre.h L RR) a w (head_rel R1 L RR) head_frV E1.1 (Keeps.refl _ _) fun p hp => ?_)
   rw [mem_zip_map keep p hp]
   exact normV_rel R1 L RR (E1.2 p.1)
  ·cases he
end
end Go.Am

/-
 The abstract machine: functions.
-/
namespace Go.Am
def okRes (P : Program) : List ResultVar → List AR → Bool
 | [], [] => true
 | .tmp t :: l, .t i :: l' => decide (t = i) && okRes P l l'
 | .cell t ty :: l, .cell i sz agg :: l' => decide (t = i) && sizeIs P ty sz && aggIs P ty agg && okRes P l l'
 | _, _ => false
def okF (P : Program) (f : FuncId) (F : AF) : Bool := match P.funcs[f]? with
 | some fn => (match fn.body with
  | some c => decide (fn.ntmps = F.nt) && okCode P F.nt c F.body && okRes P fn.results.toList F.res && (fn.name == "runtime.NumGoroutine") == false
  | none => false)
 | none => false
def resM (tmps : Array Value) : ResultVar → Sem Value
 | .tmp t => pure (tmps.getD t Go.undef)
 | .cell x t => do loadVar t (← asAddr (tmps.getD x Go.undef))
section
variable {P : Program} {Z : Nat → Prop} {Γ : Tab} {β : Bds} {h : AH} {w : World}
theorem resAll_rel (R : Rel Z β h w) {e : Env} {a : Act} {n : Nat} (E : EnvR Z β h w e a n) : ∀ (rs : List ResultVar) (l : List AR) (vs : List AV), okRes P rs l = true → resAll ⟨e, h⟩ l = some vs →
  ∃ us : List Value, (rs.mapM (resM a.tmps)).run P w = .ok us w ∧ vs.length = us.length ∧
   ∀ (j : Nat) (y : AV) (u : Value), vs[j]? = some y → us[j]? = some u → VR β (Own Z β h) w y u
 | [], [], vs, _, hr => by
  simp only [resAll] at hr
  cases hr
  exact ⟨[], by simp, rfl, fun j y u hy => by simp at hy⟩
 | [], _ :: _, _, ok, _ => by simp [okRes] at ok
 | r :: rs, [], _, ok, _ => by cases r <;> simp [okRes] at ok
 | r :: rs, q :: l, vs, ok, hr => by
  simp only [resAll, Option.bind_eq_some_iff] at hr
  obtain ⟨v, hv, vs', hvs, hr⟩ := hr
  cases hr
  have key : okRes P rs l = true ∧ ∃ u, (resM a.tmps r).run P w = .ok u w ∧ VR β (Own Z β h) w v u := by
   cases r with
   | tmp t =>
    cases q with
    | cell => simp [okRes] at ok
    | t i =>
     simp only [okRes, Bool.and_eq_true, decide_eq_true_eq] at ok
     obtain ⟨rfl, ok⟩ := ok
     simp only [resOne, Option.some.injEq] at hv
     subst hv
     exact ⟨ok, a.tmps.getD t Go.undef, by simp [resM], E.2 t⟩
   | cell t ty =>
    cases q with
    | t i => simp [okRes] at ok
    | cell i sz agg =>
     simp only [okRes, Bool.and_eq_true, decide_eq_true_eq] at ok
     obtain ⟨⟨⟨rfl, h1⟩, h2⟩, ok⟩ := ok
     simp only [resOne, Option.bind_eq_some_iff] at hv
     obtain ⟨cs, hcs, hsh⟩ := hv
     obtain ⟨u, hu, hvu⟩ := load_same (P := P) R hcs hsh (E.2 t) h1 h2
     obtain ⟨blk, o, hp, _⟩ := cellsAt_rel R hcs (E.2 t)
     refine ⟨ok, u, ?_, hvu⟩
     rw [hp] at hu
     simp only [Instr.loadAt, Instr.sureAddr, Sem.run_bind, Sem.run_pure, Result.andThen_ok] at hu
     simp only [resM, hp, asAddr, Sem.run_bind, Sem.run_pure, Result.andThen_ok]
     exact hu
  obtain ⟨ok', u, hu, hvu⟩ := key
  obtain ⟨us, h1, h2, h3⟩ := resAll_rel R E rs l vs' ok' hvs
  refine ⟨u :: us, ?_, by simp [h2], fun j y z hy hz => ?_⟩
  ·rw [List.mapM_cons]
   simp only [Sem.run_bind, hu, Result.andThen_ok, h1, Sem.run_pure]
  ·cases j with
   | zero => simp at hy hz; subst hy; subst hz; exact hvu
   | succ j => exact h3 j y z (by simpa using hy) (by simpa using hz)
theorem resV_rel (R : Rel Z β h w) {e : Env} {a : Act} {n : Nat} (E : EnvR Z β h w e a n) {fn : Func} {l : List AR} (ok : okRes P fn.results.toList l = true) {v : AV} (hr : resV ⟨e, h⟩ l = some v) :
  ∃ u, (results fn a.tmps).run P w = .ok u w ∧ VR β (Own Z β h) w v u := by
 simp only [resV, Option.bind_eq_some_iff] at hr
 obtain ⟨vs, hvs, hr⟩ := hr
 obtain ⟨us, h1, h2, h3⟩ := resAll_rel R E _ _ _ ok hvs
 have hres : (results fn a.tmps).run P w = .ok (if hh : us.toArray.size = 1 then us.toArray[0] else .tuple us.toArray) w := by
  have hdef : results fn a.tmps = (do let vs ← fn.results.mapM (resM a.tmps); pure (if h : vs.size = 1 then vs[0] else .tuple vs)) := by
   unfold results
   congr 1
  rw [hdef, ← Array.toArray_toList (xs := fn.results), List.mapM_toArray]
  simp only [Sem.run_bind, Sem.run_map, h1, Result.andThen_ok, Sem.run_pure]
 refine ⟨_, hres, ?_⟩
 split at hr
 ·cases hr
  match us, h2, h3 with
  | [u], _, h3 => exact h3 0 v u rfl rfl
 ·rename_i hne
  cases hr
  have hl : us.length ≠ 1 := by
   intro h1
   rw [h1] at h2
   obtain ⟨x, hx⟩ := List.length_eq_one_iff.1 h2
   exact hne x hx
  rw [dif_neg (by simpa using hl)]
  exact .tup _ us h2 h3
theorem runH_snd (hm : P.follows .mixedOrders = true) (hΓ : TabOK P Γ) {f : FuncId} {F : AF} (ok : okF P f F = true) {args : List AV} {r : AV} {h' : AH} (hr : runH Γ F args h = some (r, h')) : Snd P f args h r h' := by
 unfold okF at ok
 split at ok
 ·rename_i fn hf
  split at ok
  ·rename_i c hc
   simp only [Bool.and_eq_true, decide_eq_true_eq, beq_iff_eq] at ok
   obtain ⟨⟨⟨hn, hcode⟩, hres⟩, hname⟩ := ok
   refine ⟨⟨fn, hf, by rw [hc]; rfl, by simpa using hname⟩, fun Z β w vs R hl hv => ?_⟩
   unfold runH at hr
   split at hr
   ·rename_i hle
    have E : EnvR Z β h w (argEnv args) { tmps := vs.toArray ++ Array.replicate (fn.ntmps - vs.toArray.size) undef, defers := [] } F.nt := by
     refine ⟨by simp; omega, fun t => ?_⟩
     unfold argEnv
     by_cases ht : t < args.length
     ·have h1 : args[t]? = some args[t] := List.getElem?_eq_getElem ht
      have h2 : vs[t]? = some (vs[t]'(by omega)) := List.getElem?_eq_getElem (by omega)
      have := hv t _ _ h1 h2
      rw [List.getD_eq_getElem?_getD, h1]
      rw [Array.getD_eq_getD_getElem?, Array.getElem?_append_left (by simp; omega)]
      simp only [List.getElem?_toArray, h2, Option.getD_some]
      exact this
     ·rw [List.getD_eq_getElem?_getD, List.getElem?_eq_none (by omega)]
      exact .dead _
    refine calls_of_wp hf hc (eval_sound hm hΓ F.body c hcode hr (W := fun _ => true) (fun _ _ => rfl) R E fun x s' a' w' β' hk R' F' E' K' => ?_)
    have hfr : Fr Z β h w β' s'.h w' := ⟨F'.xkeep, F'.os, F'.tape, F'.output, fun i v bd hb => F'.ext i v bd (by
     simp only [decide_eq_false_iff_not]
     intro hle
     rw [R.fresh i v hle] at hb
     cases hb) hb, F'.stay⟩
    have fin : (resV s' F.res).bind (fun v => some (v, s'.h)) = some (r, h') → ∃ u, (results fn a'.tmps).run P w' = .ok u w' ∧ ∃ v β', Ending.returned u = .returned v ∧ Rel Z β' h' w' ∧ Fr Z β h w β' h' w' ∧ VR β' (Own Z β' h') w' r v := by
     intro hq
     simp only [Option.bind_eq_some_iff] at hq
     obtain ⟨v, hv, hq⟩ := hq
     cases hq
     obtain ⟨u, h1, h2⟩ := resV_rel R' E' hres hv
     exact ⟨u, h1, u, β', rfl, R', hfr, h2⟩
    cases x with
    | exit id => cases hk
    | normal => exact ⟨K'.defers, fin hk⟩
    | ret => exact ⟨K'.defers, fin hk⟩
   ·cases hr
  ·cases ok
 ·cases ok
theorem owned_lt (R : Rel Z β h w) {i c : Nat} (ho : owned β h i c) : c < w.heap.size := by
 obtain ⟨X, hX, bd, hcb, hm⟩ := ho
 have hb := R.blk i X hX
 cases X with
 | gone => cases hm
 | fro => cases hm
 | mp es =>
  obtain ⟨c', arr, clock, e1, e2, _⟩ := hb
  dsimp only at hm
  rw [hm] at e1
  cases e1
  cases hcb
  exact (Array.getElem?_eq_some_iff.1 e2).1
 | var cs =>
  obtain ⟨c', cur, elem, e1, e2, _⟩ := hb
  dsimp only at hm
  rw [hm] at e1
  cases e1
  cases hcb
  exact (Array.getElem?_eq_some_iff.1 e2).1
 | row v sz es =>
  obtain ⟨_, bd', e1, e2, e3⟩ := hb
  dsimp only at hm
  rw [hm] at e1
  cases e1
  rcases e3 with ⟨e3, _⟩ | ⟨c', cur, elem, e3, e4, _⟩
  ·rw [e3] at hcb; cases hcb
  ·rw [e3] at hcb; cases hcb
   exact (Array.getElem?_eq_some_iff.1 e4).1
theorem runP_snd (hm : P.follows .mixedOrders = true) (hΓ : TabOK P Γ) {f : FuncId} {F : AF} (ok : okF P f F = true) {args : List AV} {r : AV} (hall : args.all AV.isE = true) (hr : runP Γ F args = some r) (h : AH) : Snd P f args h r h := by
 unfold runP at hr
 simp only [Option.bind_eq_some_iff] at hr
 obtain ⟨⟨r0, h1⟩, hrun, ⟨r', h2⟩, hp, hr⟩ := hr
 cases hr
 obtain ⟨hc, hs⟩ := runH_snd hm hΓ ok hrun
 refine ⟨hc, fun Z β w vs R hl hv => ?_⟩
 let β0 : Bds := fun _ _ => none
 have ownI : ∀ c, Own (Own Z β h) β0 [] c ↔ Own Z β h c := by
  intro c
  constructor
  ·rintro (hc | ⟨i, X, hX, _⟩)
   ·exact hc
   ·simp at hX
  ·exact .inl
 have R0 : Rel (Own Z β h) β0 [] w := by
  refine ⟨fun c hc => ?_, fun i c ho => ?_, fun i v _ => rfl, fun i v sz es v' hX => by simp at hX, fun i b hb => by simp at hb, fun i j c ho => ?_⟩
  ·rcases hc with hc | ⟨i, ho⟩
   ·exact R.xlt c hc
   ·exact owned_lt R ho
  ·obtain ⟨X, hX, _⟩ := ho; simp at hX
  ·obtain ⟨X, hX, _⟩ := ho; simp at hX
 have st0 : Stay (Own Z β h) w (Own (Own Z β h) β0 []) w := ⟨Nat.le_refl _, fun b _ hO => ⟨rfl, fun hh => hO ((ownI b).1 hh)⟩⟩
 refine (hs (Own Z β h) β0 w vs R0 hl fun j y u hy hu => .pure _ _ (((hv j y u hy hu).pureE (List.all_eq_true.1 hall y (List.mem_of_getElem? hy))).mono st0)).mono ?_
 rintro e w' ⟨v, β', rfl, R1, F1, V1⟩
 obtain ⟨R2, F2, V2, hP⟩ := purP_rel R1 hp V1
 have F3 := F1.trans F2
 have hold : ∀ b, b < w.heap.size → w'.heap[b]? = w.heap[b]? := by
  intro b hb
  by_cases hO : Own Z β h b
  ·exact F3.xkeep b hb hO
  ·exact (F3.stay.2 b hb fun hh => hO ((ownI b).1 hh)).1
 have st1 : Stay (Own Z β h) w (Own Z β h) w' := ⟨F3.stay.1, fun b hb hO => ⟨hold b hb, hO⟩⟩
 have st2 : Stay (Own (Own Z β h) β' h2) w' (Own Z β h) w' := ⟨Nat.le_refl _, fun b _ hO => ⟨rfl, fun hh => hO (.inl hh)⟩⟩
 refine ⟨v, β, rfl, ⟨fun c hc => Nat.lt_of_lt_of_le (R.xlt c hc) F3.stay.1, R.xap, R.fresh, R.later, fun i X hX => (R.blk i X hX).mono st1 (fun _ _ _ e => e) (fun c ho => hold c (owned_lt R ⟨X, hX, ho⟩)), R.apart⟩,
  ⟨fun b hb _ => hold b hb, F3.os, F3.tape, F3.output, fun _ _ _ e => e, st1⟩, ?_⟩
 have one : ∀ {x : AV} {u : Value}, x.isE = true → VR β' (Own (Own Z β h) β' h2) w' x u → VR β (Own Z β h) w' x u := fun hx hu => .pure _ _ ((hu.pureE hx).mono st2)
 dsimp only at hp V2 ⊢
 cases r' with
 | tup vs' =>
  obtain ⟨us, rfl, q1, q2⟩ := V2.tup_inv
  have hall' : ∀ y ∈ vs', y.isE = true := by simpa [AV.isP] using hP
  exact .tup _ us q1 fun j y u hy hu => one (hall' y (List.mem_of_getElem? hy)) (q2 j y u hy hu)
 | _ => exact one hP V2
/-! ### Tables -/
theorem tab_nil : TabOK P ⟨fun _ _ => none, fun _ _ _ => none⟩ := ⟨fun _ _ _ _ _ h => by simp at h, fun _ _ _ _ _ h => by simp at h⟩
end
end Go.Am
