/-
  The abstract machine: a region's operations, one behind the other; as a tree.
-/
import Derived.Test.YtldgegojhaamoaaAmR
import Derived.Tactics
set_option linter.unusedSimpArgs false
set_option linter.unusedVariables false
namespace Go.Am

/-- One operation with its guard. -/
def step1 (Γ : Tab) (x : AI) (s : St) : Option (AV × AH) :=
  match x.guard with
  | none => exec Γ s.e s.h x.op
  | some (g, want) =>
    match s.e g with
    | .bool b => if b = want then exec Γ s.e s.h x.op else some (.undef, s.h)
    | .undef => some (.undef, s.h)
    | _ => none

theorem flat_cons (Γ : Tab) (x : AI) (l : List AI) (s : St) : flat Γ (x :: l) s = (step1 Γ x s).bind fun r => flat Γ l (St.put ⟨s.e, r.2⟩ x.dst r.1) := by
  obtain ⟨dst, guard, op⟩ := x
  cases guard with
  | none => rfl
  | some g =>
    obtain ⟨g, want⟩ := g
    simp only [flat, step1]
    generalize s.e g = q
    cases q <;> first | rfl | (dsimp only; split <;> rfl)

theorem flat_append (Γ : Tab) : ∀ (l l' : List AI) (s : St), flat Γ (l ++ l') s = (flat Γ l s).bind (flat Γ l')
  | [], l', s => rfl
  | x :: l, l', s => by
    rw [List.cons_append, flat_cons, flat_cons, Option.bind_assoc]
    congr 1
    funext r
    exact flat_append Γ l l' _

/-! ### The tree as a list -/
def flatten : IT → Option (Nat × Bool) → List AI
  | .nil, _ => []
  | .op d o rest, g => ⟨d, g, o⟩ :: flatten rest g
  | .sc d a c _ _ l r rest, g => flatten l (some (c, a)) ++ ⟨some d, g, .pick (.t c) (if a then r else .c (.bool true)) (if a then .c (.bool false) else r)⟩ :: flatten rest g

def optL (d : Option Nat) : List Nat := match d with | some t => [t] | none => []
/-- What is written. -/
def wr : IT → List Nat
  | .nil => []
  | .op d _ rest => optL d ++ wr rest
  | .sc d _ _ _ _ l _ rest => wr l ++ (d :: wr rest)

def deadIn (K : List (Nat × Nat)) (t : Nat) : Bool := K.any fun r => decide (r.1 ≤ t) && decide (t ≤ r.2)
def AO.live (K : List (Nat × Nat)) : AO → Bool
  | .t i => !deadIn K i
  | .c _ => true
def kills : IT → List (Nat × Nat)
  | .nil => []
  | .op _ _ rest => kills rest
  | .sc _ _ _ lo hi _ _ rest => (lo, hi) :: kills rest

def okSkip : List Nat → IT → Bool
  | _, .nil => true
  | D, .op d _ rest => okSkip (optL d ++ D) rest
  | D, .sc d _ c _ _ l _ rest => D.contains c && okSkip D l && okSkip (d :: (wr l ++ D)) rest

def okIts : List (Nat × Nat) → IT → Bool
  | _, .nil => true
  | K, .op d o rest => o.ops.all (AO.live K) && (optL d).all (fun t => !deadIn K t) && okIts K rest
  | K, .sc d a c lo hi l r rest => !deadIn K c && !(wr l).contains c && (wr l).all (fun t => decide (lo ≤ t) && decide (t ≤ hi)) && okIts K l && r.live (kills l ++ K) && okSkip [] l &&
      !deadIn ((lo, hi) :: K) d && okIts ((lo, hi) :: K) rest

def skipped (s : St) (g : Nat × Bool) : Prop := s.e g.1 = .undef ∨ ∃ b, s.e g.1 = .bool b ∧ b ≠ g.2

theorem step1_skip {Γ : Tab} {x : AI} {s : St} {g : Nat × Bool} (hg : x.guard = some g) (h : skipped s g) : step1 Γ x s = some (.undef, s.h) := by
  unfold step1
  rw [hg]
  obtain ⟨c, a⟩ := g
  rcases h with h | ⟨b, h, hb⟩
  · simp only [h]
  · simp only [h, if_neg hb]

theorem skipped_put {s : St} {g : Nat × Bool} (h : skipped s g) (d : Option Nat) : skipped (s.put d .undef) g := by
  cases d with
  | none => exact h
  | some t =>
    by_cases ht : g.1 = t
    · exact .inl (by simp [St.put, Env.put, ht])
    · unfold skipped St.put Env.put
      simp only [if_neg ht]
      exact h

theorem flat_skip (Γ : Tab) : ∀ (l : IT) (g : Nat × Bool) (s : St) (D : List Nat), skipped s g → (∀ t ∈ D, s.e t = .undef) → okSkip D l = true →
    ∃ s', flat Γ (flatten l (some g)) s = some s' ∧ s'.h = s.h ∧ (∀ t, t ∉ wr l → s'.e t = s.e t) ∧ (∀ t, t ∈ wr l → s'.e t = .undef)
  | .nil, g, s, D, h, hD, ok => ⟨s, rfl, rfl, fun _ _ => rfl, fun _ ht => by cases ht⟩
  | .op d o rest, g, s, D, h, hD, ok => by
    simp only [flatten]
    rw [flat_cons, step1_skip rfl h]
    simp only [okSkip] at ok
    have hput : ∀ t, (s.put d .undef).e t = if t ∈ optL d then .undef else s.e t := by
      intro t
      cases d with
      | none => simp [St.put, optL]
      | some q => simp [St.put, Env.put, optL]
    obtain ⟨s', h1, h2, h3, h4⟩ := flat_skip Γ rest g (s.put d .undef) (optL d ++ D) (skipped_put h d) (fun t ht => by
      rw [hput]
      split
      · rfl
      · rename_i hn
        rcases List.mem_append.1 ht with ht | ht
        · exact absurd ht hn
        · exact hD t ht) ok
    refine ⟨s', h1, by rw [h2]; cases d <;> rfl, fun t ht => ?_, fun t ht => ?_⟩
    · simp only [wr, List.mem_append, not_or] at ht
      rw [h3 t ht.2, hput, if_neg ht.1]
    · by_cases hr : t ∈ wr rest
      · exact h4 t hr
      · rw [h3 t hr, hput]
        simp only [wr, List.mem_append] at ht
        rw [if_pos (ht.resolve_right hr)]
  | .sc d a c lo hi l r rest, g, s, D, h, hD, ok => by
    simp only [okSkip, Bool.and_eq_true] at ok
    obtain ⟨⟨ok1, ok2⟩, ok3⟩ := ok
    simp only [flatten]
    rw [flat_append]
    have hc : s.e c = .undef := hD c (by simpa using ok1)
    obtain ⟨s1, h1, h2, h3, h4⟩ := flat_skip Γ l (c, a) s D (.inl hc) hD ok2
    rw [h1]
    simp only [Option.bind_some]
    have hs1 : skipped s1 g := by
      by_cases hg : g.1 ∈ wr l
      · exact .inl (h4 _ hg)
      · unfold skipped
        rw [h3 _ hg]
        exact h
    rw [flat_cons, step1_skip rfl hs1]
    simp only [Option.bind_some]
    have hput : ∀ t, (s1.put (some d) .undef).e t = if t = d then .undef else s1.e t := fun t => rfl
    obtain ⟨s', k1, k2, k3, k4⟩ := flat_skip Γ rest g (s1.put (some d) .undef) (d :: (wr l ++ D)) (skipped_put hs1 (some d)) (fun t ht => by
      rw [hput]
      split
      · rfl
      · rename_i hn
        rcases List.mem_cons.1 ht with ht | ht
        · exact absurd ht hn
        · by_cases hl : t ∈ wr l
          · exact h4 t hl
          · rw [h3 t hl]
            exact hD t ((List.mem_append.1 ht).resolve_left hl)) ok3
    refine ⟨s', k1, by rw [k2]; exact h2, fun t ht => ?_, fun t ht => ?_⟩
    · simp only [wr, List.mem_append, List.mem_cons, not_or] at ht
      rw [k3 t ht.2.2, hput, if_neg ht.2.1, h3 t ht.1]
    · by_cases hr : t ∈ wr rest
      · exact k4 t hr
      · rw [k3 t hr, hput]
        split
        · rfl
        · rename_i hn
          simp only [wr, List.mem_append, List.mem_cons] at ht
          rcases ht with ht | ht | ht
          · exact h4 t ht
          · exact absurd ht hn
          · exact absurd ht hr

theorem get_live {K : List (Nat × Nat)} {s s1 : St} (ha : ∀ t, deadIn K t = false → s1.e t = s.e t) {x : AO} (hx : x.live K = true) : x.get s1.e = x.get s.e := by
  cases x with
  | t i => exact ha i (by simpa [AO.live] using hx)
  | c v => rfl

theorem deadIn_cons {r : Nat × Nat} {K : List (Nat × Nat)} {t : Nat} : deadIn (r :: K) t = ((decide (r.1 ≤ t) && decide (t ≤ r.2)) || deadIn K t) := rfl

/-- The tree makes what the list makes, but for places that are not known any more. -/
theorem its_flat (Γ : Tab) : ∀ (l : IT) (K : List (Nat × Nat)) (g : Option (Nat × Bool)) (s s' s1 : St), okIts K l = true → (∀ c a, g = some (c, a) → s1.e c = .bool a ∧ c ∉ wr l) →
    its Γ l s = some s' → s1.h = s.h → (∀ t, deadIn K t = false → s1.e t = s.e t) → (∀ t, deadIn K t = true → s.e t = .dead) →
    ∃ s1', flat Γ (flatten l g) s1 = some s1' ∧ s1'.h = s'.h ∧ (∀ t, deadIn (kills l ++ K) t = false → s1'.e t = s'.e t) ∧ (∀ t, deadIn (kills l ++ K) t = true → s'.e t = .dead) ∧ (∀ t, t ∉ wr l → s1'.e t = s1.e t)
  | .nil, K, g, s, s', s1, ok, hg, hi, hh, ha, hd => by
    simp only [its] at hi
    cases hi
    exact ⟨s1, rfl, hh, ha, hd, fun _ _ => rfl⟩
  | .op d o rest, K, g, s, s', s1, ok, hg, hi, hh, ha, hd => by
    simp only [okIts, Bool.and_eq_true, List.all_eq_true] at ok
    obtain ⟨⟨ok1, ok2⟩, ok3⟩ := ok
    simp only [its, Option.bind_eq_some_iff] at hi
    obtain ⟨⟨v, h'⟩, hx, hi⟩ := hi
    have hx1 : exec Γ s1.e s1.h o = some (v, h') := by
      rw [hh, exec_congr o fun x hx => get_live ha (ok1 x hx)]; exact hx
    have hs : step1 Γ ⟨d, g, o⟩ s1 = some (v, h') := by
      unfold step1
      cases g with
      | none => exact hx1
      | some g =>
        obtain ⟨c, a⟩ := g
        simp only [(hg c a rfl).1, if_true]
        exact hx1
    simp only [flatten]
    rw [flat_cons, hs]
    simp only [Option.bind_some]
    have hput : ∀ (s : St) t, (St.put ⟨s.e, h'⟩ d v).e t = if t ∈ optL d then v else s.e t := by
      intro s t
      cases d with
      | none => simp [St.put, optL]
      | some q => simp [St.put, Env.put, optL]
    have hph : ∀ (s : St), (St.put ⟨s.e, h'⟩ d v).h = h' := fun s => by cases d <;> rfl
    obtain ⟨s1', k1, k2, k3, k4, k5⟩ := its_flat Γ rest K g (St.put ⟨s.e, h'⟩ d v) s' (St.put ⟨s1.e, h'⟩ d v) ok3 (fun c a hga => by
        obtain ⟨q1, q2⟩ := hg c a hga
        simp only [wr, List.mem_append, not_or] at q2
        exact ⟨by rw [hput, if_neg q2.1]; exact q1, q2.2⟩) hi (by rw [hph, hph]) (fun t ht => by rw [hput, hput, ha t ht]) (fun t ht => by
        rw [hput, if_neg]
        · exact hd t ht
        · intro hm
          have := ok2 t hm
          rw [ht] at this
          cases this)
    refine ⟨s1', k1, k2, k3, k4, fun t ht => ?_⟩
    simp only [wr, List.mem_append, not_or] at ht
    rw [k5 t ht.2, hput, if_neg ht.1]
  | .sc d a c lo hi l r rest, K, g, s, s', s1, ok, hg, hi', hh, ha, hd => by
    simp only [okIts, Bool.and_eq_true, Bool.not_eq_true'] at ok
    obtain ⟨⟨⟨⟨⟨⟨⟨ok1, ok2⟩, ok3⟩, ok4⟩, ok5⟩, ok6⟩, ok7⟩, ok8⟩ := ok
    have hcw : c ∉ wr l := by simpa using ok2
    have hin : ∀ t, t ∈ wr l → lo ≤ t ∧ t ≤ hi := by
      intro t ht
      have := List.all_eq_true.1 ok3 t ht
      simpa using this
    simp only [its] at hi'
    split at hi'
    · rename_i b hb
      have hb1 : s1.e c = .bool b := by rw [ha c ok1]; exact hb
      simp only [Option.bind_eq_some_iff] at hi'
      obtain ⟨⟨v, h'⟩, hv, hi'⟩ := hi'
      have key : ∃ s2, flat Γ (flatten l (some (c, a))) s1 = some s2 ∧ s2.h = h' ∧ (∀ t, t ∉ wr l → s2.e t = s1.e t) ∧
          exec Γ s2.e s2.h (.pick (.t c) (if a then r else .c (.bool true)) (if a then .c (.bool false) else r)) = some (v, h') := by
        split at hv
        · rename_i hba
          subst hba
          simp only [Option.bind_eq_some_iff] at hv
          obtain ⟨s3, hs3, hv⟩ := hv
          obtain ⟨s2, k1, k2, k3, k4, k5⟩ := its_flat Γ l K (some (c, b)) s s3 s1 ok4 (fun c' a' he => by cases he; exact ⟨hb1, hcw⟩) hs3 hh ha hd
          split at hv
          · rename_i x hx
            cases hv
            refine ⟨s2, k1, k2, k5, ?_⟩
            have hc2 : s2.e c = .bool b := by rw [k5 c hcw]; exact hb1
            have hr : r.get s2.e = .bool x := by rw [get_live k3 ok5]; exact hx
            have hg2 : (AO.t c).get s2.e = .bool b := hc2
            cases b
            · simp only [exec, hg2, Bool.false_eq_true, if_false, hr, k2]
            · simp only [exec, hg2, if_true, hr, k2]
          · cases hv
        · rename_i hba
          cases hv
          obtain ⟨s2, k1, k2, k3, k4⟩ := flat_skip Γ l (c, a) s1 [] (.inr ⟨b, hb1, hba⟩) (fun _ h => by cases h) ok6
          refine ⟨s2, k1, by rw [k2, hh], k3, ?_⟩
          have hc2 : s2.e c = .bool b := by rw [k3 c hcw]; exact hb1
          cases a <;> cases b <;> first | exact absurd rfl hba | (have hg2 := hc2; simp only [exec, AO.get, hg2, k2, hh, Bool.not_true, Bool.not_false, if_true, if_false, Bool.false_eq_true])
      obtain ⟨s2, k1, k2, k3, k4⟩ := key
      have hs : step1 Γ ⟨some d, g, .pick (.t c) (if a then r else .c (.bool true)) (if a then .c (.bool false) else r)⟩ s2 = some (v, h') := by
        unfold step1
        cases g with
        | none => exact k4
        | some g =>
          obtain ⟨c', a'⟩ := g
          obtain ⟨q1, q2⟩ := hg c' a' rfl
          simp only [wr, List.mem_append, not_or] at q2
          have : s2.e c' = .bool a' := by rw [k3 c' q2.1]; exact q1
          simp only [this, if_true]
          exact k4
      have hagree : ∀ t, deadIn ((lo, hi) :: K) t = false → (St.put ⟨s2.e, h'⟩ (some d) v).e t = ((s.e.kill lo hi).put d v) t := by
        intro t ht
        rw [deadIn_cons, Bool.or_eq_false_iff] at ht
        show (if t = d then v else s2.e t) = if t = d then v else (if lo ≤ t ∧ t ≤ hi then .dead else s.e t)
        split
        · rfl
        · have hnin : ¬ (lo ≤ t ∧ t ≤ hi) := by
            intro hc
            have := ht.1
            simp [hc.1, hc.2] at this
          rw [if_neg hnin, k3 t fun hm => hnin (hin t hm), ha t ht.2]
      have hdead : ∀ t, deadIn ((lo, hi) :: K) t = true → ((s.e.kill lo hi).put d v) t = .dead := by
        intro t ht
        show (if t = d then v else (if lo ≤ t ∧ t ≤ hi then .dead else s.e t)) = .dead
        have htd : t ≠ d := by
          rintro rfl
          rw [ok7] at ht
          cases ht
        rw [if_neg htd]
        split
        · rfl
        · rename_i hnin
          rw [deadIn_cons, Bool.or_eq_true] at ht
          refine hd t (ht.resolve_left ?_)
          simpa using hnin
      obtain ⟨s1', m1, m2, m3, m4, m5⟩ := its_flat Γ rest ((lo, hi) :: K) g ⟨(s.e.kill lo hi).put d v, h'⟩ s' (St.put ⟨s2.e, h'⟩ (some d) v) ok8 (fun c' a' he => by
        obtain ⟨q1, q2⟩ := hg c' a' he
        simp only [wr, List.mem_append, List.mem_cons, not_or] at q2
        refine ⟨?_, q2.2.2⟩
        show (if c' = d then v else s2.e c') = _
        rw [if_neg q2.2.1, k3 c' q2.1]
        exact q1) hi' rfl hagree hdead
      have hK : ∀ t, deadIn (kills rest ++ (lo, hi) :: K) t = deadIn (kills (.sc d a c lo hi l r rest) ++ K) t := by
        intro t
        simp only [kills, deadIn, List.any_append, List.any_cons, List.cons_append]
        cases (kills rest).any _ <;> simp
      refine ⟨s1', ?_, m2, fun t ht => m3 t (by rw [hK]; exact ht), fun t ht => m4 t (by rw [hK]; exact ht), fun t ht => ?_⟩
      · simp only [flatten]
        rw [flat_append, k1]
        simp only [Option.bind_some]
        rw [flat_cons, hs]
        exact m1
      · simp only [wr, List.mem_append, List.mem_cons, not_or] at ht
        rw [m5 t ht.2.2]
        show (if t = d then v else s2.e t) = _
        rw [if_neg ht.2.1, k3 t ht.1]
    · cases hi'

end Go.Am
