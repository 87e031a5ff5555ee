import Derived.Test.YtjblbmcgpdmahaaQ16
set_option linter.unusedSimpArgs false
set_option linter.unusedVariables false
namespace Go.Proofs.Ytjblbmcgpdmahaa
open Go.Am

/-! Majorities, by trying all. -/
theorem both_cons (x : Int) (a b : List Int) : both (x :: a) b = (if x ∈ b then 1 else 0) + both a b := by
  unfold both
  rw [List.filter_cons]
  by_cases h : x ∈ b
  · simp [h]; omega
  · simp [h]
theorem both_snd {x : Int} {a : List Int} (hx : x ∉ a) : ∀ {b : List Int}, b.Nodup → both b (x :: a) = (if x ∈ b then 1 else 0) + both b a
  | [], _ => by simp [both]
  | z :: b, h => by
    obtain ⟨h1, h2⟩ := List.nodup_cons.1 h
    rw [both_cons, both_cons, both_snd hx h2]
    by_cases hz : z = x
    · subst hz
      simp [hx, h1]
    · have hz' : ¬ x = z := fun e => hz e.symm
      simp [hz, hz']
      omega
theorem both_comm : ∀ {a b : List Int}, a.Nodup → b.Nodup → both a b = both b a
  | [], b, _, _ => by
    unfold both
    rw [List.filter_eq_nil_iff.2 (show ∀ x ∈ b, ¬ decide (x ∈ ([] : List Int)) = true by simp)]
    rfl
  | x :: a, b, ha, hb => by
    obtain ⟨h1, h2⟩ := List.nodup_cons.1 ha
    rw [both_cons, both_snd h1 hb, both_comm h2 hb]
theorem both_all {a b : List Int} (h : ∀ x ∈ a, x ∈ b) : both a b = a.length := by
  unfold both
  rw [List.filter_eq_self.2 fun x hx => by simp [h x hx]]
theorem sub_len {a b : List Int} (ha : a.Nodup) (hb : b.Nodup) (h : ∀ x ∈ a, x ∈ b) : a.length ≤ b.length := by
  rw [← both_all h, both_comm ha hb]
  exact both_le b a
theorem both_split (a b : List Int) : both a b + (a.filter fun x => !decide (x ∈ b)).length = a.length := by
  unfold both
  induction a with
  | nil => rfl
  | cons x a ih =>
    by_cases h : x ∈ b
    · simp [h] at ih ⊢; omega
    · simp [h] at ih ⊢; omega
theorem pick_sub : ∀ (l : List Int) (n : Nat), (pick l n).Sublist l
  | [], _ => by simp [pick]
  | x :: l, n => by
    simp only [pick]
    split
    · exact (pick_sub l _).cons_cons x
    · exact (pick_sub l _).cons x
theorem pick_all (P : Int → Bool) : ∀ l : List Int, ∃ n, n < 2 ^ l.length ∧ pick l n = l.filter P
  | [] => ⟨0, by simp, rfl⟩
  | x :: l => by
    obtain ⟨n, h1, h2⟩ := pick_all P l
    cases h : P x with
    | true =>
      refine ⟨2 * n + 1, by rw [List.length_cons, Nat.pow_succ]; omega, ?_⟩
      simp only [pick]
      rw [if_pos (by omega), show (2 * n + 1) / 2 = n by omega, h2, List.filter_cons, if_pos h]
    | false =>
      refine ⟨2 * n, by rw [List.length_cons, Nat.pow_succ]; omega, ?_⟩
      simp only [pick]
      rw [if_neg (by omega), show (2 * n) / 2 = n by omega, h2, List.filter_cons, if_neg (by simp [h])]
theorem apart_iff {a b : List Int} : apartB a b = true ↔ ∀ x ∈ a, x ∉ b := by
  unfold apartB
  rw [List.all_eq_true]
  constructor
  · intro h x hx hb
    have := List.all_eq_true.1 (h x hx) x hb
    simp at this
  · intro h x hx
    rw [List.all_eq_true]
    intro y hy
    have : x ≠ y := fun e => h x hx (e ▸ hy)
    simp [this]
theorem meetB_iff {a b : List Int} : meetB a b = true ↔ ∀ n, n < 128 → ∀ m, m < 128 → a.length < 2 * (pick a n).length → b.length < 2 * (pick b m).length → apartB (pick a n) (pick b m) = false := by
  unfold meetB
  rw [List.all_eq_true]
  constructor
  · intro h n hn m hm h1 h2
    have := h n (List.mem_range.2 hn)
    unfold inB at this
    rw [decide_eq_true h1, Bool.not_true, Bool.false_or, List.all_eq_true] at this
    have := this m (List.mem_range.2 hm)
    unfold hit at this
    rw [decide_eq_true h2, Bool.true_and] at this
    simpa using this
  · intro h n hn
    unfold inB
    by_cases h1 : a.length < 2 * (pick a n).length
    · rw [decide_eq_true h1, Bool.not_true, Bool.false_or, List.all_eq_true]
      intro m hm
      unfold hit
      by_cases h2 : b.length < 2 * (pick b m).length
      · rw [decide_eq_true h2, Bool.true_and, h n (List.mem_range.1 hn) m (List.mem_range.1 hm) h1 h2]; rfl
      · rw [decide_eq_false h2]; rfl
    · rw [decide_eq_false h1]; rfl
theorem meet_all {a b : List Int} (ha : a.Nodup) (hb : b.Nodup) (ha7 : a.length ≤ 7) (hb7 : b.length ≤ 7) : meetA a b = meetB a b := by
  have hc := both_comm ha hb
  have hbl := both_le a b
  have hbl' := both_le b a
  have p7 : ∀ l : List Int, l.length ≤ 7 → 2 ^ l.length ≤ 128 := fun l h => Nat.pow_le_pow_right (by omega) (show l.length ≤ 7 from h)
  rw [Bool.eq_iff_iff, meetB_iff]
  unfold meetA
  rw [decide_eq_true_eq]
  constructor
  · intro hm n hn m hmm h1 h2
    cases hap : apartB (pick a n) (pick b m) with
    | false => rfl
    | true =>
      exfalso
      have hap := apart_iff.1 hap
      have sx := pick_sub a n
      have sy := pick_sub b m
      generalize pick a n = x at *
      generalize pick b m = y at *
      have nx := ha.sublist sx
      have ny := hb.sublist sy
      have c1 := both_split x b
      have c2 := both_split a b
      have c3 := (sx.filter fun z => !decide (z ∈ b)).length_le
      have d1 := both_split y a
      have d2 := both_split b a
      have d3 := (sy.filter fun z => !decide (z ∈ a)).length_le
      have hw : ((x.filter fun z => decide (z ∈ b)) ++ (y.filter fun z => decide (z ∈ a))).length ≤ (a.filter fun z => decide (z ∈ b)).length := by
        refine sub_len (List.nodup_append.2 ⟨nx.sublist List.filter_sublist, ny.sublist List.filter_sublist, fun u hu v hv e => ?_⟩) (ha.sublist List.filter_sublist) fun z hz => ?_
        · subst e
          exact hap u (List.mem_filter.1 hu).1 (List.mem_filter.1 hv).1
        · rcases List.mem_append.1 hz with hz | hz
          · obtain ⟨hz1, hz2⟩ := List.mem_filter.1 hz
            exact List.mem_filter.2 ⟨sx.subset hz1, hz2⟩
          · obtain ⟨hz1, hz2⟩ := List.mem_filter.1 hz
            exact List.mem_filter.2 ⟨by simpa using hz2, by simpa using sy.subset hz1⟩
      rw [List.length_append] at hw
      change both x b + both y a ≤ both a b at hw
      unfold need at hm
      omega
  · intro h
    apply Classical.byContradiction
    intro hm
    obtain ⟨T, hT⟩ : ∃ T, T = (a.filter fun z => decide (z ∈ b)).take (need a.length (both a b)).toNat := ⟨_, rfl⟩
    have hna : 0 ≤ need a.length (both a b) := by unfold need; omega
    have hnb : 0 ≤ need b.length (both a b) := by unfold need; omega
    have hTl : T.length = (need a.length (both a b)).toNat := by
      rw [hT, List.length_take]
      change min _ (both a b) = _
      omega
    have hTs : T.Sublist (a.filter fun z => decide (z ∈ b)) := by rw [hT]; exact List.take_sublist _ _
    have hTn : T.Nodup := (ha.sublist List.filter_sublist).sublist hTs
    have hTm : ∀ z ∈ T, z ∈ a ∧ z ∈ b := fun z hz => by
      have := List.mem_filter.1 (hTs.subset hz)
      exact ⟨this.1, by simpa using this.2⟩
    obtain ⟨n, hn, hx⟩ := pick_all (fun z => !decide (z ∈ b) || decide (z ∈ T)) a
    obtain ⟨m, hmm, hy⟩ := pick_all (fun z => !decide (z ∈ T)) b
    have t1 : both b T = T.length := by rw [← both_comm hTn hb, both_all fun z hz => (hTm z hz).2]
    have t2 := both_split b T
    have t3 : both a T = T.length := by rw [← both_comm hTn ha, both_all fun z hz => (hTm z hz).1]
    have hxl : (a.filter fun z => !decide (z ∈ b) || decide (z ∈ T)).length = (a.filter fun z => !decide (z ∈ b)).length + both a T := by
      unfold both
      clear t3 hn hx t2 t1
      have : ∀ l : List Int, (l.filter fun z => !decide (z ∈ b) || decide (z ∈ T)).length = (l.filter fun z => !decide (z ∈ b)).length + (l.filter fun z => decide (z ∈ T)).length := by
        intro l
        induction l with
        | nil => rfl
        | cons z l ih =>
          by_cases hzT : z ∈ T
          · have := (hTm z hzT).2
            simp [hzT, this] at ih ⊢; omega
          · by_cases hzb : z ∈ b
            · simp [hzT, hzb] at ih ⊢; omega
            · simp [hzT, hzb] at ih ⊢; omega
      exact this a
    have hs := both_split a b
    have hp := h n (by have := p7 a ha7; omega) m (by have := p7 b hb7; omega)
    rw [hx, hy] at hp
    have hfin := hp (by rw [hxl]; unfold need at hTl; omega) (by unfold need at hm hTl; omega)
    have : apartB (a.filter fun z => !decide (z ∈ b) || decide (z ∈ T)) (b.filter fun z => !decide (z ∈ T)) = true := by
      rw [apart_iff]
      intro z hz hz'
      obtain ⟨_, h1⟩ := List.mem_filter.1 hz
      obtain ⟨h2, h3⟩ := List.mem_filter.1 hz'
      simp [h2] at h1 h3
      exact h3 h1
    rw [this] at hfin
    cases hfin
theorem meet_self {a : List Int} (h : 1 ≤ a.length) : meetA a a = true := by
  unfold meetA need
  rw [both_all fun _ h => h, decide_eq_true_eq]
  omega
theorem meet_comm {a b : List Int} (ha : a.Nodup) (hb : b.Nodup) : meetA a b = meetA b a := by
  unfold meetA
  rw [both_comm ha hb, Int.add_comm]
theorem meet_less {a : List Int} (ha : a.Nodup) (x : Int) (h : (a.filter fun y => decide (y ≠ x)) ≠ []) : meetA a (a.filter fun y => decide (y ≠ x)) = true := by
  have hl : 1 ≤ (a.filter fun y => decide (y ≠ x)).length := by
    cases hq : a.filter fun y => decide (y ≠ x) with
    | nil => exact absurd hq h
    | cons _ _ => simp
  have h1 := ne_len ha x
  have e : both a (a.filter fun y => decide (y ≠ x)) = (a.filter fun y => decide (y ≠ x)).length := by
    rw [both_comm ha (ha.sublist List.filter_sublist), both_all fun z hz => (List.mem_filter.1 hz).1]
  unfold meetA need
  rw [e, decide_eq_true_eq]
  split at h1 <;> omega
end Go.Proofs.Ytjblbmcgpdmahaa
