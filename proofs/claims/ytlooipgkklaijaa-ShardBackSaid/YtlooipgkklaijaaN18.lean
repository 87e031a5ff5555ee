import Derived.Test.YtlooipgkklaijaaK18
set_option linter.unusedSimpArgs false
set_option linter.unusedVariables false
namespace Go.Proofs.Ytlooipgkklaijaa
open Go.Am Go.Am.Nm Go.Lib Go.Am.Sh

theorem less_app : ∀ (x : List UInt8) (b : UInt8) (t : List UInt8), sLess x (x ++ b :: t) = true
  | [], b, t => rfl
  | a :: x, b, t => by
    rw [List.cons_append, Kp.sLess_cons]
    exact .inr ⟨rfl, less_app x b t⟩
theorem less_pre {a b : List UInt8} (h : a <+: b) (hne : a ≠ b) : sLess a b = true := by
  obtain ⟨t, rfl⟩ := h
  cases t with
  | nil => exact absurd (List.append_nil a).symm hne
  | cons c t => exact less_app a c t
theorem less_asymm {a b : List UInt8} (h : sLess a b = true) : sLess b a = false := by
  cases h' : sLess b a with
  | false => rfl
  | true => exact absurd (.inl h') (less_iff.1 h)
theorem less_ne {a b : List UInt8} (h : sLess a b = true) : a ≠ b := by
  rintro rfl
  rw [Kp.sLess_irrefl] at h; cases h
theorem jn_pre {m : List (List UInt8)} (k : Nat) : jn (m.take k) <+: jn m := by
  by_cases h0 : m = []
  · subst h0; simp
  · by_cases hk : 0 < k
    · obtain ⟨h1, _⟩ : jn (m.take k) = (jn m).take (jn (m.take k)).length ∧ _ := by
        have ht : m.take k ≠ [] := by
          intro h
          rcases List.take_eq_nil_iff.1 h with h | h
          · omega
          · exact h0 h
        rw [← joinTail_jn h0, ← joinTail_jn ht]
        have e : joinTail [47] m = joinTail [47] (m.take k) ++ joinTail [47] (m.drop k) := by
          unfold joinTail
          rw [← List.flatten_append, ← List.map_append, List.take_append_drop]
        rw [e]
        exact ⟨by simp, trivial⟩
      rw [h1]
      exact List.take_prefix _ _
    · have : k = 0 := by omega
      subst this
      have hj : jn m = 47 :: join m [47] := by unfold jn; rw [if_neg h0]
      rw [hj]
      exact ⟨join m [47], rfl⟩
/-- Above: by names. -/
theorem abv_iff {a s : List UInt8} : abv a s = true ↔ ∃ (S : List (List UInt8)) (k : Nat), split s = some S ∧ k ≤ S.length ∧ a = jn (S.take k) := by
  unfold abv
  constructor
  · intro h
    cases ha : split a with
    | none => rw [ha] at h; cases h
    | some A =>
      cases hs : split s with
      | none => rw [ha, hs] at h; cases h
      | some S =>
        rw [ha, hs] at h
        obtain ⟨h1, h2⟩ := of_decide_eq_true h
        exact ⟨S, A.length, rfl, h1, by rw [← h2]; exact (split_some ha).1.symm⟩
  · rintro ⟨S, k, hs, hk, rfl⟩
    obtain ⟨h1, h2, h3⟩ := split_some hs
    have ht : (S.take k).all rightN = true := by
      rw [List.all_eq_true] at h3 ⊢
      exact fun x hx => h3 x (List.mem_of_mem_take hx)
    have hl : (S.take k).length = k := by simp; omega
    rw [split_jn (by omega) ht, hs]
    simp only [hl]
    exact decide_eq_true ⟨hk, trivial⟩
theorem abv_pre {a s : List UInt8} (h : abv a s = true) : a <+: s := by
  obtain ⟨S, k, hs, hk, rfl⟩ := abv_iff.1 h
  have := jn_pre (m := S) k
  rw [(split_some hs).1] at this
  exact this
theorem abv_self {s : List UInt8} (h : isP s = true) : abv s s = true := by
  unfold isP at h
  cases hs : split s with
  | none => rw [hs] at h; cases h
  | some S => exact abv_iff.2 ⟨S, S.length, hs, Nat.le_refl _, by rw [List.take_length]; exact (split_some hs).1.symm⟩
theorem abv_trans {a b s : List UInt8} (h1 : abv a b = true) (h2 : abv b s = true) : abv a s = true := by
  obtain ⟨S, k, hs, hk, rfl⟩ := abv_iff.1 h2
  obtain ⟨B, j, hb, hj, rfl⟩ := abv_iff.1 h1
  obtain ⟨g1, g2, g3⟩ := split_some hs
  have hB : B = S.take k := by
    obtain ⟨b1, b2, b3⟩ := split_some hb
    have ht : (S.take k).all rightN = true := by
      rw [List.all_eq_true] at g3 ⊢
      exact fun x hx => g3 x (List.mem_of_mem_take hx)
    exact jn_inj b2 b3 (by simp; omega) ht b1
  rw [hB] at hj ⊢
  simp only [List.length_take] at hj
  rw [List.take_take, Nat.min_eq_left (by omega)]
  exact abv_iff.2 ⟨S, j, hs, by omega, rfl⟩
/-- Of two that are above a path one is above the other one. -/
theorem abv_chain {a b s : List UInt8} (h1 : abv a s = true) (h2 : abv b s = true) : abv a b = true ∨ abv b a = true := by
  obtain ⟨S, k, hs, hk, rfl⟩ := abv_iff.1 h1
  obtain ⟨S', j, hs', hj, rfl⟩ := abv_iff.1 h2
  rw [hs] at hs'
  cases hs'
  obtain ⟨g1, g2, g3⟩ := split_some hs
  have ht : ∀ k, (S.take k).all rightN = true := fun k => by
    rw [List.all_eq_true] at g3 ⊢
    exact fun x hx => g3 x (List.mem_of_mem_take hx)
  rcases Nat.le_total k j with h | h
  · left
    exact abv_iff.2 ⟨S.take j, k, split_jn (by simp; omega) (ht j), by simp; omega, by rw [List.take_take, Nat.min_eq_left h]⟩
  · right
    exact abv_iff.2 ⟨S.take k, j, split_jn (by simp; omega) (ht k), by simp; omega, by rw [List.take_take, Nat.min_eq_left h]⟩
theorem abv_isP {a s : List UInt8} (h : abv a s = true) : isP a = true ∧ isP s = true := by
  unfold abv at h
  unfold isP
  cases ha : split a with
  | none => rw [ha] at h; cases h
  | some A =>
    cases hs : split s with
    | none => rw [ha, hs] at h; cases h
    | some S => exact ⟨rfl, rfl⟩
theorem abv_anti {a b : List UInt8} (h1 : abv a b = true) (h2 : abv b a = true) : a = b := by
  obtain ⟨t, ht⟩ := abv_pre h1
  obtain ⟨u, hu⟩ := abv_pre h2
  have : t = [] := by
    have h := congrArg List.length ht
    have h' := congrArg List.length hu
    simp at h h'
    exact List.eq_nil_of_length_eq_zero (by omega)
  rw [this, List.append_nil] at ht
  exact ht
/-- In order the nearer one comes later. -/
theorem abv_order {a b s : List UInt8} (h1 : abv a s = true) (h2 : abv b s = true) (hlt : sLess a b = true) : abv a b = true := by
  rcases abv_chain h1 h2 with h | h
  · exact h
  · exfalso
    have hp := abv_pre h
    have := less_pre hp (fun e => less_ne hlt e.symm)
    rw [less_asymm hlt] at this; cases this
theorem ix_sorted (q : P → Bool) : ∀ (l : List P) (k : Nat), (ix q l k).Pairwise (· < ·)
  | [], k => .nil
  | p :: l, k => by
    have ih := ix_sorted q l (k + 1)
    unfold ix
    cases q p with
    | false => exact ih
    | true =>
      refine List.pairwise_cons.2 ⟨fun i hi => ?_, ih⟩
      obtain ⟨_, h, _⟩ := mem_ix.1 hi
      omega
theorem last_max {a : List Nat} (h : a.Pairwise (· < ·)) (hne : a ≠ []) : ∀ j ∈ a, j ≤ a.getLast hne := by
  intro j hj
  obtain ⟨i, hi, rfl⟩ := List.mem_iff_getElem.1 hj
  rw [List.getLast_eq_getElem]
  rcases Nat.lt_or_ge i (a.length - 1) with h' | h'
  · exact Nat.le_of_lt (List.pairwise_iff_getElem.1 h i (a.length - 1) hi (by omega) h')
  · have : i = a.length - 1 := by omega
    subst this; exact Nat.le_refl _
theorem ofI_max {l : List P} {s : List UInt8} {j : Nat} (hj : j ∈ abo l s) : j ≤ ofI l s := by
  have hne : abo l s ≠ [] := fun h => by rw [h] at hj; cases hj
  unfold ofI
  rw [List.getLast?_eq_some_getLast hne]
  exact last_max (ix_sorted _ l 0) hne j hj
theorem ofI_uniq {l : List P} {s : List UInt8} {b : Nat} (hb : b ∈ abo l s) (h : ∀ j ∈ abo l s, j ≤ b) : ofI l s = b := by
  have hne : abo l s ≠ [] := fun h => by rw [h] at hb; cases hb
  have h1 := ofI_max hb
  have h2 := h _ (ofI_mem hne)
  omega
theorem RightP.refOf {l : List P} (h : RightP l) {s : List UInt8} (hs : isP s = true) : refOf l s = ofI l s := by
  have inv := fold_inv (List.range l.length) (refG l s) (fun i b => b ∈ abo l s ∧ (∀ j ∈ abo l s, j < i → j ≤ b) ∧ (b < i ∨ b = 0)) 0 0 (fun i hi b hb => by
    rw [List.getElem_range]
    rw [Nat.zero_add] at hb ⊢
    have hi' : i < l.length := by simpa using hi
    obtain ⟨h1, h2, h3⟩ := hb
    obtain ⟨hbl, hba⟩ := mem_abo.1 h1
    unfold refG
    cases ha : abv (pat l i) s with
    | false =>
      simp only [Bool.false_and, cond_false]
      refine ⟨h1, fun j hj hji => ?_, by omega⟩
      rcases Nat.lt_or_ge j i with h' | h'
      · exact h2 j hj h'
      · have : j = i := by omega
        subst this
        rw [(mem_abo.1 hj).2] at ha; cases ha
    | true =>
      have hle : (pat l b).length ≤ (pat l i).length := by
        rcases Nat.lt_or_ge b i with h' | h'
        · exact (abv_pre (abv_order hba ha (h.inc b i h' hi'))).length_le
        · have : i = b := by omega
          rw [this]; exact Nat.le_refl _
      rw [decide_eq_true hle]
      simp only [Bool.and_self, cond_true]
      exact ⟨mem_abo.2 ⟨hi', ha⟩, fun j _ hji => by omega, by omega⟩) ⟨mem_abo.2 ⟨h.ne, by rw [h.root, abv_root]; exact hs⟩, fun j _ hj => by omega, by omega⟩
  rw [Nat.zero_add, List.length_range] at inv
  exact (ofI_uniq inv.1 fun j hj => inv.2.1 j hj (mem_abo.1 hj).1).symm
theorem plc_eq {l : List P} (h : Inc l) (s : List UInt8) : plc l s = if fnd l s = true then (cnt l s : Int) else -1 := by
  unfold plc
  cases hf : fnd l s with
  | true =>
    obtain ⟨h1, h2⟩ := fnd_pat hf
    have e : l.findIdx (fun p => decide (p.pa = s)) = cnt l s := by
      rw [List.findIdx_eq h1]
      refine ⟨by rw [pat_of h1] at h2; exact decide_eq_true h2, fun j hj => ?_⟩
      have hjl : j < l.length := by omega
      have := h j _ hj h1
      rw [h2, pat_of hjl] at this
      exact decide_eq_false (less_ne this)
    cases hq : l.find? fun p => decide (p.pa = s) with
    | none =>
      rw [List.find?_eq_none] at hq
      rw [pat_of h1] at h2
      exact absurd (decide_eq_true h2) (by simpa using hq _ (List.getElem_mem h1))
    | some x => simp [e]
  | false =>
    cases hq : l.find? fun p => decide (p.pa = s) with
    | none => rfl
    | some x =>
      exfalso
      have h1 := List.mem_of_find?_eq_some hq
      have h2 : x.pa = s := by simpa using List.find?_some hq
      obtain ⟨i, hi, rfl⟩ := List.mem_iff_getElem.1 h1
      rw [← pat_of hi] at h2
      have h3 : ¬ i < cnt l s := by rw [cnt_iff h s hi, h2, Kp.sLess_irrefl]; simp
      have h4 : ¬ cnt l s < i := by
        intro hlt
        have hcl : cnt l s < l.length := by omega
        have h5 : ¬ sLess (pat l (cnt l s)) s = true := by rw [← cnt_iff h s hcl]; omega
        have := h _ _ hlt hi
        rw [h2] at this
        exact h5 this
      have h5 : i = cnt l s := by omega
      have : fnd l s = true := by
        unfold fnd
        rw [← h5]
        exact decide_eq_true ⟨hi, h2⟩
      rw [hf] at this; cases this
end Go.Proofs.Ytlooipgkklaijaa
