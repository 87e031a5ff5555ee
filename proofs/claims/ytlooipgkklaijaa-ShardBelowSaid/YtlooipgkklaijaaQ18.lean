import Derived.Test.YtlooipgkklaijaaP18
set_option linter.unusedSimpArgs false
set_option linter.unusedVariables false
namespace Go.Proofs.Ytlooipgkklaijaa
open Go.Am Go.Am.Nm Go.Lib Go.Am.Sh

theorem inc_iff {l : List P} : Inc l ↔ (l.map P.pa).Pairwise (fun a b => sLess a b = true) := by
  rw [List.pairwise_iff_getElem]
  constructor
  · intro h i j hi hj hij
    have hj' : j < l.length := by simpa using hj
    have := h i j hij hj'
    rw [pat_of (by omega), pat_of hj'] at this
    simpa using this
  · intro h i j hij hj
    have := h i j (by simp; omega) (by simpa using hj) hij
    rw [pat_of (by omega), pat_of hj]
    simpa using this
theorem setE_pa (l : List P) (i : Nat) (e : Int) : (setE l i e).map P.pa = l.map P.pa := by
  unfold setE
  cases h : l[i]? with
  | none => rfl
  | some x =>
    simp only [Option.elim_some, List.map_set]
    apply List.ext_getElem?
    intro k
    rw [List.getElem?_set]
    by_cases hk : i = k
    · subst hk
      have hlt := (List.getElem?_eq_some_iff.1 h).1
      have hx : l[i] = x := by
        have := List.getElem?_eq_getElem hlt
        rw [h] at this
        exact (Option.some.inj this).symm
      simp [hlt, hx]
    · rw [if_neg hk]
theorem setM_pa (l : List P) (i : Nat) (g : Int) : (setM l i g).map P.pa = l.map P.pa := by
  unfold setM
  cases h : l[i]? with
  | none => rfl
  | some x =>
    simp only [Option.elim_some, List.map_set]
    apply List.ext_getElem?
    intro k
    rw [List.getElem?_set]
    by_cases hk : i = k
    · subst hk
      have hlt := (List.getElem?_eq_some_iff.1 h).1
      have hx : l[i] = x := by
        have := List.getElem?_eq_getElem hlt
        rw [h] at this
        exact (Option.some.inj this).symm
      simp [hlt, hx]
    · rw [if_neg hk]
theorem setE_ok {l : List P} (h : ∀ p ∈ l, okOne p = true) (i : Nat) {e : Int} (he : okE e = true) : ∀ p ∈ setE l i e, okOne p = true := by
  unfold setE
  cases hx : l[i]? with
  | none => exact h
  | some x =>
    intro p hp
    rcases List.mem_or_eq_of_mem_set hp with hp | rfl
    · exact h p hp
    · have := h x (List.mem_of_getElem? hx)
      simp only [okOne, Bool.and_eq_true] at this ⊢
      exact ⟨this.1, he⟩
theorem setM_ok {l : List P} (h : ∀ p ∈ l, okOne p = true) (i : Nat) {g : Int} (hg : okG g = true) (he : ∀ x, l[i]? = some x → x.ep < 1099511627776) : ∀ p ∈ setM l i g, okOne p = true := by
  unfold setM
  cases hx : l[i]? with
  | none => exact h
  | some x =>
    intro p hp
    rcases List.mem_or_eq_of_mem_set hp with hp | rfl
    · exact h p hp
    · have := h x (List.mem_of_getElem? hx)
      have h2 := he x hx
      simp only [okOne, okE, Bool.and_eq_true, decide_eq_true_eq] at this ⊢
      exact ⟨⟨this.1.1, hg⟩, by omega, by omega⟩
theorem pat_map {l : List P} {k : Nat} : pat l k = ((l.map P.pa)[k]?).getD [] := by
  unfold pat
  rw [List.getElem?_map]
  cases l[k]? <;> rfl
theorem RightP.mk' {l : List P} (h1 : 0 < l.length) (h2 : l.length ≤ 16) (h3 : (l.map P.pa)[0]? = some [47]) (h4 : ∀ p ∈ l, okOne p = true) (h5 : (l.map P.pa).Pairwise (fun a b => sLess a b = true)) : RightP l :=
  ⟨h1, h2, by rw [pat_map, h3]; rfl, h4, inc_iff.2 h5⟩
theorem RightP.map0 {l : List P} (h : RightP l) : (l.map P.pa)[0]? = some [47] := by
  have h1 := h.root
  rw [pat_map] at h1
  have hl := h.ne
  cases hq : (l.map P.pa)[0]? with
  | none => simp at hq; subst hq; simp at hl
  | some x => rw [hq] at h1; simp at h1; rw [h1]
theorem RightP.pw {l : List P} (h : RightP l) : (l.map P.pa).Pairwise (fun a b => sLess a b = true) := inc_iff.1 h.inc
theorem insP_pa (l : List P) (c : Nat) (x : P) : (insP l c x).map P.pa = (l.map P.pa).take c ++ x.pa :: (l.map P.pa).drop c := by
  simp [insP]
theorem delP_pa (l : List P) (c : Nat) : (delP l c).map P.pa = (l.map P.pa).take c ++ (l.map P.pa).drop (c + 1) := by
  simp [delP]
theorem mem_insP {l : List P} {c : Nat} {x p : P} : p ∈ insP l c x ↔ p = x ∨ p ∈ l := by
  unfold insP
  rw [List.mem_append, List.mem_cons]
  constructor
  · rintro (h | h | h)
    · exact .inr (List.mem_of_mem_take h)
    · exact .inl h
    · exact .inr (List.mem_of_mem_drop h)
  · rintro (h | h)
    · exact .inr (.inl h)
    · rw [← List.take_append_drop c l, List.mem_append] at h
      rcases h with h | h
      · exact .inl h
      · exact .inr (.inr h)
theorem mem_delP {l : List P} {c : Nat} {p : P} (h : p ∈ delP l c) : p ∈ l := by
  unfold delP at h
  rw [List.mem_append] at h
  rcases h with h | h
  · exact List.mem_of_mem_take h
  · exact List.mem_of_mem_drop h
theorem setE_mem_pa {l : List P} {i : Nat} {e : Int} {p : P} (h : p ∈ setE l i e) : ∃ q ∈ l, q.pa = p.pa := by
  have : p.pa ∈ (setE l i e).map P.pa := List.mem_map.2 ⟨p, h, rfl⟩
  rw [setE_pa] at this
  obtain ⟨q, hq, e⟩ := List.mem_map.1 this
  exact ⟨q, hq, e⟩
theorem setM_mem_pa {l : List P} {i : Nat} {e : Int} {p : P} (h : p ∈ setM l i e) : ∃ q ∈ l, q.pa = p.pa := by
  have : p.pa ∈ (setM l i e).map P.pa := List.mem_map.2 ⟨p, h, rfl⟩
  rw [setM_pa] at this
  obtain ⟨q, hq, e⟩ := List.mem_map.1 this
  exact ⟨q, hq, e⟩
theorem mem_len {l : List P} {i : Nat} (h : i < l.length) {e : Int} (he : e = epA l i) (hr : RightP l) : 1 ≤ e ∧ e ≤ 1099511627776 := by
  rw [he, epA_of h]
  exact hr.ep _ (List.getElem_mem h)
/-- A piece that is cut. -/
theorem cut_cases (l : List P) (s : List UInt8) (g : Int) : ((cutP l s g).2 ≠ 0 ∧ (cutP l s g).1 = l) ∨ ((cutP l s g).2 = 0 ∧ okG g = true ∧ isP s = true ∧ fnd l s = false ∧ l.length < 16 ∧ epA l (ofI l s) < 1099511627776 ∧ (cutP l s g).1 = insP (setE l (ofI l s) (epA l (ofI l s) + 1)) (cnt l s) ⟨s, g, epA l (ofI l s) + 1⟩) := by
  unfold cutP
  cases hg : okG g with
  | false => left; simp
  | true =>
    cases hp : isP s with
    | false => left; simp
    | true =>
      cases hf : fnd l s with
      | true => left; simp
      | false =>
        by_cases h : 16 ≤ l.length ∨ 1099511627776 ≤ epA l (ofI l s)
        · left; simp [h]
        · right
          simp only [h]
          refine ⟨by simp, by simp, by simp, by simp, by omega, by omega, by simp⟩
theorem join_cases (l : List P) (s : List UInt8) : ((joinP l s).2 ≠ 0 ∧ (joinP l s).1 = l) ∨ ((joinP l s).2 = 0 ∧ isP s = true ∧ fnd l s = true ∧ cnt l s ≠ 0 ∧ max (epA l (cnt l s)) (epA l (ofI l (upP s))) < 1099511627776 ∧
    (joinP l s).1 = delP (setE l (ofI l (upP s)) (max (epA l (cnt l s)) (epA l (ofI l (upP s))) + 1)) (cnt l s)) := by
  unfold joinP upP
  cases hp : isP s with
  | false => left; simp
  | true =>
    cases hf : fnd l s with
    | false => left; simp
    | true =>
      by_cases hc : cnt l s = 0
      · left; simp [hc]
      · by_cases h : 1099511627776 ≤ max (epA l (cnt l s)) (epA l (ofI l ((lastP s).elim [] (·.2))))
        · left; simp [hc, h]
        · right
          simp only [hc, h]
          refine ⟨by simp, by simp, by simp, by simpa using hc, by omega, by simp⟩
theorem move_cases (l : List P) (s : List UInt8) (g : Int) : ((moveP l s g).2 ≠ 0 ∧ (moveP l s g).1 = l) ∨ ((moveP l s g).2 = 0 ∧ okG g = true ∧ isP s = true ∧ fnd l s = true ∧ epA l (cnt l s) < 1099511627776 ∧ (moveP l s g).1 = setM l (cnt l s) g) := by
  unfold moveP
  cases hg : okG g with
  | false => left; simp
  | true =>
    cases hp : isP s with
    | false => left; simp
    | true =>
      cases hf : fnd l s with
      | false => left; simp
      | true =>
        by_cases h : 1099511627776 ≤ epA l (cnt l s)
        · left; simp [h]
        · right
          simp only [h]
          refine ⟨by simp, by simp, by simp, by simp, by omega, by simp⟩
theorem RightP.cnt_pos {l : List P} (h : RightP l) {s : List UInt8} (hs : isP s = true) (hne : s ≠ [47]) : 0 < cnt l s := by
  rw [cnt_iff h.inc s h.ne, h.root]
  have := abv_pre (show abv [47] s = true by rw [abv_root]; exact hs)
  exact less_pre this (fun e => hne e.symm)
theorem RightP.fnd_root {l : List P} (h : RightP l) : fnd l [47] = true := by
  unfold fnd
  have : cnt l [47] = 0 := by
    rcases Nat.eq_zero_or_pos (cnt l [47]) with h' | h'
    · exact h'
    · have h'' : 0 < cnt l [47] := h'
      rw [cnt_iff h.inc _ h.ne, h.root, Kp.sLess_irrefl] at h''; cases h''
  rw [this]
  exact decide_eq_true ⟨h.ne, h.root⟩
theorem cut_pw {l : List P} (h : RightP l) {s : List UInt8} (hf : fnd l s = false) : ((l.map P.pa).take (cnt l s) ++ s :: (l.map P.pa).drop (cnt l s)).Pairwise (fun a b => sLess a b = true) := by
  have hpw := h.pw
  rw [← List.take_append_drop (cnt l s) (l.map P.pa), List.pairwise_append] at hpw
  obtain ⟨h1, h2, h3⟩ := hpw
  have lo : ∀ a ∈ (l.map P.pa).take (cnt l s), sLess a s = true := by
    intro a ha
    obtain ⟨i, hi, rfl⟩ := List.mem_iff_getElem.1 ha
    have hi' : i < cnt l s ∧ i < l.length := by simp at hi; omega
    have := (cnt_iff h.inc s hi'.2).1 hi'.1
    rw [pat_of hi'.2] at this
    simpa using this
  have hi : ∀ b ∈ (l.map P.pa).drop (cnt l s), sLess s b = true := by
    intro b hb
    obtain ⟨i, hi, rfl⟩ := List.mem_iff_getElem.1 hb
    have hi' : cnt l s + i < l.length := by simp at hi; omega
    have hn : ¬ sLess (pat l (cnt l s + i)) s = true := by rw [← cnt_iff h.inc s hi']; omega
    have hne : pat l (cnt l s + i) ≠ s := by
      intro e
      have : plc l s ≠ -1 := by
        unfold plc
        cases hq : l.find? fun p => decide (p.pa = s) with
        | none =>
          rw [List.find?_eq_none] at hq
          rw [pat_of hi'] at e
          exact absurd (decide_eq_true e) (by simpa using hq _ (List.getElem_mem hi'))
        | some z => simp
      rw [plc_none h.inc hf] at this
      exact this rfl
    have := less_iff.2 (show ¬ (sLess (pat l (cnt l s + i)) s = true ∨ pat l (cnt l s + i) = s) by
      rintro (h | h)
      · exact hn h
      · exact hne h)
    rw [pat_of hi'] at this
    simpa using this
  rw [List.pairwise_append]
  refine ⟨h1, List.pairwise_cons.2 ⟨hi, h2⟩, fun a ha b hb => ?_⟩
  rcases List.mem_cons.1 hb with rfl | hb
  · exact lo a ha
  · exact h3 a ha b hb
theorem RightP.cut {l : List P} (h : RightP l) (s : List UInt8) (g : Int) : RightP (cutP l s g).1 := by
  rcases cut_cases l s g with ⟨_, e⟩ | ⟨_, hg, hp, hf, hl, hE, e⟩
  · rw [e]; exact h
  · rw [e]
    have hof := h.of_lt hp
    have he := mem_len hof rfl h
    have hne : s ≠ [47] := by
      rintro rfl
      rw [h.fnd_root] at hf; cases hf
    have hc := h.cnt_pos hp hne
    refine .mk' ?_ ?_ ?_ ?_ ?_
    · simp only [insP, List.length_append, List.length_cons]; omega
    · simp only [insP, List.length_append, List.length_cons, List.length_take, List.length_drop, setE_len]
      omega
    · rw [insP_pa, setE_pa, List.getElem?_append_left (by simp only [List.length_take, List.length_map]; have := h.ne; omega), List.getElem?_take, if_pos hc]
      exact h.map0
    · intro p hm
      rcases mem_insP.1 hm with rfl | hm
      · simp only [okOne, okE, Bool.and_eq_true, decide_eq_true_eq]
        exact ⟨⟨hp, hg⟩, by omega, by omega⟩
      · exact setE_ok h.ok _ (by unfold okE; exact decide_eq_true ⟨by omega, by omega⟩) p hm
    · rw [insP_pa, setE_pa]
      exact cut_pw h hf
theorem RightP.join {l : List P} (h : RightP l) (s : List UInt8) : RightP (joinP l s).1 := by
  rcases join_cases l s with ⟨_, e⟩ | ⟨_, hp, hf, hc0, hE, e⟩
  · rw [e]; exact h
  · rw [e]
    obtain ⟨hc, _⟩ := fnd_pat hf
    have he := mem_len hc rfl h
    refine .mk' ?_ ?_ ?_ ?_ ?_
    · simp only [delP, List.length_append, List.length_take, List.length_drop, setE_len]
      omega
    · have := h.le
      simp only [delP, List.length_append, List.length_take, List.length_drop, setE_len]
      omega
    · rw [delP_pa, setE_pa, List.getElem?_append_left (by simp only [List.length_take, List.length_map]; have := h.ne; omega), List.getElem?_take, if_pos (by omega)]
      exact h.map0
    · intro p hm
      exact setE_ok h.ok _ (by unfold okE; exact decide_eq_true ⟨by omega, by omega⟩) p (mem_delP hm)
    · rw [delP_pa, setE_pa]
      refine h.pw.sublist ?_
      have : (l.map P.pa).take (cnt l s) ++ (l.map P.pa).drop (cnt l s + 1) = (l.map P.pa).eraseIdx (cnt l s) := by rw [List.eraseIdx_eq_take_drop_succ]
      rw [this]
      exact List.eraseIdx_sublist _ _
theorem RightP.move {l : List P} (h : RightP l) (s : List UInt8) (g : Int) : RightP (moveP l s g).1 := by
  rcases move_cases l s g with ⟨_, e⟩ | ⟨_, hg, hp, hf, hE, e⟩
  · rw [e]; exact h
  · rw [e]
    refine .mk' (by rw [setM_len]; exact h.ne) (by rw [setM_len]; exact h.le) (by rw [setM_pa]; exact h.map0) (setM_ok h.ok _ hg fun x hx => ?_) (by rw [setM_pa]; exact h.pw)
    unfold epA at hE
    rw [hx] at hE
    exact hE
/-- Paths no longer than that. -/
def Lens (k : Nat) (l : List P) : Prop := ∀ p ∈ l, p.pa.length ≤ k
theorem Lens.setE {k : Nat} {l : List P} (h : Lens k l) (i : Nat) (e : Int) : Lens k (setE l i e) := fun p hp => by
  obtain ⟨q, hq, e⟩ := setE_mem_pa hp
  rw [← e]; exact h q hq
theorem Lens.cut {k : Nat} {l : List P} (h : Lens k l) {s : List UInt8} (hs : s.length ≤ k) (g : Int) : Lens k (cutP l s g).1 := by
  rcases cut_cases l s g with ⟨_, e⟩ | ⟨_, _, _, _, _, _, e⟩
  · rw [e]; exact h
  · rw [e]
    intro p hp
    rcases mem_insP.1 hp with rfl | hp
    · exact hs
    · exact h.setE _ _ p hp
theorem Lens.join {k : Nat} {l : List P} (h : Lens k l) (s : List UInt8) : Lens k (joinP l s).1 := by
  rcases join_cases l s with ⟨_, e⟩ | ⟨_, _, _, _, _, e⟩
  · rw [e]; exact h
  · rw [e]
    intro p hp
    exact h.setE _ _ p (mem_delP hp)
theorem Lens.move {k : Nat} {l : List P} (h : Lens k l) (s : List UInt8) (g : Int) : Lens k (moveP l s g).1 := by
  rcases move_cases l s g with ⟨_, e⟩ | ⟨_, _, _, _, _, e⟩
  · rw [e]; exact h
  · rw [e]
    intro p hp
    obtain ⟨q, hq, e⟩ := setM_mem_pa hp
    rw [← e]; exact h q hq
end Go.Proofs.Ytlooipgkklaijaa
