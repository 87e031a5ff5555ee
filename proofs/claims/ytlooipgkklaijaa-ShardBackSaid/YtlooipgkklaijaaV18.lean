import Derived.Test.YtlooipgkklaijaaT18
set_option linter.unusedSimpArgs false
set_option linter.unusedVariables false
namespace Go.Proofs.Ytlooipgkklaijaa
open Go.Am Go.Am.Nm Go.Lib Go.Am.Sh

theorem get_of {l : List P} {k : Nat} (h : k < l.length) : l[k]? = some l[k] := List.getElem?_eq_getElem h
theorem setE_id {l : List P} {i : Nat} (hi : i < l.length) (e : Int) {k : Nat} (hk : k < l.length) : (setE l i e)[k]? = some ⟨l[k].pa, l[k].gr, if k = i then e else l[k].ep⟩ := by
  rw [setE_gt hi]
  by_cases h : k = i
  · subst h; simp
  · rw [if_neg h, if_neg h, get_of hk]
/-- Behind a cut: whose a path is, and how that one is. -/
theorem cut_law {p : List P} (h : RightP p) {s : List UInt8} {g : Int} (hc : (cutP p s g).2 = 0) {o : List UInt8} (ho : isP o = true) :
    (cutP p s g).1.length = p.length + 1 ∧ ∃ x, p[ofI p o]? = some x ∧
      (cutP p s g).1[ofI (cutP p s g).1 o]? = some (if abv s o = true ∧ ofI p o = ofI p s then ⟨s, g, epA p (ofI p s) + 1⟩ else ⟨x.pa, x.gr, if ofI p o = ofI p s then x.ep + 1 else x.ep⟩) := by
  have hq := h.cut s g
  rcases cut_cases p s g with ⟨e, _⟩ | ⟨_, hg, hs, hf, hl, hE, e⟩
  · exact absurd hc e
  rw [e] at hq ⊢
  have hcl := cnt_le p s
  have hw := h.of_lt hs
  have ha := h.of_lt ho
  have hb := of_cut h hs hf hq (by rw [insP_pa, setE_pa]) ho
  refine ⟨by rw [insP_len, setE_len], p[ofI p o], get_of ha, ?_⟩
  rw [hb]
  by_cases hA : abv s o = true ∧ ofI p o = ofI p s
  · rw [if_pos hA, if_pos hA, insP_at (by rw [setE_len]; exact hcl)]
  · rw [if_neg hA, if_neg hA, insP_sh (by rw [setE_len]; exact hcl), setE_id hw _ ha]
    by_cases hE' : ofI p o = ofI p s
    · rw [if_pos hE', if_pos hE', ← hE', epA_of ha]
    · rw [if_neg hE', if_neg hE']
/-- Nothing of a path's piece is older. -/
def Newer (p q : List P) (o : List UInt8) : Prop := ∃ x y, p[ofI p o]? = some x ∧ q[ofI q o]? = some y ∧ x.ep ≤ y.ep ∧ ((x.pa = y.pa ∧ x.gr = y.gr) ∨ x.ep < y.ep)
theorem newer_self {p : List P} (h : RightP p) {o : List UInt8} (ho : isP o = true) : Newer p p o :=
  ⟨_, _, get_of (h.of_lt ho), get_of (h.of_lt ho), Int.le_refl _, .inl ⟨rfl, rfl⟩⟩
theorem cut_newer {p : List P} (h : RightP p) (s : List UInt8) (g : Int) {o : List UInt8} (ho : isP o = true) : Newer p (cutP p s g).1 o := by
  rcases cut_cases p s g with ⟨_, e⟩ | ⟨hc, _⟩
  · rw [e]; exact newer_self h ho
  · obtain ⟨_, x, h1, h2⟩ := cut_law h hc ho
    refine ⟨x, _, h1, h2, ?_⟩
    by_cases hA : abv s o = true ∧ ofI p o = ofI p s
    · rw [if_pos hA, ← hA.2]
      have : epA p (ofI p o) = x.ep := by unfold epA; rw [h1]; rfl
      rw [this]
      exact ⟨by simp only; omega, .inr (by simp only; omega)⟩
    · rw [if_neg hA]
      refine ⟨?_, .inl ⟨rfl, rfl⟩⟩
      simp only
      split <;> omega
theorem join_newer {p : List P} (h : RightP p) (s : List UInt8) {o : List UInt8} (ho : isP o = true) : Newer p (joinP p s).1 o := by
  rcases join_cases p s with ⟨_, e⟩ | ⟨_, hs, hf, hc0, hE, e⟩
  · rw [e]; exact newer_self h ho
  · rw [e]
    obtain ⟨hc, hp⟩ := fnd_pat hf
    have ha := h.of_lt ho
    obtain ⟨w1, w2, w3⟩ := of_join h hs hf hc0 (q := delP (setE p (ofI p (upP s)) (max (epA p (cnt p s)) (epA p (ofI p (upP s))) + 1)) (cnt p s)) (by rw [delP_pa, setE_pa]) ho
    have hup : ofI p (upP s) < p.length := by omega
    by_cases hA : ofI p o = cnt p s
    · have : sh (cnt p s) (ofI p (upP s)) = ofI p (upP s) := by unfold sh; rw [if_pos w1]
      refine ⟨p[ofI p o], ⟨p[ofI p (upP s)].pa, p[ofI p (upP s)].gr, max (epA p (cnt p s)) (epA p (ofI p (upP s))) + 1⟩, get_of ha, ?_, ?_, .inr ?_⟩
      · rw [w2 hA, delP_sh (by rw [setE_len]; exact hc), this, setE_id hup _ hup, if_pos rfl]
      all_goals
        simp only
        rw [← epA_of ha, hA]
        omega
    · refine ⟨p[ofI p o], ⟨p[ofI p o].pa, p[ofI p o].gr, if ofI p o = ofI p (upP s) then max (epA p (cnt p s)) (epA p (ofI p (upP s))) + 1 else p[ofI p o].ep⟩, get_of ha, ?_, ?_, .inl ⟨rfl, rfl⟩⟩
      · rw [delP_sh (by rw [setE_len]; exact hc), w3 hA, setE_id hup _ ha]
      · simp only
        split
        · rename_i hh
          rw [← epA_of ha, hh]
          omega
        · exact Int.le_refl _
theorem move_newer {p : List P} (h : RightP p) (s : List UInt8) (g : Int) {o : List UInt8} (ho : isP o = true) : Newer p (moveP p s g).1 o := by
  rcases move_cases p s g with ⟨_, e⟩ | ⟨_, hg, hs, hf, hE, e⟩
  · rw [e]; exact newer_self h ho
  · rw [e]
    obtain ⟨hc, hp⟩ := fnd_pat hf
    have ha := h.of_lt ho
    by_cases hA : ofI p o = cnt p s
    · refine ⟨p[ofI p o], ⟨p[cnt p s].pa, g, p[cnt p s].ep + 1⟩, get_of ha, ?_, ?_, .inr ?_⟩
      · rw [ofI_paths (setM_pa p (cnt p s) g) o, setM_gt hc, if_pos hA]
      all_goals
        simp only [hA]
        omega
    · refine ⟨p[ofI p o], p[ofI p o], get_of ha, ?_, Int.le_refl _, .inl ⟨rfl, rfl⟩⟩
      rw [ofI_paths (setM_pa p (cnt p s) g) o, setM_gt hc, if_neg hA, get_of ha]
theorem step_newer {p : List P} (h : RightP p) (s : Stp) {o : List UInt8} (ho : isP o = true) : Newer p (stepP p s).1 o := by
  unfold stepP
  split
  · exact join_newer h _ ho
  · split
    · exact move_newer h _ _ ho
    · exact cut_newer h _ _ ho
/-- A piece that is cut stands where it is looked for. -/
theorem cut_fnd {p : List P} (h : RightP p) {s : List UInt8} {g : Int} (hc : (cutP p s g).2 = 0) : cnt (cutP p s g).1 s = cnt p s ∧ fnd (cutP p s g).1 s = true ∧ cnt p s ≠ 0 ∧ isP s = true := by
  have hq := h.cut s g
  rcases cut_cases p s g with ⟨e, _⟩ | ⟨_, hg, hs, hf, hl, hE, e⟩
  · exact absurd hc e
  rw [e] at hq ⊢
  have hcl := cnt_le p s
  have hne : s ≠ [47] := by
    rintro rfl
    rw [h.fnd_root] at hf; cases hf
  have hpos := h.cnt_pos hs hne
  have pc : pat (insP (setE p (ofI p s) (epA p (ofI p s) + 1)) (cnt p s) ⟨s, g, epA p (ofI p s) + 1⟩) (cnt p s) = s := by
    unfold pat
    rw [insP_at (by rw [setE_len]; exact hcl)]; rfl
  have hlt : cnt p s < (insP (setE p (ofI p s) (epA p (ofI p s) + 1)) (cnt p s) ⟨s, g, epA p (ofI p s) + 1⟩).length := by rw [insP_len, setE_len]; omega
  generalize insP (setE p (ofI p s) (epA p (ofI p s) + 1)) (cnt p s) ⟨s, g, epA p (ofI p s) + 1⟩ = q at *
  have hcq : cnt q s = cnt p s := by
    have h1 : ¬ cnt p s < cnt q s := by rw [cnt_iff hq.inc s hlt, pc, Kp.sLess_irrefl]; simp
    have h2 : ¬ cnt q s < cnt p s := by
      intro hh
      have h3 := hq.inc _ _ hh hlt
      rw [pc] at h3
      have := (cnt_iff hq.inc s (by omega)).2 h3
      omega
    omega
  refine ⟨hcq, ?_, by omega, hs⟩
  unfold fnd
  rw [hcq]
  exact decide_eq_true ⟨hlt, pc⟩
theorem del_ins {α : Type} (l : List α) (c : Nat) (x : α) (hc : c ≤ l.length) : (l.take c ++ x :: l.drop c).take c ++ (l.take c ++ x :: l.drop c).drop (c + 1) = l := by
  have hl : (l.take c).length = c := by simp [hc]
  rw [List.take_append_of_le_length (by omega), List.take_of_length_le (by omega), List.drop_append]
  rw [List.drop_eq_nil_of_le (by omega), hl, show c + 1 - c = 1 by omega]
  simp
/-- A piece that is cut, and joined at once. -/
theorem back_law {p : List P} (h : RightP p) {s : List UInt8} {g : Int} (hc : (cutP p s g).2 = 0) :
    ((joinP (cutP p s g).1 s).2 = 76) ∨ ((joinP (cutP p s g).1 s).2 = 0 ∧ (joinP (cutP p s g).1 s).1.map P.pa = p.map P.pa ∧
      ∀ i, i < p.length → ∃ x y, p[i]? = some x ∧ (joinP (cutP p s g).1 s).1[i]? = some y ∧ y.pa = x.pa ∧ y.gr = x.gr ∧ x.ep ≤ y.ep) := by
  obtain ⟨c1, c2, c3, c4⟩ := cut_fnd h hc
  have hq := h.cut s g
  have hj := hq.join s
  rcases join_cases (cutP p s g).1 s with ⟨e1, e2⟩ | ⟨e0, _, _, _, hE, e⟩
  · left
    unfold joinP at e1 ⊢
    rw [c1, c2, c4] at e1 ⊢
    simp only [c3] at e1 ⊢
    split
    · rename_i hh; simp at hh
    · split
      · rename_i hh; simp at hh
      · split
        · rfl
        · rename_i h1 h2 h3
          simp [h3] at e1
  · right
    rw [c1] at hE e
    rcases cut_cases p s g with ⟨e', _⟩ | ⟨_, hg, hs, hf, hl, hE', e'⟩
    · exact absurd hc e'
    have hcl := cnt_le p s
    have hw := h.of_lt hs
    have hql : (cutP p s g).1.length = p.length + 1 := by rw [e', insP_len, setE_len]
    obtain ⟨u1, _, _⟩ := of_join hq c4 c2 (by rw [c1]; exact c3) (q := (joinP (cutP p s g).1 s).1) (by rw [e, delP_pa, setE_pa, c1]) hs
    rw [c1] at u1
    have hpa : (joinP (cutP p s g).1 s).1.map P.pa = p.map P.pa := by
      rw [e, delP_pa, setE_pa, e', insP_pa, setE_pa]
      exact del_ins _ _ _ (by simpa using hcl)
    refine ⟨e0, hpa, fun i hi => ?_⟩
    rw [e]
    generalize hup : ofI (cutP p s g).1 (upP s) = up at *
    have hlt : sh (cnt p s) i < (cutP p s g).1.length := by rw [hql]; exact (sh_lt hcl).2 hi
    have hx : (cutP p s g).1[sh (cnt p s) i] = ⟨p[i].pa, p[i].gr, if i = ofI p s then epA p (ofI p s) + 1 else p[i].ep⟩ := by
      have : (cutP p s g).1[sh (cnt p s) i]? = some ⟨p[i].pa, p[i].gr, if i = ofI p s then epA p (ofI p s) + 1 else p[i].ep⟩ := by
        rw [e', insP_sh (by rw [setE_len]; exact hcl), setE_id hw _ hi]
      rw [get_of hlt] at this
      exact Option.some.inj this
    refine ⟨p[i], ⟨p[i].pa, p[i].gr, if sh (cnt p s) i = up then max (epA (cutP p s g).1 (cnt p s)) (epA (cutP p s g).1 up) + 1 else if i = ofI p s then epA p (ofI p s) + 1 else p[i].ep⟩, get_of hi, ?_, rfl, rfl, ?_⟩
    · rw [delP_sh (by rw [setE_len]; omega), setE_id (by omega) _ hlt, hx]
    simp only
    have hle : p[i].ep ≤ (if i = ofI p s then epA p (ofI p s) + 1 else p[i].ep) := by
      split
      · rename_i hh
        rw [← hh, epA_of hi]; omega
      · exact Int.le_refl _
    split
    · rename_i hh
      have h2 : epA (cutP p s g).1 up = if i = ofI p s then epA p (ofI p s) + 1 else p[i].ep := by
        rw [← hh, epA_of hlt, hx]
      omega
    · exact hle
/-- What stands below a path, and what a path below it has. -/
theorem below_law {p : List P} (h : RightP p) {s o : List UInt8} (ha : abv s o = true) : ofI p o = ofI p s ∨ ofI p o ∈ bel p s := by
  obtain ⟨a1, a2⟩ := ofI_abv h (abv_isP ha).2
  obtain ⟨w1, w2⟩ := ofI_abv h (abv_isP ha).1
  rcases abv_chain ha a2 with h' | h'
  · right
    exact mem_ix.2 ⟨p[ofI p o], Nat.zero_le _, by rw [Nat.sub_zero]; exact get_of a1, by rw [← pat_of a1]; exact h'⟩
  · left
    have e1 := ofI_max (mem_abo.2 ⟨a1, h'⟩)
    have e2 := ofI_max (mem_abo.2 ⟨w1, abv_trans w2 ha⟩)
    omega
theorem bel_mem {p : List P} {s : List UInt8} {i : Nat} (h : i ∈ bel p s) : i < p.length ∧ abv s (pat p i) = true := by
  obtain ⟨x, _, h1, h2⟩ := mem_ix.1 h
  rw [Nat.sub_zero] at h1
  have hlt := (List.getElem?_eq_some_iff.1 h1).1
  refine ⟨hlt, ?_⟩
  unfold pat
  rw [h1]; exact h2
end Go.Proofs.Ytlooipgkklaijaa
