import Derived.Test.YtjblbmcgpdmahaaH16
set_option linter.unusedSimpArgs false
set_option linter.unusedVariables false
namespace Go.Proofs.Ytjblbmcgpdmahaa
open Go.Am

/-- Seats with one more, or less. -/
def tog (l : List Int) (x : Int) : List Int := if fndI l x = true then l.take (cntI l x) ++ l.drop (cntI l x + 1) else l.take (cntI l x) ++ x :: l.drop (cntI l x)
theorem tog_nil (x : Int) : tog [] x = [x] := by simp [tog, fndI, cntI]
theorem tog_cons (p : Int) (l : List Int) (x : Int) : tog (p :: l) x = if p < x then p :: tog l x else if p = x then l else x :: p :: l := by
  unfold tog fndI cntI
  by_cases h : p < x
  · have h' : ¬ x ≤ p := by omega
    rw [if_pos h]
    simp only [List.findIdx_cons, h', decide_false, cond_false, List.getElem?_cons_succ, List.take_succ_cons, List.drop_succ_cons, List.cons_append]
    split <;> rfl
  · have h' : x ≤ p := by omega
    rw [if_neg h]
    simp only [List.findIdx_cons, h', decide_true, cond_true, List.getElem?_cons_zero, List.take_zero, List.nil_append, List.drop_zero, Option.some.injEq, Nat.zero_add, List.drop_succ_cons]
    by_cases h2 : p = x <;> simp [h2]
theorem tog_mem (x : Int) : ∀ (l : List Int) (y : Int), y ∈ tog l x → y = x ∨ y ∈ l
  | [], y, h => by rw [tog_nil] at h; simpa using h
  | p :: l, y, h => by
    rw [tog_cons] at h
    have := tog_mem x l y
    split at h
    · simp only [List.mem_cons] at h ⊢
      rcases h with h | h
      · exact .inr (.inl h)
      · rcases this h with h | h
        · exact .inl h
        · exact .inr (.inr h)
    · split at h
      · simp [h]
      · simpa using h
abbrev Up (l : List Int) : Prop := l.Pairwise (· < ·)
theorem up_inc {l : List Int} : Up l ↔ IncI l := by
  unfold IncI Up
  rw [List.pairwise_iff_getElem]
  exact ⟨fun h i j hij hj => h i j (by omega) hj hij, fun h i j hi hj hij => h i j hij hj⟩
theorem tog_up (x : Int) : ∀ l : List Int, Up l → Up (tog l x)
  | [], _ => by rw [tog_nil]; simp
  | p :: l, h => by
    rw [tog_cons]
    obtain ⟨h1, h2⟩ := List.pairwise_cons.1 h
    split
    · rename_i hp
      refine List.pairwise_cons.2 ⟨fun y hy => ?_, tog_up x l h2⟩
      rcases tog_mem x l y hy with rfl | h
      · exact hp
      · exact h1 y h
    · split
      · exact h2
      · refine List.pairwise_cons.2 ⟨fun y hy => ?_, h⟩
        rcases List.mem_cons.1 hy with rfl | hy
        · omega
        · have := h1 y hy; omega
theorem okR_all {l : List Int} : (List.range l.length).all (okR l) = true ↔ Up l ∧ ∀ x ∈ l, 0 ≤ x ∧ x ≤ 199 := by
  rw [List.all_eq_true]
  constructor
  · intro h
    have hk : ∀ i (hi : i < l.length), 0 ≤ l[i] ∧ l[i] ≤ 199 ∧ ∀ (j : Nat) (hj : i = j + 1), l[j] < l[i] := by
      intro i hi
      have := h i (List.mem_range.2 hi)
      unfold okR at this
      rw [getD_of hi] at this
      simp only [Bool.and_eq_true, Bool.or_eq_true, decide_eq_true_eq] at this
      refine ⟨this.1, this.2.1, fun j hj => ?_⟩
      subst hj
      have h3 := this.2.2
      rw [Nat.add_sub_cancel, getD_of (by omega)] at h3
      rcases h3 with h3 | h3
      · omega
      · exact h3
    refine ⟨?_, fun x hx => ?_⟩
    · rw [up_inc]
      intro i j hij
      induction j with
      | zero => omega
      | succ j ih =>
        intro hj
        have hs := (hk (j + 1) hj).2.2 j rfl
        rcases Nat.lt_or_ge i j with h' | h'
        · have := ih h' (by omega)
          omega
        · have : i = j := by omega
          subst this
          exact hs
    · obtain ⟨i, hi, rfl⟩ := List.mem_iff_getElem.1 hx
      exact ⟨(hk i hi).1, (hk i hi).2.1⟩
  · rintro ⟨hu, hr⟩ i hi
    have hi := List.mem_range.1 hi
    have hx := hr _ (List.getElem_mem hi)
    unfold okR
    rw [getD_of hi]
    simp only [Bool.and_eq_true, Bool.or_eq_true, decide_eq_true_eq]
    refine ⟨hx.1, hx.2, ?_⟩
    rcases Nat.eq_zero_or_pos i with h0 | h0
    · exact .inl h0
    · right
      rw [getD_of (by omega)]
      exact up_inc.1 hu _ _ (by omega) hi
theorem right_iff {l : List Int} : right l = true ↔ (Up l ∧ ∀ x ∈ l, 0 ≤ x ∧ x ≤ 199) ∧ 1 ≤ l.length ∧ l.length ≤ 7 := by
  unfold right
  rw [Bool.and_eq_true, okR_all, Bool.and_eq_true, decide_eq_true_eq, decide_eq_true_eq]
theorem right_tog {l : List Int} {x : Int} (h : right l = true) (h0 : 0 ≤ x) (h1 : x ≤ 199) : right (tog l x) = decide (1 ≤ (tog l x).length ∧ (tog l x).length ≤ 7) := by
  obtain ⟨⟨hu, hr⟩, _⟩ := right_iff.1 h
  have e : right (tog l x) = true ↔ 1 ≤ (tog l x).length ∧ (tog l x).length ≤ 7 := by
    rw [right_iff]
    refine ⟨fun h => h.2, fun h => ⟨⟨tog_up x l hu, fun y hy => ?_⟩, h⟩⟩
    rcases tog_mem x l y hy with rfl | h
    · exact ⟨h0, h1⟩
    · exact hr y h
  by_cases hq : 1 ≤ (tog l x).length ∧ (tog l x).length ≤ 7
  · rw [e.2 hq, decide_eq_true hq]
  · rw [decide_eq_false hq]
    cases hb : right (tog l x) with
    | false => rfl
    | true => exact absurd (e.1 hb) hq
/-- Seats of right bases, and logs, are right. -/
theorem pg_right {s : PS} (h : right s.1.2.1 = true) (e : En) : right (pg s e).1.2.1 = true := by
  unfold pg
  cases ho : ofE e with
  | none => exact h
  | some q =>
    unfold ofE at ho
    split at ho
    · rename_i hc
      cases ho
      exact hc.2
    · cases ho
theorem peers_right {b : Ba} (h : right b.ps = true) (l : List En) : right (peersS b l).1.2.1 = true := by
  unfold peersS
  have : ∀ (l : List En) (s : PS), right s.1.2.1 = true → right (l.foldl pg s).1.2.1 = true := by
    intro l
    induction l with
    | nil => intro s h; exact h
    | cons e l ih => intro s h; exact ih _ (pg_right h e)
  exact this l _ h
def E0 : En := ⟨0, true, []⟩
def nextV (now : Int) (q : List Int) : AV := if right q = true then .tup [E (entE now q), I 0] else .tup [E E0, I 76]
def nextA (b : Ba) (l : List En) (commit now who : Int) : AV :=
  if who < 0 ∨ 199 < who then .tup [E E0, I 1] else if commit < (peersS b l).1.2.2 ∨ ¬ termA b l commit = some now then .tup [E E0, I 121] else nextV now (tog (peersS b l).1.2.1 who)
theorem take_fst {l : List Int} {c : Nat} : List.take c (l.map I) = (l.take c).map I := (List.map_take ..).symm
theorem s27 {n : Nat} (hn : 25 < n) (b : Ba) (hb : GB b) (hr : right b.ps = true) (l : List En) (hl : GL l) (f : Bool) (commit now who : Int) (hc : (termA b l commit).isSome = true) :
    (C16.tab n).p 27 [Bs b, .lst f (l.map E), I commit, I now, I who] = some (nextA b l commit now who) := by
  rw [p27 hn, runP_eq, runH_eq]
  unfold nextA
  have h12 := s12 (n := 25) (by decide) b hb l hl f
  have h41 := s41 (n := 25) (by decide) b hb l hl f commit
  have h45 := p45 (n := 25) (by decide)
  have h47 := p47 (n := 25) (by decide)
  have h48 := p48 (n := 25) (by decide)
  have hpr := peers_right hr l
  simp only [Bs, psV] at h12 h41
  obtain ⟨u, hu⟩ := Option.isSome_iff_exists.1 hc
  rw [hu] at h41 ⊢
  generalize hq : (peersS b l).1 = q at *
  obtain ⟨fq, ps, at_⟩ := q
  simp only at *
  have hpl : ps.length ≤ 7 := (right_iff.1 hpr).2.2
  have hup := (right_iff.1 hpr).1.1
  have hcl := cntI_le ps who
  have h46 := s46 (n := 25) (by decide) ps (up_inc.1 hup) (by omega) who
  by_cases c1 : who < 0
  · simp -implicitDefEqProofs (disch := omega) [wrap_of, ilt_t, ilt_f, ile_t, ile_f, nlt_t, nlt_f, nle_t, nle_f, ieq_t, ieq_f, imin_l, imin_r, imax_l, imax_r, take_app1, take_map_all, c27, c1, E0]
  · by_cases c2 : 199 < who
    · simp -implicitDefEqProofs (disch := omega) [wrap_of, ilt_t, ilt_f, ile_t, ile_f, nlt_t, nlt_f, nle_t, nle_f, ieq_t, ieq_f, imin_l, imin_r, imax_l, imax_r, take_app1, take_map_all, c27, c1, c2, E0]
    · by_cases c3 : commit < at_
      · simp -implicitDefEqProofs (disch := omega) [wrap_of, ilt_t, ilt_f, ile_t, ile_f, nlt_t, nlt_f, nle_t, nle_f, ieq_t, ieq_f, imin_l, imin_r, imax_l, imax_r, take_app1, take_map_all, c27, c1, c2, a12, h12, a41, h41, c3, E0]
      · by_cases c4 : u = now
        · subst c4
          have ht : tog ps who = if fndI ps who = true then ps.take (cntI ps who) ++ ps.drop (cntI ps who + 1) else ps.take (cntI ps who) ++ who :: ps.drop (cntI ps who) := rfl
          have h30 := s30 (n := 25) (by decide) (tog ps who)
          have h29 := s29 (n := 25) (by decide) u (tog ps who)
          have htl : (tog ps who).length ≤ 8 := by
            rw [ht]; split <;> simp <;> omega
          have h30 := h30 (by omega) false
          have h29 := h29 (by omega) false
          unfold nextV
          generalize hc : cntI ps who = c at *
          cases hf : fndI ps who with
          | true =>
            have hlt : c < ps.length := by
              unfold fndI at hf
              have := of_decide_eq_true hf
              rw [hc] at this
              rcases Nat.lt_or_ge c ps.length with h | h
              · exact h
              · rw [List.getElem?_eq_none h] at this; cases this
            rw [hf] at ht h46
            rw [if_pos rfl] at ht
            have e2 : ((c : Int) + 1).toNat = c + 1 := by omega
            have htk : List.take (c + (ps.length - (c + 1))) (List.take c (List.map I ps) ++ List.drop (c + 1) (List.map I ps)) = List.take c (List.map I ps) ++ List.drop (c + 1) (List.map I ps) := List.take_of_length_le (by simp; omega)
            rw [ht] at h30 h29 ⊢
            rw [List.map_append, List.map_take, List.map_drop] at h30 h29
            cases hrt : right (ps.take c ++ ps.drop (c + 1)) with
            | true =>
              rw [hrt] at h30
              simp -implicitDefEqProofs (disch := omega) [wrap_of, ilt_t, ilt_f, ile_t, ile_f, nlt_t, nlt_f, nle_t, nle_f, ieq_t, ieq_f, imin_l, imin_r, imax_l, imax_r, take_app1, take_map_all, c27, c1, c2, a12, h12, a41, h41, c3, h45, cloneH, h46, h47, deleteH, e2, hlt, htk, a30, h30, a29, h29]
            | false =>
              rw [hrt] at h30
              simp -implicitDefEqProofs (disch := omega) [wrap_of, ilt_t, ilt_f, ile_t, ile_f, nlt_t, nlt_f, nle_t, nle_f, ieq_t, ieq_f, imin_l, imin_r, imax_l, imax_r, take_app1, take_map_all, c27, c1, c2, a12, h12, a41, h41, c3, h45, cloneH, h46, h47, deleteH, e2, hlt, htk, a30, h30, E0]
          | false =>
            rw [hf] at ht h46
            rw [if_neg (by simp)] at ht
            have htk : List.take (ps.length + 1) (List.take c (List.map I ps) ++ I who :: List.drop c (List.map I ps)) = List.take c (List.map I ps) ++ I who :: List.drop c (List.map I ps) := List.take_of_length_le (by simp; omega)
            rw [ht] at h30 h29 ⊢
            rw [List.map_append, List.map_take, List.map_cons, List.map_drop] at h30 h29
            cases hrt : right (ps.take c ++ who :: ps.drop c) with
            | true =>
              rw [hrt] at h30
              simp -implicitDefEqProofs (disch := omega) [wrap_of, ilt_t, ilt_f, ile_t, ile_f, nlt_t, nlt_f, nle_t, nle_f, ieq_t, ieq_f, imin_l, imin_r, imax_l, imax_r, take_app1, take_map_all, c27, c1, c2, a12, h12, a41, h41, c3, h45, cloneH, h46, h48, insertH, hcl, htk, a30, h30, a29, h29]
            | false =>
              rw [hrt] at h30
              simp -implicitDefEqProofs (disch := omega) [wrap_of, ilt_t, ilt_f, ile_t, ile_f, nlt_t, nlt_f, nle_t, nle_f, ieq_t, ieq_f, imin_l, imin_r, imax_l, imax_r, take_app1, take_map_all, c27, c1, c2, a12, h12, a41, h41, c3, h45, cloneH, h46, h48, insertH, hcl, htk, a30, h30, E0]
        · simp -implicitDefEqProofs (disch := omega) [wrap_of, ilt_t, ilt_f, ile_t, ile_f, nlt_t, nlt_f, nle_t, nle_f, ieq_t, ieq_f, imin_l, imin_r, imax_l, imax_r, take_app1, take_map_all, c27, c1, c2, a12, h12, a41, h41, c3, c4, E0]
end Go.Proofs.Ytjblbmcgpdmahaa
