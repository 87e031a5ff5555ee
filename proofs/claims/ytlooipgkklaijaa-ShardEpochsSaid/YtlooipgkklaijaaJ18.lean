import Derived.Test.YtlooipgkklaijaaI18
set_option linter.unusedSimpArgs false
set_option linter.unusedVariables false
namespace Go.Proofs.Ytlooipgkklaijaa
open Go.Am Go.Am.Nm Go.Lib Go.Am.Sh

theorem split_root : split [47] = some [] := by decide
theorem abv_root {p : List UInt8} : abv [47] p = isP p := by
  unfold abv isP
  rw [split_root]
  cases split p <;> simp
/-- Right pieces. -/
structure RightP (l : List P) : Prop where
  ne : 0 < l.length
  le : l.length ≤ 16
  root : pat l 0 = [47]
  ok : ∀ p ∈ l, okOne p = true
  inc : Inc l
theorem RightP.ep {l : List P} (h : RightP l) : ∀ p ∈ l, 1 ≤ p.ep ∧ p.ep ≤ 1099511627776 := fun p hp => by
  have := h.ok p hp
  simp only [okOne, okE, Bool.and_eq_true, decide_eq_true_eq] at this
  exact this.2
theorem RightP.gr {l : List P} (h : RightP l) : ∀ p ∈ l, 0 ≤ p.gr ∧ p.gr < 8 := fun p hp => by
  have := h.ok p hp
  simp only [okOne, okG, Bool.and_eq_true, decide_eq_true_eq] at this
  exact this.1.2
theorem RightP.pa {l : List P} (h : RightP l) : ∀ p ∈ l, isP p.pa = true := fun p hp => by
  have := h.ok p hp
  simp only [okOne, Bool.and_eq_true] at this
  exact this.1.1
theorem mem_abo {l : List P} {s : List UInt8} {i : Nat} : i ∈ abo l s ↔ i < l.length ∧ abv (pat l i) s = true := by
  unfold abo
  rw [mem_ix]
  constructor
  · rintro ⟨p, _, h1, h2⟩
    rw [Nat.sub_zero] at h1
    have hlt := (List.getElem?_eq_some_iff.1 h1).1
    refine ⟨hlt, ?_⟩
    unfold pat
    rw [h1]; exact h2
  · rintro ⟨h1, h2⟩
    rw [pat_of h1] at h2
    exact ⟨l[i], Nat.zero_le _, by rw [Nat.sub_zero]; exact List.getElem?_eq_getElem h1, h2⟩
theorem RightP.abo_ne {l : List P} (h : RightP l) {s : List UInt8} (hs : isP s = true) : abo l s ≠ [] := by
  have : 0 ∈ abo l s := mem_abo.2 ⟨h.ne, by rw [h.root, abv_root]; exact hs⟩
  intro h0
  rw [h0] at this
  cases this
theorem ofI_mem {l : List P} {s : List UInt8} (h : abo l s ≠ []) : ofI l s ∈ abo l s := by
  unfold ofI
  rw [List.getLast?_eq_some_getLast h]
  exact List.getLast_mem h
theorem RightP.of_lt {l : List P} (h : RightP l) {s : List UInt8} (hs : isP s = true) : ofI l s < l.length := (mem_abo.1 (ofI_mem (h.abo_ne hs))).1
/-- A piece's epoch; what is not there has none. -/
def epA (l : List P) (i : Nat) : Int := (l[i]?).elim 0 P.ep
theorem epA_of {l : List P} {k : Nat} (h : k < l.length) : epA l k = l[k].ep := by simp [epA, h]
theorem setE_len (l : List P) (i : Nat) (e : Int) : (setE l i e).length = l.length := by
  unfold setE
  cases l[i]? <;> simp
theorem setM_len (l : List P) (i : Nat) (e : Int) : (setM l i e).length = l.length := by
  unfold setM
  cases l[i]? <;> simp
def insP (l : List P) (c : Nat) (x : P) : List P := l.take c ++ x :: l.drop c
def delP (l : List P) (c : Nat) : List P := l.take c ++ l.drop (c + 1)
/-- A subtree becomes a piece of its own. -/
def cutP (l : List P) (s : List UInt8) (g : Int) : List P × Int :=
  if okG g = false then (l, 1) else if isP s = false then (l, 60) else if fnd l s = true then (l, 71) else if 16 ≤ l.length ∨ 1099511627776 ≤ epA l (ofI l s) then (l, 76) else
    (insP (setE l (ofI l s) (epA l (ofI l s) + 1)) (cnt l s) ⟨s, g, epA l (ofI l s) + 1⟩, 0)
/-- A piece is put to the one above it. -/
def joinP (l : List P) (s : List UInt8) : List P × Int :=
  if isP s = false then (l, 60) else if fnd l s = false ∨ cnt l s = 0 then (l, 180) else
    if 1099511627776 ≤ max (epA l (cnt l s)) (epA l (ofI l ((lastP s).elim [] (·.2)))) then (l, 76) else
    (delP (setE l (ofI l ((lastP s).elim [] (·.2))) (max (epA l (cnt l s)) (epA l (ofI l ((lastP s).elim [] (·.2)))) + 1)) (cnt l s), 0)
/-- A piece becomes another group's. -/
def moveP (l : List P) (s : List UInt8) (g : Int) : List P × Int :=
  if okG g = false then (l, 1) else if isP s = false then (l, 60) else if fnd l s = false then (l, 180) else if 1099511627776 ≤ epA l (cnt l s) then (l, 76) else (setM l (cnt l s) g, 0)
theorem s27 {n : Nat} (hn : 32 < n) (l : List P) (hr : RightP l) (f : Bool) (s : List UInt8) (g : Int) :
    (C18.tab n).p 27 [.lst f (l.map D), .str s, .int .i64 g] = some (.tup [.lst (f && !decide ((cutP l s g).2 = 0)) ((cutP l s g).1.map D), .int .i64 (cutP l s g).2]) := by
  rw [p27 hn, runP_eq, runH_eq]
  have hl := hr.le
  have h34 := s34 (n := 32) (by decide) g
  have h20 := s20 (n := 32) (by decide) l (by omega) f s hr.abo_ne
  have h48 := s48 (n := 32) (by decide) l hr.inc (by omega) f s
  have h51 := fun args h => p51 (n := 32) (by decide) args h
  unfold cutP
  cases hg : okG g with
  | false =>
    rw [hg] at h34
    simp -implicitDefEqProofs (disch := omega) [wrap_of, ilt_t, ilt_f, ile_t, ile_f, nlt_t, nlt_f, nle_t, nle_f, ieq_t, ieq_f, imin_l, imin_r, imax_l, imax_r, take_app1, take_map_all, c27, a34, h34]
  | true =>
    rw [hg] at h34
    cases hp : isP s with
    | false =>
      rw [hp] at h20
      simp -implicitDefEqProofs (disch := omega) [wrap_of, ilt_t, ilt_f, ile_t, ile_f, nlt_t, nlt_f, nle_t, nle_f, ieq_t, ieq_f, imin_l, imin_r, imax_l, imax_r, take_app1, take_map_all, c27, a34, h34, a20, h20]
    | true =>
      have hof := hr.of_lt hp
      rw [hp] at h20
      cases hf : fnd l s with
      | true =>
        rw [hf] at h48
        simp -implicitDefEqProofs (disch := omega) [wrap_of, ilt_t, ilt_f, ile_t, ile_f, nlt_t, nlt_f, nle_t, nle_f, ieq_t, ieq_f, imin_l, imin_r, imax_l, imax_r, take_app1, take_map_all, c27, a34, h34, a20, h20, a48, h48]
      | false =>
        rw [hf] at h48
        by_cases h16 : 16 ≤ l.length
        · simp -implicitDefEqProofs (disch := omega) [wrap_of, ilt_t, ilt_f, ile_t, ile_f, nlt_t, nlt_f, nle_t, nle_f, ieq_t, ieq_f, imin_l, imin_r, imax_l, imax_r, take_app1, take_map_all, c27, a34, h34, a20, h20, a48, h48, h16]
        · obtain ⟨x, hx⟩ : ∃ x, x = l[ofI l s] := ⟨_, rfl⟩
          have he := epA_of hof
          obtain ⟨e1, e2⟩ := hr.ep _ (List.getElem_mem hof)
          rw [← hx] at he e1 e2
          by_cases hE : 1099511627776 ≤ x.ep
          · simp -implicitDefEqProofs (disch := omega) [wrap_of, ilt_t, ilt_f, ile_t, ile_f, nlt_t, nlt_f, nle_t, nle_f, ieq_t, ieq_f, imin_l, imin_r, imax_l, imax_r, take_app1, take_map_all, c27, a34, h34, a20, h20, a48, h48, h16, hof, ← hx, he, hE]
          · have h49 := s49 (n := 32) (by decide) 50 (x.ep + 1) l (setE l (ofI l s) (x.ep + 1)) (ofI l s) hof (by omega) (s50 (by decide) l _ hof _) f
            have hc := cnt_le l s
            have hsl := setE_len l (ofI l s) (x.ep + 1)
            rw [he]
            generalize setE l (ofI l s) (x.ep + 1) = l' at *
            simp -implicitDefEqProofs (disch := omega) [wrap_of, ilt_t, ilt_f, ile_t, ile_f, nlt_t, nlt_f, nle_t, nle_f, ieq_t, ieq_f, imin_l, imin_r, imax_l, imax_r, take_app1, take_map_all, c27, a34, h34, a20, h20, a48, h48, h16, hof, ← hx, he, hE, h49, h51, insertH, hc, hsl, insP]
            rw [List.take_of_length_le (by simp; omega)]
theorem s29 {n : Nat} (hn : 38 < n) (l : List P) (hr : RightP l) (f : Bool) (s : List UInt8) (g : Int) :
    (C18.tab n).p 29 [.lst f (l.map D), .str s, .int .i64 g] = some (.tup [.lst (f && !decide ((moveP l s g).2 = 0)) ((moveP l s g).1.map D), .int .i64 (moveP l s g).2]) := by
  rw [p29 hn, runP_eq, runH_eq]
  have hl := hr.le
  have h34 := s34 (n := 38) (by decide) g
  have h33 := s33 (n := 38) (by decide) s
  have h48 := s48 (n := 38) (by decide) l hr.inc (by omega) f s
  unfold moveP
  cases hg : okG g with
  | false =>
    rw [hg] at h34
    simp -implicitDefEqProofs (disch := omega) [wrap_of, ilt_t, ilt_f, ile_t, ile_f, nlt_t, nlt_f, nle_t, nle_f, ieq_t, ieq_f, imin_l, imin_r, imax_l, imax_r, take_app1, take_map_all, c29, a34, h34]
  | true =>
    rw [hg] at h34
    cases hp : isP s with
    | false =>
      rw [hp] at h33
      simp -implicitDefEqProofs (disch := omega) [wrap_of, ilt_t, ilt_f, ile_t, ile_f, nlt_t, nlt_f, nle_t, nle_f, ieq_t, ieq_f, imin_l, imin_r, imax_l, imax_r, take_app1, take_map_all, c29, a34, h34, a33, h33]
    | true =>
      rw [hp] at h33
      cases hf : fnd l s with
      | false =>
        rw [hf] at h48
        simp -implicitDefEqProofs (disch := omega) [wrap_of, ilt_t, ilt_f, ile_t, ile_f, nlt_t, nlt_f, nle_t, nle_f, ieq_t, ieq_f, imin_l, imin_r, imax_l, imax_r, take_app1, take_map_all, c29, a34, h34, a33, h33, a48, h48]
      | true =>
        rw [hf] at h48
        have hc : cnt l s < l.length := by
          unfold fnd at hf
          exact (of_decide_eq_true hf).1
        obtain ⟨x, hx⟩ : ∃ x, x = l[cnt l s] := ⟨_, rfl⟩
        have he := epA_of hc
        obtain ⟨e1, e2⟩ := hr.ep _ (List.getElem_mem hc)
        rw [← hx] at he e1 e2
        by_cases hE : 1099511627776 ≤ x.ep
        · simp -implicitDefEqProofs (disch := omega) [wrap_of, ilt_t, ilt_f, ile_t, ile_f, nlt_t, nlt_f, nle_t, nle_f, ieq_t, ieq_f, imin_l, imin_r, imax_l, imax_r, take_app1, take_map_all, c29, a34, h34, a33, h33, a48, h48, hc, ← hx, he, hE]
        · have h49 := s49 (n := 38) (by decide) 55 g l (setM l (cnt l s) g) (cnt l s) hc (by omega) (s55 (by decide) l _ hc _ fun p hp => by have := hr.ep p hp; omega) f
          have hsl := setM_len l (cnt l s) g
          generalize setM l (cnt l s) g = l' at *
          simp -implicitDefEqProofs (disch := omega) [wrap_of, ilt_t, ilt_f, ile_t, ile_f, nlt_t, nlt_f, nle_t, nle_f, ieq_t, ieq_f, imin_l, imin_r, imax_l, imax_r, take_app1, take_map_all, c29, a34, h34, a33, h33, a48, h48, hc, ← hx, he, hE, h49, hsl]
end Go.Proofs.Ytlooipgkklaijaa
