import Derived.Test.YtlooipgkklaijaaJ18
set_option linter.unusedSimpArgs false
set_option linter.unusedVariables false
namespace Go.Proofs.Ytlooipgkklaijaa
open Go.Am Go.Am.Nm Go.Lib Go.Am.Sh

theorem fnd_pat {l : List P} {s : List UInt8} (h : fnd l s = true) : cnt l s < l.length ∧ pat l (cnt l s) = s := by
  unfold fnd at h
  exact of_decide_eq_true h
/-- The path to a path. -/
def upP (s : List UInt8) : List UInt8 := (lastP s).elim [] (·.2)
theorem isP_jn {l : List (List UInt8)} (h1 : l.length ≤ 12) (h2 : l.all rightN = true) : isP (jn l) = true := by
  unfold isP; rw [split_jn h1 h2]; rfl
theorem up_path {s : List UInt8} (hs : isP s = true) (hne : s ≠ [47]) : ∃ m x, split s = some (m ++ [x]) ∧ lastP s = some (x, jn m) ∧ upP s = jn m ∧ m.length ≤ 11 ∧ m.all rightN = true ∧ isP (jn m) = true := by
  unfold isP at hs
  cases hq : split s with
  | none => rw [hq] at hs; cases hs
  | some l =>
    obtain ⟨h1, h2, h3⟩ := split_some hq
    rcases List.eq_nil_or_concat l with h0 | ⟨m, x, h0⟩
    · exfalso
      rw [h0] at h1
      exact hne h1.symm
    · simp only [List.concat_eq_append] at h0
      subst h0
      have m1 : m.length ≤ 11 := by simp at h2; omega
      have m2 : m.all rightN = true := by
        simp only [List.all_append, Bool.and_eq_true] at h3
        exact h3.1
      have hl : lastP s = some (x, jn m) := by unfold lastP; rw [hq]; simp
      exact ⟨m, x, rfl, hl, by unfold upP; rw [hl]; rfl, m1, m2, isP_jn (by omega) m2⟩
theorem RightP.root_of {l : List P} (h : RightP l) {s : List UInt8} (hf : fnd l s = true) : cnt l s = 0 ↔ s = [47] := by
  obtain ⟨h1, h2⟩ := fnd_pat hf
  constructor
  · intro h0
    rw [h0, h.root] at h2
    exact h2.symm
  · intro h0
    rcases Nat.eq_zero_or_pos (cnt l s) with h' | h'
    · exact h'
    · have := h.inc 0 _ h' h1
      rw [h2, h0, h.root, Kp.sLess_irrefl] at this
      cases this
theorem s28 {n : Nat} (hn : 37 < n) (l : List P) (hr : RightP l) (f : Bool) (s : List UInt8) (hs : s.length ≤ 1000000) :
    (C18.tab n).p 28 [.lst f (l.map D), .str s] = some (.tup [.lst (f && !decide ((joinP l s).2 = 0)) ((joinP l s).1.map D), .int .i64 (joinP l s).2]) := by
  rw [p28 hn, runP_eq, runH_eq]
  have hl := hr.le
  have h33 := s33 (n := 37) (by decide) s
  have h48 := s48 (n := 37) (by decide) l hr.inc (by omega) f s
  have h54 := fun args h => p54 (n := 37) (by decide) args h
  have h52 := s52 (n := 37) (by decide) s hs
  unfold joinP
  cases hp : isP s with
  | false =>
    rw [hp] at h33
    simp -implicitDefEqProofs (disch := omega) [wrap_of, ilt_t, ilt_f, ile_t, ile_f, nlt_t, nlt_f, nle_t, nle_f, ieq_t, ieq_f, imin_l, imin_r, imax_l, imax_r, take_app1, take_map_all, c28, a33, h33]
  | true =>
    rw [hp] at h33
    cases hf : fnd l s with
    | false =>
      rw [hf] at h48
      simp -implicitDefEqProofs (disch := omega) [wrap_of, ilt_t, ilt_f, ile_t, ile_f, nlt_t, nlt_f, nle_t, nle_f, ieq_t, ieq_f, imin_l, imin_r, imax_l, imax_r, take_app1, take_map_all, c28, a33, h33, a48, h48]
    | true =>
      rw [hf] at h48
      by_cases hc0 : cnt l s = 0
      · simp -implicitDefEqProofs (disch := omega) [wrap_of, ilt_t, ilt_f, ile_t, ile_f, nlt_t, nlt_f, nle_t, nle_f, ieq_t, ieq_f, imin_l, imin_r, imax_l, imax_r, take_app1, take_map_all, c28, a33, h33, a48, h48, hc0]
      · have hne : s ≠ [47] := fun h => hc0 ((hr.root_of hf).2 h)
        obtain ⟨m, x, hq, hla, hup, m1, m2, hpm⟩ := up_path hp hne
        obtain ⟨hc, _⟩ := fnd_pat hf
        have hup' : (lastP s).elim [] (·.2) = jn m := hup
        rw [hup']
        have h20 := s20 (n := 37) (by decide) l (by omega) f (jn m) hr.abo_ne
        rw [hpm] at h20
        have hof := hr.of_lt hpm
        unfold lastV at h52
        rw [hla] at h52
        obtain ⟨y, hy⟩ : ∃ y, y = l[cnt l s] := ⟨_, rfl⟩
        obtain ⟨z, hz⟩ : ∃ y, y = l[ofI l (jn m)] := ⟨_, rfl⟩
        have hey := epA_of hc
        have hez := epA_of hof
        obtain ⟨y1, y2⟩ := hr.ep _ (List.getElem_mem hc)
        obtain ⟨z1, z2⟩ := hr.ep _ (List.getElem_mem hof)
        rw [← hy] at hey y1 y2
        rw [← hz] at hez z1 z2
        rw [hey, hez]
        have hmx : max y.ep z.ep = if y.ep < z.ep then z.ep else y.ep := by
          split <;> omega
        obtain ⟨e, he⟩ : ∃ e, e = max y.ep z.ep := ⟨_, rfl⟩
        have e1 : 1 ≤ e := by omega
        have e2 : e ≤ 1099511627776 := by omega
        rw [← he] at hmx ⊢
        by_cases hE : 1099511627776 ≤ e
        · simp -implicitDefEqProofs (disch := omega) [wrap_of, ilt_t, ilt_f, ile_t, ile_f, nlt_t, nlt_f, nle_t, nle_f, ieq_t, ieq_f, imin_l, imin_r, imax_l, imax_r, take_app1, take_map_all, c28, a33, h33, a48, h48, hc0, a52, h52, a20, h20, hc, hof, ← hy, ← hz, ← hmx, hE]
        · have h49 := s49 (n := 37) (by decide) 53 e l (setE l (ofI l (jn m)) (e + 1)) (ofI l (jn m)) hof (by omega) (s53 (by decide) l _ hof _ (by omega) (by omega)) f
          have hsl := setE_len l (ofI l (jn m)) (e + 1)
          generalize setE l (ofI l (jn m)) (e + 1) = l' at *
          simp -implicitDefEqProofs (disch := omega) [wrap_of, ilt_t, ilt_f, ile_t, ile_f, nlt_t, nlt_f, nle_t, nle_f, ieq_t, ieq_f, imin_l, imin_r, imax_l, imax_r, take_app1, take_map_all, c28, a33, h33, a48, h48, hc0, a52, h52, a20, h20, hc, hof, ← hy, ← hz, ← he, hE, h49, h54, deleteH, hsl, delP]
          rw [List.take_of_length_le (by simp; omega)]
end Go.Proofs.Ytlooipgkklaijaa
