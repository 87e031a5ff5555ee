import Derived.Test.YtalckkfoplaeeaaF06
set_option linter.unusedSimpArgs false
set_option linter.unusedVariables false
namespace Go.Proofs.Ytalckkfoplaeeaa
open Go.Am Go.Am.Nm Go.Lib

theorem l4 {n : Nat} (hn : 4 < n) (l : List (List UInt8)) (hl : l.length ≤ 1000000) (f : Bool) (b : Bool) (e0 : Env) (h4 : e0 4 = .lst f (l.map AV.str)) :
    iter (round (C06.tab n) [5, 6] [(.exit 0, [5])] c4_1 e0 0 []) ([.bool b, .int .i64 0], []) = some (.exit 0, [.bool (b && l.all rightN)], []) := by
  have := for_list (f := round (C06.tab n) [5, 6] [(.exit 0, [5])] c4_1 e0 0 []) (fun i (s : Bool) => ([.bool s, .int .i64 i], [])) l (fun s x => s && rightN x) (fun s => (.exit 0, [.bool s], [])) (fun _ _ => True)
    (fun i hi s _ => by
      refine ⟨trivial, ?_⟩
      obtain ⟨x, hx⟩ : ∃ x, x = l[i] := ⟨_, rfl⟩
      have h16 := s16 (n := n) (by omega) x
      rw [← hx]
      cases s <;> simp -implicitDefEqProofs (disch := omega) [wrap_of, ilt_t, ilt_f, ile_t, ile_f, nlt_t, nlt_f, nle_t, nle_f, ieq_t, ieq_f, imin_l, imin_r, imax_l, imax_r, take_app1, take_map_all, round_eq, b4_1, h4, hi, ← hx, a16, h16])
    (fun s _ => by simp -implicitDefEqProofs (disch := omega) [wrap_of, ilt_t, ilt_f, ile_t, ile_f, nlt_t, nlt_f, nle_t, nle_f, ieq_t, ieq_f, imin_l, imin_r, imax_l, imax_r, take_app1, take_map_all, round_eq, b4_1, h4]) b trivial
  simp only [Int.natCast_zero] at this
  rw [this]
  have e : ∀ (l : List (List UInt8)) (b : Bool), l.foldl (fun s x => s && rightN x) b = (b && l.all rightN) := by
    intro l
    induction l with
    | nil => intro b; simp
    | cons x l ih => intro b; rw [List.foldl_cons, ih, List.all_cons, Bool.and_assoc]
  rw [e]
theorem lp4 (l : List (List UInt8)) (f : Bool) (hl : l.length ≤ 9223372036854775807) : runP (C06.tab 16) c4 [.lst f (l.map AV.str)] = some (.bool true) := by
  rw [runP_eq, runH_eq]
  have h10 := s10 (n := 16) (by decide)
  have h11 := s11 (n := 16) (by decide) l f hl
  have hfl := few_len l
  have h21 := fun g => s21 (n := 16) (by decide) (few l) g (few_fits l)
  generalize few l = m at *
  have h12 := s12 (n := 16) (by decide) (jn m)
  unfold spV at h12
  have h18 := fun s f g (hs : s.length ≤ 1000000000) => s18 (n := 16) (by decide) s m f g hs (by omega)
  by_cases h1 : m.length ≤ 12
  · simp -implicitDefEqProofs (disch := omega) [wrap_of, ilt_t, ilt_f, ile_t, ile_f, nlt_t, nlt_f, nle_t, nle_f, ieq_t, ieq_f, imin_l, imin_r, imax_l, imax_r, take_app1, take_map_all, c4, a10, h10, a11, h11]
    rw [l4 (by decide) m (by omega) false _ _ (by simp -implicitDefEqProofs (disch := omega) [wrap_of, ilt_t, ilt_f, ile_t, ile_f, nlt_t, nlt_f, nle_t, nle_f, ieq_t, ieq_f, imin_l, imin_r, imax_l, imax_r, take_app1, take_map_all, ])]
    cases h2 : m.all rightN with
    | true =>
      rw [split_jn h1 h2] at h12
      have k18 := fun f g => h18 m f g (by omega)
      simp -implicitDefEqProofs (disch := omega) [wrap_of, ilt_t, ilt_f, ile_t, ile_f, nlt_t, nlt_f, nle_t, nle_f, ieq_t, ieq_f, imin_l, imin_r, imax_l, imax_r, take_app1, take_map_all, a21, h21, a12, h12, a18, k18, h1]
    | false =>
      cases hs : split (jn m) with
      | none =>
        rw [hs] at h12
        simp -implicitDefEqProofs (disch := omega) [wrap_of, ilt_t, ilt_f, ile_t, ile_f, nlt_t, nlt_f, nle_t, nle_f, ieq_t, ieq_f, imin_l, imin_r, imax_l, imax_r, take_app1, take_map_all, a21, h21, a12, h12, h1]
      | some s =>
        rw [hs] at h12
        obtain ⟨_, s1, s2⟩ := split_some hs
        have hne : s ≠ m := fun h => by rw [h, h2] at s2; cases s2
        have k18 := fun f g => h18 s f g (by omega)
        simp -implicitDefEqProofs (disch := omega) [wrap_of, ilt_t, ilt_f, ile_t, ile_f, nlt_t, nlt_f, nle_t, nle_f, ieq_t, ieq_f, imin_l, imin_r, imax_l, imax_r, take_app1, take_map_all, a21, h21, a12, h12, a18, k18, h1, hne]
  · have h1' : 12 < m.length := by omega
    simp -implicitDefEqProofs (disch := omega) [wrap_of, ilt_t, ilt_f, ile_t, ile_f, nlt_t, nlt_f, nle_t, nle_f, ieq_t, ieq_f, imin_l, imin_r, imax_l, imax_r, take_app1, take_map_all, c4, a10, h10, a11, h11]
    rw [l4 (by decide) m (by omega) false _ _ (by simp -implicitDefEqProofs (disch := omega) [wrap_of, ilt_t, ilt_f, ile_t, ile_f, nlt_t, nlt_f, nle_t, nle_f, ieq_t, ieq_f, imin_l, imin_r, imax_l, imax_r, take_app1, take_map_all, ])]
    cases hs : split (jn m) with
    | none =>
      rw [hs] at h12
      simp -implicitDefEqProofs (disch := omega) [wrap_of, ilt_t, ilt_f, ile_t, ile_f, nlt_t, nlt_f, nle_t, nle_f, ieq_t, ieq_f, imin_l, imin_r, imax_l, imax_r, take_app1, take_map_all, a21, h21, a12, h12, h1]
    | some s =>
      rw [hs] at h12
      obtain ⟨_, s1, s2⟩ := split_some hs
      have hne : s ≠ m := fun h => by rw [h] at s1; exact h1 s1
      have k18 := fun f g => h18 s f g (by omega)
      simp -implicitDefEqProofs (disch := omega) [wrap_of, ilt_t, ilt_f, ile_t, ile_f, nlt_t, nlt_f, nle_t, nle_f, ieq_t, ieq_f, imin_l, imin_r, imax_l, imax_r, take_app1, take_map_all, a21, h21, a12, h12, a18, k18, h1, hne]
theorem l5 {n : Nat} (hn : 4 < n) (l : List (List UInt8)) (hl : l.length ≤ 1000000) (ha : l.all rightN = true) (f : Bool) (e0 : Env) (h5 : e0 5 = .lst f (l.map AV.str)) :
    iter (round (C06.tab n) [7] [(.exit 0, []), (.ret, [2])] c5_1 e0 0 []) ([.int .i64 0], []) = some (.exit 0, [], []) := by
  have := for_all (f := round (C06.tab n) [7] [(.exit 0, []), (.ret, [2])] c5_1 e0 0 []) (fun i => ([.int .i64 i], [])) l rightN (.exit 0, [], []) (.ret, [.bool false], [])
    (fun i hi => by
      obtain ⟨x, hx⟩ : ∃ x, x = l[i] := ⟨_, rfl⟩
      have h16 := s16 (n := n) (by omega) x
      rw [← hx]
      cases hr : rightN x <;> rw [hr] at h16 <;> simp -implicitDefEqProofs (disch := omega) [wrap_of, ilt_t, ilt_f, ile_t, ile_f, nlt_t, nlt_f, nle_t, nle_f, ieq_t, ieq_f, imin_l, imin_r, imax_l, imax_r, take_app1, take_map_all, round_eq, b5_1, h5, hi, ← hx, a16, h16])
    (by simp -implicitDefEqProofs (disch := omega) [wrap_of, ilt_t, ilt_f, ile_t, ile_f, nlt_t, nlt_f, nle_t, nle_f, ieq_t, ieq_f, imin_l, imin_r, imax_l, imax_r, take_app1, take_map_all, round_eq, b5_1, h5])
  rw [if_pos ha] at this
  exact this
theorem abv_root {p : List UInt8} : abv [47] p = (split p).isSome := by
  unfold abv
  rw [q2]
  cases split p <;> simp
theorem abv_self {p : List UInt8} : abv p p = (split p).isSome := by
  unfold abv
  cases split p <;> simp
theorem lp5 (a : List UInt8) : runP (C06.tab 17) c5 [.str a] = some (.bool true) := by
  rw [runP_eq, runH_eq]
  have h10 := s10 (n := 17) (by decide)
  have hx := x5_le a
  have h12 := s12 (n := 17) (by decide) (x5 a)
  have h19 := s19 (n := 17) (by decide) [47] (x5 a)
  have h19' := s19 (n := 17) (by decide) (x5 a) (x5 a)
  rw [abv_root] at h19
  rw [abv_self] at h19'
  have e1 : a.take 500 = x5 a := rfl
  have g1 : a.length ≤ 500 → x5 a = a := fun h => List.take_of_length_le h
  unfold spV at h12
  have hf := fun s (hs : split (x5 a) = some s) => fits_of hs (by omega)
  have hsp := fun s (hs : split (x5 a) = some s) => split_some hs
  generalize x5 a = x at *
  generalize split x = s at *
  cases s with
  | none =>
    rcases Nat.le_total a.length 500 with h | h
    · obtain rfl := g1 h
      simp -implicitDefEqProofs (disch := omega) [wrap_of, ilt_t, ilt_f, ile_t, ile_f, nlt_t, nlt_f, nle_t, nle_f, ieq_t, ieq_f, imin_l, imin_r, imax_l, imax_r, take_app1, take_map_all, c5, a10, h10, a12, h12, a19, h19, h19', e1]
    · simp -implicitDefEqProofs (disch := omega) [wrap_of, ilt_t, ilt_f, ile_t, ile_f, nlt_t, nlt_f, nle_t, nle_f, ieq_t, ieq_f, imin_l, imin_r, imax_l, imax_r, take_app1, take_map_all, c5, a10, h10, a12, h12, a19, h19, h19', e1]
  | some s =>
    obtain ⟨r1, r2, r3⟩ := hsp s rfl
    have h21 := fun g => s21 (n := 17) (by decide) s g (hf s rfl)
    rw [r1] at h21
    rcases Nat.le_total a.length 500 with h | h
    · obtain rfl := g1 h
      simp -implicitDefEqProofs (disch := omega) [wrap_of, ilt_t, ilt_f, ile_t, ile_f, nlt_t, nlt_f, nle_t, nle_f, ieq_t, ieq_f, imin_l, imin_r, imax_l, imax_r, take_app1, take_map_all, c5, a10, h10, a12, h12, e1]
      rw [l5 (by decide) s (by omega) r3 (decide (x = [47])) _ (by simp -implicitDefEqProofs (disch := omega) [wrap_of, ilt_t, ilt_f, ile_t, ile_f, nlt_t, nlt_f, nle_t, nle_f, ieq_t, ieq_f, imin_l, imin_r, imax_l, imax_r, take_app1, take_map_all, ])]
      simp -implicitDefEqProofs (disch := omega) [wrap_of, ilt_t, ilt_f, ile_t, ile_f, nlt_t, nlt_f, nle_t, nle_f, ieq_t, ieq_f, imin_l, imin_r, imax_l, imax_r, take_app1, take_map_all, a19, h19, h19', a21, h21, strBin, r2]
    · simp -implicitDefEqProofs (disch := omega) [wrap_of, ilt_t, ilt_f, ile_t, ile_f, nlt_t, nlt_f, nle_t, nle_f, ieq_t, ieq_f, imin_l, imin_r, imax_l, imax_r, take_app1, take_map_all, c5, a10, h10, a12, h12, e1]
      rw [l5 (by decide) s (by omega) r3 (decide (x = [47])) _ (by simp -implicitDefEqProofs (disch := omega) [wrap_of, ilt_t, ilt_f, ile_t, ile_f, nlt_t, nlt_f, nle_t, nle_f, ieq_t, ieq_f, imin_l, imin_r, imax_l, imax_r, take_app1, take_map_all, ])]
      simp -implicitDefEqProofs (disch := omega) [wrap_of, ilt_t, ilt_f, ile_t, ile_f, nlt_t, nlt_f, nle_t, nle_f, ieq_t, ieq_f, imin_l, imin_r, imax_l, imax_r, take_app1, take_map_all, a19, h19, h19', a21, h21, strBin, r2]
end Go.Proofs.Ytalckkfoplaeeaa
