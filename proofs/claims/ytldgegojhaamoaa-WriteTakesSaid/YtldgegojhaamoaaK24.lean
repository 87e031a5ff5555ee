import Derived.Test.YtldgegojhaamoaaJ24
set_option linter.unusedSimpArgs false
set_option linter.unusedVariables false
namespace Go.Proofs.Ytldgegojhaamoaa
open Go.Am

theorem backG_eq (ino : Int) : ∀ (n : Nat) (s : Bool × List Int) (l : List Dirty), (backG ino n (s, l)).1.2 = see (l.take n) ino s.2 ∧ (backG ino n (s, l)).2 = l.drop n
  | 0, s, l => by simp [backG, see]
  | n + 1, s, [] => by simp [backG, see]
  | n + 1, s, d :: l => by
    have := backG_eq ino n (if d.ino = ino then (false, layD s.2 d) else s) l
    simp only [backG, List.take_succ_cons, List.drop_succ_cons, see_cons]
    refine ⟨this.1.trans ?_, this.2⟩
    by_cases h : d.ino = ino <;> simp [h]
theorem l6 {n : Nat} (hn : 34 < n) (l : List Dirty) (f1 : l.length ≤ 30) (f2 : ∀ d ∈ l, Right d) (f h : Bool) (ino : Int) (es : List Int) (he5 : es.length ≤ 4096) (e0 : Env) (h0 : e0 0 = .lst f (l.map D)) (h1 : e0 1 = .int .i64 ino) (h2 : e0 2 = .lst h (es.map B)) (h8 : e0 8 = .lst false ((see l ino es).map B)) :
    iter (round (C24.tab n) [9] [(.exit 0, []), (.ret, [6])] c6_1 e0 0 []) ([.int .i64 0], []) = some (.exit 0, [], []) := by
  have := for_list (f := round (C24.tab n) [9] [(.exit 0, []), (.ret, [6])] c6_1 e0 0 []) (fun i (_ : Unit) => ([.int .i64 i], [])) (List.range (l.length + 1)) (fun s _ => s) (fun _ => (.exit 0, [], [])) (fun _ _ => True)
    (fun i hi s hs => by
      simp only [List.length_range] at hi
      refine ⟨trivial, ?_⟩
      have h27 := s27 (n := n) (by omega) i (by omega) ino f h l es f2 (by omega)
      obtain ⟨b1, b2⟩ := backG_eq ino i (h, es) l
      have sl := see_le (l := l.take i) (fun d hd => f2 d (List.mem_of_mem_take hd)) ino es he5
      have slw := see_le f2 ino es he5
      rw [b2] at h27
      have e27 : (backG ino i ((h, es), l)).1.2 = see (l.take i) ino es := b1
      rw [e27] at h27
      have hd := List.length_drop (i := i) (l := l)
      have h18 := fun g => s18 (n := n) (by omega) (l.drop i) f g ino (see (l.take i) ino es) (by omega) (fun x hx => (f2 x (List.mem_of_mem_drop hx)).good) (by omega)
      have ht : see (l.drop i) ino (see (l.take i) ino es) = see l ino es := by rw [← see_append, List.take_append_drop]
      simp only [ht] at h18
      have h17 := fun g1 g2 => s17 (n := n) (by omega) (see l ino es) (see l ino es) g1 g2 (by omega)
      simp only [decide_true] at h17
      generalize (backG ino i ((h, es), l)).1.1 = fl at h27
      simp only [List.map_drop] at h18 h27
      by_cases hil : i = l.length
      · subst hil
        have ht2 : see (l.take l.length) ino es = see l ino es := by rw [List.take_length]
        rw [ht2] at h27 h18
        simp -implicitDefEqProofs (disch := omega) [wrap_of, ilt_t, ilt_f, ile_t, ile_f, nlt_t, nlt_f, nle_t, nle_f, ieq_t, ieq_f, imin_l, imin_r, imax_l, imax_r, take_app1, take_map_all, round_eq, b6_1, h0, h1, h2, h8, a27, h27, a18, h18, a17, h17, hd]
      · simp -implicitDefEqProofs (disch := omega) [wrap_of, ilt_t, ilt_f, ile_t, ile_f, nlt_t, nlt_f, nle_t, nle_f, ieq_t, ieq_f, imin_l, imin_r, imax_l, imax_r, take_app1, take_map_all, round_eq, b6_1, h0, h1, h2, h8, a27, h27, a18, h18, a17, h17, hil, hd])
    (fun s hs => by simp only [List.length_range]; simp -implicitDefEqProofs (disch := omega) [wrap_of, ilt_t, ilt_f, ile_t, ile_f, nlt_t, nlt_f, nle_t, nle_f, ieq_t, ieq_f, imin_l, imin_r, imax_l, imax_r, take_app1, take_map_all, round_eq, b6_1, h0]) () trivial
  simp only [Int.natCast_zero] at this
  exact this
theorem w6 (l : List Dirty) (hl : l.length ≤ 9223372036854775807) (hs : ∀ d ∈ l, Short d) (f h : Bool) (ino : Int) (es : List Int) (he : es.length ≤ 9223372036854775807) :
    runP (C24.tab 35) c6 [.lst f (l.map D), .int .i64 ino, .lst h (es.map B)] = some (.bool true) := by
  rw [runP_eq, runH_eq]
  have h9 : (C24.tab 35).p 9 [] = some (.bool true) := s9 (by omega)
  have h10 := s10 (n := 35) (by omega) l hl hs f
  cases hfit : fits l with
  | false =>
    rw [hfit] at h10
    simp -implicitDefEqProofs (disch := omega) [wrap_of, ilt_t, ilt_f, ile_t, ile_f, nlt_t, nlt_f, nle_t, nle_f, ieq_t, ieq_f, imin_l, imin_r, imax_l, imax_r, take_app1, take_map_all, c6, a9, h9, a10, h10]
  | true =>
    rw [hfit] at h10
    obtain ⟨f1, f2, f3, f4⟩ := fits_right hfit
    by_cases he5 : es.length ≤ 4096
    · have h18 := s18 (n := 35) (by omega) l f h ino es (by omega) (fun x hx => (f2 x hx).good) (by omega)
      simp -implicitDefEqProofs (disch := omega) [wrap_of, ilt_t, ilt_f, ile_t, ile_f, nlt_t, nlt_f, nle_t, nle_f, ieq_t, ieq_f, imin_l, imin_r, imax_l, imax_r, take_app1, take_map_all, c6, a9, h9, a10, h10, he5, a18, h18]
      rw [l6 (by omega) l f1 f2 f h ino es he5 _ (by simp -implicitDefEqProofs (disch := omega) [wrap_of, ilt_t, ilt_f, ile_t, ile_f, nlt_t, nlt_f, nle_t, nle_f, ieq_t, ieq_f, imin_l, imin_r, imax_l, imax_r, take_app1, take_map_all, ]) (by simp -implicitDefEqProofs (disch := omega) [wrap_of, ilt_t, ilt_f, ile_t, ile_f, nlt_t, nlt_f, nle_t, nle_f, ieq_t, ieq_f, imin_l, imin_r, imax_l, imax_r, take_app1, take_map_all, ]) (by simp -implicitDefEqProofs (disch := omega) [wrap_of, ilt_t, ilt_f, ile_t, ile_f, nlt_t, nlt_f, nle_t, nle_f, ieq_t, ieq_f, imin_l, imin_r, imax_l, imax_r, take_app1, take_map_all, ]) (by simp -implicitDefEqProofs (disch := omega) [wrap_of, ilt_t, ilt_f, ile_t, ile_f, nlt_t, nlt_f, nle_t, nle_f, ieq_t, ieq_f, imin_l, imin_r, imax_l, imax_r, take_app1, take_map_all, ])]
      simp -implicitDefEqProofs (disch := omega) [wrap_of, ilt_t, ilt_f, ile_t, ile_f, nlt_t, nlt_f, nle_t, nle_f, ieq_t, ieq_f, imin_l, imin_r, imax_l, imax_r, take_app1, take_map_all, ]
    · simp -implicitDefEqProofs (disch := omega) [wrap_of, ilt_t, ilt_f, ile_t, ile_f, nlt_t, nlt_f, nle_t, nle_f, ieq_t, ieq_f, imin_l, imin_r, imax_l, imax_r, take_app1, take_map_all, c6, a9, h9, a10, h10, he5]
end Go.Proofs.Ytldgegojhaamoaa
