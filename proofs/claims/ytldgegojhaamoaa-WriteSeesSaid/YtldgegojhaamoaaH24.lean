import Derived.Test.YtldgegojhaamoaaG24
set_option linter.unusedSimpArgs false
set_option linter.unusedVariables false
namespace Go.Proofs.Ytldgegojhaamoaa
open Go.Am

theorem right_of {d : Dirty} (h : rightD d = true) : Right d := by
  unfold rightD rightB at h
  simp only [Bool.and_eq_true, decide_eq_true_eq] at h
  exact ⟨h.1.1.2, h.1.2, h.2⟩
theorem fits_right {l : List Dirty} (h : fits l = true) : l.length ≤ 30 ∧ (∀ d ∈ l, Right d) ∧ (∀ d ∈ l, 1 ≤ d.ino) ∧ ∀ d ∈ l, d.dat.length ≤ 300 := by
  unfold fits at h
  simp only [Bool.and_eq_true, decide_eq_true_eq, List.all_eq_true] at h
  obtain ⟨⟨h1, h2⟩, h3⟩ := h
  refine ⟨h1, fun d hd => right_of (h2 d hd), fun d hd => ?_, h3⟩
  have := h2 d hd
  unfold rightD rightB at this
  simp only [Bool.and_eq_true, decide_eq_true_eq] at this
  exact this.1.1.1
theorem sameD_refl (d : Dirty) : sameD d d = true := by simp [sameD]
theorem same_refl : ∀ l : List Dirty, same l l = true
  | [] => rfl
  | d :: l => by
    have h := same_refl l
    unfold same at h ⊢
    simp only [decide_true, Bool.true_and, List.zip_cons_cons, List.all_cons, sameD_refl] at h ⊢
    exact h
theorem same_append {a b a' b' : List Dirty} (h : same a b = true) (h' : same a' b' = true) : same (a ++ a') (b ++ b') = true := by
  unfold same at h h' ⊢
  simp only [Bool.and_eq_true, decide_eq_true_eq] at h h' ⊢
  refine ⟨by simp [h.1, h'.1], ?_⟩
  rw [List.zip_append h.1, List.all_append, h.2, h'.2]
  rfl
theorem put_same (l : List Dirty) (ino p : Int) (f g : Bool) (d : List Int) : same (put l ino p f d) (put l ino p g d) = true := by
  unfold put
  have h1 : same [⟨ino, p, f, d⟩] [⟨ino, p, g, d⟩] = true := by simp [same, sameD]
  cases last l ino with
  | none => exact same_append (same_refl l) h1
  | some x =>
    simp only
    split
    · exact same_refl _
    · exact same_append (same_refl l) h1
theorem put_length (l : List Dirty) (ino p : Int) (f : Bool) (d : List Int) : l.length ≤ (put l ino p f d).length ∧ (put l ino p f d).length ≤ l.length + 1 := by
  unfold put
  cases last l ino with
  | none => simp
  | some x => simp only; split <;> simp
theorem merge_right {x : Dirty} {ino p : Int} {d : List Int} (hx : Right x) (hp : 0 ≤ p) (hd : 0 < d.length) (hpd : p + d.length ≤ 4096) (hn : near x p d.length = true) : Right (merge x ino p d) := by
  have x0 := hx.h0
  have x1 := hx.h1
  have x2 := hx.h2
  unfold near at hn
  simp only [Bool.not_eq_true', Bool.or_eq_false_iff, decide_eq_false_iff_not] at hn
  have hdz : d ≠ [] := by intro e; rw [e] at hd; simp at hd
  have hxz : x.dat ≠ [] := by intro e; rw [e] at x1; simp at x1
  refine ⟨?_, ?_, ?_⟩
  · simp only [merge]; omega
  · simp only [merge]; rw [lay_length, if_neg hdz, lay_length, if_neg hxz]; omega
  · simp only [merge]; rw [lay_length, if_neg hdz, lay_length, if_neg hxz]; simp only [List.length_nil]; omega
theorem put_right {l : List Dirty} (hg : ∀ d ∈ l, Right d) {ino p : Int} {f : Bool} {d : List Int} (hr : rightB ino p d.length = true) : ∀ x ∈ put l ino p f d, Right x := by
  have hr' := hr
  unfold rightB at hr'
  simp only [Bool.and_eq_true, decide_eq_true_eq] at hr'
  obtain ⟨⟨⟨r1, r2⟩, r3⟩, r4⟩ := hr'
  have hnew : ∀ x ∈ l ++ [⟨ino, p, f, d⟩], Right x := by
    intro x hx
    simp only [List.mem_append, List.mem_singleton] at hx
    rcases hx with hx | rfl
    · exact hg x hx
    · exact ⟨r2, r3, r4⟩
  unfold put
  cases hlast : last l ino with
  | none => exact hnew
  | some q =>
    obtain ⟨i, x⟩ := q
    obtain ⟨hi, hx, _⟩ := last_some hlast
    simp only
    split
    · rename_i hn
      intro y hy
      rcases List.mem_or_eq_of_mem_set hy with hy | rfl
      · exact hg y hy
      · exact merge_right (hx ▸ hg _ (List.getElem_mem hi)) r2 r3 r4 hn
    · exact hnew
theorem see_le {l : List Dirty} (hg : ∀ d ∈ l, Right d) (ino : Int) (es : List Int) (he : es.length ≤ 4096) : (see l ino es).length ≤ 4096 := by
  unfold see
  have : ∀ (l : List Dirty) (es : List Int), (∀ d ∈ l, Right d) → es.length ≤ 4096 → (l.foldl layD es).length ≤ 4096 := by
    intro l
    induction l with
    | nil => intro es _ h; exact h
    | cons d l ih =>
      intro es hg he
      rw [List.foldl_cons]
      refine ih _ (fun x hx => hg x (by simp [hx])) ?_
      have hd := hg d (by simp)
      have := hd.h0
      have := hd.h1
      have := hd.h2
      unfold layD
      rw [lay_length]
      split <;> omega
  exact this _ _ (fun d hd => hg d (List.mem_filter.1 hd).1) he

theorem layR_form (es : List Int) (p : Int) (d : List Int) (he : es.length ≤ 4096) (hd : d.length ≤ 5000) : ∃ (f : Bool) (bs : List Int) (e : Int), layR es p d = (.lst f (bs.map B), e) ∧ bs.length ≤ 10000 := by
  unfold layR
  split
  · exact ⟨true, [], 1, rfl, by simp⟩
  · split
    · exact ⟨true, [], 2, rfl, by simp⟩
    · refine ⟨false, _, 0, rfl, ?_⟩
      rw [lay_length]
      split
      · omega
      · rename_i hz
        have := List.length_pos_iff.2 hz
        omega
theorem w3 (l : List Dirty) (hl : l.length ≤ 9223372036854775807) (hs : ∀ d ∈ l, Short d) (f g h : Bool) (ino p : Int) (hp : p ≤ 9223372036854775807) (d es : List Int) (hd : d.length ≤ 9223372036854775807) (he : es.length ≤ 9223372036854775807) :
    runP (C24.tab 25) c3 [.lst f (l.map D), .int .i64 ino, .int .i64 p, .lst g (d.map B), .lst h (es.map B)] = some (.bool true) := by
  rw [runP_eq, runH_eq]
  have h9 : (C24.tab 25).p 9 [] = some (.bool true) := s9 (by omega)
  have h10 := s10 (n := 25) (by omega) l hl hs f
  cases hfit : fits l with
  | false =>
    rw [hfit] at h10
    simp -implicitDefEqProofs (disch := omega) [wrap_of, ilt_t, ilt_f, ile_t, ile_f, nlt_t, nlt_f, nle_t, nle_f, ieq_t, ieq_f, imin_l, imin_r, imax_l, imax_r, take_app1, take_map_all, c3, a9, h9, a10, h10]
  | true =>
    rw [hfit] at h10
    obtain ⟨f1, f2, f3, f4⟩ := fits_right hfit
    by_cases hd5 : d.length ≤ 5000
    · by_cases he5 : es.length ≤ 4096
      · have h11 := s11 (n := 25) (by omega) es d h g p (by omega) hd hp
        have h12 := s12 (n := 25) (by omega) es d h g p (by omega) (by omega) hp
        have h18 := s18 (n := 25) (by omega) l f h ino es (by omega) (fun d hd => (f2 d hd).good) (by omega)
        have h19 := s19 (n := 25) (by omega) l f h ino es (by omega) f2 (by omega)
        have h16 : ∃ k1 k2 l1 l2, (C24.tab 25).p 15 [.lst f (l.map D), .int .i64 ino, .int .i64 p, .lst g (d.map B)] = some (.lst k1 (List.map D l1)) ∧
            (C24.tab 25).p 16 [.lst f (l.map D), .int .i64 ino, .int .i64 p, .lst g (d.map B)] = some (.lst k2 (List.map D l2)) ∧ same l1 l2 = true ∧ l1.length ≤ 31 ∧ ∀ x ∈ l1, Short x := by
          cases hr : rightB ino p d.length with
          | false => exact ⟨f, f, l, l, s15_not (by omega) _ f g ino p d (by omega) hr, s16_not (by omega) _ f g ino p d (by omega) hr, same_refl l, by omega, hs⟩
          | true =>
            refine ⟨false, false, _, _, s15 (by omega) l f g ino p d (by omega) f2 hr, s16 (by omega) l f g ino p d (by omega) f2 hr, put_same _ _ _ _ _ _, ?_, fun x hx => ?_⟩
            · have := (put_length l ino p false d).2; omega
            · have := put_right f2 hr x hx
              have q2 := this.h2; have q0 := this.h0
              unfold Short; omega
        obtain ⟨k1, k2, l1, l2, h15, h16, hsame, hl1, hsl1⟩ := h16
        have h14 := s14 (n := 25) (by omega) l1 l2 k1 k2 (by omega) hsl1
        rw [hsame] at h14
        have hsee := see_le f2 ino es he5
        have h17 := s17 (n := 25) (by omega) (see l ino es) (see l ino es) false (seeF l ino (h, es)).1 (by omega)
        simp only [decide_true] at h17
        obtain ⟨lf, lb, le, hlay, hlb⟩ := layR_form es p d (by omega) (by omega)
        rw [hlay] at h11 h12
        have h17b := s17 (n := 25) (by omega) lb lb lf lf (by omega)
        simp only [decide_true] at h17b
        cases l with
        | nil =>
          have h13 := s13_nil (n := 25) (by omega) f
          simp only [D, List.map_nil] at h10 h13 h15 h16 h18 h19 h11 h12
          simp -implicitDefEqProofs (disch := omega) [wrap_of, ilt_t, ilt_f, ile_t, ile_f, nlt_t, nlt_f, nle_t, nle_f, ieq_t, ieq_f, imin_l, imin_r, imax_l, imax_r, take_app1, take_map_all, c3, a9, h9, a10, h10, a11, h11, a12, h12, a13, h13, a15, h15, a16, h16, a14, h14, a17, h17, h17b, a18, h18, a19, h19]
        | cons x l =>
          have h13 := s13_cons (n := 25) (by omega) f x l
          have h14a := fun g1 g2 => s14 (n := 25) (by omega) [x] [x] g1 g2 (by simp) (by intro y hy; simp only [List.mem_singleton] at hy; subst hy; exact hs _ (by simp))
          have h14b := s14 (n := 25) (by omega) l l f f (by simp at f1; omega) (fun y hy => hs y (by simp [hy]))
          rw [same_refl] at h14b
          simp only [same_refl] at h14a
          simp only [D, List.map_cons, List.map_nil] at h10 h13 h15 h16 h18 h19 h14a
          simp -implicitDefEqProofs (disch := omega) [wrap_of, ilt_t, ilt_f, ile_t, ile_f, nlt_t, nlt_f, nle_t, nle_f, ieq_t, ieq_f, imin_l, imin_r, imax_l, imax_r, take_app1, take_map_all, c3, a9, h9, a10, h10, a11, h11, a12, h12, a13, h13, a15, h15, a16, h16, a14, h14, h14a, h14b, a17, h17, h17b, a18, h18, a19, h19]
      · simp -implicitDefEqProofs (disch := omega) [wrap_of, ilt_t, ilt_f, ile_t, ile_f, nlt_t, nlt_f, nle_t, nle_f, ieq_t, ieq_f, imin_l, imin_r, imax_l, imax_r, take_app1, take_map_all, c3, a9, h9, a10, h10, hd5, he5]
    · simp -implicitDefEqProofs (disch := omega) [wrap_of, ilt_t, ilt_f, ile_t, ile_f, nlt_t, nlt_f, nle_t, nle_f, ieq_t, ieq_f, imin_l, imin_r, imax_l, imax_r, take_app1, take_map_all, c3, a9, h9, a10, h10, hd5]
end Go.Proofs.Ytldgegojhaamoaa
