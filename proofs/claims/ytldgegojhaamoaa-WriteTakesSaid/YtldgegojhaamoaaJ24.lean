import Derived.Test.YtldgegojhaamoaaI24
set_option linter.unusedSimpArgs false
set_option linter.unusedVariables false
namespace Go.Proofs.Ytldgegojhaamoaa
open Go.Am

theorem last_split {l : List Dirty} {ino : Int} {i : Nat} {x : Dirty} : last l ino = some (i, x) → ∃ A C, l = A ++ x :: C ∧ A.length = i ∧ x.ino = ino ∧ ∀ y ∈ C, y.ino ≠ ino := by
  refine snoc_rec (p := fun l => last l ino = some (i, x) → ∃ A C, l = A ++ x :: C ∧ A.length = i ∧ x.ino = ino ∧ ∀ y ∈ C, y.ino ≠ ino) ?_ (fun l d ih => ?_) l
  · intro h; cases h
  · intro h
    rw [last_snoc] at h
    split at h
    · rename_i hd
      cases h
      exact ⟨l, [], rfl, rfl, hd, by simp⟩
    · rename_i hd
      obtain ⟨A, C, h1, h2, h3, h4⟩ := ih h
      refine ⟨A, C ++ [d], by rw [h1]; simp, h2, h3, fun y hy => ?_⟩
      rcases List.mem_append.1 hy with hy | hy
      · exact h4 y hy
      · simp at hy; subst hy; exact hd
theorem see_append (l m : List Dirty) (ino : Int) (es : List Int) : see (l ++ m) ino es = see m ino (see l ino es) := by
  unfold see; rw [List.filter_append, List.foldl_append]
theorem see_cons (d : Dirty) (l : List Dirty) (ino : Int) (es : List Int) : see (d :: l) ino es = see l ino (if d.ino = ino then layD es d else es) := by
  unfold see
  by_cases h : d.ino = ino <;> simp [h]
theorem see_none {l : List Dirty} {ino : Int} (h : ∀ y ∈ l, y.ino ≠ ino) (es : List Int) : see l ino es = es := by
  unfold see
  rw [List.filter_eq_nil_iff.2 fun y hy => by simpa using h y hy]
  rfl
theorem lay_merge (es x d : List Int) (xf p : Nat) (hx : x ≠ []) (hd : d ≠ []) (h1 : p ≤ xf + x.length) (h2 : xf ≤ p + d.length) :
    lay es (min xf p) (lay (lay [] (xf - min xf p) x) (p - min xf p) d) = lay (lay es xf x) p d := by
  have lx := List.length_pos_iff.2 hx
  have ld := List.length_pos_iff.2 hd
  have hn2 : lay (lay [] (xf - min xf p) x) (p - min xf p) d ≠ [] := by
    intro e
    have h := congrArg List.length e
    rw [lay_length, if_neg hd, List.length_nil] at h
    omega
  have len1 : (lay [] (xf - min xf p) x).length = xf - min xf p + x.length := by rw [lay_length, if_neg hx]; simp
  have len2 : (lay (lay [] (xf - min xf p) x) (p - min xf p) d).length = max (xf - min xf p + x.length) (p - min xf p + d.length) := by rw [lay_length, if_neg hd, len1]
  apply List.ext_getElem?
  intro j
  have len3 : (lay es xf x).length = max es.length (xf + x.length) := by rw [lay_length, if_neg hx]
  rw [lay_get _ _ _ hn2, lay_get _ _ _ hd, lay_get _ _ _ hd, lay_get _ _ _ hx, lay_get _ _ _ hx, len2, len1, len3]
  simp only [List.length_nil, Nat.not_lt_zero, if_false]
  by_cases c1 : p ≤ j ∧ j < p + d.length
  · rw [if_pos c1, if_pos (show min xf p ≤ j ∧ j < min xf p + max (xf - min xf p + x.length) (p - min xf p + d.length) by omega), if_pos (show p - min xf p ≤ j - min xf p ∧ j - min xf p < p - min xf p + d.length by omega)]
    congr 1; omega
  · rw [if_neg c1]
    by_cases c2 : xf ≤ j ∧ j < xf + x.length
    · rw [if_pos (show min xf p ≤ j ∧ j < min xf p + max (xf - min xf p + x.length) (p - min xf p + d.length) by omega), if_neg (show ¬ (p - min xf p ≤ j - min xf p ∧ j - min xf p < p - min xf p + d.length) by omega),
        if_pos (show j - min xf p < xf - min xf p + x.length by omega), if_pos (show xf - min xf p ≤ j - min xf p ∧ j - min xf p < xf - min xf p + x.length by omega), if_pos (show j < max es.length (xf + x.length) by omega), if_pos c2]
      congr 1; omega
    · rw [if_neg (show ¬ (min xf p ≤ j ∧ j < min xf p + max (xf - min xf p + x.length) (p - min xf p + d.length)) by omega), if_neg c2]
      by_cases c3 : j < es.length
      · rw [if_pos c3, if_pos (show j < max es.length (xf + x.length) by omega), if_pos c3]
      · rw [if_neg c3]
        by_cases c4 : j < xf
        · by_cases c5 : j < min xf p
          · rw [if_pos c5, if_pos (show j < max es.length (xf + x.length) by omega), if_neg c3, if_pos c4]
          · omega
        · rw [if_neg (show ¬ j < min xf p by omega), if_neg (show ¬ j < max es.length (xf + x.length) by omega), if_neg (show ¬ j < p by omega)]
theorem layD_merge {x : Dirty} (hx : Right x) {p : Int} {d : List Int} (hp : 0 ≤ p) (hd : d ≠ []) (hn : near x p d.length = true) (es : List Int) : layD es (merge x x.ino p d) = lay (layD es x) p.toNat d := by
  have x0 := hx.h0
  have x1 := hx.h1
  have hxz : x.dat ≠ [] := by intro e; rw [e] at x1; simp at x1
  unfold near at hn
  simp only [Bool.not_eq_true', Bool.or_eq_false_iff, decide_eq_false_iff_not] at hn
  have h := lay_merge es x.dat d x.frm.toNat p.toNat hxz hd (by omega) (by omega)
  unfold layD merge
  simp only
  rw [← h]
  congr 1
  · omega
  · congr 1
    · congr 1; omega
    · omega
/-- What is put is seen. -/
theorem see_put {l : List Dirty} (hg : ∀ d ∈ l, Right d) {ino p : Int} (hp : 0 ≤ p) {d : List Int} (hd : d ≠ []) (f : Bool) (es : List Int) : see (put l ino p f d) ino es = lay (see l ino es) p.toNat d := by
  have hnew : see (l ++ [⟨ino, p, f, d⟩]) ino es = lay (see l ino es) p.toNat d := by
    rw [see_append, see_cons, if_pos rfl]; rfl
  unfold put
  cases hl : last l ino with
  | none => exact hnew
  | some q =>
    obtain ⟨i, x⟩ := q
    obtain ⟨A, C, h1, h2, h3, h4⟩ := last_split hl
    simp only
    split
    · rename_i hn
      have hx := hg x (by rw [h1]; simp)
      subst h2 h3
      rw [h1, lsetL, see_append, see_cons, if_pos (show (merge x x.ino p d).ino = x.ino from rfl), see_none h4, layD_merge hx hp hd hn, see_append, see_cons, if_pos rfl, see_none h4]
    · exact hnew
theorem see_put_other (l : List Dirty) {ino p : Int} {d : List Int} (f : Bool) (es : List Int) {o : Int} (ho : ino ≠ o) : see (put l ino p f d) o es = see l o es := by
  have hnew : see (l ++ [⟨ino, p, f, d⟩]) o es = see l o es := by
    rw [see_append, see_cons, if_neg ho]; rfl
  unfold put
  cases hl : last l ino with
  | none => exact hnew
  | some q =>
    obtain ⟨i, x⟩ := q
    obtain ⟨A, C, h1, h2, h3, h4⟩ := last_split hl
    simp only
    split
    · subst h2 h3
      rw [h1, lsetL, see_append, see_cons, if_neg (show ¬ (merge x x.ino p d).ino = o from ho), see_append, see_cons, if_neg ho]
    · exact hnew
theorem put_rightD {l : List Dirty} (hg : ∀ d ∈ l, rightD d = true) {ino p : Int} {f : Bool} {d : List Int} (hr : rightB ino p d.length = true) : (put l ino p f d).all rightD = true := by
  rw [List.all_eq_true]
  intro y hy
  have hR := put_right (fun d hd => right_of (hg d hd)) (f := f) hr y hy
  have hi : 1 ≤ y.ino := by
    have hg1 : ∀ x ∈ l, 1 ≤ x.ino := by
      intro x hx
      have := hg x hx
      unfold rightD rightB at this
      simp only [Bool.and_eq_true, decide_eq_true_eq] at this
      exact this.1.1.1
    have hr1 : 1 ≤ ino := by
      unfold rightB at hr
      simp only [Bool.and_eq_true, decide_eq_true_eq] at hr
      exact hr.1.1.1
    unfold put at hy
    cases hl : last l ino with
    | none =>
      rw [hl] at hy
      simp only [List.mem_append, List.mem_singleton] at hy
      rcases hy with hy | rfl
      · exact hg1 y hy
      · exact hr1
    | some q =>
      rw [hl] at hy
      simp only at hy
      split at hy
      · rcases List.mem_or_eq_of_mem_set hy with hy | rfl
        · exact hg1 y hy
        · exact hr1
      · simp only [List.mem_append, List.mem_singleton] at hy
        rcases hy with hy | rfl
        · exact hg1 y hy
        · exact hr1
  unfold rightD rightB
  have := hR.h0
  have := hR.h1
  have := hR.h2
  simp only [Bool.and_eq_true, decide_eq_true_eq]
  exact ⟨⟨⟨hi, hR.h0⟩, hR.h1⟩, hR.h2⟩
theorem lay_cut (es d : List Int) (p : Nat) (hd : d ≠ []) : ((lay es p d).take (p + d.length)).drop p = d := by
  apply List.ext_getElem?
  intro j
  rw [List.getElem?_drop, List.getElem?_take]
  by_cases h : j < d.length
  · rw [if_pos (by omega), lay_get _ _ _ hd, if_pos (by omega)]
    congr 1; omega
  · rw [if_neg (by omega), List.getElem?_eq_none (by omega)]

theorem w5 (l : List Dirty) (hl : l.length ≤ 9223372036854775807) (hs : ∀ d ∈ l, Short d) (f h : Bool) (d : Dirty) (hd : Short d) (es : List Int) (he : es.length ≤ 9223372036854775807) (o : Int) :
    runP (C24.tab 33) c5 [.lst f (l.map D), D d, .lst h (es.map B), .int .i64 o] = some (.bool true) := by
  rw [runP_eq, runH_eq]
  obtain ⟨di, df, dl, dd⟩ := d
  have h9 : (C24.tab 33).p 9 [] = some (.bool true) := s9 (by omega)
  have h10 := s10 (n := 33) (by omega) l hl hs f
  have h10b := s10 (n := 33) (by omega) [⟨di, df, dl, dd⟩] (by simp) (by simpa using hd) true
  simp only [D, List.map_cons, List.map_nil] at h10b
  cases hfit : fits l with
  | false =>
    rw [hfit] at h10
    simp -implicitDefEqProofs (disch := omega) [wrap_of, ilt_t, ilt_f, ile_t, ile_f, nlt_t, nlt_f, nle_t, nle_f, ieq_t, ieq_f, imin_l, imin_r, imax_l, imax_r, take_app1, take_map_all, c5, a9, h9, a10, h10]
  | true =>
    rw [hfit] at h10
    cases hf : fits [⟨di, df, dl, dd⟩] with
    | false =>
      rw [hf] at h10b
      simp -implicitDefEqProofs (disch := omega) [wrap_of, ilt_t, ilt_f, ile_t, ile_f, nlt_t, nlt_f, nle_t, nle_f, ieq_t, ieq_f, imin_l, imin_r, imax_l, imax_r, take_app1, take_map_all, c5, a9, h9, a10, h10, h10b]
    | true =>
      rw [hf] at h10b
      obtain ⟨f1, f2, f3, f4⟩ := fits_right hfit
      obtain ⟨_, g2, g3, _⟩ := fits_right hf
      have hdr := g2 ⟨di, df, dl, dd⟩ (by simp)
      have d0 := hdr.h0
      have d1 := hdr.h1
      have d2 := hdr.h2
      simp only at d0 d1 d2
      obtain ⟨p, rfl⟩ : ∃ p : Nat, df = p := ⟨df.toNat, by omega⟩
      have hdi : 1 ≤ di := g3 ⟨di, (p : Int), dl, dd⟩ (by simp)
      have hdz : dd ≠ [] := List.length_pos_iff.1 d1
      by_cases he5 : es.length ≤ 4096
      · have hrB : rightB di (p : Int) dd.length = true := by
          unfold rightB; simp only [Bool.and_eq_true, decide_eq_true_eq]; exact ⟨⟨⟨hdi, d0⟩, d1⟩, d2⟩
        have h15 := s15 (n := 33) (by omega) l f dl di (p : Int) dd (by omega) f2 hrB
        obtain ⟨now, hnow⟩ : ∃ now, now = put l di (p : Int) false dd := ⟨_, rfl⟩
        rw [← hnow] at h15
        have hnr : ∀ x ∈ now, Right x := hnow ▸ put_right f2 hrB
        have hnl := put_length l di (p : Int) false dd
        rw [← hnow] at hnl
        have h18a := s18 (n := 33) (by omega) l f h di es (by omega) (fun x hx => (f2 x hx).good) (by omega)
        have h18b := s18 (n := 33) (by omega) now false h di es (by omega) (fun x hx => (hnr x hx).good) (by omega)
        have h18c := s18 (n := 33) (by omega) now false h o es (by omega) (fun x hx => (hnr x hx).good) (by omega)
        have h18d := s18 (n := 33) (by omega) l f h o es (by omega) (fun x hx => (f2 x hx).good) (by omega)
        have sl1 := see_le f2 di es he5
        have sl2 := see_le f2 o es he5
        have e1 : see now di es = lay (see l di es) p dd := by rw [hnow]; have := see_put f2 d0 hdz false es (ino := di); simpa using this
        rw [e1] at h18b
        have h11 := s11 (n := 33) (by omega) (see l di es) dd false dl (p : Int) (by omega) (by omega) (by omega)
        rw [layR_right hdr] at h11
        have sl3 : (lay (see l di es) p dd).length = max (see l di es).length (p + dd.length) := by rw [lay_length, if_neg hdz]
        have h17a := fun f1 f2 => s17 (n := 33) (by omega) (lay (see l di es) p dd) (lay (see l di es) p dd) f1 f2 (by omega)
        have h17b := s17 (n := 33) (by omega) dd dd false dl (by omega)
        simp only [layD, decide_true, Int.toNat_natCast] at h11 h17a h17b
        have h26 := s26 (n := 33) (by omega) now (by omega) (fun x hx => by have := (hnr x hx).h2; have := (hnr x hx).h0; unfold Short; omega) false
        have hrd : now.all rightD = true := by
          rw [hnow]
          refine put_rightD (fun x hx => ?_) hrB
          unfold fits at hfit
          simp only [Bool.and_eq_true, List.all_eq_true] at hfit
          exact hfit.1.2 x hx
        rw [hrd] at h26
        have hcut := lay_cut (see l di es) dd p hdz
        have hcut' : List.drop p (List.take (p + dd.length) (List.map B (lay (see l di es) p dd))) = List.map B dd := by rw [← List.map_take, ← List.map_drop, hcut]
        by_cases ho : o = di
        · simp -implicitDefEqProofs (disch := omega) [wrap_of, ilt_t, ilt_f, ile_t, ile_f, nlt_t, nlt_f, nle_t, nle_f, ieq_t, ieq_f, imin_l, imin_r, imax_l, imax_r, take_app1, take_map_all, c5, a9, h9, a10, h10, h10b, he5, a18, h18a, a15, h15, h18b, a11, h11, h17a, a17, sl3, hcut', h17b, a26, h26, ho]
        · have e2 : see now o es = see l o es := by rw [hnow]; exact see_put_other l false es (fun e => ho e.symm)
          rw [e2] at h18c
          have h17c := s17 (n := 33) (by omega) (see l o es) (see l o es) false false (by omega)
          simp only [decide_true] at h17c
          simp -implicitDefEqProofs (disch := omega) [wrap_of, ilt_t, ilt_f, ile_t, ile_f, nlt_t, nlt_f, nle_t, nle_f, ieq_t, ieq_f, imin_l, imin_r, imax_l, imax_r, take_app1, take_map_all, c5, a9, h9, a10, h10, h10b, he5, a18, h18a, a15, h15, h18b, a11, h11, h17a, a17, sl3, hcut', h17b, a26, h26, ho, h18c, h18d, h17c]
      · simp -implicitDefEqProofs (disch := omega) [wrap_of, ilt_t, ilt_f, ile_t, ile_f, nlt_t, nlt_f, nle_t, nle_f, ieq_t, ieq_f, imin_l, imin_r, imax_l, imax_r, take_app1, take_map_all, c5, a9, h9, a10, h10, h10b, he5]
end Go.Proofs.Ytldgegojhaamoaa
