import Derived.Test.YtalckkfoplaeeaaI06
set_option linter.unusedSimpArgs false
set_option linter.unusedVariables false
namespace Go.Proofs.Ytalckkfoplaeeaa
open Go.Am Go.Am.Nm Go.Lib

theorem lp6 (l m : List (List UInt8)) (f g : Bool) (hl : l.length ≤ 9223372036854775807) (hm : m.length ≤ 9223372036854775807) (a b : Nat) (ha : a ≤ 255) (hb : b ≤ 255) :
    runP (C06.tab 19) c6 [.lst f (l.map AV.str), .lst g (m.map AV.str), .agg [.int .u8 (a : Int), .int .u8 (b : Int)]] = some (.bool true) := by
  rw [runP_eq, runH_eq]
  have h10 := s10 (n := 19) (by decide)
  have h23 := s23 (n := 19) (by decide) l f hl
  have h23' := s23 (n := 19) (by decide) m g hm
  obtain ⟨n1, n2⟩ := namesF_ok l
  obtain ⟨d1, d2⟩ := namesF_ok m
  have nf := names_fits l
  have df := names_fits m
  generalize namesF l = n at *
  generalize namesF m = D at *
  have h21n := fun g => s21 (n := 19) (by decide) n g nf
  have h21d := fun g => s21 (n := 19) (by decide) D g df
  obtain ⟨i, hi⟩ : ∃ k, k = a % (n.length + 1) := ⟨_, rfl⟩
  have him : i ≤ n.length := by have := Nat.mod_lt a (show 0 < n.length + 1 by omega); omega
  have hmi : (a : Int).tmod ((n.length : Int) + 1) = (i : Int) := by rw [Int.tmod_eq_emod_of_nonneg (by omega), hi]; simp
  obtain ⟨k, hk⟩ : ∃ k, k = b % (n.length + 1) := ⟨_, rfl⟩
  have hkm : k ≤ n.length := by have := Nat.mod_lt b (show 0 < n.length + 1 by omega); omega
  have hmk : (b : Int).tmod ((n.length : Int) + 1) = (k : Int) := by rw [Int.tmod_eq_emod_of_nonneg (by omega), hk]; simp
  have h21i := fun g => s21 (n := 19) (by decide) (n.take i) g (nf.take i)
  have h21k := fun g => s21 (n := 19) (by decide) (n.take k) g (nf.take k)
  simp only [List.map_take] at h21i h21k
  have ac := s19 (n := 19) (by decide) (jn (n.take i)) (jn n)
  have bc := s19 (n := 19) (by decide) (jn (n.take k)) (jn n)
  have ab := s19 (n := 19) (by decide) (jn (n.take i)) (jn (n.take k))
  have ba := s19 (n := 19) (by decide) (jn (n.take k)) (jn (n.take i))
  have dc := s19 (n := 19) (by decide) (jn D) (jn n)
  have cd := s19 (n := 19) (by decide) (jn n) (jn D)
  have ad := s19 (n := 19) (by decide) (jn (n.take i)) (jn D)
  have da := s19 (n := 19) (by decide) (jn D) (jn (n.take i))
  have db := s19 (n := 19) (by decide) (jn D) (jn (n.take k))
  have bd := s19 (n := 19) (by decide) (jn (n.take k)) (jn D)
  have e1 := abv_take n1 n2 i n.length him (Nat.le_refl _)
  have e2 := abv_take n1 n2 k n.length hkm (Nat.le_refl _)
  have e3 := abv_take n1 n2 i k him hkm
  have e4 := abv_take n1 n2 k i hkm him
  rw [List.take_length, decide_eq_true him] at e1
  rw [List.take_length, decide_eq_true hkm] at e2
  rw [e1] at ac
  rw [e2] at bc
  rw [e3] at ab
  rw [e4] at ba
  have i1 := take_len n i n1
  have i2 := all_take n2 i
  have k1 := take_len n k n1
  have k2 := all_take n2 k
  -- what is above what
  have f1 : abv (jn D) (jn n) = true → abv (jn n) (jn D) = true → jn D = jn n := by
    rw [abv_jn d1 d2 n1 n2, abv_jn n1 n2 d1 d2]
    simp only [decide_eq_true_eq]
    rintro ⟨g1, g2⟩ ⟨g3, g4⟩
    rw [g2, show D.length = n.length by omega, List.take_length]
  have f2 : abv (jn n) (jn D) = true → abv (jn (n.take i)) (jn D) = true := by
    rw [abv_jn n1 n2 d1 d2, abv_jn i1 i2 d1 d2]
    simp only [decide_eq_true_eq]
    rintro ⟨g3, g4⟩
    refine ⟨by simp; omega, ?_⟩
    have := congrArg (List.take i) g4
    rw [List.take_take, Nat.min_eq_left him] at this
    simp only [List.length_take, Nat.min_eq_left him]
    exact this
  have f3 : abv (jn D) (jn (n.take i)) = true → abv (jn D) (jn n) = true := by
    rw [abv_jn d1 d2 n1 n2, abv_jn d1 d2 i1 i2]
    simp only [decide_eq_true_eq]
    rintro ⟨g1, g2⟩
    simp only [List.length_take] at g1
    rw [List.take_take, Nat.min_eq_left (by omega)] at g2
    exact ⟨by omega, g2⟩
  have f4 : abv (jn D) (jn n) = true → abv (jn D) (jn (n.take k)) = true ∨ abv (jn (n.take k)) (jn D) = true := by
    rw [abv_jn d1 d2 n1 n2, abv_jn d1 d2 k1 k2, abv_jn k1 k2 d1 d2]
    simp only [decide_eq_true_eq, List.length_take, Nat.min_eq_left hkm]
    rintro ⟨g1, g2⟩
    rcases Nat.le_total D.length k with h | h
    · left
      refine ⟨h, ?_⟩
      rw [List.take_take, Nat.min_eq_left h]
      exact g2
    · right
      refine ⟨h, ?_⟩
      rw [g2, List.take_take, Nat.min_eq_left h]
  generalize abv (jn D) (jn n) = xdc at *
  generalize abv (jn n) (jn D) = xcd at *
  generalize abv (jn (n.take i)) (jn D) = xad at *
  generalize abv (jn D) (jn (n.take i)) = xda at *
  generalize abv (jn D) (jn (n.take k)) = xdb at *
  generalize abv (jn (n.take k)) (jn D) = xbd at *
  clear e1 e2 e3 e4
  simp -implicitDefEqProofs (disch := omega) [wrap_of, ilt_t, ilt_f, ile_t, ile_f, nlt_t, nlt_f, nle_t, nle_f, ieq_t, ieq_f, imin_l, imin_r, imax_l, imax_r, take_app1, take_map_all, c6, a10, h10, a23, h23, h23', a21, h21n, h21d, h21i, h21k, hmi, hmk, him, hkm, a19, ac, bc, ab, ba]
  cases xdc with
  | true =>
    cases xcd with
    | true =>
      have hj := f1 rfl rfl
      have had := f2 rfl
      subst had
      rw [hj] at dc cd ad da db bd
      rw [hj]
      cases xda <;> rcases f4 rfl with h | h <;> subst h
      · cases xbd <;> simp -implicitDefEqProofs (disch := omega) [wrap_of, ilt_t, ilt_f, ile_t, ile_f, nlt_t, nlt_f, nle_t, nle_f, ieq_t, ieq_f, imin_l, imin_r, imax_l, imax_r, take_app1, take_map_all, a19, dc, cd, ad, da, db, bd, strBin]
      · cases xdb <;> simp -implicitDefEqProofs (disch := omega) [wrap_of, ilt_t, ilt_f, ile_t, ile_f, nlt_t, nlt_f, nle_t, nle_f, ieq_t, ieq_f, imin_l, imin_r, imax_l, imax_r, take_app1, take_map_all, a19, dc, cd, ad, da, db, bd, strBin]
      · cases xbd <;> simp -implicitDefEqProofs (disch := omega) [wrap_of, ilt_t, ilt_f, ile_t, ile_f, nlt_t, nlt_f, nle_t, nle_f, ieq_t, ieq_f, imin_l, imin_r, imax_l, imax_r, take_app1, take_map_all, a19, dc, cd, ad, da, db, bd, strBin]
      · cases xdb <;> simp -implicitDefEqProofs (disch := omega) [wrap_of, ilt_t, ilt_f, ile_t, ile_f, nlt_t, nlt_f, nle_t, nle_f, ieq_t, ieq_f, imin_l, imin_r, imax_l, imax_r, take_app1, take_map_all, a19, dc, cd, ad, da, db, bd, strBin]
    | false =>
      cases xda <;> rcases f4 rfl with h | h <;> subst h
      · simp -implicitDefEqProofs (disch := omega) [wrap_of, ilt_t, ilt_f, ile_t, ile_f, nlt_t, nlt_f, nle_t, nle_f, ieq_t, ieq_f, imin_l, imin_r, imax_l, imax_r, take_app1, take_map_all, a19, dc, cd, ad, da, db, bd, strBin]
      · cases xdb <;> simp -implicitDefEqProofs (disch := omega) [wrap_of, ilt_t, ilt_f, ile_t, ile_f, nlt_t, nlt_f, nle_t, nle_f, ieq_t, ieq_f, imin_l, imin_r, imax_l, imax_r, take_app1, take_map_all, a19, dc, cd, ad, da, db, bd, strBin]
      · simp -implicitDefEqProofs (disch := omega) [wrap_of, ilt_t, ilt_f, ile_t, ile_f, nlt_t, nlt_f, nle_t, nle_f, ieq_t, ieq_f, imin_l, imin_r, imax_l, imax_r, take_app1, take_map_all, a19, dc, cd, ad, da, db, bd, strBin]
      · cases xdb <;> simp -implicitDefEqProofs (disch := omega) [wrap_of, ilt_t, ilt_f, ile_t, ile_f, nlt_t, nlt_f, nle_t, nle_f, ieq_t, ieq_f, imin_l, imin_r, imax_l, imax_r, take_app1, take_map_all, a19, dc, cd, ad, da, db, bd, strBin]
  | false =>
    have hda : xda = false := by
      cases xda with
      | true => exact (f3 rfl).symm
      | false => rfl
    subst hda
    cases xcd with
    | true =>
      have had := f2 rfl
      subst had
      simp -implicitDefEqProofs (disch := omega) [wrap_of, ilt_t, ilt_f, ile_t, ile_f, nlt_t, nlt_f, nle_t, nle_f, ieq_t, ieq_f, imin_l, imin_r, imax_l, imax_r, take_app1, take_map_all, a19, dc, cd, ad, da, db, bd, strBin]
    | false => simp -implicitDefEqProofs (disch := omega) [wrap_of, ilt_t, ilt_f, ile_t, ile_f, nlt_t, nlt_f, nle_t, nle_f, ieq_t, ieq_f, imin_l, imin_r, imax_l, imax_r, take_app1, take_map_all, a19, dc, cd, ad, da, db, bd, strBin]

theorem okb_ofNat {c : Nat} (hc : c ≤ 255) : okb (UInt8.ofNat c) = (!decide (c < 32) && !decide (c = 47)) := by
  have : (UInt8.ofNat c).toNat = c := by simp; omega
  unfold okb
  rw [this]
/-- One byte of a name is another one. -/
theorem right_other {s : List UInt8} (h : rightN s = true) {i : Nat} (hi : i < s.length) (b : UInt8) : rightN (s.take i ++ [b] ++ s.drop (i + 1)) = (!(decide (s.take i ++ [b] ++ s.drop (i + 1) = [46]) || decide (s.take i ++ [b] ++ s.drop (i + 1) = [46, 46])) && okb b) := by
  have hle := right_le h
  have hall : s.all okb = true := by
    unfold rightN at h
    simp only [Bool.and_eq_true] at h
    exact h.2
  have hs : s = s.take i ++ s[i] :: s.drop (i + 1) := by
    rw [← List.drop_eq_getElem_cons hi, List.take_append_drop]
  have ha : (s.take i ++ [b] ++ s.drop (i + 1)).all okb = okb b := by
    rw [hs] at hall
    simp only [List.all_append, List.all_cons, Bool.and_eq_true] at hall
    simp only [List.all_append, List.all_cons, List.all_nil, hall.1, hall.2.2, Bool.true_and, Bool.and_true]
  have hne : s.take i ++ [b] ++ s.drop (i + 1) ≠ [] := by simp
  have hlen : ¬ 32 < (s.take i ++ [b] ++ s.drop (i + 1)).length := by simp; omega
  unfold rightN
  rw [ha, decide_eq_false hne, decide_eq_false hlen]
  simp only [Bool.false_or]
/-- A byte more. -/
theorem right_more {s : List UInt8} (h : rightN s = true) (b : UInt8) : rightN (s ++ [b]) = (!(decide (s.length = 32) || decide (s ++ [b] = [46, 46])) && okb b) := by
  have hle := right_le h
  have hn := right_ne h
  have hall : s.all okb = true := by
    unfold rightN at h
    simp only [Bool.and_eq_true] at h
    exact h.2
  have h1 : s ++ [b] ≠ [46] := by
    intro h
    cases s with
    | nil => exact hn rfl
    | cons x r => simp at h
  have h2 : s ++ [b] ≠ [] := by simp
  unfold rightN
  rw [decide_eq_false h1, decide_eq_false h2]
  have h3 : decide (32 < (s ++ [b]).length) = decide (s.length = 32) := by
    simp only [List.length_append, List.length_cons, List.length_nil]
    congr 1
    simp only [eq_iff_iff]
    omega
  rw [h3, List.all_append, hall]
  simp
theorem lp8 (l : List (List UInt8)) (f : Bool) (hl : l.length ≤ 9223372036854775807) (a b c : Nat) (ha : a ≤ 255) (hb : b ≤ 255) (hc : c ≤ 255) :
    runP (C06.tab 21) c8 [.lst f (l.map AV.str), .agg [.int .u8 (a : Int), .int .u8 (b : Int)], .int .u8 (c : Int)] = some (.bool true) := by
  rw [runP_eq, runH_eq]
  have h10 := s10 (n := 21) (by decide)
  have h23 := s23 (n := 21) (by decide) l f hl
  obtain ⟨n1, n2⟩ := namesF_ok l
  generalize namesF l = n at *
  by_cases h0 : n = []
  · subst h0
    simp -implicitDefEqProofs (disch := omega) [wrap_of, ilt_t, ilt_f, ile_t, ile_f, nlt_t, nlt_f, nle_t, nle_f, ieq_t, ieq_f, imin_l, imin_r, imax_l, imax_r, take_app1, take_map_all, c8, a10, h10, a23, h23]
  · have hp : 0 < n.length := List.length_pos_iff.2 h0
    obtain ⟨k, hk⟩ : ∃ k, k = a % n.length := ⟨_, rfl⟩
    have hkm : k < n.length := by have := Nat.mod_lt a hp; omega
    have hmk : (a : Int).tmod (n.length : Int) = (k : Int) := by rw [Int.tmod_eq_emod_of_nonneg (by omega), hk]; simp
    obtain ⟨s, hs⟩ : ∃ s, s = n[k] := ⟨_, rfl⟩
    have hr : rightN s = true := by rw [hs]; exact List.all_eq_true.1 n2 _ (List.getElem_mem hkm)
    have hle := right_le hr
    have hsp : 0 < s.length := List.length_pos_iff.2 (right_ne hr)
    obtain ⟨i, hi⟩ : ∃ k, k = b % s.length := ⟨_, rfl⟩
    have him : i < s.length := by have := Nat.mod_lt b hsp; omega
    have hmi : (b : Int).tmod (s.length : Int) = (i : Int) := by rw [Int.tmod_eq_emod_of_nonneg (by omega), hi]; simp
    have ht := right_other hr him (UInt8.ofNat c)
    have hu := right_more hr (UInt8.ofNat c)
    rw [okb_ofNat hc] at ht hu
    have h16t := s16 (n := 21) (by decide) (s.take i ++ [UInt8.ofNat c] ++ s.drop (i + 1))
    have h16u := s16 (n := 21) (by decide) (s ++ [UInt8.ofNat c])
    rw [ht] at h16t
    rw [hu] at h16u
    have sne := right_ne hr
    simp only [List.append_assoc, List.singleton_append] at h16t
    have tb : toBytes [.int .u8 (c : Int)] = some [UInt8.ofNat c] := by simp [toBytes, hc]
    generalize ht' : s.take i ++ UInt8.ofNat c :: s.drop (i + 1) = t at *
    generalize hu' : s ++ [UInt8.ofNat c] = u at *
    have tl : t.length ≤ 1000 := by rw [← ht']; simp; omega
    have ul : u.length ≤ 1000 := by rw [← hu']; simp; omega
    simp -implicitDefEqProofs (disch := omega) [wrap_of, ilt_t, ilt_f, ile_t, ile_f, nlt_t, nlt_f, nle_t, nle_f, ieq_t, ieq_f, imin_l, imin_r, imax_l, imax_r, take_app1, take_map_all, c8, a10, h10, a23, h23, h0, hmk, hkm, ← hs, hmi, him, sne, tb, ht', hu']
    simp -implicitDefEqProofs (disch := omega) [wrap_of, ilt_t, ilt_f, ile_t, ile_f, nlt_t, nlt_f, nle_t, nle_f, ieq_t, ieq_f, imin_l, imin_r, imax_l, imax_r, take_app1, take_map_all, a16, h16t, h16u]
    have i1 : decide (32 ≤ (c : Int)) = !decide (c < 32) := by
      by_cases h : c < 32
      · rw [decide_eq_true h, decide_eq_false (by omega)]; rfl
      · rw [decide_eq_false h, decide_eq_true (by omega)]; rfl
    have i2 : decide ((c : Int) = 47) = decide (c = 47) := by
      by_cases h : c = 47
      · rw [decide_eq_true h, decide_eq_true (by omega)]
      · rw [decide_eq_false h, decide_eq_false (by omega)]
    have i3 : decide ((s.length : Int) = 32) = decide (s.length = 32) := by
      by_cases h : s.length = 32
      · rw [decide_eq_true h, decide_eq_true (by omega)]
      · rw [decide_eq_false h, decide_eq_false (by omega)]
    rw [i1, i2, i3]
    generalize decide (t = [46]) = z1
    generalize decide (t = [46, 46]) = z2
    generalize decide (c < 32) = z3
    generalize decide (c = 47) = z4
    generalize decide (s.length = 32) = z5
    generalize decide (u = [46, 46]) = z6
    cases z1 <;> cases z2 <;> cases z3 <;> cases z4 <;> cases z5 <;> cases z6 <;> decide
end Go.Proofs.Ytalckkfoplaeeaa
