import Derived.Test.YtldgegojhaamoaaA24
set_option linter.unusedSimpArgs false
set_option linter.unusedVariables false
namespace Go.Proofs.Ytldgegojhaamoaa
open Go.Am

def see (l : List Dirty) (ino : Int) (es : List Int) : List Int := (l.filter fun d => decide (d.ino = ino)).foldl layD es
theorem l18 {n : Nat} (hn : 7 < n) (l : List Dirty) (hl : l.length ≤ 1000000000) (f : Bool) (ino : Int) (e0 : Env) (h8 : e0 8 = .fn (.func 34) [.int .i64 ino] []) (h13 : e0 13 = .lst f (l.map D)) (h14 : e0 14 = .int .i64 l.length) :
    iter (round (C24.tab n) [7, 15] [(.exit 0, [7])] c18_1 e0 1 [0]) ([.own 0 0 0 0, .int .i64 0], [.row 0 3 []]) = some (.exit 0, [.own 0 0 0 (l.filter fun d => decide (d.ino = ino)).length], [.row 0 3 ((l.filter fun d => decide (d.ino = ino)).map D)]) := by
  have := for_list (f := round (C24.tab n) [7, 15] [(.exit 0, [7])] c18_1 e0 1 [0]) (fun i (a : List Dirty) => ([.own 0 0 0 a.length, .int .i64 i], [.row 0 3 (a.map D)])) l (fun a d => if d.ino = ino then a ++ [d] else a) (fun a => (.exit 0, [.own 0 0 0 a.length], [.row 0 3 (a.map D)])) (fun i a => a.length ≤ i)
    (fun i hi a ha => by
      obtain ⟨d, hdd⟩ : ∃ d, d = l[i] := ⟨_, rfl⟩
      rw [← hdd]
      by_cases h : d.ino = ino
      · rw [if_pos h]
        refine ⟨by simp; omega, ?_⟩
        simp -implicitDefEqProofs (disch := omega) [wrap_of, ilt_t, ilt_f, ile_t, ile_f, nlt_t, nlt_f, nle_t, nle_f, ieq_t, ieq_f, imin_l, imin_r, imax_l, imax_r, take_app1, take_map_all, round_eq, b18_1, h8, h13, h14, hi, ← hdd, a34, s34, h]
      · rw [if_neg h]
        refine ⟨by omega, ?_⟩
        simp -implicitDefEqProofs (disch := omega) [wrap_of, ilt_t, ilt_f, ile_t, ile_f, nlt_t, nlt_f, nle_t, nle_f, ieq_t, ieq_f, imin_l, imin_r, imax_l, imax_r, take_app1, take_map_all, round_eq, b18_1, h8, h13, h14, hi, ← hdd, a34, s34, h])
    (fun a ha => by simp -implicitDefEqProofs (disch := omega) [wrap_of, ilt_t, ilt_f, ile_t, ile_f, nlt_t, nlt_f, nle_t, nle_f, ieq_t, ieq_f, imin_l, imin_r, imax_l, imax_r, take_app1, take_map_all, round_eq, b18_1, h14]) [] (Nat.le_refl _)
  simp only [List.length_nil, List.map_nil, Int.natCast_zero] at this
  rw [this]
  have e : ∀ (l a : List Dirty), l.foldl (fun a d => if d.ino = ino then a ++ [d] else a) a = a ++ l.filter fun d => decide (d.ino = ino) := by
    intro l
    induction l with
    | nil => intro a; simp
    | cons d l ih =>
      intro a
      rw [List.foldl_cons, ih]
      by_cases h : d.ino = ino <;> simp [h]
  rw [e]
  rfl
/-- write.See -/
theorem s18 {n : Nat} (hn : 10 < n) (l : List Dirty) (f g : Bool) (ino : Int) (es : List Int) (hl : l.length ≤ 1000000000) (hg : ∀ d ∈ l, Good d) (he : es.length ≤ 1099511627776) :
    (C24.tab n).p 18 [.lst f (l.map D), .int .i64 ino, .lst g (es.map B)] = some (.lst false ((see l ino es).map B)) := by
  rw [p18 hn, runP_eq, runH_eq]
  simp -implicitDefEqProofs (disch := omega) [wrap_of, ilt_t, ilt_f, ile_t, ile_f, nlt_t, nlt_f, nle_t, nle_f, ieq_t, ieq_f, imin_l, imin_r, imax_l, imax_r, take_app1, take_map_all, c18]
  rw [l18 (by omega) l hl f ino _ (by simp -implicitDefEqProofs (disch := omega) [wrap_of, ilt_t, ilt_f, ile_t, ile_f, nlt_t, nlt_f, nle_t, nle_f, ieq_t, ieq_f, imin_l, imin_r, imax_l, imax_r, take_app1, take_map_all, ]) (by simp -implicitDefEqProofs (disch := omega) [wrap_of, ilt_t, ilt_f, ile_t, ile_f, nlt_t, nlt_f, nle_t, nle_f, ieq_t, ieq_f, imin_l, imin_r, imax_l, imax_r, take_app1, take_map_all, ]) (by simp -implicitDefEqProofs (disch := omega) [wrap_of, ilt_t, ilt_f, ile_t, ile_f, nlt_t, nlt_f, nle_t, nle_f, ieq_t, ieq_f, imin_l, imin_r, imax_l, imax_r, take_app1, take_map_all, ])]
  have hlen := List.length_filter_le (fun d : Dirty => decide (d.ino = ino)) l
  have hs := s30 (n := 10) (by omega) es (l.filter fun d => decide (d.ino = ino)) g false he (by omega) (fun d hd => hg d (List.mem_filter.1 hd).1)
  simp -implicitDefEqProofs (disch := omega) [wrap_of, ilt_t, ilt_f, ile_t, ile_f, nlt_t, nlt_f, nle_t, nle_f, ieq_t, ieq_f, imin_l, imin_r, imax_l, imax_r, take_app1, take_map_all, a30, hs]
  rfl
/-- catacombref24.Right -/
theorem s36 {n : Nat} (hn : 18 < n) (ino p : Int) (f : Bool) (d : List Int) (hm : d.length ≤ 9223372036854775807) :
    (C24.tab n).p 36 [.agg [.int .i64 ino, .int .i64 p, .lst f (d.map B)]] = some (.bool (rightB ino p d.length)) := by
  rw [p36 hn, runP_eq, runH_eq]
  unfold rightB
  by_cases hp : 0 ≤ p ∧ p ≤ 4096 ∧ d.length ≤ 4096
  · obtain ⟨h1, h2, h3⟩ := hp
    simp -implicitDefEqProofs (disch := omega) [wrap_of, ilt_t, ilt_f, ile_t, ile_f, nlt_t, nlt_f, nle_t, nle_f, ieq_t, ieq_f, imin_l, imin_r, imax_l, imax_r, take_app1, take_map_all, c36]
  · simp -implicitDefEqProofs (disch := omega) [wrap_of, ilt_t, ilt_f, ile_t, ile_f, nlt_t, nlt_f, nle_t, nle_f, ieq_t, ieq_f, imin_l, imin_r, imax_l, imax_r, take_app1, take_map_all, c36]
    intros; omega
theorem l26 {n : Nat} (hn : 18 < n) (l : List Dirty) (hl : l.length ≤ 9223372036854775807) (hs : ∀ d ∈ l, Short d) (f : Bool) (e0 : Env) (h0 : e0 0 = .lst f (l.map D)) :
    iter (round (C24.tab n) [3] [(.exit 0, []), (.ret, [2])] c26_1 e0 0 []) ([.int .i64 0], []) = some (if l.all rightD = true then (.exit 0, [], []) else (.ret, [.bool false], [])) :=
  for_all (f := round (C24.tab n) [3] [(.exit 0, []), (.ret, [2])] c26_1 e0 0 []) (fun i => ([.int .i64 i], [])) l rightD _ _
    (fun i hi => by
      have hs := hs _ (List.getElem_mem hi)
      unfold Short at hs
      have h36 := s36 hn l[i].ino l[i].frm l[i].fl l[i].dat hs
      cases hr : rightB l[i].ino l[i].frm l[i].dat.length <;> simp -implicitDefEqProofs (disch := omega) [wrap_of, ilt_t, ilt_f, ile_t, ile_f, nlt_t, nlt_f, nle_t, nle_f, ieq_t, ieq_f, imin_l, imin_r, imax_l, imax_r, take_app1, take_map_all, round_eq, b26_1, h0, hi, a36, h36, hr, rightD])
    (by simp -implicitDefEqProofs (disch := omega) [wrap_of, ilt_t, ilt_f, ile_t, ile_f, nlt_t, nlt_f, nle_t, nle_f, ieq_t, ieq_f, imin_l, imin_r, imax_l, imax_r, take_app1, take_map_all, round_eq, b26_1, h0])
/-- catacombref24.RightAll -/
theorem s26 {n : Nat} (hn : 19 < n) (l : List Dirty) (hl : l.length ≤ 9223372036854775807) (hs : ∀ d ∈ l, Short d) (f : Bool) :
    (C24.tab n).p 26 [.lst f (l.map D)] = some (.bool (l.all rightD)) := by
  rw [p26 hn, runP_eq, runH_eq]
  simp -implicitDefEqProofs (disch := omega) [wrap_of, ilt_t, ilt_f, ile_t, ile_f, nlt_t, nlt_f, nle_t, nle_f, ieq_t, ieq_f, imin_l, imin_r, imax_l, imax_r, take_app1, take_map_all, c26]
  rw [l26 (by omega) l hl hs f _ (by simp -implicitDefEqProofs (disch := omega) [wrap_of, ilt_t, ilt_f, ile_t, ile_f, nlt_t, nlt_f, nle_t, nle_f, ieq_t, ieq_f, imin_l, imin_r, imax_l, imax_r, take_app1, take_map_all, ])]
  cases l.all rightD <;> simp -implicitDefEqProofs (disch := omega) [wrap_of, ilt_t, ilt_f, ile_t, ile_f, nlt_t, nlt_f, nle_t, nle_f, ieq_t, ieq_f, imin_l, imin_r, imax_l, imax_r, take_app1, take_map_all, ]

def fits (l : List Dirty) : Bool := decide (l.length ≤ 30) && l.all rightD && l.all fun d => decide (d.dat.length ≤ 300)
theorem l10 {n : Nat} (l : List Dirty) (hl : l.length ≤ 9223372036854775807) (f : Bool) (e0 : Env) (h0 : e0 0 = .lst f (l.map D)) :
    iter (round (C24.tab n) [3] [(.exit 0, []), (.ret, [2])] c10_1 e0 0 []) ([.int .i64 0], []) = some (if (l.all fun d => decide (d.dat.length ≤ 300)) = true then (.exit 0, [], []) else (.ret, [.bool false], [])) :=
  for_all (f := round (C24.tab n) [3] [(.exit 0, []), (.ret, [2])] c10_1 e0 0 []) (fun i => ([.int .i64 i], [])) l (fun d => decide (d.dat.length ≤ 300)) _ _
    (fun i hi => by
      by_cases hr : l[i].dat.length ≤ 300 <;> simp -implicitDefEqProofs (disch := omega) [wrap_of, ilt_t, ilt_f, ile_t, ile_f, nlt_t, nlt_f, nle_t, nle_f, ieq_t, ieq_f, imin_l, imin_r, imax_l, imax_r, take_app1, take_map_all, round_eq, b10_1, h0, hi, hr])
    (by simp -implicitDefEqProofs (disch := omega) [wrap_of, ilt_t, ilt_f, ile_t, ile_f, nlt_t, nlt_f, nle_t, nle_f, ieq_t, ieq_f, imin_l, imin_r, imax_l, imax_r, take_app1, take_map_all, round_eq, b10_1, h0])
/-- catacomblaw24.fits -/
theorem s10 {n : Nat} (hn : 20 < n) (l : List Dirty) (hl : l.length ≤ 9223372036854775807) (hs : ∀ d ∈ l, Short d) (f : Bool) :
    (C24.tab n).p 10 [.lst f (l.map D)] = some (.bool (fits l)) := by
  rw [p10 hn, runP_eq, runH_eq]
  unfold fits
  by_cases h : l.length ≤ 30
  · cases hr : l.all rightD with
    | false => simp -implicitDefEqProofs (disch := omega) [wrap_of, ilt_t, ilt_f, ile_t, ile_f, nlt_t, nlt_f, nle_t, nle_f, ieq_t, ieq_f, imin_l, imin_r, imax_l, imax_r, take_app1, take_map_all, c10, a26, s26 (n := 20) (by omega) l hl hs, hr, h]
    | true =>
      simp -implicitDefEqProofs (disch := omega) [wrap_of, ilt_t, ilt_f, ile_t, ile_f, nlt_t, nlt_f, nle_t, nle_f, ieq_t, ieq_f, imin_l, imin_r, imax_l, imax_r, take_app1, take_map_all, c10, a26, s26 (n := 20) (by omega) l hl hs, hr, h]
      rw [l10 l hl f _ (by simp -implicitDefEqProofs (disch := omega) [wrap_of, ilt_t, ilt_f, ile_t, ile_f, nlt_t, nlt_f, nle_t, nle_f, ieq_t, ieq_f, imin_l, imin_r, imax_l, imax_r, take_app1, take_map_all, ])]
      cases (l.all fun d => decide (d.dat.length ≤ 300)) <;> simp -implicitDefEqProofs (disch := omega) [wrap_of, ilt_t, ilt_f, ile_t, ile_f, nlt_t, nlt_f, nle_t, nle_f, ieq_t, ieq_f, imin_l, imin_r, imax_l, imax_r, take_app1, take_map_all, ]
  · simp -implicitDefEqProofs (disch := omega) [wrap_of, ilt_t, ilt_f, ile_t, ile_f, nlt_t, nlt_f, nle_t, nle_f, ieq_t, ieq_f, imin_l, imin_r, imax_l, imax_r, take_app1, take_map_all, c10, a26, s26 (n := 20) (by omega) l hl hs, h]

theorem lay_get (es : List Int) (p : Nat) (d : List Int) (hd : d ≠ []) (j : Nat) : (lay es p d)[j]? = if p ≤ j ∧ j < p + d.length then d[j - p]? else if j < es.length then es[j]? else if j < p then some 0 else none := by
  unfold lay
  rw [if_neg hd, over_get _ _ _ (by simp; omega)]
  split
  · rfl
  · split
    · rw [List.getElem?_append_left (by omega)]
    · rw [List.getElem?_append_right (by omega), List.getElem?_replicate]
      split <;> split <;> first | rfl | omega
theorem lay_nil (es : List Int) (p : Nat) : lay es p [] = es := by simp [lay]
/-- Laid byte by byte. -/
def layL : List Int → Nat → List Int → List Int
  | es, _, [] => es
  | es, p, x :: l => layL (lay es p [x]) (p + 1) l
theorem layL_eq : ∀ (d es : List Int) (p : Nat), layL es p d = lay es p d
  | [], es, p => by simp [layL, lay]
  | [x], es, p => rfl
  | x :: y :: d, es, p => by
    rw [layL, layL_eq (y :: d)]
    apply List.ext_getElem?
    intro j
    rw [lay_get _ _ _ (by simp), lay_get _ _ _ (by simp), lay_get _ _ _ (by simp), lay_length]
    simp only [List.length_cons, List.length_nil]
    by_cases h1 : j = p
    · subst h1
      simp
      rw [if_neg (by omega), if_pos (by omega)]
    · by_cases h2 : p + 1 ≤ j ∧ j < p + 1 + (d.length + 1)
      · rw [if_pos h2, if_pos (by omega), show j - p = (j - (p + 1)) + 1 by omega]; simp
      · rw [if_neg h2, if_neg (show ¬ (p ≤ j ∧ j < p + (d.length + 1 + 1)) by omega), if_neg (show ¬ (p ≤ j ∧ j < p + (0 + 1)) by omega)]
        simp only [List.cons_ne_nil, if_false]
        by_cases h3 : j < es.length
        · simp [h3]; omega
        · simp only [h3, if_false]
          by_cases h4 : j < p
          · simp [h4]; omega
          · simp [h4]; omega
theorem l31_1 {Γ : Tab} (p fr i : Nat) (hp : p = fr + i) (e0 : Env) (h1 : e0 1 = .int .i64 fr) (h8 : e0 8 = .int .i64 i) (hb : p ≤ 1099511627775) : ∀ m (es : List Int), p + 1 - es.length = m → es.length ≤ 1099511627776 →
    iter (round Γ [7] [(.exit 2, [7])] c31_1 e0 1 [0]) ([.own 0 0 0 es.length], [.row 0 1 (es.map B)]) = some (.exit 2, [.own 0 0 0 (es.length + m)], [.row 0 1 ((es ++ List.replicate m 0).map B)])
  | 0, es, hm, he => by
    rw [iter_eq, round_eq]
    simp -implicitDefEqProofs (disch := omega) [wrap_of, ilt_t, ilt_f, ile_t, ile_f, nlt_t, nlt_f, nle_t, nle_f, ieq_t, ieq_f, imin_l, imin_r, imax_l, imax_r, take_app1, take_map_all, b31_1, h1, h8]
  | m + 1, es, hm, he => by
    have ih := l31_1 (Γ := Γ) p fr i hp e0 h1 h8 hb m (es ++ [0]) (by simp; omega) (by simp; omega)
    have e : round Γ [7] [(.exit 2, [7])] c31_1 e0 1 [0] ([.own 0 0 0 es.length], [.row 0 1 (es.map B)]) = some (.inl ([.own 0 0 0 (es ++ [0]).length], [.row 0 1 ((es ++ [0]).map B)])) := by
      rw [round_eq]
      simp -implicitDefEqProofs (disch := omega) [wrap_of, ilt_t, ilt_f, ile_t, ile_f, nlt_t, nlt_f, nle_t, nle_f, ieq_t, ieq_f, imin_l, imin_r, imax_l, imax_r, take_app1, take_map_all, b31_1, h1, h8]
    rw [iter_eq, e]
    simp only
    rw [ih]
    simp [List.replicate_succ]
    omega

theorem lay_one (es : List Int) (p : Nat) (x : Int) : lay es p [x] = (es ++ List.replicate (p + 1 - es.length) 0).set p x := by
  apply List.ext_getElem?
  intro j
  rw [lay_get _ _ _ (by simp), List.getElem?_set]
  simp only [List.length_cons, List.length_nil, List.length_append, List.length_replicate]
  by_cases h : j = p
  · subst h
    rw [if_pos (by omega), if_pos rfl, if_pos (by omega)]; simp
  · rw [if_neg (show ¬ (p ≤ j ∧ j < p + (0 + 1)) by omega), if_neg (show ¬ p = j from fun e => h e.symm)]
    split
    · rw [List.getElem?_append_left (by omega)]
    · rw [List.getElem?_append_right (by omega), List.getElem?_replicate]
      split <;> split <;> first | rfl | omega
theorem l31_2 {Γ : Tab} (fr : Nat) (d : List Int) (g : Bool) (e0 : Env) (h1 : e0 1 = .int .i64 fr) (h2 : e0 2 = .lst g (d.map B)) (hb : fr + d.length ≤ 1099511627775) (es : List Int) (he : es.length ≤ 1099511627776) :
    iter (round Γ [7, 8] [(.exit 0, [7])] c31_2 e0 1 [0]) ([.own 0 0 0 es.length, .int .i64 0], [.row 0 1 (es.map B)]) = some (.exit 0, [.own 0 0 0 (lay es fr d).length], [.row 0 1 ((lay es fr d).map B)]) := by
  have := for_list (f := round Γ [7, 8] [(.exit 0, [7])] c31_2 e0 1 [0]) (fun i (s : Nat × List Int) => ([.own 0 0 0 s.2.length, .int .i64 i], [.row 0 1 (s.2.map B)])) d (fun s x => (s.1 + 1, lay s.2 s.1 [x])) (fun s => (.exit 0, [.own 0 0 0 s.2.length], [.row 0 1 (s.2.map B)])) (fun i s => s.1 = fr + i ∧ s.2.length ≤ 1099511627776)
    (fun i hi s hs => by
      obtain ⟨p, es⟩ := s
      obtain ⟨hp, he⟩ := hs
      simp only at hp he ⊢
      refine ⟨⟨by omega, by rw [lay_length]; simp; omega⟩, ?_⟩
      have hin := fun e0 h1 h8 => l31_1 (Γ := Γ) p fr i hp e0 h1 h8 (by omega) _ es rfl he
      rw [round_eq]
      simp -implicitDefEqProofs (disch := omega) [wrap_of, ilt_t, ilt_f, ile_t, ile_f, nlt_t, nlt_f, nle_t, nle_f, ieq_t, ieq_f, imin_l, imin_r, imax_l, imax_r, take_app1, take_map_all, b31_2, h1, h2, hi]
      rw [hin _ (by simp -implicitDefEqProofs (disch := omega) [wrap_of, ilt_t, ilt_f, ile_t, ile_f, nlt_t, nlt_f, nle_t, nle_f, ieq_t, ieq_f, imin_l, imin_r, imax_l, imax_r, take_app1, take_map_all, h1]) (by simp -implicitDefEqProofs (disch := omega) [wrap_of, ilt_t, ilt_f, ile_t, ile_f, nlt_t, nlt_f, nle_t, nle_f, ieq_t, ieq_f, imin_l, imin_r, imax_l, imax_r, take_app1, take_map_all, ])]
      rw [lay_one]
      obtain ⟨y, hy⟩ : ∃ y, (es.map B ++ List.replicate (p + 1 - es.length) (B 0))[p]? = some (B y) := by
        rw [← List.map_replicate, ← List.map_append, List.getElem?_map, List.getElem?_eq_getElem (by simp; omega)]
        exact ⟨_, rfl⟩
      simp -implicitDefEqProofs (disch := omega) [wrap_of, ilt_t, ilt_f, ile_t, ile_f, nlt_t, nlt_f, nle_t, nle_f, ieq_t, ieq_f, imin_l, imin_r, imax_l, imax_r, take_app1, take_map_all, h1, h2, hi, ← hp, hy])
    (fun s hs => by simp -implicitDefEqProofs (disch := omega) [wrap_of, ilt_t, ilt_f, ile_t, ile_f, nlt_t, nlt_f, nle_t, nle_f, ieq_t, ieq_f, imin_l, imin_r, imax_l, imax_r, take_app1, take_map_all, round_eq, b31_2, h2]) (fr, es) ⟨rfl, he⟩
  simp only [Int.natCast_zero] at this
  rw [this]
  have e : ∀ (d : List Int) (p : Nat) (es : List Int), (d.foldl (fun (s : Nat × List Int) x => (s.1 + 1, lay s.2 s.1 [x])) (p, es)).2 = layL es p d := by
    intro d
    induction d with
    | nil => intro p es; rfl
    | cons x d ih => intro p es; rw [List.foldl_cons, ih]; rfl
  rw [e, layL_eq]
/-- catacombref24.Laid -/
theorem s31 {n : Nat} (hn : 21 < n) (es d : List Int) (f g : Bool) (p : Int) (hp : 0 ≤ p) (hb : d = [] ∨ p + d.length ≤ 1099511627775) (he : es.length ≤ 1099511627776) :
    (C24.tab n).p 31 [.lst f (es.map B), .int .i64 p, .lst g (d.map B)] = some (.lst false ((lay es p.toNat d).map B)) := by
  obtain ⟨p, rfl⟩ : ∃ q : Nat, p = q := ⟨p.toNat, by omega⟩
  rw [p31 hn, runP_eq, runH_eq]
  simp -implicitDefEqProofs (disch := omega) [wrap_of, ilt_t, ilt_f, ile_t, ile_f, nlt_t, nlt_f, nle_t, nle_f, ieq_t, ieq_f, imin_l, imin_r, imax_l, imax_r, take_app1, take_map_all, c31]
  rcases hb with rfl | hb
  · rw [iter_eq, round_eq]
    simp -implicitDefEqProofs (disch := omega) [wrap_of, ilt_t, ilt_f, ile_t, ile_f, nlt_t, nlt_f, nle_t, nle_f, ieq_t, ieq_f, imin_l, imin_r, imax_l, imax_r, take_app1, take_map_all, b31_2, lay]
  · rw [l31_2 p d g _ (by simp -implicitDefEqProofs (disch := omega) [wrap_of, ilt_t, ilt_f, ile_t, ile_f, nlt_t, nlt_f, nle_t, nle_f, ieq_t, ieq_f, imin_l, imin_r, imax_l, imax_r, take_app1, take_map_all, ]) (by simp -implicitDefEqProofs (disch := omega) [wrap_of, ilt_t, ilt_f, ile_t, ile_f, nlt_t, nlt_f, nle_t, nle_f, ieq_t, ieq_f, imin_l, imin_r, imax_l, imax_r, take_app1, take_map_all, ]) (by omega) es he]
    simp -implicitDefEqProofs (disch := omega) [wrap_of, ilt_t, ilt_f, ile_t, ile_f, nlt_t, nlt_f, nle_t, nle_f, ieq_t, ieq_f, imin_l, imin_r, imax_l, imax_r, take_app1, take_map_all, ]
end Go.Proofs.Ytldgegojhaamoaa
