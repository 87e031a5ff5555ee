import Derived.Test.YtldgegojhaamoaaB24
set_option linter.unusedSimpArgs false
set_option linter.unusedVariables false
namespace Go.Proofs.Ytldgegojhaamoaa
open Go.Am

/-- catacombref24.Lay -/
theorem s12 {n : Nat} (hn : 22 < n) (es d : List Int) (f g : Bool) (p : Int) (he : es.length ≤ 1099511627776) (hd : d.length ≤ 140737488355328) (hp : p ≤ 9223372036854775807) :
    (C24.tab n).p 12 [.lst f (es.map B), .int .i64 p, .lst g (d.map B)] = some (.tup [(layR es p d).1, .int .i64 (layR es p d).2]) := by
  rw [p12 hn, runP_eq, runH_eq]
  unfold layR
  by_cases h1 : p < 0
  · simp -implicitDefEqProofs (disch := omega) [wrap_of, ilt_t, ilt_f, ile_t, ile_f, nlt_t, nlt_f, nle_t, nle_f, ieq_t, ieq_f, imin_l, imin_r, imax_l, imax_r, take_app1, take_map_all, c12, h1]
  · by_cases h2 : 0 < d.length ∧ 4096 - (d.length : Int) < p
    · obtain ⟨h2, h3⟩ := h2
      by_cases h4 : 4096 < p
      · simp -implicitDefEqProofs (disch := omega) [wrap_of, ilt_t, ilt_f, ile_t, ile_f, nlt_t, nlt_f, nle_t, nle_f, ieq_t, ieq_f, imin_l, imin_r, imax_l, imax_r, take_app1, take_map_all, c12, h1, h2, h3, h4]
      · simp -implicitDefEqProofs (disch := omega) [wrap_of, ilt_t, ilt_f, ile_t, ile_f, nlt_t, nlt_f, nle_t, nle_f, ieq_t, ieq_f, imin_l, imin_r, imax_l, imax_r, take_app1, take_map_all, c12, h1, h2, h3, h4]
    · rw [if_neg h1, if_neg h2]
      by_cases h5 : 0 < d.length
      · simp -implicitDefEqProofs (disch := omega) [wrap_of, ilt_t, ilt_f, ile_t, ile_f, nlt_t, nlt_f, nle_t, nle_f, ieq_t, ieq_f, imin_l, imin_r, imax_l, imax_r, take_app1, take_map_all, c12, h1, h5, a31, s31 (n := 22) (by omega) es d f g p (by omega) (.inr (by omega)) he]
      · have hd0 : d = [] := by
          cases d with
          | nil => rfl
          | cons a l => simp at h5
        simp -implicitDefEqProofs (disch := omega) [wrap_of, ilt_t, ilt_f, ile_t, ile_f, nlt_t, nlt_f, nle_t, nle_f, ieq_t, ieq_f, imin_l, imin_r, imax_l, imax_r, take_app1, take_map_all, c12, h1, h5, a31, s31 (n := 22) (by omega) es d f g p (by omega) (.inl hd0) he]
def seeF (l : List Dirty) (ino : Int) (s : Bool × List Int) : Bool × List Int := l.foldl (fun s d => if d.ino = ino then (false, layD s.2 d) else s) s
theorem seeF_see : ∀ (l : List Dirty) (ino : Int) (s : Bool × List Int), (seeF l ino s).2 = see l ino s.2
  | [], _, _ => rfl
  | d :: l, ino, s => by
    have e : seeF (d :: l) ino s = seeF l ino (if d.ino = ino then (false, layD s.2 d) else s) := rfl
    rw [e, seeF_see l ino]
    by_cases h : d.ino = ino <;> simp [h, see]
theorem l19 {n : Nat} (hn : 21 < n) (l : List Dirty) (hl : l.length ≤ 9223372036854775807) (hg : ∀ d ∈ l, Right d) (f : Bool) (ino : Int) (e0 : Env) (h0 : e0 0 = .lst f (l.map D)) (h1 : e0 1 = .int .i64 ino) (g : Bool) (es : List Int) (he : es.length ≤ 1099511627776) :
    iter (round (C24.tab n) [7, 8] [(.exit 0, [7])] c19_1 e0 0 []) ([.lst g (es.map B), .int .i64 0], []) = some (.exit 0, [.lst (seeF l ino (g, es)).1 ((see l ino es).map B)], []) := by
  have := for_list (f := round (C24.tab n) [7, 8] [(.exit 0, [7])] c19_1 e0 0 []) (fun i (s : Bool × List Int) => ([.lst s.1 (s.2.map B), .int .i64 i], [])) l (fun s d => if d.ino = ino then (false, layD s.2 d) else s) (fun s => (.exit 0, [.lst s.1 (s.2.map B)], [])) (fun i s => s.2.length ≤ 1099511627776)
    (fun i hi s hs => by
      have hr := hg _ (List.getElem_mem hi)
      have hd := hr.good
      obtain ⟨d, hdd⟩ : ∃ d, d = l[i] := ⟨_, rfl⟩
      rw [← hdd] at hd hr ⊢
      have r0 := hr.h0
      have r1 := hr.h1
      have r2 := hr.h2
      have h31 := s31 hn s.2 d.dat s.1 d.fl d.frm r0 (.inr (by omega)) hs
      by_cases h : d.ino = ino
      · rw [if_pos h]
        refine ⟨layD_le hd hs, ?_⟩
        simp -implicitDefEqProofs (disch := omega) [wrap_of, ilt_t, ilt_f, ile_t, ile_f, nlt_t, nlt_f, nle_t, nle_f, ieq_t, ieq_f, imin_l, imin_r, imax_l, imax_r, take_app1, take_map_all, round_eq, b19_1, h0, h1, hi, ← hdd, h, h31, layD]
      · rw [if_neg h]
        refine ⟨hs, ?_⟩
        simp -implicitDefEqProofs (disch := omega) [wrap_of, ilt_t, ilt_f, ile_t, ile_f, nlt_t, nlt_f, nle_t, nle_f, ieq_t, ieq_f, imin_l, imin_r, imax_l, imax_r, take_app1, take_map_all, round_eq, b19_1, h0, h1, hi, ← hdd, h])
    (fun s hs => by simp -implicitDefEqProofs (disch := omega) [wrap_of, ilt_t, ilt_f, ile_t, ile_f, nlt_t, nlt_f, nle_t, nle_f, ieq_t, ieq_f, imin_l, imin_r, imax_l, imax_r, take_app1, take_map_all, round_eq, b19_1, h0]) (g, es) he
  simp only [Int.natCast_zero] at this
  rw [this, ← seeF_see l ino (g, es)]
  rfl
/-- catacombref24.See -/
theorem s19 {n : Nat} (hn : 24 < n) (l : List Dirty) (f g : Bool) (ino : Int) (es : List Int) (hl : l.length ≤ 1000000000) (hg : ∀ d ∈ l, Right d) (he : es.length ≤ 1099511627776) :
    (C24.tab n).p 19 [.lst f (l.map D), .int .i64 ino, .lst g (es.map B)] = some (.lst (seeF l ino (g, es)).1 ((see l ino es).map B)) := by
  rw [p19 hn, runP_eq, runH_eq]
  simp -implicitDefEqProofs (disch := omega) [wrap_of, ilt_t, ilt_f, ile_t, ile_f, nlt_t, nlt_f, nle_t, nle_f, ieq_t, ieq_f, imin_l, imin_r, imax_l, imax_r, take_app1, take_map_all, c19]
  rw [l19 (by omega) l (by omega) hg f ino _ (by simp -implicitDefEqProofs (disch := omega) [wrap_of, ilt_t, ilt_f, ile_t, ile_f, nlt_t, nlt_f, nle_t, nle_f, ieq_t, ieq_f, imin_l, imin_r, imax_l, imax_r, take_app1, take_map_all, ]) (by simp -implicitDefEqProofs (disch := omega) [wrap_of, ilt_t, ilt_f, ile_t, ile_f, nlt_t, nlt_f, nle_t, nle_f, ieq_t, ieq_f, imin_l, imin_r, imax_l, imax_r, take_app1, take_map_all, ]) g es he]
  simp -implicitDefEqProofs (disch := omega) [wrap_of, ilt_t, ilt_f, ile_t, ile_f, nlt_t, nlt_f, nle_t, nle_f, ieq_t, ieq_f, imin_l, imin_r, imax_l, imax_r, take_app1, take_map_all, ]
theorem last_snoc (l : List Dirty) (d : Dirty) (ino : Int) : last (l ++ [d]) ino = if d.ino = ino then some (l.length, d) else last l ino := by
  unfold last
  rw [List.length_append, List.length_singleton, List.range_succ, List.reverse_append, List.reverse_singleton, List.singleton_append, List.findSome?_cons]
  have e : pick (l ++ [d]) ino l.length = if d.ino = ino then some (l.length, d) else none := by
    unfold pick; rw [List.getElem?_append_right (Nat.le_refl _), Nat.sub_self]; rfl
  rw [e]
  by_cases h : d.ino = ino
  · rw [if_pos h, if_pos h]
  · rw [if_neg h, if_neg h]
    refine findSome_congr fun a ha => ?_
    have : a < l.length := by simpa using ha
    unfold pick
    rw [List.getElem?_append_left this]
theorem l16 {n : Nat} (l : List Dirty) (hl : l.length ≤ 9223372036854775807) (f : Bool) (ino : Int) (X : AH) (hX : X.all plainB = true) (e0 : Env) (h0 : e0 0 = .lst f (l.map D)) (h1 : e0 1 = .int .i64 ino) :
    iter (round (C24.tab n) [10, 11] [(.exit 0, [10])] c16_1 e0 X.length []) ([.int .i64 (-1), .int .i64 0], X) = some (.exit 0, [.int .i64 (match last l ino with | some x => x.1 | none => -1)], X) := by
  have := for_list (f := round (C24.tab n) [10, 11] [(.exit 0, [10])] c16_1 e0 X.length []) (fun i (s : Nat × Int) => ([.int .i64 s.2, .int .i64 i], X)) l (fun s d => (s.1 + 1, if d.ino = ino then (s.1 : Int) else s.2)) (fun s => (.exit 0, [.int .i64 s.2], X)) (fun i s => s.1 = i)
    (fun i hi s hs => by
      obtain ⟨k, b⟩ := s
      simp only at hs
      subst hs
      refine ⟨rfl, ?_⟩
      by_cases h : l[k].ino = ino <;> simp -implicitDefEqProofs (disch := omega) [wrap_of, ilt_t, ilt_f, ile_t, ile_f, nlt_t, nlt_f, nle_t, nle_f, ieq_t, ieq_f, imin_l, imin_r, imax_l, imax_r, take_app1, take_map_all, round_eq, b16_1, h0, h1, hi, h, normH_plain _ _ X _ hX])
    (fun s hs => by simp -implicitDefEqProofs (disch := omega) [wrap_of, ilt_t, ilt_f, ile_t, ile_f, nlt_t, nlt_f, nle_t, nle_f, ieq_t, ieq_f, imin_l, imin_r, imax_l, imax_r, take_app1, take_map_all, round_eq, b16_1, h0, normH_plain _ _ X _ hX]) (0, -1) rfl
  simp only [Int.natCast_zero] at this
  rw [this]
  have e : ∀ (l : List Dirty), l.foldl (fun (s : Nat × Int) d => (s.1 + 1, if d.ino = ino then (s.1 : Int) else s.2)) (0, -1) = (l.length, match last l ino with | some x => (x.1 : Int) | none => -1) := by
    intro l
    refine snoc_rec (p := fun l : List Dirty => l.foldl (fun (s : Nat × Int) d => (s.1 + 1, if d.ino = ino then (s.1 : Int) else s.2)) (0, -1) = (l.length, match last l ino with | some x => (x.1 : Int) | none => -1)) rfl (fun l d ih => ?_) l
    rw [List.foldl_append, ih, last_snoc]
    by_cases h : d.ino = ino <;> simp [h]
  rw [e]
theorem last_some {l : List Dirty} {ino : Int} {i : Nat} {x : Dirty} : last l ino = some (i, x) → ∃ h : i < l.length, x = l[i] ∧ x.ino = ino := by
  refine snoc_rec (p := fun l => last l ino = some (i, x) → ∃ h : i < l.length, x = l[i] ∧ x.ino = ino) ?_ (fun l d ih => ?_) l
  · intro h; cases h
  · intro h
    rw [last_snoc] at h
    split at h
    · rename_i hd
      cases h
      exact ⟨by simp, by simp, hd⟩
    · obtain ⟨h1, h2, h3⟩ := ih h
      exact ⟨by simp; omega, by rw [h2, List.getElem_append_left h1], h3⟩
/-- catacombref24.Put -/
theorem s16_not {n : Nat} (hn : 23 < n) (l : List AV) (f g : Bool) (ino p : Int) (d : List Int) (hd : d.length ≤ 9223372036854775807) (hr : rightB ino p d.length = false) :
    (C24.tab n).p 16 [.lst f l, .int .i64 ino, .int .i64 p, .lst g (d.map B)] = some (.lst f l) := by
  rw [p16 hn, runP_eq, runH_eq]
  simp -implicitDefEqProofs (disch := omega) [wrap_of, ilt_t, ilt_f, ile_t, ile_f, nlt_t, nlt_f, nle_t, nle_f, ieq_t, ieq_f, imin_l, imin_r, imax_l, imax_r, take_app1, take_map_all, c16, a36, s36, hr]
theorem s16 {n : Nat} (hn : 23 < n) (l : List Dirty) (f g : Bool) (ino p : Int) (d : List Int) (hl : l.length ≤ 1000000000) (hg : ∀ d ∈ l, Right d) (hr : rightB ino p d.length = true) :
    (C24.tab n).p 16 [.lst f (l.map D), .int .i64 ino, .int .i64 p, .lst g (d.map B)] = some (.lst false ((put l ino p g d).map D)) := by
  rw [p16 hn, runP_eq, runH_eq]
  have hr' := hr
  unfold rightB at hr'
  simp only [Bool.and_eq_true, decide_eq_true_eq] at hr'
  obtain ⟨⟨⟨r1, r2⟩, r3⟩, r4⟩ := hr'
  simp -implicitDefEqProofs (disch := omega) [wrap_of, ilt_t, ilt_f, ile_t, ile_f, nlt_t, nlt_f, nle_t, nle_f, ieq_t, ieq_f, imin_l, imin_r, imax_l, imax_r, take_app1, take_map_all, c16, a36, s36, hr]
  have hl16 := fun e0 a b => l16 (n := 23) l (by omega) f ino [.var [.int .i64 ino, .int .i64 p, .lst g (d.map B)]] (by simp [plainB]) e0 a b
  simp only [List.length_singleton] at hl16
  rw [hl16 _ (by simp -implicitDefEqProofs (disch := omega) [wrap_of, ilt_t, ilt_f, ile_t, ile_f, nlt_t, nlt_f, nle_t, nle_f, ieq_t, ieq_f, imin_l, imin_r, imax_l, imax_r, take_app1, take_map_all, ]) (by simp -implicitDefEqProofs (disch := omega) [wrap_of, ilt_t, ilt_f, ile_t, ile_f, nlt_t, nlt_f, nle_t, nle_f, ieq_t, ieq_f, imin_l, imin_r, imax_l, imax_r, take_app1, take_map_all, ])]
  unfold put
  cases hlast : last l ino with
  | none =>
    simp -implicitDefEqProofs (disch := omega) [wrap_of, ilt_t, ilt_f, ile_t, ile_f, nlt_t, nlt_f, nle_t, nle_f, ieq_t, ieq_f, imin_l, imin_r, imax_l, imax_r, take_app1, take_map_all, ]
    try exact List.take_of_length_le (by simp)
  | some q =>
    obtain ⟨i, x⟩ := q
    obtain ⟨hi, hx, hxi⟩ := last_some hlast
    have hxr := hg x (hx ▸ List.getElem_mem hi)
    have x0 := hxr.h0
    have x1 := hxr.h1
    have x2 := hxr.h2
    by_cases hne : near x p d.length = true
    · have hne' := hne
      unfold near at hne'
      simp only [Bool.not_eq_true', Bool.or_eq_false_iff, decide_eq_false_iff_not] at hne'
      obtain ⟨n1, n2⟩ := hne'
      have hxl : x.dat ≠ [] := by intro e; rw [e] at x1; simp at x1
      by_cases hlt : p < x.frm
      · have hA := s31 (n := 23) (by omega) [] x.dat true x.fl (x.frm - p) (by omega) (.inr (by omega)) (by simp)
        have hB := s31 (n := 23) (by omega) (lay [] (x.frm - p).toNat x.dat) d false g 0 (by omega) (.inr (by omega)) (by rw [lay_length, if_neg hxl]; simp; omega)
        simp only [List.map_nil] at hA
        simp -implicitDefEqProofs (disch := omega) [wrap_of, ilt_t, ilt_f, ile_t, ile_f, nlt_t, nlt_f, nle_t, nle_f, ieq_t, ieq_f, imin_l, imin_r, imax_l, imax_r, take_app1, take_map_all, hi, ← hx, hne, a31, hA, hB]
        rw [List.take_of_length_le (by simp)]
        simp [merge, show min x.frm p = p by omega]
      · have hA := s31 (n := 23) (by omega) [] x.dat true x.fl 0 (by omega) (.inr (by omega)) (by simp)
        have hB := s31 (n := 23) (by omega) (lay [] 0 x.dat) d false g (p - x.frm) (by omega) (.inr (by omega)) (by rw [lay_length, if_neg hxl]; simp; omega)
        simp only [List.map_nil, Int.toNat_zero] at hA
        simp -implicitDefEqProofs (disch := omega) [wrap_of, ilt_t, ilt_f, ile_t, ile_f, nlt_t, nlt_f, nle_t, nle_f, ieq_t, ieq_f, imin_l, imin_r, imax_l, imax_r, take_app1, take_map_all, hi, ← hx, hne, a31, hA, hB]
        rw [List.take_of_length_le (by simp)]
        simp [merge, show min x.frm p = x.frm by omega]
    · have hor : x.frm + x.dat.length < p ∨ p + d.length < x.frm := by
        unfold near at hne; simp at hne; omega
      simp -implicitDefEqProofs (disch := omega) [wrap_of, ilt_t, ilt_f, ile_t, ile_f, nlt_t, nlt_f, nle_t, nle_f, ieq_t, ieq_f, imin_l, imin_r, imax_l, imax_r, take_app1, take_map_all, hi, ← hx, hne, hor]
      try exact List.take_of_length_le (by simp)

/-! ### Stored files -/
structure Stored where
  ino : Int
  ep : Int
  fl : Bool
  dat : List Int
@[simp] def S (d : Stored) : AV := .agg [.int .i64 d.ino, .int .i64 d.ep, .lst d.fl (d.dat.map B)]
@[simp] theorem szS (l : List Stored) : szOk 3 (l.map S) = true := by simp [szOk]
def find (l : List Stored) (ino : Int) : Stored := (l.find? fun x => decide (x.ino = ino)).getD ⟨ino, 0, true, []⟩
theorem l28 {n : Nat} (l : List Stored) (hl : l.length ≤ 9223372036854775807) (f : Bool) (ino : Int) (e0 : Env) (h0 : e0 0 = .lst f (l.map S)) (h1 : e0 1 = .int .i64 ino) (h4 : e0 4 = .ptr 0 0 0 0) :
    iter (round (C24.tab n) [5] [(.exit 0, []), (.ret, [])] c28_1 e0 1 []) ([.int .i64 0], [.var [.int .i64 0, .int .i64 0, .lst true []]]) = some (match l.find? (fun x => decide (x.ino = ino)) with | some x => (.ret, [], [.var [.int .i64 x.ino, .int .i64 x.ep, .lst x.fl (x.dat.map B)]]) | none => (.exit 0, [], [.var [.int .i64 0, .int .i64 0, .lst true []]])) := by
  have := for_listE (f := round (C24.tab n) [5] [(.exit 0, []), (.ret, [])] c28_1 e0 1 []) (fun i (s : Unit) => ([.int .i64 i], [.var [.int .i64 0, .int .i64 0, .lst true []]])) l
    (fun s x => if x.ino = ino then .inr (.ret, [], [.var [.int .i64 x.ino, .int .i64 x.ep, .lst x.fl (x.dat.map B)]]) else .inl s) (fun s => (.exit 0, [], [.var [.int .i64 0, .int .i64 0, .lst true []]])) (fun _ _ => True)
    (fun i hi s hs => by
      by_cases h : l[i].ino = ino
      · rw [if_pos h]
        simp -implicitDefEqProofs (disch := omega) [wrap_of, ilt_t, ilt_f, ile_t, ile_f, nlt_t, nlt_f, nle_t, nle_f, ieq_t, ieq_f, imin_l, imin_r, imax_l, imax_r, take_app1, take_map_all, round_eq, b28_1, h0, h1, h4, hi, h]
      · rw [if_neg h]
        refine ⟨trivial, ?_⟩
        simp -implicitDefEqProofs (disch := omega) [wrap_of, ilt_t, ilt_f, ile_t, ile_f, nlt_t, nlt_f, nle_t, nle_f, ieq_t, ieq_f, imin_l, imin_r, imax_l, imax_r, take_app1, take_map_all, round_eq, b28_1, h0, h1, h4, hi, h])
    (fun s hs => by simp -implicitDefEqProofs (disch := omega) [wrap_of, ilt_t, ilt_f, ile_t, ile_f, nlt_t, nlt_f, nle_t, nle_f, ieq_t, ieq_f, imin_l, imin_r, imax_l, imax_r, take_app1, take_map_all, round_eq, b28_1, h0]) () trivial
  simp only [Int.natCast_zero] at this
  rw [this]
  congr 1
  clear this hl h0
  induction l with
  | nil => rfl
  | cons x l ih =>
    simp only [foldE, List.find?_cons]
    by_cases h : x.ino = ino
    · simp [h]
    · simp only [h, if_false, decide_false]
      exact ih
/-- catacombref24.Find -/
theorem s28 {n : Nat} (hn : 28 < n) (l : List Stored) (hl : l.length ≤ 9223372036854775807) (f : Bool) (ino : Int) :
    (C24.tab n).p 28 [.lst f (l.map S), .int .i64 ino] = some (S (find l ino)) := by
  rw [p28 hn, runP_eq, runH_eq]
  simp -implicitDefEqProofs (disch := omega) [wrap_of, ilt_t, ilt_f, ile_t, ile_f, nlt_t, nlt_f, nle_t, nle_f, ieq_t, ieq_f, imin_l, imin_r, imax_l, imax_r, take_app1, take_map_all, c28]
  rw [l28 l hl f ino _ (by simp -implicitDefEqProofs (disch := omega) [wrap_of, ilt_t, ilt_f, ile_t, ile_f, nlt_t, nlt_f, nle_t, nle_f, ieq_t, ieq_f, imin_l, imin_r, imax_l, imax_r, take_app1, take_map_all, ]) (by simp -implicitDefEqProofs (disch := omega) [wrap_of, ilt_t, ilt_f, ile_t, ile_f, nlt_t, nlt_f, nle_t, nle_f, ieq_t, ieq_f, imin_l, imin_r, imax_l, imax_r, take_app1, take_map_all, ]) (by simp -implicitDefEqProofs (disch := omega) [wrap_of, ilt_t, ilt_f, ile_t, ile_f, nlt_t, nlt_f, nle_t, nle_f, ieq_t, ieq_f, imin_l, imin_r, imax_l, imax_r, take_app1, take_map_all, ])]
  unfold find
  cases l.find? (fun x => decide (x.ino = ino)) <;> simp -implicitDefEqProofs (disch := omega) [wrap_of, ilt_t, ilt_f, ile_t, ile_f, nlt_t, nlt_f, nle_t, nle_f, ieq_t, ieq_f, imin_l, imin_r, imax_l, imax_r, take_app1, take_map_all, ]
/-- Files, with one of them another one. -/
def withG (x : Stored) (s : Bool × List Stored) (y : Stored) : Bool × List Stored :=
  let s := if s.1 = false ∧ x.ino ≤ y.ino then (true, s.2 ++ [x]) else s
  if y.ino = x.ino then s else (s.1, s.2 ++ [y])
def withL (l : List Stored) (x : Stored) : List Stored :=
  let s := l.foldl (withG x) (false, [])
  if s.1 then s.2 else s.2 ++ [x]
theorem l38 {n : Nat} (l : List Stored) (hl : l.length ≤ 1000000000) (f : Bool) (x : Stored) (e0 : Env) (h0 : e0 0 = .lst f (l.map S)) (h3 : e0 3 = .ptr 0 0 0 0) :
    iter (round (C24.tab n) [5, 6, 7] [(.exit 0, [5, 6])] c38_1 e0 2 [1]) ([.own 1 0 0 0, .bool false, .int .i64 0], [.var [.int .i64 x.ino, .int .i64 x.ep, .lst x.fl (x.dat.map B)], .row 0 3 []]) =
      some (.exit 0, [.own 1 0 0 (l.foldl (withG x) (false, [])).2.length, .bool (l.foldl (withG x) (false, [])).1], [.var [.int .i64 x.ino, .int .i64 x.ep, .lst x.fl (x.dat.map B)], .row 0 3 ((l.foldl (withG x) (false, [])).2.map S)]) := by
  have := for_list (f := round (C24.tab n) [5, 6, 7] [(.exit 0, [5, 6])] c38_1 e0 2 [1]) (fun i (s : Bool × List Stored) => ([.own 1 0 0 s.2.length, .bool s.1, .int .i64 i], [.var [.int .i64 x.ino, .int .i64 x.ep, .lst x.fl (x.dat.map B)], .row 0 3 (s.2.map S)])) l
    (withG x) (fun s => (.exit 0, [.own 1 0 0 s.2.length, .bool s.1], [.var [.int .i64 x.ino, .int .i64 x.ep, .lst x.fl (x.dat.map B)], .row 0 3 (s.2.map S)])) (fun i s => s.2.length ≤ 2 * i)
    (fun i hi s hs => by
      obtain ⟨b, a⟩ := s
      obtain ⟨y, hy⟩ : ∃ y, y = l[i] := ⟨_, rfl⟩
      rw [← hy]
      simp only at hs
      refine ⟨?_, ?_⟩
      · unfold withG; cases b <;> by_cases h1 : x.ino ≤ y.ino <;> by_cases h2 : y.ino = x.ino <;> simp [h1, h2] <;> omega
      · unfold withG
        rw [round_eq]
        by_cases h2 : y.ino = x.ino
        · have h1 : x.ino ≤ y.ino := by omega
          cases b
          · simp -implicitDefEqProofs (disch := omega) [wrap_of, ilt_t, ilt_f, ile_t, ile_f, nlt_t, nlt_f, nle_t, nle_f, ieq_t, ieq_f, imin_l, imin_r, imax_l, imax_r, take_app1, take_map_all, b38_1, h0, h3, hi, ← hy, h1, h2]
          · simp -implicitDefEqProofs (disch := omega) [wrap_of, ilt_t, ilt_f, ile_t, ile_f, nlt_t, nlt_f, nle_t, nle_f, ieq_t, ieq_f, imin_l, imin_r, imax_l, imax_r, take_app1, take_map_all, b38_1, h0, h3, hi, ← hy, h1, h2]
        · by_cases h1 : x.ino ≤ y.ino <;> cases b <;> simp -implicitDefEqProofs (disch := omega) [wrap_of, ilt_t, ilt_f, ile_t, ile_f, nlt_t, nlt_f, nle_t, nle_f, ieq_t, ieq_f, imin_l, imin_r, imax_l, imax_r, take_app1, take_map_all, b38_1, h0, h3, hi, ← hy, h1, h2])
    (fun s hs => by simp -implicitDefEqProofs (disch := omega) [wrap_of, ilt_t, ilt_f, ile_t, ile_f, nlt_t, nlt_f, nle_t, nle_f, ieq_t, ieq_f, imin_l, imin_r, imax_l, imax_r, take_app1, take_map_all, round_eq, b38_1, h0]) (false, []) (Nat.le_refl _)
  simp only [Int.natCast_zero, List.length_nil, List.map_nil] at this
  rw [this]
theorem withG_len (x : Stored) : ∀ (l : List Stored) (s : Bool × List Stored), (l.foldl (withG x) s).2.length ≤ s.2.length + 2 * l.length
  | [], s => by simp
  | y :: l, s => by
    have h := withG_len x l (withG x s y)
    have h1 : (withG x s y).2.length ≤ s.2.length + 2 := by
      unfold withG
      obtain ⟨b, a⟩ := s
      cases b <;> by_cases h1 : x.ino ≤ y.ino <;> by_cases h2 : y.ino = x.ino <;> simp [h1, h2]
    rw [List.foldl_cons, List.length_cons]
    omega
/-- catacombref24.with -/
theorem s38 {n : Nat} (hn : 29 < n) (l : List Stored) (hl : l.length ≤ 1000000000) (f : Bool) (x : Stored) :
    (C24.tab n).p 38 [.lst f (l.map S), S x] = some (.lst false ((withL l x).map S)) := by
  rw [p38 hn, runP_eq, runH_eq]
  simp -implicitDefEqProofs (disch := omega) [wrap_of, ilt_t, ilt_f, ile_t, ile_f, nlt_t, nlt_f, nle_t, nle_f, ieq_t, ieq_f, imin_l, imin_r, imax_l, imax_r, take_app1, take_map_all, c38]
  rw [l38 l hl f x _ (by simp -implicitDefEqProofs (disch := omega) [wrap_of, ilt_t, ilt_f, ile_t, ile_f, nlt_t, nlt_f, nle_t, nle_f, ieq_t, ieq_f, imin_l, imin_r, imax_l, imax_r, take_app1, take_map_all, ]) (by simp -implicitDefEqProofs (disch := omega) [wrap_of, ilt_t, ilt_f, ile_t, ile_f, nlt_t, nlt_f, nle_t, nle_f, ieq_t, ieq_f, imin_l, imin_r, imax_l, imax_r, take_app1, take_map_all, ])]
  have hlen := withG_len x l (false, [])
  simp only [List.length_nil] at hlen
  unfold withL
  cases h : (l.foldl (withG x) (false, [])).1 <;> simp -implicitDefEqProofs (disch := omega) [wrap_of, ilt_t, ilt_f, ile_t, ile_f, nlt_t, nlt_f, nle_t, nle_f, ieq_t, ieq_f, imin_l, imin_r, imax_l, imax_r, take_app1, take_map_all, h]

def GoodS (x : Stored) : Prop := x.dat.length ≤ 4096
theorem find_mem {l : List Stored} {ino : Int} : find l ino ∈ l ∨ find l ino = ⟨ino, 0, true, []⟩ := by
  unfold find
  cases h : l.find? (fun x => decide (x.ino = ino)) with
  | none => exact .inr rfl
  | some x => exact .inl (List.mem_of_find?_eq_some h)
theorem find_good {l : List Stored} (hg : ∀ x ∈ l, GoodS x) (ino : Int) : GoodS (find l ino) := by
  rcases find_mem (l := l) (ino := ino) with h | h
  · exact hg _ h
  · rw [h]; simp [GoodS]
theorem find_ino (l : List Stored) (ino : Int) : (find l ino).ino = ino := by
  unfold find
  cases h : l.find? (fun x => decide (x.ino = ino)) with
  | none => rfl
  | some x => simpa using List.find?_some h
/-- catacombref24.Take -/
def takeR (l : List Stored) (d : Dirty) (ep : Int) : List Stored × Int :=
  if ep < (find l d.ino).ep then (l, 240) else (withL l ⟨(find l d.ino).ino, ep, false, layD (find l d.ino).dat d⟩, 0)
theorem s22 {n : Nat} (hn : 30 < n) (l : List Stored) (hl : l.length ≤ 1000000000) (hg : ∀ x ∈ l, GoodS x) (f : Bool) (d : Dirty) (hd : Right d) (ep : Int) :
    (C24.tab n).p 22 [.lst f (l.map S), D d, .int .i64 ep] = some (.tup [.lst (f && decide (ep < (find l d.ino).ep)) ((takeR l d ep).1.map S), .int .i64 (takeR l d ep).2]) := by
  rw [p22 hn, runP_eq, runH_eq]
  have h28 := s28 (n := 30) (by omega) l (by omega) f d.ino
  have hf := find_good hg d.ino
  unfold GoodS at hf
  unfold takeR
  obtain ⟨x, hx⟩ : ∃ x, x = find l d.ino := ⟨_, rfl⟩
  rw [← hx] at h28 hf ⊢
  have d0 := hd.h0
  have d1 := hd.h1
  have d2 := hd.h2
  have h31 := s31 (n := 30) (by omega) x.dat d.dat x.fl d.fl d.frm d0 (.inr (by omega)) (by omega)
  have h38 := s38 (n := 30) (by omega) l hl f ⟨x.ino, ep, false, lay x.dat d.frm.toNat d.dat⟩
  simp only [S] at h28 h38
  by_cases h : ep < x.ep
  · simp -implicitDefEqProofs (disch := omega) [wrap_of, ilt_t, ilt_f, ile_t, ile_f, nlt_t, nlt_f, nle_t, nle_f, ieq_t, ieq_f, imin_l, imin_r, imax_l, imax_r, take_app1, take_map_all, c22, a28, h28, h]
  · simp -implicitDefEqProofs (disch := omega) [wrap_of, ilt_t, ilt_f, ile_t, ile_f, nlt_t, nlt_f, nle_t, nle_f, ieq_t, ieq_f, imin_l, imin_r, imax_l, imax_r, take_app1, take_map_all, c22, a28, h28, h, a31, h31, a38, h38, layD]
/-- catacombref24.Raise -/
def raiseR (l : List Stored) (ino ep : Int) : List Stored := withL l ⟨(find l ino).ino, max (find l ino).ep ep, (find l ino).fl, (find l ino).dat⟩
theorem s25 {n : Nat} (hn : 31 < n) (l : List Stored) (hl : l.length ≤ 1000000000) (f : Bool) (ino ep : Int) :
    (C24.tab n).p 25 [.lst f (l.map S), .int .i64 ino, .int .i64 ep] = some (.lst false ((raiseR l ino ep).map S)) := by
  rw [p25 hn, runP_eq, runH_eq]
  have h28 := s28 (n := 31) (by omega) l (by omega) f ino
  unfold raiseR
  obtain ⟨x, hx⟩ : ∃ x, x = find l ino := ⟨_, rfl⟩
  rw [← hx] at h28 ⊢
  have h38 := s38 (n := 31) (by omega) l hl f ⟨x.ino, max x.ep ep, x.fl, x.dat⟩
  simp only [S] at h28 h38
  by_cases h : x.ep < ep
  · rw [show max x.ep ep = ep by omega] at h38 ⊢
    simp -implicitDefEqProofs (disch := omega) [wrap_of, ilt_t, ilt_f, ile_t, ile_f, nlt_t, nlt_f, nle_t, nle_f, ieq_t, ieq_f, imin_l, imin_r, imax_l, imax_r, take_app1, take_map_all, c25, a28, h28, h, a38, h38]
  · rw [show max x.ep ep = x.ep by omega] at h38 ⊢
    simp -implicitDefEqProofs (disch := omega) [wrap_of, ilt_t, ilt_f, ile_t, ile_f, nlt_t, nlt_f, nle_t, nle_f, ieq_t, ieq_f, imin_l, imin_r, imax_l, imax_r, take_app1, take_map_all, c25, a28, h28, h, a38, h38]
def okS (x : Stored) : Bool := decide (1 ≤ x.ino) && decide (0 ≤ x.ep) && decide (x.dat.length ≤ 4096)
def rightS (l : List Stored) : Bool := (List.range l.length).all fun i => match l[i]? with
  | some x => okS x && (if i = 0 then true else match l[i - 1]? with | some y => decide (y.ino < x.ino) | none => true)
  | none => true
theorem l29 {n : Nat} (l : List Stored) (hl : l.length ≤ 9223372036854775807) (hs : ∀ x ∈ l, x.dat.length ≤ 9223372036854775807) (f : Bool) (e0 : Env) (h0 : e0 0 = .lst f (l.map S)) :
    iter (round (C24.tab n) [3] [(.exit 0, []), (.ret, [2])] c29_1 e0 0 []) ([.int .i64 0], []) = some (if rightS l = true then (.exit 0, [], []) else (.ret, [.bool false], [])) := by
  have := for_all (f := round (C24.tab n) [3] [(.exit 0, []), (.ret, [2])] c29_1 e0 0 []) (fun i => ([.int .i64 i], [])) (List.range l.length) (fun i => match l[i]? with
    | some x => okS x && (if i = 0 then true else match l[i - 1]? with | some y => decide (y.ino < x.ino) | none => true)
    | none => true) (.exit 0, [], []) (.ret, [.bool false], [])
    (fun i hi => by
      simp only [List.length_range] at hi
      have hs := hs _ (List.getElem_mem hi)
      have hxe : l[i]? = some l[i] := List.getElem?_eq_getElem hi
      simp only [List.getElem_range, hxe]
      unfold okS
      rw [round_eq]
      cases i with
      | zero =>
        by_cases k1 : 1 ≤ l[0].ino <;> by_cases k2 : 0 ≤ l[0].ep <;> by_cases k3 : l[0].dat.length ≤ 4096 <;> simp -implicitDefEqProofs (disch := omega) [wrap_of, ilt_t, ilt_f, ile_t, ile_f, nlt_t, nlt_f, nle_t, nle_f, ieq_t, ieq_f, imin_l, imin_r, imax_l, imax_r, take_app1, take_map_all, b29_1, h0, hi, k1, k2, k3]
      | succ i =>
        have hye : l[i]? = some l[i] := List.getElem?_eq_getElem (by omega)
        have hi' : i < l.length := by omega
        simp only [Nat.add_one_sub_one, hye]
        by_cases k1 : 1 ≤ l[i + 1].ino <;> by_cases k2 : 0 ≤ l[i + 1].ep <;> by_cases k3 : l[i + 1].dat.length ≤ 4096 <;> by_cases k4 : l[i].ino < l[i + 1].ino <;> simp -implicitDefEqProofs (disch := omega) [wrap_of, ilt_t, ilt_f, ile_t, ile_f, nlt_t, nlt_f, nle_t, nle_f, ieq_t, ieq_f, imin_l, imin_r, imax_l, imax_r, take_app1, take_map_all, b29_1, h0, hi, hi', k1, k2, k3, k4])
    (by simp only [List.length_range]; simp -implicitDefEqProofs (disch := omega) [wrap_of, ilt_t, ilt_f, ile_t, ile_f, nlt_t, nlt_f, nle_t, nle_f, ieq_t, ieq_f, imin_l, imin_r, imax_l, imax_r, take_app1, take_map_all, round_eq, b29_1, h0])
  simp only [Int.natCast_zero] at this
  rw [this]
  rfl
/-- catacombref24.RightStored -/
theorem s29 {n : Nat} (hn : 26 < n) (l : List Stored) (hl : l.length ≤ 9223372036854775807) (hs : ∀ x ∈ l, x.dat.length ≤ 9223372036854775807) (f : Bool) :
    (C24.tab n).p 29 [.lst f (l.map S)] = some (.bool (rightS l)) := by
  rw [p29 hn, runP_eq, runH_eq]
  simp -implicitDefEqProofs (disch := omega) [wrap_of, ilt_t, ilt_f, ile_t, ile_f, nlt_t, nlt_f, nle_t, nle_f, ieq_t, ieq_f, imin_l, imin_r, imax_l, imax_r, take_app1, take_map_all, c29]
  rw [l29 l hl hs f _ (by simp -implicitDefEqProofs (disch := omega) [wrap_of, ilt_t, ilt_f, ile_t, ile_f, nlt_t, nlt_f, nle_t, nle_f, ieq_t, ieq_f, imin_l, imin_r, imax_l, imax_r, take_app1, take_map_all, ])]
  cases rightS l <;> simp -implicitDefEqProofs (disch := omega) [wrap_of, ilt_t, ilt_f, ile_t, ile_f, nlt_t, nlt_f, nle_t, nle_f, ieq_t, ieq_f, imin_l, imin_r, imax_l, imax_r, take_app1, take_map_all, ]
/-- catacomblaw24.stored -/
theorem s20 {n : Nat} (hn : 27 < n) (l : List Stored) (hl : l.length ≤ 9223372036854775807) (hs : ∀ x ∈ l, x.dat.length ≤ 9223372036854775807) (f : Bool) :
    (C24.tab n).p 20 [.lst f (l.map S)] = some (.bool (decide (l.length ≤ 30) && rightS l)) := by
  rw [p20 hn, runP_eq, runH_eq]
  by_cases h : l.length ≤ 30 <;> simp -implicitDefEqProofs (disch := omega) [wrap_of, ilt_t, ilt_f, ile_t, ile_f, nlt_t, nlt_f, nle_t, nle_f, ieq_t, ieq_f, imin_l, imin_r, imax_l, imax_r, take_app1, take_map_all, c20, a29, s29 (n := 27) (by omega) l hl hs, h]
def sameS1 (x y : Stored) : Bool := decide (x.ino = y.ino) && (decide (x.ep = y.ep) && decide (x.dat = y.dat))
theorem l23 {n : Nat} (hn : 4 < n) (a b : List Stored) (f g : Bool) (e0 : Env) (h0 : e0 0 = .lst f (a.map S)) (h1 : e0 1 = .lst g (b.map S)) (hl : a.length = b.length) (hb : a.length ≤ 9223372036854775807) (hs : ∀ d ∈ a, d.dat.length ≤ 9223372036854775807) :
    iter (round (C24.tab n) [5] [(.exit 0, []), (.ret, [4])] c23_1 e0 0 []) ([.int .i64 0], []) = some (if (a.zip b).all (fun x => sameS1 x.1 x.2) = true then (.exit 0, [], []) else (.ret, [.bool false], [])) :=
  for_cmp (f := round (C24.tab n) [5] [(.exit 0, []), (.ret, [4])] c23_1 e0 0 []) (fun i => ([.int .i64 i], [])) a b hl sameS1 _ _
    (fun i hi hi' => by
      have hs := hs _ (List.getElem_mem hi)
      simp -implicitDefEqProofs (disch := omega) [wrap_of, ilt_t, ilt_f, ile_t, ile_f, nlt_t, nlt_f, nle_t, nle_f, ieq_t, ieq_f, imin_l, imin_r, imax_l, imax_r, take_app1, take_map_all, round_eq, b23_1, h0, h1, hi, hi', s17 hn _ _ _ _ hs, sameS1]
      by_cases e1 : a[i].ino = b[i].ino <;> by_cases e2 : a[i].ep = b[i].ep <;> by_cases e3 : a[i].dat = b[i].dat <;> simp [e1, e2, e3])
    (by simp -implicitDefEqProofs (disch := omega) [wrap_of, ilt_t, ilt_f, ile_t, ile_f, nlt_t, nlt_f, nle_t, nle_f, ieq_t, ieq_f, imin_l, imin_r, imax_l, imax_r, take_app1, take_map_all, round_eq, b23_1, h0])
/-- Two rows of files: the same? -/
def sameS (a b : List Stored) : Bool := decide (a.length = b.length) && (a.zip b).all (fun x => sameS1 x.1 x.2)
/-- catacombref24.SameStored -/
theorem s23 {n : Nat} (hn : 15 < n) (a b : List Stored) (f g : Bool) (hb : a.length ≤ 9223372036854775807) (hs : ∀ d ∈ a, d.dat.length ≤ 9223372036854775807) : (C24.tab n).p 23 [.lst f (a.map S), .lst g (b.map S)] = some (.bool (sameS a b)) := by
  rw [p23 hn, runP_eq, runH_eq]
  by_cases hl : a.length = b.length
  · simp -implicitDefEqProofs (disch := omega) [wrap_of, ilt_t, ilt_f, ile_t, ile_f, nlt_t, nlt_f, nle_t, nle_f, ieq_t, ieq_f, imin_l, imin_r, imax_l, imax_r, take_app1, take_map_all, c23, hl]
    rw [l23 (by omega) a b f g _ (by simp -implicitDefEqProofs (disch := omega) [wrap_of, ilt_t, ilt_f, ile_t, ile_f, nlt_t, nlt_f, nle_t, nle_f, ieq_t, ieq_f, imin_l, imin_r, imax_l, imax_r, take_app1, take_map_all, ]) (by simp -implicitDefEqProofs (disch := omega) [wrap_of, ilt_t, ilt_f, ile_t, ile_f, nlt_t, nlt_f, nle_t, nle_f, ieq_t, ieq_f, imin_l, imin_r, imax_l, imax_r, take_app1, take_map_all, ]) hl hb hs]
    unfold sameS
    by_cases h : (a.zip b).all (fun x => sameS1 x.1 x.2) = true <;> simp -implicitDefEqProofs (disch := omega) [wrap_of, ilt_t, ilt_f, ile_t, ile_f, nlt_t, nlt_f, nle_t, nle_f, ieq_t, ieq_f, imin_l, imin_r, imax_l, imax_r, take_app1, take_map_all, h, hl]
  · simp -implicitDefEqProofs (disch := omega) [wrap_of, ilt_t, ilt_f, ile_t, ile_f, nlt_t, nlt_f, nle_t, nle_f, ieq_t, ieq_f, imin_l, imin_r, imax_l, imax_r, take_app1, take_map_all, c23, hl, sameS]
end Go.Proofs.Ytldgegojhaamoaa
