import Derived.Test.YtalckkfoplaeeaaA06
set_option linter.unusedSimpArgs false
set_option linter.unusedVariables false
namespace Go.Proofs.Ytalckkfoplaeeaa
open Go.Am Go.Am.Nm Go.Lib

/-- catacombref06.Right -/
theorem l17 {n : Nat} (s : List UInt8) (hl : s.length ≤ 9223372036854775806) (e0 : Env) (h0 : e0 0 = .str s) :
    iter (round (C06.tab n) [3] [(.exit 0, []), (.ret, [2])] c17_1 e0 0 []) ([.int .i64 0], []) = some (if s.all okb = true then (.exit 0, [], []) else (.ret, [.bool false], [])) :=
  for_all (f := round (C06.tab n) [3] [(.exit 0, []), (.ret, [2])] c17_1 e0 0 []) (fun i => ([.int .i64 i], [])) s okb _ _
    (fun i hi => by
      obtain ⟨x, hx⟩ : ∃ x, x = s[i] := ⟨_, rfl⟩
      rw [← hx]
      by_cases h1 : x.toNat < 32
      · have : ¬ okb x = true := by simp [okb, h1]
        rw [if_neg this]
        simp -implicitDefEqProofs (disch := omega) [wrap_of, ilt_t, ilt_f, ile_t, ile_f, nlt_t, nlt_f, nle_t, nle_f, ieq_t, ieq_f, imin_l, imin_r, imax_l, imax_r, take_app1, take_map_all, round_eq, b17_1, h0, hi, ← hx, h1]
      · by_cases h2 : x.toNat = 47
        · have : ¬ okb x = true := by simp [okb, h2]
          rw [if_neg this]
          simp -implicitDefEqProofs (disch := omega) [wrap_of, ilt_t, ilt_f, ile_t, ile_f, nlt_t, nlt_f, nle_t, nle_f, ieq_t, ieq_f, imin_l, imin_r, imax_l, imax_r, take_app1, take_map_all, round_eq, b17_1, h0, hi, ← hx, h1, h2]
        · have : okb x = true := by simp [okb, h1, h2]
          rw [if_pos this]
          simp -implicitDefEqProofs (disch := omega) [wrap_of, ilt_t, ilt_f, ile_t, ile_f, nlt_t, nlt_f, nle_t, nle_f, ieq_t, ieq_f, imin_l, imin_r, imax_l, imax_r, take_app1, take_map_all, round_eq, b17_1, h0, hi, ← hx, h1, h2])
    (by simp -implicitDefEqProofs (disch := omega) [wrap_of, ilt_t, ilt_f, ile_t, ile_f, nlt_t, nlt_f, nle_t, nle_f, ieq_t, ieq_f, imin_l, imin_r, imax_l, imax_r, take_app1, take_map_all, round_eq, b17_1, h0])
theorem s17 {n : Nat} (hn : 10 < n) (s : List UInt8) : (C06.tab n).p 17 [.str s] = some (.bool (rightN s)) := by
  rw [p17 hn, runP_eq, runH_eq]
  by_cases h0 : s = []
  · subst h0
    simp -implicitDefEqProofs (disch := omega) [wrap_of, ilt_t, ilt_f, ile_t, ile_f, nlt_t, nlt_f, nle_t, nle_f, ieq_t, ieq_f, imin_l, imin_r, imax_l, imax_r, take_app1, take_map_all, c17, rightN]
  · have h0' : 0 < s.length := List.length_pos_iff.2 h0
    by_cases h1 : 32 < s.length
    · simp -implicitDefEqProofs (disch := omega) [wrap_of, ilt_t, ilt_f, ile_t, ile_f, nlt_t, nlt_f, nle_t, nle_f, ieq_t, ieq_f, imin_l, imin_r, imax_l, imax_r, take_app1, take_map_all, c17, rightN, h0, h1]
    · by_cases h2 : s = [46]
      · subst h2
        simp -implicitDefEqProofs (disch := omega) [wrap_of, ilt_t, ilt_f, ile_t, ile_f, nlt_t, nlt_f, nle_t, nle_f, ieq_t, ieq_f, imin_l, imin_r, imax_l, imax_r, take_app1, take_map_all, c17, rightN, strBin]
      · by_cases h3 : s = [46, 46]
        · subst h3
          simp -implicitDefEqProofs (disch := omega) [wrap_of, ilt_t, ilt_f, ile_t, ile_f, nlt_t, nlt_f, nle_t, nle_f, ieq_t, ieq_f, imin_l, imin_r, imax_l, imax_r, take_app1, take_map_all, c17, rightN, strBin]
        · simp -implicitDefEqProofs (disch := omega) [wrap_of, ilt_t, ilt_f, ile_t, ile_f, nlt_t, nlt_f, nle_t, nle_f, ieq_t, ieq_f, imin_l, imin_r, imax_l, imax_r, take_app1, take_map_all, c17, strBin, h1, h2, h3]
          rw [l17 s (by omega) _ (by simp -implicitDefEqProofs (disch := omega) [wrap_of, ilt_t, ilt_f, ile_t, ile_f, nlt_t, nlt_f, nle_t, nle_f, ieq_t, ieq_f, imin_l, imin_r, imax_l, imax_r, take_app1, take_map_all, ])]
          by_cases ha : s.all okb = true
          · have : rightN s = true := by simp only [rightN, h0, h1, h2, h3, ha]; rfl
            rw [if_pos ha]
            simp -implicitDefEqProofs (disch := omega) [wrap_of, ilt_t, ilt_f, ile_t, ile_f, nlt_t, nlt_f, nle_t, nle_f, ieq_t, ieq_f, imin_l, imin_r, imax_l, imax_r, take_app1, take_map_all, this]
          · have : rightN s = false := by
              have : s.all okb = false := by simpa using ha
              simp only [rightN, this, Bool.and_false]
            rw [if_neg ha]
            simp -implicitDefEqProofs (disch := omega) [wrap_of, ilt_t, ilt_f, ile_t, ile_f, nlt_t, nlt_f, nle_t, nle_f, ieq_t, ieq_f, imin_l, imin_r, imax_l, imax_r, take_app1, take_map_all, this]
/-- catacombref06.Join -/
theorem l22 {n : Nat} (l : List (List UInt8)) (f : Bool) (hl : Fits l) (e0 : Env) (h0 : e0 0 = .lst f (l.map AV.str)) :
    iter (round (C06.tab n) [3, 4] [(.exit 0, [3])] c22_1 e0 0 []) ([.str [], .int .i64 0], []) = some (.exit 0, [.str (joinTail [47] l)], []) := by
  obtain ⟨hl1, _⟩ := hl.two
  unfold Fits at hl
  have := for_list (f := round (C06.tab n) [3, 4] [(.exit 0, [3])] c22_1 e0 0 []) (fun i (a : List UInt8) => ([.str a, .int .i64 i], [])) l (fun a x => a ++ [47] ++ x) (fun a => (.exit 0, [.str a], [])) (fun i a => a = joinTail [47] (l.take i))
    (fun i hi a ha => by
      obtain ⟨x, hx⟩ : ∃ x, x = l[i] := ⟨_, rfl⟩
      rw [← hx]
      have hs := joinTail_take_succ [47] l i x (by rw [hx]; exact List.getElem?_eq_getElem hi)
      have hle := joinTail_take_le [47] l (i + 1)
      rw [hs] at hle
      rw [← ha] at hs hle
      simp only [List.length_append, List.length_cons, List.length_nil] at hle
      refine ⟨hs.symm, ?_⟩
      simp -implicitDefEqProofs (disch := omega) [wrap_of, ilt_t, ilt_f, ile_t, ile_f, nlt_t, nlt_f, nle_t, nle_f, ieq_t, ieq_f, imin_l, imin_r, imax_l, imax_r, take_app1, take_map_all, round_eq, b22_1, h0, hi, ← hx])
    (fun a _ => by simp -implicitDefEqProofs (disch := omega) [wrap_of, ilt_t, ilt_f, ile_t, ile_f, nlt_t, nlt_f, nle_t, nle_f, ieq_t, ieq_f, imin_l, imin_r, imax_l, imax_r, take_app1, take_map_all, round_eq, b22_1, h0]) [] rfl
  simp only [Int.natCast_zero] at this
  rw [this]
  have e : ∀ (l : List (List UInt8)) (a : List UInt8), l.foldl (fun a x => a ++ [47] ++ x) a = a ++ joinTail [47] l := by
    intro l
    induction l with
    | nil => intro a; simp [joinTail]
    | cons d l ih => intro a; rw [List.foldl_cons, ih, joinTail_cons]; simp
  rw [e]
  rfl
theorem s22 {n : Nat} (hn : 12 < n) (l : List (List UInt8)) (f : Bool) (hl : Fits l) : (C06.tab n).p 22 [.lst f (l.map AV.str)] = some (.str (jn l)) := by
  rw [p22 hn, runP_eq, runH_eq]
  obtain ⟨hl1, _⟩ := hl.two
  by_cases h0 : l = []
  · subst h0
    simp -implicitDefEqProofs (disch := omega) [wrap_of, ilt_t, ilt_f, ile_t, ile_f, nlt_t, nlt_f, nle_t, nle_f, ieq_t, ieq_f, imin_l, imin_r, imax_l, imax_r, take_app1, take_map_all, c22, jn]
  · have h0' : 0 < l.length := List.length_pos_iff.2 h0
    have : jn l = joinTail [47] l := by
      unfold jn
      rw [if_neg h0]
      cases l with
      | nil => exact absurd rfl h0
      | cons x r => rw [join_cons, joinTail_cons]
    simp -implicitDefEqProofs (disch := omega) [wrap_of, ilt_t, ilt_f, ile_t, ile_f, nlt_t, nlt_f, nle_t, nle_f, ieq_t, ieq_f, imin_l, imin_r, imax_l, imax_r, take_app1, take_map_all, c22, h0]
    rw [l22 l f hl _ (by simp -implicitDefEqProofs (disch := omega) [wrap_of, ilt_t, ilt_f, ile_t, ile_f, nlt_t, nlt_f, nle_t, nle_f, ieq_t, ieq_f, imin_l, imin_r, imax_l, imax_r, take_app1, take_map_all, ])]
    simp -implicitDefEqProofs (disch := omega) [wrap_of, ilt_t, ilt_f, ile_t, ile_f, nlt_t, nlt_f, nle_t, nle_f, ieq_t, ieq_f, imin_l, imin_r, imax_l, imax_r, take_app1, take_map_all, this]
/-- catacombref06.Names -/
def namesG (s : List (List UInt8)) (x : List UInt8) : List (List UInt8) ⊕ List (List UInt8) := if s.length < 12 then .inl (if rightN x = true then s ++ [x] else s) else .inr s
def namesF (l : List (List UInt8)) : List (List UInt8) := match foldE namesG (l.take 200) [] with
  | .inl s => s
  | .inr s => s
theorem namesF_ok (l : List (List UInt8)) : (namesF l).length ≤ 12 ∧ (namesF l).all rightN = true := by
  have e : ∀ (l s : List (List UInt8)), s.length ≤ 12 → s.all rightN = true → ∀ t, foldE namesG l s = .inl t ∨ foldE namesG l s = .inr t → t.length ≤ 12 ∧ t.all rightN = true := by
    intro l
    induction l with
    | nil =>
      intro s h1 h2 t ht
      simp only [foldE] at ht
      rcases ht with ht | ht <;> cases ht
      exact ⟨h1, h2⟩
    | cons x l ih =>
      intro s h1 h2 t ht
      simp only [foldE, namesG] at ht
      by_cases h : s.length < 12
      · rw [if_pos h] at ht
        by_cases hx : rightN x = true
        · rw [if_pos hx] at ht
          exact ih _ (by simp; omega) (by simp only [List.all_append, h2, List.all_cons, hx, List.all_nil]; rfl) t ht
        · rw [if_neg hx] at ht
          exact ih _ h1 h2 t ht
      · rw [if_neg h] at ht
        rcases ht with ht | ht <;> cases ht
        exact ⟨h1, h2⟩
  unfold namesF
  split
  · rename_i s hs
    exact e _ [] (by simp) rfl s (.inl hs)
  · rename_i s hs
    exact e _ [] (by simp) rfl s (.inr hs)
theorem l23 {n : Nat} (hn : 10 < n) (l : List (List UInt8)) (f : Bool) (hl : l.length ≤ 9223372036854775807) (e0 : Env) (h0 : e0 0 = .lst f (l.map AV.str)) :
    iter (round (C06.tab n) [3, 4] [(.exit 0, [3])] c23_1 e0 1 [0]) ([.own 0 0 0 0, .int .i64 0], [.row 0 1 []]) = some (.exit 0, [.own 0 0 0 (namesF l).length], [.row 0 1 ((namesF l).map AV.str)]) := by
  have := for_listE (f := round (C06.tab n) [3, 4] [(.exit 0, [3])] c23_1 e0 1 [0]) (fun i (a : List (List UInt8)) => ([.own 0 0 0 a.length, .int .i64 i], [.row 0 1 (a.map AV.str)])) (l.take 200)
    (fun a x => if a.length < 12 then .inl (if rightN x = true then a ++ [x] else a) else .inr (.exit 0, [.own 0 0 0 a.length], [.row 0 1 (a.map AV.str)])) (fun a => (.exit 0, [.own 0 0 0 a.length], [.row 0 1 (a.map AV.str)])) (fun i a => a.length ≤ 12)
    (fun i hi a ha => by
      have hi1 : i < 200 := by simp at hi; omega
      have hi2 : i < l.length := by simp at hi; omega
      have e : (l.take 200)[i] = l[i] := by simp
      rw [e]
      obtain ⟨x, hx⟩ : ∃ x, x = l[i] := ⟨_, rfl⟩
      rw [← hx]
      have h17 := s17 (n := n) hn x
      by_cases h12 : a.length < 12
      · rw [if_pos h12]
        by_cases hr : rightN x = true
        · rw [if_pos hr]
          rw [hr] at h17
          refine ⟨by simp; omega, ?_⟩
          simp -implicitDefEqProofs (disch := omega) [wrap_of, ilt_t, ilt_f, ile_t, ile_f, nlt_t, nlt_f, nle_t, nle_f, ieq_t, ieq_f, imin_l, imin_r, imax_l, imax_r, take_app1, take_map_all, round_eq, b23_1, h0, hi1, hi2, ← hx, h12, a17, h17]
        · rw [if_neg hr]
          have hr' : rightN x = false := by simpa using hr
          rw [hr'] at h17
          refine ⟨ha, ?_⟩
          simp -implicitDefEqProofs (disch := omega) [wrap_of, ilt_t, ilt_f, ile_t, ile_f, nlt_t, nlt_f, nle_t, nle_f, ieq_t, ieq_f, imin_l, imin_r, imax_l, imax_r, take_app1, take_map_all, round_eq, b23_1, h0, hi1, hi2, ← hx, h12, a17, h17]
      · rw [if_neg h12]
        simp -implicitDefEqProofs (disch := omega) [wrap_of, ilt_t, ilt_f, ile_t, ile_f, nlt_t, nlt_f, nle_t, nle_f, ieq_t, ieq_f, imin_l, imin_r, imax_l, imax_r, take_app1, take_map_all, round_eq, b23_1, h0, hi1, hi2, h12])
    (fun a ha => by
      by_cases h20 : l.length < 200
      · have : (l.take 200).length = l.length := by simp; omega
        rw [this]
        simp -implicitDefEqProofs (disch := omega) [wrap_of, ilt_t, ilt_f, ile_t, ile_f, nlt_t, nlt_f, nle_t, nle_f, ieq_t, ieq_f, imin_l, imin_r, imax_l, imax_r, take_app1, take_map_all, round_eq, b23_1, h0]
      · have : (l.take 200).length = 200 := by simp; omega
        rw [this]
        simp -implicitDefEqProofs (disch := omega) [wrap_of, ilt_t, ilt_f, ile_t, ile_f, nlt_t, nlt_f, nle_t, nle_f, ieq_t, ieq_f, imin_l, imin_r, imax_l, imax_r, take_app1, take_map_all, round_eq, b23_1, h0]) [] (by simp)
  simp only [List.length_nil, List.map_nil, Int.natCast_zero] at this
  rw [this]
  have e : ∀ (l s t : List (List UInt8)), (foldE namesG l s = .inl t → foldE (fun (a : List (List UInt8)) x => if a.length < 12 then Sum.inl (if rightN x = true then a ++ [x] else a) else Sum.inr ((AX.exit 0, [AV.own 0 0 0 a.length], [AB.row 0 1 (a.map AV.str)]) : AX × List AV × AH)) l s = .inl t) ∧
      (foldE namesG l s = .inr t → foldE (fun (a : List (List UInt8)) x => if a.length < 12 then Sum.inl (if rightN x = true then a ++ [x] else a) else Sum.inr ((AX.exit 0, [AV.own 0 0 0 a.length], [AB.row 0 1 (a.map AV.str)]) : AX × List AV × AH)) l s = .inr (AX.exit 0, [AV.own 0 0 0 t.length], [AB.row 0 1 (t.map AV.str)])) := by
    intro l
    induction l with
    | nil => intro s t; exact ⟨fun h => by cases h; rfl, fun h => by cases h⟩
    | cons x l ih =>
      intro s t
      simp only [foldE, namesG]
      by_cases h : s.length < 12
      · rw [if_pos h, if_pos h]; exact ih _ t
      · rw [if_neg h, if_neg h]
        exact ⟨fun h => (by cases h), fun h => (by cases h; rfl)⟩
  unfold namesF
  cases hf : foldE namesG (l.take 200) [] with
  | inl t => rw [(e _ [] t).1 hf]
  | inr t => rw [(e _ [] t).2 hf]
theorem s23 {n : Nat} (hn : 18 < n) (l : List (List UInt8)) (f : Bool) (hl : l.length ≤ 9223372036854775807) : (C06.tab n).p 23 [.lst f (l.map AV.str)] = some (.lst false ((namesF l).map AV.str)) := by
  rw [p23 hn, runP_eq, runH_eq]
  simp -implicitDefEqProofs (disch := omega) [wrap_of, ilt_t, ilt_f, ile_t, ile_f, nlt_t, nlt_f, nle_t, nle_f, ieq_t, ieq_f, imin_l, imin_r, imax_l, imax_r, take_app1, take_map_all, c23]
  rw [l23 (by decide) l f hl _ (by simp -implicitDefEqProofs (disch := omega) [wrap_of, ilt_t, ilt_f, ile_t, ile_f, nlt_t, nlt_f, nle_t, nle_f, ieq_t, ieq_f, imin_l, imin_r, imax_l, imax_r, take_app1, take_map_all, ])]
  simp -implicitDefEqProofs (disch := omega) [wrap_of, ilt_t, ilt_f, ile_t, ile_f, nlt_t, nlt_f, nle_t, nle_f, ieq_t, ieq_f, imin_l, imin_r, imax_l, imax_r, take_app1, take_map_all, ]
end Go.Proofs.Ytalckkfoplaeeaa
