import Derived.Test.YtlooipgkklaijaaB18
set_option linter.unusedSimpArgs false
set_option linter.unusedVariables false
namespace Go.Proofs.Ytlooipgkklaijaa
open Go.Am Go.Am.Nm Go.Lib Go.Am.Sh

/-- A piece's path; what is not there has none. -/
def pat (l : List P) (k : Nat) : List UInt8 := (l[k]?).elim [] P.pa
theorem pat_of {l : List P} {k : Nat} (h : k < l.length) : pat l k = l[k].pa := by simp [pat, h]
def upB (l : List P) : Bool := (List.range (l.length - 1)).all fun k => !sLess (pat l (k + 1)) (pat l k)
theorem cmp_neg {a b : List UInt8} : compareBytes a b < 0 ↔ sLess a b = true := by
  rw [compare_eq]
  by_cases h : a = b
  · subst h
    rw [if_pos rfl, Kp.sLess_irrefl]; simp
  · rw [if_neg h]
    cases sLess a b <;> simp
theorem l36 {n : Nat} (hn : 2 < n) (l : List P) (hl0 : 0 < l.length) (hl : l.length ≤ 1000000) (f : Bool) (e0 : Env) (h0 : e0 0 = .lst f (l.map D)) (h1 : e0 1 = .fn (.func 30) [] []) :
    iter (round (C18.tab n) [5] [(.exit 0, []), (.ret, [4])] c36_1 e0 0 []) ([.int .i64 ((l.length - 1 : Nat) : Int)], []) = some (if upB l = true then (.exit 0, [], []) else (.ret, [.bool false], [])) := by
  have := for_down (f := round (C18.tab n) [5] [(.exit 0, []), (.ret, [4])] c36_1 e0 0 []) (fun i => ([.int .i64 (i : Int)], [])) (l.length - 1) (fun i => if sLess (pat l (i + 1)) (pat l i) = true then some (.ret, [.bool false], []) else none) (.exit 0, [], [])
    (fun i hi => by
      have h1' : i + 1 < l.length := by omega
      have h2' : i < l.length := by omega
      obtain ⟨x, hx⟩ : ∃ x, x = l[i + 1] := ⟨_, rfl⟩
      obtain ⟨y, hy⟩ : ∃ y, y = l[i] := ⟨_, rfl⟩
      have h30 := s30 (n := n) hn x y
      have hc := cmp_neg (a := x.pa) (b := y.pa)
      rw [pat_of h1', pat_of h2', ← hx, ← hy]
      simp only [D] at h30
      cases hs : sLess x.pa y.pa with
      | true =>
        rw [hs] at hc
        have hc' : compareBytes x.pa y.pa < 0 := hc.2 rfl
        simp only [if_true]
        simp -implicitDefEqProofs (disch := omega) [wrap_of, ilt_t, ilt_f, ile_t, ile_f, nlt_t, nlt_f, nle_t, nle_f, ieq_t, ieq_f, imin_l, imin_r, imax_l, imax_r, take_app1, take_map_all, round_eq, b36_1, h0, h1, h1', h2', ← hx, ← hy, a30, h30, hc']
      | false =>
        rw [hs] at hc
        have hc' : ¬ compareBytes x.pa y.pa < 0 := fun h => by cases hc.1 h
        simp only [Bool.false_eq_true, if_false]
        simp -implicitDefEqProofs (disch := omega) [wrap_of, ilt_t, ilt_f, ile_t, ile_f, nlt_t, nlt_f, nle_t, nle_f, ieq_t, ieq_f, imin_l, imin_r, imax_l, imax_r, take_app1, take_map_all, round_eq, b36_1, h0, h1, h1', h2', ← hx, ← hy, a30, h30, hc'])
    (by simp -implicitDefEqProofs (disch := omega) [wrap_of, ilt_t, ilt_f, ile_t, ile_f, nlt_t, nlt_f, nle_t, nle_f, ieq_t, ieq_f, imin_l, imin_r, imax_l, imax_r, take_app1, take_map_all, round_eq, b36_1, h0]) (l.length - 1) (Nat.le_refl _)
  rw [this]
  unfold upB
  by_cases hu : (List.range (l.length - 1)).all (fun k => !sLess (pat l (k + 1)) (pat l k)) = true
  · rw [if_pos hu]
    have : (List.range (l.length - 1)).reverse.findSome? (fun i => if sLess (pat l (i + 1)) (pat l i) = true then some ((AX.ret, [AV.bool false], []) : AX × List AV × AH) else none) = none := by
      rw [List.findSome?_eq_none_iff]
      intro i hi
      have := List.all_eq_true.1 hu i (List.mem_reverse.1 hi)
      rw [if_neg]
      simpa using this
    rw [this]; rfl
  · rw [if_neg hu]
    cases hf : (List.range (l.length - 1)).reverse.findSome? (fun i => if sLess (pat l (i + 1)) (pat l i) = true then some ((AX.ret, [AV.bool false], []) : AX × List AV × AH) else none) with
    | none =>
      exfalso
      apply hu
      rw [List.all_eq_true]
      intro i hi
      rw [List.findSome?_eq_none_iff] at hf
      have := hf i (List.mem_reverse.2 hi)
      cases hs : sLess (pat l (i + 1)) (pat l i) with
      | false => rfl
      | true => rw [hs] at this; simp at this
    | some y =>
      obtain ⟨i, _, hy⟩ := List.exists_of_findSome?_eq_some hf
      split at hy
      · cases hy; rfl
      · cases hy
/-- slices.IsSortedFunc -/
theorem s36 {n : Nat} (hn : 16 < n) (l : List P) (hl0 : 0 < l.length) (hl : l.length ≤ 1000000) (f : Bool) : callA (C18.tab n) 36 [.lst f (l.map D), .fn (.func 30) [] []] [] = some (.bool (upB l), []) := by
  rw [p36 hn, runH_eq]
  have e : (l.length : Int) - 1 = ((l.length - 1 : Nat) : Int) := by omega
  simp -implicitDefEqProofs (disch := omega) [wrap_of, ilt_t, ilt_f, ile_t, ile_f, nlt_t, nlt_f, nle_t, nle_f, ieq_t, ieq_f, imin_l, imin_r, imax_l, imax_r, take_app1, take_map_all, c36, e]
  rw [l36 (by decide) l hl0 hl f _ (by simp -implicitDefEqProofs (disch := omega) [wrap_of, ilt_t, ilt_f, ile_t, ile_f, nlt_t, nlt_f, nle_t, nle_f, ieq_t, ieq_f, imin_l, imin_r, imax_l, imax_r, take_app1, take_map_all, ]) (by simp -implicitDefEqProofs (disch := omega) [wrap_of, ilt_t, ilt_f, ile_t, ile_f, nlt_t, nlt_f, nle_t, nle_f, ieq_t, ieq_f, imin_l, imin_r, imax_l, imax_r, take_app1, take_map_all, ])]
  cases hu : upB l <;> simp -implicitDefEqProofs (disch := omega) [wrap_of, ilt_t, ilt_f, ile_t, ile_f, nlt_t, nlt_f, nle_t, nle_f, ieq_t, ieq_f, imin_l, imin_r, imax_l, imax_r, take_app1, take_map_all, ]
theorem l58 {n : Nat} (hn : 6 < n) (l : List P) (hl : l.length ≤ 1000000) (f : Bool) (e0 : Env) (h0 : e0 0 = .lst f (l.map D)) (h1 : e0 1 = .fn (.func 32) [] []) (h7 : e0 7 = .int .i64 l.length) :
    iter (round (C18.tab n) [8] [(.exit 0, []), (.ret, [4])] c58_1 e0 0 []) ([.int .i64 0], []) = some ((l.find? fun p => !okOne p).elim (.exit 0, [], []) fun _ => (.ret, [.int .i64 ((l.findIdx fun p => !okOne p : Nat) : Int)], [])) := by
  have := for_idx (f := round (C18.tab n) [8] [(.exit 0, []), (.ret, [4])] c58_1 e0 0 []) (fun i => ([.int .i64 (i : Int)], [])) l (fun p => !okOne p) (fun i _ => (.ret, [.int .i64 (i : Int)], [])) (.exit 0, [], [])
    (fun i hi => by
      obtain ⟨x, hx⟩ : ∃ x, x = l[i] := ⟨_, rfl⟩
      have h32 := s32 (n := n) hn x
      simp only [D] at h32
      rw [← hx]
      cases hs : okOne x <;> rw [hs] at h32 <;> simp -implicitDefEqProofs (disch := omega) [wrap_of, ilt_t, ilt_f, ile_t, ile_f, nlt_t, nlt_f, nle_t, nle_f, ieq_t, ieq_f, imin_l, imin_r, imax_l, imax_r, take_app1, take_map_all, round_eq, b58_1, h0, h1, h7, hi, ← hx, a32, h32])
    (by simp -implicitDefEqProofs (disch := omega) [wrap_of, ilt_t, ilt_f, ile_t, ile_f, nlt_t, nlt_f, nle_t, nle_f, ieq_t, ieq_f, imin_l, imin_r, imax_l, imax_r, take_app1, take_map_all, round_eq, b58_1, h0, h7])
  rw [← this]; rfl
/-- slices.ContainsFunc -/
theorem s37 {n : Nat} (hn : 18 < n) (l : List P) (hl : l.length ≤ 1000000) (f : Bool) : callA (C18.tab n) 37 [.lst f (l.map D), .fn (.func 32) [] []] [] = some (.bool (!l.all okOne), []) := by
  rw [p37 hn, runH_eq]
  have h58 : callA (C18.tab 18) 58 [.lst f (l.map D), .fn (.func 32) [] []] [] = some (.int .i64 ((l.find? fun p => !okOne p).elim (-1) fun _ => ((l.findIdx fun p => !okOne p : Nat) : Int)), []) := by
    rw [p58 (by decide), runH_eq]
    simp -implicitDefEqProofs (disch := omega) [wrap_of, ilt_t, ilt_f, ile_t, ile_f, nlt_t, nlt_f, nle_t, nle_f, ieq_t, ieq_f, imin_l, imin_r, imax_l, imax_r, take_app1, take_map_all, c58]
    rw [l58 (by decide) l hl f _ (by simp -implicitDefEqProofs (disch := omega) [wrap_of, ilt_t, ilt_f, ile_t, ile_f, nlt_t, nlt_f, nle_t, nle_f, ieq_t, ieq_f, imin_l, imin_r, imax_l, imax_r, take_app1, take_map_all, ]) (by simp -implicitDefEqProofs (disch := omega) [wrap_of, ilt_t, ilt_f, ile_t, ile_f, nlt_t, nlt_f, nle_t, nle_f, ieq_t, ieq_f, imin_l, imin_r, imax_l, imax_r, take_app1, take_map_all, ]) (by simp -implicitDefEqProofs (disch := omega) [wrap_of, ilt_t, ilt_f, ile_t, ile_f, nlt_t, nlt_f, nle_t, nle_f, ieq_t, ieq_f, imin_l, imin_r, imax_l, imax_r, take_app1, take_map_all, ])]
    cases l.find? fun p => !okOne p <;> simp -implicitDefEqProofs (disch := omega) [wrap_of, ilt_t, ilt_f, ile_t, ile_f, nlt_t, nlt_f, nle_t, nle_f, ieq_t, ieq_f, imin_l, imin_r, imax_l, imax_r, take_app1, take_map_all, ]
  cases hf : l.find? fun p => !okOne p with
  | none =>
    rw [hf] at h58
    have : l.all okOne = true := by
      rw [List.all_eq_true]
      intro x hx
      rw [List.find?_eq_none] at hf
      simpa using hf x hx
    simp -implicitDefEqProofs (disch := omega) [wrap_of, ilt_t, ilt_f, ile_t, ile_f, nlt_t, nlt_f, nle_t, nle_f, ieq_t, ieq_f, imin_l, imin_r, imax_l, imax_r, take_app1, take_map_all, c37, h58, this]
  | some x =>
    rw [hf] at h58
    have : l.all okOne = false := by
      cases h : l.all okOne with
      | false => rfl
      | true =>
        have h1 := List.mem_of_find?_eq_some hf
        have h2 := List.find?_some hf
        have := List.all_eq_true.1 h x h1
        rw [this] at h2; cases h2
    simp -implicitDefEqProofs (disch := omega) [wrap_of, ilt_t, ilt_f, ile_t, ile_f, nlt_t, nlt_f, nle_t, nle_f, ieq_t, ieq_f, imin_l, imin_r, imax_l, imax_r, take_app1, take_map_all, c37, h58, this]
end Go.Proofs.Ytlooipgkklaijaa
