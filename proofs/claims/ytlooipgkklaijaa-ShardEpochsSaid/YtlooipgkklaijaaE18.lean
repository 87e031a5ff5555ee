import Derived.Test.YtlooipgkklaijaaC18
set_option linter.unusedSimpArgs false
set_option linter.unusedVariables false
namespace Go.Proofs.Ytlooipgkklaijaa
open Go.Am Go.Am.Nm Go.Lib Go.Am.Sh

theorem foldE_find {α τ : Type} (p : α → Prop) [DecidablePred p] (hit : α → τ) : ∀ L : List α, foldE (fun (_ : Unit) k => if p k then .inr (hit k) else .inl ()) L () = (L.find? fun k => decide (p k)).elim (.inl ()) fun k => .inr (hit k)
  | [] => rfl
  | x :: L => by
    simp only [foldE, List.find?_cons]
    by_cases h : p x
    · rw [if_pos h, decide_eq_true h]; rfl
    · rw [if_neg h, decide_eq_false h]; exact foldE_find p hit L
/-- slices.CompactFunc: a round behind the first twins. -/
def cmpG (k0 : Nat) (s : Nat × List P) (j : Nat) : Nat × List P := if pat s.2 (k0 + 1 + j) = pat s.2 (k0 + j) then s else (s.1 + 1, s.2.set s.1 ((s.2[k0 + 1 + j]?).getD ⟨[], 0, 0⟩))
theorem l38a {n : Nat} (hn : 7 < n) (l : List P) (hl : l.length ≤ 1000000) (k0 : Nat) (hk0 : k0 < l.length) (e0 : Env) (h0 : e0 0 = .own 0 0 0 l.length) (h1 : e0 1 = .fn (.func 35) [] []) (h6 : e0 6 = .own 0 0 k0 (l.length - k0)) :
    iter (round (C18.tab n) [5, 7] [(.exit 2, [5])] c38_1 e0 1 []) ([.int .i64 (k0 : Int), .int .i64 1], [.row 0 3 (l.map D)]) =
      some (.exit 2, [.int .i64 (((List.range (l.length - k0 - 1)).foldl (cmpG k0) (k0, l)).1 : Nat)], [.row 0 3 (((List.range (l.length - k0 - 1)).foldl (cmpG k0) (k0, l)).2.map D)]) ∧
    ((List.range (l.length - k0 - 1)).foldl (cmpG k0) (k0, l)).1 < l.length ∧ ((List.range (l.length - k0 - 1)).foldl (cmpG k0) (k0, l)).2.length = l.length := by
  have step : ∀ j, j < l.length - k0 - 1 → ∀ s : Nat × List P, s.2.length = l.length ∧ s.1 ≤ k0 + j → ((cmpG k0 s j).2.length = l.length ∧ (cmpG k0 s j).1 ≤ k0 + (j + 1)) ∧
      round (C18.tab n) [5, 7] [(.exit 2, [5])] c38_1 e0 1 [] ([.int .i64 (s.1 : Int), .int .i64 ((j : Int) + 1)], [.row 0 3 (s.2.map D)]) = some (.inl ([.int .i64 ((cmpG k0 s j).1 : Int), .int .i64 ((j : Int) + 1 + 1)], [.row 0 3 ((cmpG k0 s j).2.map D)])) := by
    rintro j hj ⟨k, ks⟩ ⟨hs1, hs2⟩
    simp only at hs1 hs2
    have b1 : k0 + 1 + j < ks.length := by omega
    have b2 : k0 + j < ks.length := by omega
    have b3 : k < ks.length := by omega
    obtain ⟨x, hx⟩ : ∃ x, x = ks[k0 + 1 + j] := ⟨_, rfl⟩
    obtain ⟨y, hy⟩ : ∃ y, y = ks[k0 + j] := ⟨_, rfl⟩
    have h35 := s35 (n := n) hn x y
    simp only [D] at h35
    have e1 : k0 + (j + 1) = k0 + 1 + j := by omega
    have hx' : ks[k0 + 1 + j]? = some x := by rw [hx]; exact List.getElem?_eq_getElem b1
    have hy' : ks[k0 + j]? = some y := by rw [hy]; exact List.getElem?_eq_getElem b2
    have hjl : j + 1 < l.length - k0 := by omega
    unfold cmpG
    rw [pat_of b1, pat_of b2, ← hx, ← hy]
    by_cases hxy : x.pa = y.pa
    · rw [if_pos hxy]
      rw [hxy] at h35
      refine ⟨⟨hs1, by simp only; omega⟩, ?_⟩
      simp -implicitDefEqProofs (disch := omega) [wrap_of, ilt_t, ilt_f, ile_t, ile_f, nlt_t, nlt_f, nle_t, nle_f, ieq_t, ieq_f, imin_l, imin_r, imax_l, imax_r, take_app1, take_map_all, round_eq, b38_1, h0, h1, h6, b1, b2, e1, ← hx, ← hy, a35, h35, hxy, hjl]
    · rw [if_neg hxy, hx']
      refine ⟨⟨by simpa using hs1, by simp only; omega⟩, ?_⟩
      simp -implicitDefEqProofs (disch := omega) [wrap_of, ilt_t, ilt_f, ile_t, ile_f, nlt_t, nlt_f, nle_t, nle_f, ieq_t, ieq_f, imin_l, imin_r, imax_l, imax_r, take_app1, take_map_all, round_eq, b38_1, h0, h1, h6, b1, b2, b3, e1, ← hx, ← hy, a35, h35, hxy, hjl]
  have inv := fold_inv (List.range (l.length - k0 - 1)) (cmpG k0) (fun i s => s.2.length = l.length ∧ s.1 ≤ k0 + i) 0 (k0, l) (fun i hi s hs => by
    rw [List.getElem_range]
    rw [Nat.zero_add] at hs ⊢
    exact (step i (by simpa using hi) s hs).1) ⟨rfl, Nat.le_refl _⟩
  rw [Nat.zero_add, List.length_range] at inv
  refine ⟨?_, by omega, inv.1⟩
  have := for_list (f := round (C18.tab n) [5, 7] [(.exit 2, [5])] c38_1 e0 1 []) (fun j (s : Nat × List P) => ([.int .i64 (s.1 : Int), .int .i64 ((j : Int) + 1)], [.row 0 3 (s.2.map D)])) (List.range (l.length - k0 - 1)) (cmpG k0) (fun s => (.exit 2, [.int .i64 (s.1 : Int)], [.row 0 3 (s.2.map D)]))
    (fun j s => s.2.length = l.length ∧ s.1 ≤ k0 + j)
    (fun j hj s hs => by
      rw [List.getElem_range]
      obtain ⟨q1, q2⟩ := step j (by simpa using hj) s hs
      refine ⟨q1, ?_⟩
      rw [q2]
      simp)
    (fun s hs => by
      rw [List.length_range]
      have e : ¬ (((l.length - k0 - 1 : Nat) : Int) + 1 < ((l.length - k0 : Nat) : Int)) := by omega
      simp -implicitDefEqProofs (disch := omega) [wrap_of, ilt_t, ilt_f, ile_t, ile_f, nlt_t, nlt_f, nle_t, nle_f, ieq_t, ieq_f, imin_l, imin_r, imax_l, imax_r, take_app1, take_map_all, round_eq, b38_1, h6, e]) (k0, l) ⟨rfl, Nat.le_refl _⟩
  simpa using this
def neB (l : List P) : Bool := (List.range (l.length - 1)).all fun k => !decide (pat l (k + 1) = pat l k)
theorem l38b {n : Nat} (hn : 7 < n) (l : List P) (hl : l.length ≤ 1000000) (h2 : 2 ≤ l.length) (e0 : Env) (h0 : e0 0 = .own 0 0 0 l.length) (h1 : e0 1 = .fn (.func 35) [] []) :
    iter (round (C18.tab n) [5] [(.exit 0, []), (.ret, [4])] c38_2 e0 1 []) ([.int .i64 1], [.row 0 3 (l.map D)]) =
      some (((List.range (l.length - 1)).find? fun k => decide (pat l (k + 1) = pat l k)).elim (.exit 0, [], [.row 0 3 (l.map D)]) fun k =>
        (.ret, [.own 0 0 0 ((List.range (l.length - (k + 1) - 1)).foldl (cmpG (k + 1)) (k + 1, l)).1], [.row 0 3 (over (((List.range (l.length - (k + 1) - 1)).foldl (cmpG (k + 1)) (k + 1, l)).2.map D) ((List.range (l.length - (k + 1) - 1)).foldl (cmpG (k + 1)) (k + 1, l)).1
          (List.replicate (l.length - ((List.range (l.length - (k + 1) - 1)).foldl (cmpG (k + 1)) (k + 1, l)).1) (D ⟨[], 0, 0⟩)))])) := by
  have := for_listE (f := round (C18.tab n) [5] [(.exit 0, []), (.ret, [4])] c38_2 e0 1 []) (fun i (_ : Unit) => ([.int .i64 ((i : Int) + 1)], [.row 0 3 (l.map D)])) (List.range (l.length - 1))
    (fun _ k => if pat l (k + 1) = pat l k then .inr ((.ret, [.own 0 0 0 ((List.range (l.length - (k + 1) - 1)).foldl (cmpG (k + 1)) (k + 1, l)).1], [.row 0 3 (over (((List.range (l.length - (k + 1) - 1)).foldl (cmpG (k + 1)) (k + 1, l)).2.map D) ((List.range (l.length - (k + 1) - 1)).foldl (cmpG (k + 1)) (k + 1, l)).1
          (List.replicate (l.length - ((List.range (l.length - (k + 1) - 1)).foldl (cmpG (k + 1)) (k + 1, l)).1) (D ⟨[], 0, 0⟩)))])) else .inl ()) (fun _ => (.exit 0, [], [.row 0 3 (l.map D)])) (fun _ _ => True)
    (fun i hi s _ => by
      have hi' : i < l.length - 1 := by simpa using hi
      rw [List.getElem_range]
      have b1 : i + 1 < l.length := by omega
      have b2 : i < l.length := by omega
      obtain ⟨x, hx⟩ : ∃ x, x = l[i + 1] := ⟨_, rfl⟩
      obtain ⟨y, hy⟩ : ∃ y, y = l[i] := ⟨_, rfl⟩
      have h35 := s35 (n := n) hn x y
      simp only [D] at h35
      have hp1 := pat_of b1
      have hp2 := pat_of b2
      rw [← hx] at hp1
      rw [← hy] at hp2
      rw [hp1, hp2]
      by_cases hxy : x.pa = y.pa
      · rw [if_pos hxy]
        rw [hxy] at h35
        have h38 := l38a hn l hl (i + 1) b1
        simp only [Int.natCast_add, Int.natCast_one] at h38
        simp -implicitDefEqProofs (disch := omega) [wrap_of, ilt_t, ilt_f, ile_t, ile_f, nlt_t, nlt_f, nle_t, nle_f, ieq_t, ieq_f, imin_l, imin_r, imax_l, imax_r, take_app1, take_map_all, round_eq, b38_2, h0, h1, b1, b2, ← hx, ← hy, a35, h35, hxy]
        have w := (h38 (((Env.put (fun _ => .dead) 0 (.own 0 0 0 l.length)).put 1 (.fn (.func 35) [] [])).put 6 (.own 0 0 (i + 1) (l.length - (i + 1)))) rfl rfl rfl).2
        rw [(h38 _ (by simp -implicitDefEqProofs (disch := omega) [wrap_of, ilt_t, ilt_f, ile_t, ile_f, nlt_t, nlt_f, nle_t, nle_f, ieq_t, ieq_f, imin_l, imin_r, imax_l, imax_r, take_app1, take_map_all, h0]) (by simp -implicitDefEqProofs (disch := omega) [wrap_of, ilt_t, ilt_f, ile_t, ile_f, nlt_t, nlt_f, nle_t, nle_f, ieq_t, ieq_f, imin_l, imin_r, imax_l, imax_r, take_app1, take_map_all, h1]) (by simp -implicitDefEqProofs (disch := omega) [wrap_of, ilt_t, ilt_f, ile_t, ile_f, nlt_t, nlt_f, nle_t, nle_f, ieq_t, ieq_f, imin_l, imin_r, imax_l, imax_r, take_app1, take_map_all, ])).1]
        generalize (List.range (l.length - (i + 1) - 1)).foldl (cmpG (i + 1)) (i + 1, l) = q at w ⊢
        obtain ⟨k', ks'⟩ := q
        obtain ⟨w1, w2⟩ := w
        simp only at w1 w2
        have w3 : k' ≤ l.length := by omega
        simp -implicitDefEqProofs (disch := omega) [wrap_of, ilt_t, ilt_f, ile_t, ile_f, nlt_t, nlt_f, nle_t, nle_f, ieq_t, ieq_f, imin_l, imin_r, imax_l, imax_r, take_app1, take_map_all, h0, w3, w2]
      · rw [if_neg hxy]
        refine ⟨trivial, ?_⟩
        simp -implicitDefEqProofs (disch := omega) [wrap_of, ilt_t, ilt_f, ile_t, ile_f, nlt_t, nlt_f, nle_t, nle_f, ieq_t, ieq_f, imin_l, imin_r, imax_l, imax_r, take_app1, take_map_all, round_eq, b38_2, h0, h1, b1, b2, ← hx, ← hy, a35, h35, hxy])
    (fun s _ => by
      rw [List.length_range]
      have e : ¬ (((l.length - 1 : Nat) : Int) + 1 < (l.length : Int)) := by omega
      simp -implicitDefEqProofs (disch := omega) [wrap_of, ilt_t, ilt_f, ile_t, ile_f, nlt_t, nlt_f, nle_t, nle_f, ieq_t, ieq_f, imin_l, imin_r, imax_l, imax_r, take_app1, take_map_all, round_eq, b38_2, h0, e]) () trivial
  simp only [Int.natCast_zero, Int.zero_add] at this
  rw [this, foldE_find (fun k => pat l (k + 1) = pat l k)]
  cases (List.range (l.length - 1)).find? fun k => decide (pat l (k + 1) = pat l k) <;> rfl
/-- slices.CompactFunc, of a row of one's own: are there fewer? -/
theorem s38 {n : Nat} (hn : 19 < n) (l : List P) (hl : l.length ≤ 1000000) :
    ∃ m h', callA (C18.tab n) 38 [.own 0 0 0 l.length, .fn (.func 35) [] []] [.row 0 3 (l.map D)] = some (.own 0 0 0 m, h') ∧ decide (m = l.length) = neB l ∧ m ≤ 1000000 := by
  rw [p38 hn, runH_eq]
  by_cases h2 : l.length < 2
  · refine ⟨l.length, [.row 0 3 (l.map D)], ?_, ?_, hl⟩
    · simp -implicitDefEqProofs (disch := omega) [wrap_of, ilt_t, ilt_f, ile_t, ile_f, nlt_t, nlt_f, nle_t, nle_f, ieq_t, ieq_f, imin_l, imin_r, imax_l, imax_r, take_app1, take_map_all, c38]
    · unfold neB
      rw [show l.length - 1 = 0 by omega]
      simp
  · have h2' : 2 ≤ l.length := by omega
    have h38 := l38b (n := 19) (by decide) l hl h2'
    unfold neB
    cases hf : (List.range (l.length - 1)).find? fun k => decide (pat l (k + 1) = pat l k) with
    | none =>
      rw [hf] at h38
      refine ⟨l.length, [.row 0 3 (l.map D)], ?_, ?_, hl⟩
      · simp -implicitDefEqProofs (disch := omega) [wrap_of, ilt_t, ilt_f, ile_t, ile_f, nlt_t, nlt_f, nle_t, nle_f, ieq_t, ieq_f, imin_l, imin_r, imax_l, imax_r, take_app1, take_map_all, c38, h2]
        rw [h38 _ (by simp -implicitDefEqProofs (disch := omega) [wrap_of, ilt_t, ilt_f, ile_t, ile_f, nlt_t, nlt_f, nle_t, nle_f, ieq_t, ieq_f, imin_l, imin_r, imax_l, imax_r, take_app1, take_map_all, ]) (by simp -implicitDefEqProofs (disch := omega) [wrap_of, ilt_t, ilt_f, ile_t, ile_f, nlt_t, nlt_f, nle_t, nle_f, ieq_t, ieq_f, imin_l, imin_r, imax_l, imax_r, take_app1, take_map_all, ])]
        simp -implicitDefEqProofs (disch := omega) [wrap_of, ilt_t, ilt_f, ile_t, ile_f, nlt_t, nlt_f, nle_t, nle_f, ieq_t, ieq_f, imin_l, imin_r, imax_l, imax_r, take_app1, take_map_all, ]
      · have : (List.range (l.length - 1)).all (fun k => !decide (pat l (k + 1) = pat l k)) = true := by
          rw [List.all_eq_true]
          intro i hi
          rw [List.find?_eq_none] at hf
          simpa using hf i hi
        rw [this]; simp
    | some k =>
      rw [hf] at h38
      have hk1 : k + 1 < l.length := by
        have := List.mem_of_find?_eq_some hf
        simp at this; omega
      obtain ⟨_, w1, w2⟩ := l38a (n := 19) (by decide) l hl (k + 1) hk1 (((Env.put (fun _ => .dead) 0 (.own 0 0 0 l.length)).put 1 (.fn (.func 35) [] [])).put 6 (.own 0 0 (k + 1) (l.length - (k + 1)))) rfl rfl rfl
      refine ⟨((List.range (l.length - (k + 1) - 1)).foldl (cmpG (k + 1)) (k + 1, l)).1, [.row 0 3 (over (((List.range (l.length - (k + 1) - 1)).foldl (cmpG (k + 1)) (k + 1, l)).2.map D) ((List.range (l.length - (k + 1) - 1)).foldl (cmpG (k + 1)) (k + 1, l)).1
          (List.replicate (l.length - ((List.range (l.length - (k + 1) - 1)).foldl (cmpG (k + 1)) (k + 1, l)).1) (D ⟨[], 0, 0⟩)))], ?_, ?_, by omega⟩
      · simp -implicitDefEqProofs (disch := omega) [wrap_of, ilt_t, ilt_f, ile_t, ile_f, nlt_t, nlt_f, nle_t, nle_f, ieq_t, ieq_f, imin_l, imin_r, imax_l, imax_r, take_app1, take_map_all, c38, h2]
        rw [h38 _ (by simp -implicitDefEqProofs (disch := omega) [wrap_of, ilt_t, ilt_f, ile_t, ile_f, nlt_t, nlt_f, nle_t, nle_f, ieq_t, ieq_f, imin_l, imin_r, imax_l, imax_r, take_app1, take_map_all, ]) (by simp -implicitDefEqProofs (disch := omega) [wrap_of, ilt_t, ilt_f, ile_t, ile_f, nlt_t, nlt_f, nle_t, nle_f, ieq_t, ieq_f, imin_l, imin_r, imax_l, imax_r, take_app1, take_map_all, ])]
        simp -implicitDefEqProofs (disch := omega) [wrap_of, ilt_t, ilt_f, ile_t, ile_f, nlt_t, nlt_f, nle_t, nle_f, ieq_t, ieq_f, imin_l, imin_r, imax_l, imax_r, take_app1, take_map_all, ]
      · have : (List.range (l.length - 1)).all (fun k => !decide (pat l (k + 1) = pat l k)) = false := by
          cases h : (List.range (l.length - 1)).all (fun k => !decide (pat l (k + 1) = pat l k)) with
          | false => rfl
          | true =>
            have h1 := List.mem_of_find?_eq_some hf
            have h2 := List.find?_some hf
            have := List.all_eq_true.1 h k h1
            rw [h2] at this; cases this
        rw [this]
        exact decide_eq_false (by omega)
end Go.Proofs.Ytlooipgkklaijaa
