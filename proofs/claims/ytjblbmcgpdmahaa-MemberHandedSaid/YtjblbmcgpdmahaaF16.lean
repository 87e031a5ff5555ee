import Derived.Test.YtjblbmcgpdmahaaE16
set_option linter.unusedSimpArgs false
set_option linter.unusedVariables false
namespace Go.Proofs.Ytjblbmcgpdmahaa
open Go.Am

theorem putL_len (l more : List En) (p : Nat) : (putL l p more).length ≤ l.length + more.length := by
  unfold putL
  split
  · simp only [List.length_append, List.length_take, List.length_drop]; omega
  · omega
theorem fits13_le {l : List En} {a t : Int} (h : fits13 l a t = true) : ∃ p : Nat, a = p ∧ p ≤ l.length := by
  unfold fits13 at h
  obtain ⟨h1, h2, _⟩ := of_decide_eq_true h
  exact ⟨a.toNat, by omega, by omega⟩
/-- log.Put -/
theorem s36 {n : Nat} (hn : 9 < n) (l more : List En) (hl : GL l) (hm : GL more) (f g : Bool) (a t : Int) :
    (C16.tab n).p 36 [.lst f (l.map E), .int .i64 a, .int .i64 t, .lst g (more.map E)] = some (putV (putP l a t more)) := by
  rw [p36 hn, runP_eq, runH_eq]
  have h55 := s55 (n := 9) (by decide) l hl f a t
  have h43 := p43 (n := 9) (by decide)
  have hll := hl.len
  unfold putP
  cases hf : fits13 l a t with
  | false =>
    rw [hf] at h55
    simp -implicitDefEqProofs (disch := omega) [wrap_of, ilt_t, ilt_f, ile_t, ile_f, nlt_t, nlt_f, nle_t, nle_f, ieq_t, ieq_f, imin_l, imin_r, imax_l, imax_r, take_app1, take_map_all, c36, a55, h55, putV]
  | true =>
    rw [hf] at h55
    obtain ⟨p, rfl, hp⟩ := fits13_le hf
    have hle := putL_len l more p
    have hml := hm.len
    have h36 := fun e0 => l36 (n := 9) (by decide) l more p hl hm hp g e0
    have hnl : ¬ agr (l.drop p) more < more.length → putL l p more = l := fun h => by unfold putL; rw [if_neg h]
    simp -implicitDefEqProofs (disch := omega) [wrap_of, ilt_t, ilt_f, ile_t, ile_f, nlt_t, nlt_f, nle_t, nle_f, ieq_t, ieq_f, imin_l, imin_r, imax_l, imax_r, take_app1, take_map_all, c36, a55, h55, h43]
    rw [h36 _ (by simp -implicitDefEqProofs (disch := omega) [wrap_of, ilt_t, ilt_f, ile_t, ile_f, nlt_t, nlt_f, nle_t, nle_f, ieq_t, ieq_f, imin_l, imin_r, imax_l, imax_r, take_app1, take_map_all, ]) (by simp -implicitDefEqProofs (disch := omega) [wrap_of, ilt_t, ilt_f, ile_t, ile_f, nlt_t, nlt_f, nle_t, nle_f, ieq_t, ieq_f, imin_l, imin_r, imax_l, imax_r, take_app1, take_map_all, ]) (by simp -implicitDefEqProofs (disch := omega) [wrap_of, ilt_t, ilt_f, ile_t, ile_f, nlt_t, nlt_f, nle_t, nle_f, ieq_t, ieq_f, imin_l, imin_r, imax_l, imax_r, take_app1, take_map_all, ]) (by simp -implicitDefEqProofs (disch := omega) [wrap_of, ilt_t, ilt_f, ile_t, ile_f, nlt_t, nlt_f, nle_t, nle_f, ieq_t, ieq_f, imin_l, imin_r, imax_l, imax_r, take_app1, take_map_all, ])]
    by_cases h : agr (l.drop p) more < more.length
    · rw [if_pos h]
      by_cases h5 : 500 < (putL l p more).length
      · simp -implicitDefEqProofs (disch := omega) [wrap_of, ilt_t, ilt_f, ile_t, ile_f, nlt_t, nlt_f, nle_t, nle_f, ieq_t, ieq_f, imin_l, imin_r, imax_l, imax_r, take_app1, take_map_all, h5, putV]
      · have h5' : (putL l p more).length ≤ 500 := by omega
        simp -implicitDefEqProofs (disch := omega) [wrap_of, ilt_t, ilt_f, ile_t, ile_f, nlt_t, nlt_f, nle_t, nle_f, ieq_t, ieq_f, imin_l, imin_r, imax_l, imax_r, take_app1, take_map_all, h5, h5', putV]
    · rw [if_neg h]
      have e := hnl h
      rw [e]
      by_cases h5 : 500 < l.length
      · simp -implicitDefEqProofs (disch := omega) [wrap_of, ilt_t, ilt_f, ile_t, ile_f, nlt_t, nlt_f, nle_t, nle_f, ieq_t, ieq_f, imin_l, imin_r, imax_l, imax_r, take_app1, take_map_all, h5, putV]
      · have h5' : l.length ≤ 500 := by omega
        simp -implicitDefEqProofs (disch := omega) [wrap_of, ilt_t, ilt_f, ile_t, ile_f, nlt_t, nlt_f, nle_t, nle_f, ieq_t, ieq_f, imin_l, imin_r, imax_l, imax_r, take_app1, take_map_all, h5, h5', putV]
theorem l44 {n : Nat} (hn : 40 < n) (l more : List En) (p : Nat) (hl : GL l) (hm : GL more) (hp : p ≤ l.length) (f g : Bool) (e0 : Env) (h0 : e0 0 = .lst f (l.map E)) (h1 : e0 1 = .int .i64 (p : Int)) (h3 : e0 3 = .lst g (more.map E)) :
    iter (round (C16.tab n) [10] [(.exit 0, [10])] c44_1 e0 0 []) ([.int .i64 0], []) = some (.exit 0, [.int .i64 (agr (l.drop p) more : Nat)], []) := by
  have hll := hl.len
  have hml := hm.len
  have := for_listE (f := round (C16.tab n) [10] [(.exit 0, [10])] c44_1 e0 0 []) (fun i (_ : Unit) => ([.int .i64 (i : Int)], [])) (List.range more.length)
    (fun _ i => if (!same l p more i) = true then .inr (.exit 0, [.int .i64 (i : Int)], []) else .inl ()) (fun _ => (.exit 0, [.int .i64 (more.length : Int)], [])) (fun i _ => p + i ≤ l.length)
    (fun i hi s hs => by
      have hi' : i < more.length := by simpa using hi
      rw [List.getElem_range]
      obtain ⟨x, hx⟩ : ∃ x, x = more[i] := ⟨_, rfl⟩
      have hdx := hm.da _ (List.getElem_mem hi')
      by_cases hq : p + i < l.length
      · obtain ⟨y, hy⟩ : ∃ y, y = l[p + i] := ⟨_, rfl⟩
        have hdy := hl.da _ (List.getElem_mem hq)
        have hsm := same_at (p := p) hq hi'
        rw [← hx, ← hy] at hsm
        rw [← hx] at hdx
        rw [← hy] at hdy
        have h57 := s57 (n := n) hn y x (by omega) (by omega)
        simp only [E] at h57
        by_cases hc : core y = core x
        · rw [hsm, decide_eq_true hc]
          rw [decide_eq_true hc] at h57
          simp only [Bool.not_true, Bool.false_eq_true, if_false]
          refine ⟨by omega, ?_⟩
          simp -implicitDefEqProofs (disch := omega) [wrap_of, ilt_t, ilt_f, ile_t, ile_f, nlt_t, nlt_f, nle_t, nle_f, ieq_t, ieq_f, imin_l, imin_r, imax_l, imax_r, take_app1, take_map_all, round_eq, b44_1, h0, h1, h3, hi', ← hx, hq, ← hy, h57]
        · rw [hsm, decide_eq_false hc]
          rw [decide_eq_false hc] at h57
          simp only [Bool.not_false, if_true]
          simp -implicitDefEqProofs (disch := omega) [wrap_of, ilt_t, ilt_f, ile_t, ile_f, nlt_t, nlt_f, nle_t, nle_f, ieq_t, ieq_f, imin_l, imin_r, imax_l, imax_r, take_app1, take_map_all, round_eq, b44_1, h0, h1, h3, hi', ← hx, hq, ← hy, h57]
      · have hsm := same_out (more := more) hq
        rw [hsm]
        simp only [Bool.not_false, if_true]
        simp -implicitDefEqProofs (disch := omega) [wrap_of, ilt_t, ilt_f, ile_t, ile_f, nlt_t, nlt_f, nle_t, nle_f, ieq_t, ieq_f, imin_l, imin_r, imax_l, imax_r, take_app1, take_map_all, round_eq, b44_1, h0, h1, h3, hi', ← hx, hq])
    (fun s _ => by rw [List.length_range]; simp -implicitDefEqProofs (disch := omega) [wrap_of, ilt_t, ilt_f, ile_t, ile_f, nlt_t, nlt_f, nle_t, nle_f, ieq_t, ieq_f, imin_l, imin_r, imax_l, imax_r, take_app1, take_map_all, round_eq, b44_1, h3]) () (by omega)
  simp only [Int.natCast_zero] at this
  rw [this, foldE_find (fun i => !same l p more i), find_agr]
  by_cases h : agr (l.drop p) more < more.length
  · rw [if_pos h]; rfl
  · rw [if_neg h]
    have := (agr_le (l.drop p) more).2
    have e : agr (l.drop p) more = more.length := by omega
    rw [e]; rfl
/-- catacombref13.Put -/
theorem s44 {n : Nat} (hn : 43 < n) (l more : List En) (hl : GL l) (hm : GL more) (f g : Bool) (a t : Int) :
    (C16.tab n).p 44 [.lst f (l.map E), .int .i64 a, .int .i64 t, .lst g (more.map E)] = some (putV (putP l a t more)) := by
  rw [p44 hn, runP_eq, runH_eq]
  have h59 := s59 (n := 43) (by decide) l hl f a t
  have hll := hl.len
  unfold putP
  cases hf : fits13 l a t with
  | false =>
    rw [hf] at h59
    simp -implicitDefEqProofs (disch := omega) [wrap_of, ilt_t, ilt_f, ile_t, ile_f, nlt_t, nlt_f, nle_t, nle_f, ieq_t, ieq_f, imin_l, imin_r, imax_l, imax_r, take_app1, take_map_all, c44, a59, h59, putV]
  | true =>
    rw [hf] at h59
    obtain ⟨p, rfl, hp⟩ := fits13_le hf
    have hle := putL_len l more p
    have hml := hm.len
    have h44 := fun e0 => l44 (n := 43) (by decide) l more p hl hm hp f g e0
    obtain ⟨hal, ham⟩ := agr_le (l.drop p) more
    rw [List.length_drop] at hal
    have hpl : putL l p more = if agr (l.drop p) more < more.length then l.take (p + agr (l.drop p) more) ++ more.drop (agr (l.drop p) more) else l := rfl
    simp -implicitDefEqProofs (disch := omega) [wrap_of, ilt_t, ilt_f, ile_t, ile_f, nlt_t, nlt_f, nle_t, nle_f, ieq_t, ieq_f, imin_l, imin_r, imax_l, imax_r, take_app1, take_map_all, c44, a59, h59]
    rw [h44 _ (by simp -implicitDefEqProofs (disch := omega) [wrap_of, ilt_t, ilt_f, ile_t, ile_f, nlt_t, nlt_f, nle_t, nle_f, ieq_t, ieq_f, imin_l, imin_r, imax_l, imax_r, take_app1, take_map_all, ]) (by simp -implicitDefEqProofs (disch := omega) [wrap_of, ilt_t, ilt_f, ile_t, ile_f, nlt_t, nlt_f, nle_t, nle_f, ieq_t, ieq_f, imin_l, imin_r, imax_l, imax_r, take_app1, take_map_all, ]) (by simp -implicitDefEqProofs (disch := omega) [wrap_of, ilt_t, ilt_f, ile_t, ile_f, nlt_t, nlt_f, nle_t, nle_f, ieq_t, ieq_f, imin_l, imin_r, imax_l, imax_r, take_app1, take_map_all, ])]
    rw [hpl] at hle ⊢
    generalize agr (l.drop p) more = k at *
    by_cases h : k < more.length
    · rw [if_pos h] at hle ⊢
      by_cases h5 : 500 < (l.take (p + k) ++ more.drop k).length
      · have h5' : ¬ (l.take (p + k) ++ more.drop k).length ≤ 500 := by omega
        rw [if_neg h5']
        simp only [List.length_append, List.length_take, List.length_drop] at h5 hle
        simp -implicitDefEqProofs (disch := omega) [wrap_of, ilt_t, ilt_f, ile_t, ile_f, nlt_t, nlt_f, nle_t, nle_f, ieq_t, ieq_f, imin_l, imin_r, imax_l, imax_r, take_app1, take_map_all, h, putV]
      · have h5' : (l.take (p + k) ++ more.drop k).length ≤ 500 := by omega
        rw [if_pos h5']
        simp only [List.length_append, List.length_take, List.length_drop] at h5 hle
        simp -implicitDefEqProofs (disch := omega) [wrap_of, ilt_t, ilt_f, ile_t, ile_f, nlt_t, nlt_f, nle_t, nle_f, ieq_t, ieq_f, imin_l, imin_r, imax_l, imax_r, take_app1, take_map_all, h, putV]
        rw [List.take_of_length_le (by simp; omega)]
    · rw [if_neg h]
      by_cases h5 : 500 < l.length
      · simp -implicitDefEqProofs (disch := omega) [wrap_of, ilt_t, ilt_f, ile_t, ile_f, nlt_t, nlt_f, nle_t, nle_f, ieq_t, ieq_f, imin_l, imin_r, imax_l, imax_r, take_app1, take_map_all, h, h5, putV]
      · have h5' : l.length ≤ 500 := by omega
        simp -implicitDefEqProofs (disch := omega) [wrap_of, ilt_t, ilt_f, ile_t, ile_f, nlt_t, nlt_f, nle_t, nle_f, ieq_t, ieq_f, imin_l, imin_r, imax_l, imax_r, take_app1, take_map_all, h, h5, h5', putV]
end Go.Proofs.Ytjblbmcgpdmahaa
