import Derived.Test.YtlooipgkklaijaaN18
set_option linter.unusedSimpArgs false
set_option linter.unusedVariables false
namespace Go.Proofs.Ytlooipgkklaijaa
open Go.Am Go.Am.Nm Go.Lib Go.Am.Sh

theorem RightP.short {l : List P} (h : RightP l) (hs : ∀ p ∈ l, p.pa.length ≤ 1000000) : Short l := ⟨by have := h.le; omega, hs⟩
/-- What a row with a piece put in looks like so far. -/
def insT (l : List P) (c : Nat) (x : P) (i : Nat) : List P := if i ≤ c then l.take i else l.take c ++ x :: (l.take i).drop c
theorem insT_0 (l : List P) (c : Nat) (x : P) : insT l c x 0 = [] := by simp [insT]
theorem insT_step {l : List P} {c : Nat} {x : P} {i : Nat} (h : i < l.length) : insT l c x (i + 1) = if i = c then insT l c x i ++ [x] ++ [l[i]] else insT l c x i ++ [l[i]] := by
  unfold insT
  by_cases hc : i = c
  · subst hc
    rw [if_pos rfl, if_neg (by omega), if_pos (Nat.le_refl _), List.take_succ_eq_append_getElem h, List.drop_append_of_le_length (by simp; omega), List.drop_of_length_le (by simp; omega)]
    simp
  · rw [if_neg hc]
    by_cases h' : i + 1 ≤ c
    · rw [if_pos h', if_pos (by omega), List.take_succ_eq_append_getElem h]
    · rw [if_neg h', if_neg (by omega), List.take_succ_eq_append_getElem h, List.drop_append_of_le_length (by simp; omega)]
      simp
theorem insT_end (l : List P) (c : Nat) (x : P) (hc : c ≤ l.length) : insP l c x = if c = l.length then insT l c x l.length ++ [x] else insT l c x l.length := by
  unfold insT insP
  by_cases h : c = l.length
  · subst h; simp
  · rw [if_neg h, if_neg (by omega), List.take_length]
theorem insT_len (l : List P) (c : Nat) (x : P) (i : Nat) (hi : i ≤ l.length) : (insT l c x i).length ≤ i + 1 := by
  unfold insT
  split
  · simp; omega
  · simp; omega
/-- An element of a row of which one has another epoch. -/
theorem setE_get {l : List P} {a i : Nat} {e : Int} (ha : a < l.length) (hi : i < (setE l a e).length) : (setE l a e)[i] = if i = a then ⟨(l[i]'(by rw [setE_len] at hi; exact hi)).pa, (l[i]'(by rw [setE_len] at hi; exact hi)).gr, e⟩ else l[i]'(by rw [setE_len] at hi; exact hi) := by
  have h1 : setE l a e = l.set a ⟨l[a].pa, l[a].gr, e⟩ := by
    unfold setE; rw [List.getElem?_eq_getElem ha]; rfl
  have hi' : i < l.length := by rw [setE_len] at hi; exact hi
  have : (setE l a e)[i]? = some (if i = a then ⟨l[i].pa, l[i].gr, e⟩ else l[i]) := by
    rw [h1, List.getElem?_set]
    by_cases h : a = i
    · subst h; simp [ha]
    · rw [if_neg h, if_neg (fun e => h e.symm), List.getElem?_eq_getElem hi']
  rw [List.getElem?_eq_getElem hi] at this
  exact Option.some.inj this
theorem l40 {n : Nat} (l : List P) (hr : RightP l) (f : Bool) (s : List UInt8) (at_ : Nat) (hat : at_ < l.length) (hf : fnd l s = false) (x : P) (hxs : x.pa = s) (e0 : Env) (h0 : e0 0 = .lst f (l.map D)) (h1 : e0 1 = .str s) (h8 : e0 8 = .int .i64 at_) (h10 : e0 10 = .ptr 0 0 0 0) :
    iter (round (C18.tab n) [11, 12, 13] [(.exit 0, [11, 12])] c40_1 e0 2 [1]) ([.own 1 0 0 0, .bool false, .int .i64 0], [.var [.str x.pa, .int .i64 x.gr, .int .i64 x.ep], .row 0 3 []]) =
      some (.exit 0, [.own 1 0 0 (insT (setE l at_ (epA l at_ + 1)) (cnt l s) x l.length).length, .bool (decide (cnt l s < l.length))], [.var [.str x.pa, .int .i64 x.gr, .int .i64 x.ep], .row 0 3 ((insT (setE l at_ (epA l at_ + 1)) (cnt l s) x l.length).map D)]) := by
  obtain ⟨l', hl'⟩ : ∃ l', l' = setE l at_ (epA l at_ + 1) := ⟨_, rfl⟩
  rw [← hl']
  have hll : l'.length = l.length := by rw [hl', setE_len]
  have hl16 := hr.le
  have := for_list (f := round (C18.tab n) [11, 12, 13] [(.exit 0, [11, 12])] c40_1 e0 2 [1]) (fun i (o : List P) => ([.own 1 0 0 o.length, .bool (decide (cnt l s < i)), .int .i64 (i : Int)], [.var [.str x.pa, .int .i64 x.gr, .int .i64 x.ep], .row 0 3 (o.map D)])) (List.range l.length)
    (fun _ i => insT l' (cnt l s) x (i + 1)) (fun o => (.exit 0, [.own 1 0 0 o.length, .bool (decide (cnt l s < l.length))], [.var [.str x.pa, .int .i64 x.gr, .int .i64 x.ep], .row 0 3 (o.map D)])) (fun i o => o = insT l' (cnt l s) x i)
    (fun i hi o ho => by
      rw [List.getElem_range]
      have hi' : i < l.length := by simpa using hi
      have hi2 : i < l'.length := by omega
      refine ⟨rfl, ?_⟩
      obtain ⟨y, hy⟩ : ∃ y, y = l[i] := ⟨_, rfl⟩
      have hget := setE_get (e := epA l at_ + 1) hat (i := i) (by rw [setE_len]; exact hi')
      have hol := insT_len l' (cnt l s) x i (by omega)
      rw [← ho] at hol
      have hstep := insT_step (l := l') (c := cnt l s) (x := x) hi2
      rw [← ho] at hstep
      have hgl : l'[i] = if i = at_ then ⟨y.pa, y.gr, epA l at_ + 1⟩ else y := by
        have : l'[i]'hi2 = (setE l at_ (epA l at_ + 1))[i]'(by rw [setE_len]; exact hi') := by congr 1
        rw [this, hget, ← hy]
      rw [hgl] at hstep
      have hp := pat_of hi'
      rw [← hy] at hp
      obtain ⟨y1, y2⟩ := hr.ep _ (List.getElem_mem hi')
      rw [← hy] at y1 y2
      have hci := cnt_iff hr.inc s hi'
      rw [hp] at hci
      have hne : y.pa ≠ s := by
        intro h
        have : plc l s ≠ -1 := by
          unfold plc
          cases hq : l.find? fun p => decide (p.pa = s) with
          | none =>
            rw [List.find?_eq_none] at hq
            exact absurd (decide_eq_true h) (by simpa using hq y (hy ▸ List.getElem_mem hi'))
          | some z => simp
        rw [plc_eq hr.inc, hf] at this
        simp at this
      rcases Nat.lt_trichotomy i (cnt l s) with hlt | heq | hgt
      · -- not yet
        have hle : sLess y.pa s = true := hci.1 hlt
        rw [if_neg (by omega)] at hstep
        rw [hstep]
        have d1 : ¬ cnt l s < i := by omega
        have d2 : ¬ cnt l s < i + 1 := by omega
        by_cases ha : i = at_
        · rw [if_pos ha]
          have hea : epA l i = y.ep := by rw [epA_of hi', hy]
          simp -implicitDefEqProofs (disch := omega) [wrap_of, ilt_t, ilt_f, ile_t, ile_f, nlt_t, nlt_f, nle_t, nle_f, ieq_t, ieq_f, imin_l, imin_r, imax_l, imax_r, take_app1, take_map_all, round_eq, b40_1, h0, h1, h8, h10, hi', ← hy, strBin, hle, d1, d2, ← ha, hea]
        · rw [if_neg ha]
          simp -implicitDefEqProofs (disch := omega) [wrap_of, ilt_t, ilt_f, ile_t, ile_f, nlt_t, nlt_f, nle_t, nle_f, ieq_t, ieq_f, imin_l, imin_r, imax_l, imax_r, take_app1, take_map_all, round_eq, b40_1, h0, h1, h8, h10, hi', ← hy, strBin, hle, d1, d2, ha]
      · have hle : sLess y.pa s = false := by
          cases h : sLess y.pa s with
          | false => rfl
          | true => have := hci.2 h; omega
        rw [if_pos heq] at hstep
        rw [hstep]
        have d1 : ¬ cnt l s < i := by omega
        have d2 : cnt l s < i + 1 := by omega
        by_cases ha : i = at_
        · rw [if_pos ha]
          have hea : epA l i = y.ep := by rw [epA_of hi', hy]
          simp -implicitDefEqProofs (disch := omega) [wrap_of, ilt_t, ilt_f, ile_t, ile_f, nlt_t, nlt_f, nle_t, nle_f, ieq_t, ieq_f, imin_l, imin_r, imax_l, imax_r, take_app1, take_map_all, round_eq, b40_1, h0, h1, h8, h10, hi', ← hy, strBin, hle, hne, d1, d2, ← ha, hea]
        · rw [if_neg ha]
          simp -implicitDefEqProofs (disch := omega) [wrap_of, ilt_t, ilt_f, ile_t, ile_f, nlt_t, nlt_f, nle_t, nle_f, ieq_t, ieq_f, imin_l, imin_r, imax_l, imax_r, take_app1, take_map_all, round_eq, b40_1, h0, h1, h8, h10, hi', ← hy, strBin, hle, hne, d1, d2, ha]
      · rw [if_neg (by omega)] at hstep
        rw [hstep]
        have d2 : cnt l s < i + 1 := by omega
        by_cases ha : i = at_
        · rw [if_pos ha]
          have hea : epA l i = y.ep := by rw [epA_of hi', hy]
          simp -implicitDefEqProofs (disch := omega) [wrap_of, ilt_t, ilt_f, ile_t, ile_f, nlt_t, nlt_f, nle_t, nle_f, ieq_t, ieq_f, imin_l, imin_r, imax_l, imax_r, take_app1, take_map_all, round_eq, b40_1, h0, h1, h8, h10, hi', ← hy, strBin, hgt, d2, ← ha, hea]
        · rw [if_neg ha]
          simp -implicitDefEqProofs (disch := omega) [wrap_of, ilt_t, ilt_f, ile_t, ile_f, nlt_t, nlt_f, nle_t, nle_f, ieq_t, ieq_f, imin_l, imin_r, imax_l, imax_r, take_app1, take_map_all, round_eq, b40_1, h0, h1, h8, h10, hi', ← hy, strBin, hgt, d2, ha])
    (fun o ho => by simp -implicitDefEqProofs (disch := omega) [wrap_of, ilt_t, ilt_f, ile_t, ile_f, nlt_t, nlt_f, nle_t, nle_f, ieq_t, ieq_f, imin_l, imin_r, imax_l, imax_r, take_app1, take_map_all, round_eq, b40_1, h0]) [] (insT_0 _ _ _).symm
  simp only [List.length_nil, List.map_nil, Int.natCast_zero, Nat.not_lt_zero, decide_false] at this
  rw [this]
  have inv := fold_inv (List.range l.length) (fun (_ : List P) i => insT l' (cnt l s) x (i + 1)) (fun i o => o = insT l' (cnt l s) x i) 0 [] (fun i hi o _ => by rw [List.getElem_range, Nat.zero_add]) (insT_0 _ _ _).symm
  rw [Nat.zero_add, List.length_range] at inv
  rw [inv]
theorem plc_some {l : List P} (hi : Inc l) {s : List UInt8} (h : fnd l s = true) : plc l s = (cnt l s : Int) := by rw [plc_eq hi, if_pos h]
theorem plc_none {l : List P} (hi : Inc l) {s : List UInt8} (h : fnd l s = false) : plc l s = -1 := by rw [plc_eq hi, if_neg (by rw [h]; simp)]
theorem okG_cases {g : Int} : okG g = (decide (0 ≤ g) && decide (g < 8)) := by
  unfold okG
  by_cases h1 : 0 ≤ g <;> by_cases h2 : g < 8 <;> simp [h1, h2]
/-- catacombref18.Cut -/
theorem s40 {n : Nat} (hn : 48 < n) (l : List P) (hr : RightP l) (hsh : ∀ p ∈ l, p.pa.length ≤ 1000000) (f : Bool) (s : List UInt8) (hs : s.length ≤ 1000000) (g : Int) :
    (C18.tab n).p 40 [.lst f (l.map D), .str s, .int .i64 g] = some (.tup [.lst (f && !decide ((cutP l s g).2 = 0)) ((cutP l s g).1.map D), .int .i64 (cutP l s g).2]) := by
  rw [p40 hn, runP_eq, runH_eq]
  have hl := hr.le
  have h21 := s21 (n := 48) (by decide) l (hr.short hsh) f s hs
  have h59 := s59 (n := 48) (by decide) l (by omega) f s
  unfold cutP
  by_cases g1 : 0 ≤ g
  · by_cases g2 : g < 8
    · have hg : okG g = true := by rw [okG_cases]; simp [g1, g2]
      rw [hg]
      cases hp : isP s with
      | false =>
        rw [hp] at h21
        simp -implicitDefEqProofs (disch := omega) [wrap_of, ilt_t, ilt_f, ile_t, ile_f, nlt_t, nlt_f, nle_t, nle_f, ieq_t, ieq_f, imin_l, imin_r, imax_l, imax_r, take_app1, take_map_all, c40, g1, g2, a21, h21]
      | true =>
        have hof := hr.of_lt hp
        rw [hp, hr.refOf hp] at h21
        cases hf : fnd l s with
        | true =>
          rw [plc_some hr.inc hf] at h59
          simp -implicitDefEqProofs (disch := omega) [wrap_of, ilt_t, ilt_f, ile_t, ile_f, nlt_t, nlt_f, nle_t, nle_f, ieq_t, ieq_f, imin_l, imin_r, imax_l, imax_r, take_app1, take_map_all, c40, g1, g2, a21, h21, a59, h59]
        | false =>
          rw [plc_none hr.inc hf] at h59
          by_cases h16 : 16 ≤ l.length
          · simp -implicitDefEqProofs (disch := omega) [wrap_of, ilt_t, ilt_f, ile_t, ile_f, nlt_t, nlt_f, nle_t, nle_f, ieq_t, ieq_f, imin_l, imin_r, imax_l, imax_r, take_app1, take_map_all, c40, g1, g2, a21, h21, a59, h59, h16]
          · obtain ⟨x, hx⟩ : ∃ x, x = l[ofI l s] := ⟨_, rfl⟩
            have he := epA_of hof
            obtain ⟨e1, e2⟩ := hr.ep _ (List.getElem_mem hof)
            rw [← hx] at he e1 e2
            by_cases hE : 1099511627776 ≤ x.ep
            · simp -implicitDefEqProofs (disch := omega) [wrap_of, ilt_t, ilt_f, ile_t, ile_f, nlt_t, nlt_f, nle_t, nle_f, ieq_t, ieq_f, imin_l, imin_r, imax_l, imax_r, take_app1, take_map_all, c40, g1, g2, a21, h21, a59, h59, h16, hof, ← hx, he, hE]
            · have hc := cnt_le l s
              have h40 := l40 (n := 48) l hr f s (ofI l s) hof hf ⟨s, g, x.ep + 1⟩ rfl
              have hend := insT_end (setE l (ofI l s) (x.ep + 1)) (cnt l s) ⟨s, g, x.ep + 1⟩ (by rw [setE_len]; exact hc)
              have hlen := insT_len (setE l (ofI l s) (x.ep + 1)) (cnt l s) ⟨s, g, x.ep + 1⟩ l.length (by rw [setE_len]; exact Nat.le_refl _)
              rw [setE_len] at hend
              rw [he] at h40 ⊢
              rw [hend]
              generalize insT (setE l (ofI l s) (x.ep + 1)) (cnt l s) ⟨s, g, x.ep + 1⟩ l.length = o at *
              by_cases hcl : cnt l s = l.length
              · have d : ¬ cnt l s < l.length := by omega
                rw [decide_eq_false d] at h40
                rw [if_pos hcl]
                simp -implicitDefEqProofs (disch := omega) [wrap_of, ilt_t, ilt_f, ile_t, ile_f, nlt_t, nlt_f, nle_t, nle_f, ieq_t, ieq_f, imin_l, imin_r, imax_l, imax_r, take_app1, take_map_all, c40, g1, g2, a21, h21, a59, h59, h16, hof, ← hx, he, hE]
                rw [h40 _ (by simp -implicitDefEqProofs (disch := omega) [wrap_of, ilt_t, ilt_f, ile_t, ile_f, nlt_t, nlt_f, nle_t, nle_f, ieq_t, ieq_f, imin_l, imin_r, imax_l, imax_r, take_app1, take_map_all, ]) (by simp -implicitDefEqProofs (disch := omega) [wrap_of, ilt_t, ilt_f, ile_t, ile_f, nlt_t, nlt_f, nle_t, nle_f, ieq_t, ieq_f, imin_l, imin_r, imax_l, imax_r, take_app1, take_map_all, ]) (by simp -implicitDefEqProofs (disch := omega) [wrap_of, ilt_t, ilt_f, ile_t, ile_f, nlt_t, nlt_f, nle_t, nle_f, ieq_t, ieq_f, imin_l, imin_r, imax_l, imax_r, take_app1, take_map_all, ]) (by simp -implicitDefEqProofs (disch := omega) [wrap_of, ilt_t, ilt_f, ile_t, ile_f, nlt_t, nlt_f, nle_t, nle_f, ieq_t, ieq_f, imin_l, imin_r, imax_l, imax_r, take_app1, take_map_all, ])]
                simp -implicitDefEqProofs (disch := omega) [wrap_of, ilt_t, ilt_f, ile_t, ile_f, nlt_t, nlt_f, nle_t, nle_f, ieq_t, ieq_f, imin_l, imin_r, imax_l, imax_r, take_app1, take_map_all, ]
              · have d : cnt l s < l.length := by omega
                rw [decide_eq_true d] at h40
                rw [if_neg hcl]
                simp -implicitDefEqProofs (disch := omega) [wrap_of, ilt_t, ilt_f, ile_t, ile_f, nlt_t, nlt_f, nle_t, nle_f, ieq_t, ieq_f, imin_l, imin_r, imax_l, imax_r, take_app1, take_map_all, c40, g1, g2, a21, h21, a59, h59, h16, hof, ← hx, he, hE]
                rw [h40 _ (by simp -implicitDefEqProofs (disch := omega) [wrap_of, ilt_t, ilt_f, ile_t, ile_f, nlt_t, nlt_f, nle_t, nle_f, ieq_t, ieq_f, imin_l, imin_r, imax_l, imax_r, take_app1, take_map_all, ]) (by simp -implicitDefEqProofs (disch := omega) [wrap_of, ilt_t, ilt_f, ile_t, ile_f, nlt_t, nlt_f, nle_t, nle_f, ieq_t, ieq_f, imin_l, imin_r, imax_l, imax_r, take_app1, take_map_all, ]) (by simp -implicitDefEqProofs (disch := omega) [wrap_of, ilt_t, ilt_f, ile_t, ile_f, nlt_t, nlt_f, nle_t, nle_f, ieq_t, ieq_f, imin_l, imin_r, imax_l, imax_r, take_app1, take_map_all, ]) (by simp -implicitDefEqProofs (disch := omega) [wrap_of, ilt_t, ilt_f, ile_t, ile_f, nlt_t, nlt_f, nle_t, nle_f, ieq_t, ieq_f, imin_l, imin_r, imax_l, imax_r, take_app1, take_map_all, ])]
                simp -implicitDefEqProofs (disch := omega) [wrap_of, ilt_t, ilt_f, ile_t, ile_f, nlt_t, nlt_f, nle_t, nle_f, ieq_t, ieq_f, imin_l, imin_r, imax_l, imax_r, take_app1, take_map_all, ]
    · have hg : okG g = false := by rw [okG_cases]; simp [g2]
      rw [hg]
      simp -implicitDefEqProofs (disch := omega) [wrap_of, ilt_t, ilt_f, ile_t, ile_f, nlt_t, nlt_f, nle_t, nle_f, ieq_t, ieq_f, imin_l, imin_r, imax_l, imax_r, take_app1, take_map_all, c40, g1, g2]
  · have hg : okG g = false := by rw [okG_cases]; simp [g1]
    rw [hg]
    simp -implicitDefEqProofs (disch := omega) [wrap_of, ilt_t, ilt_f, ile_t, ile_f, nlt_t, nlt_f, nle_t, nle_f, ieq_t, ieq_f, imin_l, imin_r, imax_l, imax_r, take_app1, take_map_all, c40, g1]
end Go.Proofs.Ytlooipgkklaijaa
