import Derived.Test.YtlooipgkklaijaaG18
set_option linter.unusedSimpArgs false
set_option linter.unusedVariables false
namespace Go.Proofs.Ytlooipgkklaijaa
open Go.Am Go.Am.Nm Go.Lib Go.Am.Sh

/-- catacombref18.Of: a piece more. -/
def refG (l : List P) (s : List UInt8) (b i : Nat) : Nat := bif abv (pat l i) s && decide ((pat l b).length ≤ (pat l i).length) then i else b
def refOf (l : List P) (s : List UInt8) : Nat := (List.range l.length).foldl (refG l s) 0
/-- Paths that can be gone through. -/
def Short (l : List P) : Prop := l.length ≤ 1000000 ∧ ∀ p ∈ l, p.pa.length ≤ 1000000
theorem l21 {n : Nat} (hn : 45 < n) (l : List P) (hl : Short l) (f : Bool) (s : List UInt8) (hs : s.length ≤ 1000000) (e0 : Env) (h0 : e0 0 = .lst f (l.map D)) (h1 : e0 1 = .str s) :
    iter (round (C18.tab n) [8, 9] [(.exit 0, [8])] c21_1 e0 0 []) ([.int .i64 0, .int .i64 0], []) = some (.exit 0, [.int .i64 (refOf l s : Nat)], []) := by
  have := for_list (f := round (C18.tab n) [8, 9] [(.exit 0, [8])] c21_1 e0 0 []) (fun i (b : Nat) => ([.int .i64 (b : Int), .int .i64 (i : Int)], [])) (List.range l.length) (refG l s) (fun b => (.exit 0, [.int .i64 (b : Int)], [])) (fun i b => b < l.length ∨ l.length = 0)
    (fun i hi b hb => by
      rw [List.getElem_range]
      have hi' : i < l.length := by simpa using hi
      have hb' : b < l.length := by omega
      obtain ⟨x, hx⟩ : ∃ x, x = l[i] := ⟨_, rfl⟩
      obtain ⟨y, hy⟩ : ∃ y, y = l[b] := ⟨_, rfl⟩
      have hxl := hl.2 _ (List.getElem_mem hi')
      rw [← hx] at hxl
      have h26 := s26 (n := n) (by omega) x.pa s (by omega) (by omega)
      have p1 := pat_of hi'
      have p2 := pat_of hb'
      rw [← hx] at p1
      rw [← hy] at p2
      have hl6 := hl.1
      unfold refG
      rw [p1, p2]
      cases ha : abv x.pa s with
      | false =>
        rw [ha] at h26
        refine ⟨.inl hb', ?_⟩
        simp -implicitDefEqProofs (disch := omega) [wrap_of, ilt_t, ilt_f, ile_t, ile_f, nlt_t, nlt_f, nle_t, nle_f, ieq_t, ieq_f, imin_l, imin_r, imax_l, imax_r, take_app1, take_map_all, round_eq, b21_1, h0, h1, hi', ← hx, h26]
      | true =>
        rw [ha] at h26
        by_cases hle : y.pa.length ≤ x.pa.length
        · rw [decide_eq_true hle]
          refine ⟨.inl hi', ?_⟩
          simp -implicitDefEqProofs (disch := omega) [wrap_of, ilt_t, ilt_f, ile_t, ile_f, nlt_t, nlt_f, nle_t, nle_f, ieq_t, ieq_f, imin_l, imin_r, imax_l, imax_r, take_app1, take_map_all, round_eq, b21_1, h0, h1, hi', hb', ← hx, ← hy, h26, hle]
        · rw [decide_eq_false hle]
          refine ⟨.inl hb', ?_⟩
          simp -implicitDefEqProofs (disch := omega) [wrap_of, ilt_t, ilt_f, ile_t, ile_f, nlt_t, nlt_f, nle_t, nle_f, ieq_t, ieq_f, imin_l, imin_r, imax_l, imax_r, take_app1, take_map_all, round_eq, b21_1, h0, h1, hi', hb', ← hx, ← hy, h26, hle])
    (fun b hb => by simp -implicitDefEqProofs (disch := omega) [wrap_of, ilt_t, ilt_f, ile_t, ile_f, nlt_t, nlt_f, nle_t, nle_f, ieq_t, ieq_f, imin_l, imin_r, imax_l, imax_r, take_app1, take_map_all, round_eq, b21_1, h0]) 0 (by omega)
  simp only [Int.natCast_zero] at this
  rw [this]
  rfl
theorem s21 {n : Nat} (hn : 46 < n) (l : List P) (hl : Short l) (f : Bool) (s : List UInt8) (hs : s.length ≤ 1000000) :
    (C18.tab n).p 21 [.lst f (l.map D), .str s] = some (if isP s = true then .tup [.int .i64 (refOf l s : Nat), .int .i64 0] else .tup [.int .i64 0, .int .i64 60]) := by
  rw [p21 hn, runP_eq, runH_eq]
  have h25 := s25 (n := 46) (by decide) s (by omega)
  unfold spV at h25
  unfold isP
  cases hp : split s with
  | none =>
    rw [hp] at h25
    simp -implicitDefEqProofs (disch := omega) [wrap_of, ilt_t, ilt_f, ile_t, ile_f, nlt_t, nlt_f, nle_t, nle_f, ieq_t, ieq_f, imin_l, imin_r, imax_l, imax_r, take_app1, take_map_all, c21, a25, h25]
  | some w =>
    rw [hp] at h25
    simp -implicitDefEqProofs (disch := omega) [wrap_of, ilt_t, ilt_f, ile_t, ile_f, nlt_t, nlt_f, nle_t, nle_f, ieq_t, ieq_f, imin_l, imin_r, imax_l, imax_r, take_app1, take_map_all, c21, a25, h25]
    rw [l21 (by decide) l hl f s hs _ (by simp -implicitDefEqProofs (disch := omega) [wrap_of, ilt_t, ilt_f, ile_t, ile_f, nlt_t, nlt_f, nle_t, nle_f, ieq_t, ieq_f, imin_l, imin_r, imax_l, imax_r, take_app1, take_map_all, ]) (by simp -implicitDefEqProofs (disch := omega) [wrap_of, ilt_t, ilt_f, ile_t, ile_f, nlt_t, nlt_f, nle_t, nle_f, ieq_t, ieq_f, imin_l, imin_r, imax_l, imax_r, take_app1, take_map_all, ])]
    simp -implicitDefEqProofs (disch := omega) [wrap_of, ilt_t, ilt_f, ile_t, ile_f, nlt_t, nlt_f, nle_t, nle_f, ieq_t, ieq_f, imin_l, imin_r, imax_l, imax_r, take_app1, take_map_all, ]
theorem l24 {n : Nat} (hn : 45 < n) (l : List P) (hl : Short l) (f : Bool) (s : List UInt8) (hs : s.length ≤ 1000000) (e0 : Env) (h0 : e0 0 = .lst f (l.map D)) (h1 : e0 1 = .str s) (h7 : e0 7 = .int .i64 0) :
    iter (round (C18.tab n) [5, 8] [(.exit 0, [5])] c24_1 e0 1 [0]) ([.own 0 0 0 0, .int .i64 0], [.row 0 1 []]) = some (.exit 0, [.own 0 0 0 (bel l s).length], [.row 0 1 ((bel l s).map N)]) := by
  have := for_list (f := round (C18.tab n) [5, 8] [(.exit 0, [5])] c24_1 e0 1 [0]) (fun i (a : List Nat) => ([.own 0 0 0 a.length, .int .i64 (i : Int)], [.row 0 1 (a.map N)])) (List.range l.length) (fun a i => a ++ bif (l[i]?).elim false (fun p => abv s p.pa) then [i] else []) (fun a => (.exit 0, [.own 0 0 0 a.length], [.row 0 1 (a.map N)])) (fun i a => a = ix (fun p => abv s p.pa) (l.take i) 0)
    (fun i hi a ha => by
      rw [List.getElem_range]
      have hi' : i < l.length := by simpa using hi
      have hl6 := hl.1
      have hal : a.length ≤ i := by rw [ha]; have := ix_len (fun p => abv s p.pa) (l.take i) 0; rw [List.length_take] at this; omega
      obtain ⟨x, hx⟩ : ∃ x, x = l[i] := ⟨_, rfl⟩
      have hxl := hl.2 _ (List.getElem_mem hi')
      rw [← hx] at hxl
      have hxi : l[i]? = some x := by rw [hx]; exact List.getElem?_eq_getElem hi'
      have h26 := s26 (n := n) (by omega) s x.pa (by omega) (by omega)
      rw [hxi]
      simp only [Option.elim_some]
      refine ⟨by rw [ix_snoc _ hi', ← hx, ha], ?_⟩
      cases hq : abv s x.pa with
      | true =>
        rw [hq] at h26
        simp -implicitDefEqProofs (disch := omega) [wrap_of, ilt_t, ilt_f, ile_t, ile_f, nlt_t, nlt_f, nle_t, nle_f, ieq_t, ieq_f, imin_l, imin_r, imax_l, imax_r, take_app1, take_map_all, round_eq, b24_1, h0, h1, h7, hi', ← hx, a26, h26]
      | false =>
        rw [hq] at h26
        simp -implicitDefEqProofs (disch := omega) [wrap_of, ilt_t, ilt_f, ile_t, ile_f, nlt_t, nlt_f, nle_t, nle_f, ieq_t, ieq_f, imin_l, imin_r, imax_l, imax_r, take_app1, take_map_all, round_eq, b24_1, h0, h1, h7, hi', ← hx, a26, h26])
    (fun a ha => by simp -implicitDefEqProofs (disch := omega) [wrap_of, ilt_t, ilt_f, ile_t, ile_f, nlt_t, nlt_f, nle_t, nle_f, ieq_t, ieq_f, imin_l, imin_r, imax_l, imax_r, take_app1, take_map_all, round_eq, b24_1, h0, h7]) [] (by simp [ix])
  simp only [List.length_nil, List.map_nil, Int.natCast_zero] at this
  rw [this]
  have inv := fold_inv (List.range l.length) (fun (a : List Nat) i => a ++ bif (l[i]?).elim false (fun p => abv s p.pa) then [i] else []) (fun i a => a = ix (fun p => abv s p.pa) (l.take i) 0) 0 [] (fun i hi a ha => by
    rw [List.getElem_range]
    have hi' : i < l.length := by simpa using hi
    rw [Nat.zero_add] at ha ⊢
    rw [ix_snoc _ hi', ha, List.getElem?_eq_getElem hi']; rfl) (by simp [ix])
  rw [Nat.zero_add, List.length_range, List.take_length] at inv
  rw [inv]
  rfl
theorem s24 {n : Nat} (hn : 56 < n) (l : List P) (hl : Short l) (f : Bool) (s : List UInt8) (hs : s.length ≤ 1000000) :
    ∃ g, (C18.tab n).p 24 [.lst f (l.map D), .str s] = some (.lst g (if isP s = true then (bel l s).map N else [])) := by
  rw [p24 hn, runP_eq, runH_eq]
  have h25 := s25 (n := 56) (by decide) s (by omega)
  unfold spV at h25
  unfold isP
  cases hp : split s with
  | none =>
    rw [hp] at h25
    have l24n : ∀ (e0 : Env), e0 0 = .lst f (l.map D) → e0 7 = .int .i64 60 → iter (round (C18.tab 56) [5, 8] [(.exit 0, [5])] c24_1 e0 1 [0]) ([.own 0 0 0 0, .int .i64 0], [.row 0 1 []]) = some (.exit 0, [.own 0 0 0 0], [.row 0 1 []]) := by
      intro e0 h0 h7
      rw [iter_eq]
      by_cases hl0 : 0 < l.length
      · simp -implicitDefEqProofs (disch := omega) [wrap_of, ilt_t, ilt_f, ile_t, ile_f, nlt_t, nlt_f, nle_t, nle_f, ieq_t, ieq_f, imin_l, imin_r, imax_l, imax_r, take_app1, take_map_all, round_eq, b24_1, h0, h7, hl0]
      · simp -implicitDefEqProofs (disch := omega) [wrap_of, ilt_t, ilt_f, ile_t, ile_f, nlt_t, nlt_f, nle_t, nle_f, ieq_t, ieq_f, imin_l, imin_r, imax_l, imax_r, take_app1, take_map_all, round_eq, b24_1, h0, h7, hl0]
    refine ⟨false, ?_⟩
    simp -implicitDefEqProofs (disch := omega) [wrap_of, ilt_t, ilt_f, ile_t, ile_f, nlt_t, nlt_f, nle_t, nle_f, ieq_t, ieq_f, imin_l, imin_r, imax_l, imax_r, take_app1, take_map_all, c24, a25, h25]
    rw [l24n _ (by simp -implicitDefEqProofs (disch := omega) [wrap_of, ilt_t, ilt_f, ile_t, ile_f, nlt_t, nlt_f, nle_t, nle_f, ieq_t, ieq_f, imin_l, imin_r, imax_l, imax_r, take_app1, take_map_all, ]) (by simp -implicitDefEqProofs (disch := omega) [wrap_of, ilt_t, ilt_f, ile_t, ile_f, nlt_t, nlt_f, nle_t, nle_f, ieq_t, ieq_f, imin_l, imin_r, imax_l, imax_r, take_app1, take_map_all, ])]
    simp -implicitDefEqProofs (disch := omega) [wrap_of, ilt_t, ilt_f, ile_t, ile_f, nlt_t, nlt_f, nle_t, nle_f, ieq_t, ieq_f, imin_l, imin_r, imax_l, imax_r, take_app1, take_map_all, ]
  | some w =>
    rw [hp] at h25
    refine ⟨false, ?_⟩
    simp -implicitDefEqProofs (disch := omega) [wrap_of, ilt_t, ilt_f, ile_t, ile_f, nlt_t, nlt_f, nle_t, nle_f, ieq_t, ieq_f, imin_l, imin_r, imax_l, imax_r, take_app1, take_map_all, c24, a25, h25]
    rw [l24 (by decide) l hl f s hs _ (by simp -implicitDefEqProofs (disch := omega) [wrap_of, ilt_t, ilt_f, ile_t, ile_f, nlt_t, nlt_f, nle_t, nle_f, ieq_t, ieq_f, imin_l, imin_r, imax_l, imax_r, take_app1, take_map_all, ]) (by simp -implicitDefEqProofs (disch := omega) [wrap_of, ilt_t, ilt_f, ile_t, ile_f, nlt_t, nlt_f, nle_t, nle_f, ieq_t, ieq_f, imin_l, imin_r, imax_l, imax_r, take_app1, take_map_all, ]) (by simp -implicitDefEqProofs (disch := omega) [wrap_of, ilt_t, ilt_f, ile_t, ile_f, nlt_t, nlt_f, nle_t, nle_f, ieq_t, ieq_f, imin_l, imin_r, imax_l, imax_r, take_app1, take_map_all, ])]
    simp -implicitDefEqProofs (disch := omega) [wrap_of, ilt_t, ilt_f, ile_t, ile_f, nlt_t, nlt_f, nle_t, nle_f, ieq_t, ieq_f, imin_l, imin_r, imax_l, imax_r, take_app1, take_map_all, ]
/-- Where a piece of just that path is. -/
def plc (l : List P) (s : List UInt8) : Int := ((l.find? fun p => decide (p.pa = s)).elim (-1) fun _ => ((l.findIdx fun p => decide (p.pa = s) : Nat) : Int))
theorem s59 {n : Nat} (hn : 47 < n) (l : List P) (hl : l.length ≤ 1000000) (f : Bool) (s : List UInt8) : (C18.tab n).p 59 [.lst f (l.map D), .str s] = some (.int .i64 (plc l s)) := by
  rw [p59 hn, runP_eq, runH_eq]
  have l59 : ∀ (e0 : Env), e0 0 = .lst f (l.map D) → e0 1 = .str s → iter (round (C18.tab 47) [5] [(.exit 0, []), (.ret, [4])] c59_1 e0 0 []) ([.int .i64 0], []) = some ((l.find? fun p => decide (p.pa = s)).elim (.exit 0, [], []) fun _ => (.ret, [.int .i64 ((l.findIdx fun p => decide (p.pa = s) : Nat) : Int)], [])) := by
    intro e0 h0 h1
    have := for_idx (f := round (C18.tab 47) [5] [(.exit 0, []), (.ret, [4])] c59_1 e0 0 []) (fun i => ([.int .i64 (i : Int)], [])) l (fun p => decide (p.pa = s)) (fun i _ => (.ret, [.int .i64 (i : Int)], [])) (.exit 0, [], [])
      (fun i hi => by
        obtain ⟨x, hx⟩ : ∃ x, x = l[i] := ⟨_, rfl⟩
        rw [← hx]
        by_cases hs : x.pa = s
        · simp -implicitDefEqProofs (disch := omega) [wrap_of, ilt_t, ilt_f, ile_t, ile_f, nlt_t, nlt_f, nle_t, nle_f, ieq_t, ieq_f, imin_l, imin_r, imax_l, imax_r, take_app1, take_map_all, round_eq, b59_1, h0, h1, hi, ← hx, hs, strBin]
        · simp -implicitDefEqProofs (disch := omega) [wrap_of, ilt_t, ilt_f, ile_t, ile_f, nlt_t, nlt_f, nle_t, nle_f, ieq_t, ieq_f, imin_l, imin_r, imax_l, imax_r, take_app1, take_map_all, round_eq, b59_1, h0, h1, hi, ← hx, hs, strBin])
      (by simp -implicitDefEqProofs (disch := omega) [wrap_of, ilt_t, ilt_f, ile_t, ile_f, nlt_t, nlt_f, nle_t, nle_f, ieq_t, ieq_f, imin_l, imin_r, imax_l, imax_r, take_app1, take_map_all, round_eq, b59_1, h0])
    rw [← this]; rfl
  unfold plc
  simp -implicitDefEqProofs (disch := omega) [wrap_of, ilt_t, ilt_f, ile_t, ile_f, nlt_t, nlt_f, nle_t, nle_f, ieq_t, ieq_f, imin_l, imin_r, imax_l, imax_r, take_app1, take_map_all, c59]
  rw [l59 _ (by simp -implicitDefEqProofs (disch := omega) [wrap_of, ilt_t, ilt_f, ile_t, ile_f, nlt_t, nlt_f, nle_t, nle_f, ieq_t, ieq_f, imin_l, imin_r, imax_l, imax_r, take_app1, take_map_all, ]) (by simp -implicitDefEqProofs (disch := omega) [wrap_of, ilt_t, ilt_f, ile_t, ile_f, nlt_t, nlt_f, nle_t, nle_f, ieq_t, ieq_f, imin_l, imin_r, imax_l, imax_r, take_app1, take_map_all, ])]
  cases l.find? fun p => decide (p.pa = s) <;> simp -implicitDefEqProofs (disch := omega) [wrap_of, ilt_t, ilt_f, ile_t, ile_f, nlt_t, nlt_f, nle_t, nle_f, ieq_t, ieq_f, imin_l, imin_r, imax_l, imax_r, take_app1, take_map_all, ]
end Go.Proofs.Ytlooipgkklaijaa
