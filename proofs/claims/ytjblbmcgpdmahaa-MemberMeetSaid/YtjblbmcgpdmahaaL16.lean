import Derived.Test.YtjblbmcgpdmahaaK16
set_option linter.unusedSimpArgs false
set_option linter.unusedVariables false
namespace Go.Proofs.Ytjblbmcgpdmahaa
open Go.Am

/-! Meet, by trying all. -/
def hit (a b : List Int) (n m : Nat) : Bool := !(decide (b.length < 2 * (pick b m).length) && apartB (pick a n) (pick b m))
def inB (a b : List Int) (n : Nat) : Bool := !decide (a.length < 2 * (pick a n).length) || (List.range 128).all (hit a b n)
def meetB (a b : List Int) : Bool := (List.range 128).all (inB a b)
theorem l34a {n : Nat} (hn : 54 < n) (a b : List Int) (k : Nat) (ha : a.length ≤ 1000000) (hb : b.length ≤ 1000000) (f g : Bool) (e0 : Env) (h0 : e0 0 = .lst f (a.map I)) (h1 : e0 1 = .lst g (b.map I)) (h6 : e0 6 = .lst false ((pick a k).map I)) :
    iter (round (C16.tab n) [7] [(.exit 2, []), (.ret, [4])] c34_1 e0 0 []) ([.int .i64 0], []) = some (if inB a b k = true then (.exit 2, [], []) else (.ret, [.bool false], [])) := by
  have hpa := pick_len a k
  unfold inB
  by_cases hbig : a.length < 2 * (pick a k).length
  · rw [decide_eq_true hbig, Bool.not_true, Bool.false_or]
    refine for_all (f := round (C16.tab n) [7] [(.exit 2, []), (.ret, [4])] c34_1 e0 0 []) (fun i => ([.int .i64 (i : Int)], [])) (List.range 128) (hit a b k) _ _ (fun m hm => ?_) ?_
    · rw [List.getElem_range]
      have hm' : m < 128 := by simpa using hm
      have hpb := pick_len b m
      have h53 := s53 (n := n) (by omega) b m hb (by omega) g
      have h54 := s54 (n := n) hn (pick a k) (pick b m) (by omega) (by omega) false false
      unfold hit
      generalize apartB (pick a k) (pick b m) = q at *
      by_cases h2 : b.length < 2 * (pick b m).length
      · cases q with
        | true => simp -implicitDefEqProofs (disch := omega) [wrap_of, ilt_t, ilt_f, ile_t, ile_f, nlt_t, nlt_f, nle_t, nle_f, ieq_t, ieq_f, imin_l, imin_r, imax_l, imax_r, take_app1, take_map_all, round_eq, b34_1, h0, h1, h6, hbig, hm', a53, h53, a54, h54, h2]
        | false => simp -implicitDefEqProofs (disch := omega) [wrap_of, ilt_t, ilt_f, ile_t, ile_f, nlt_t, nlt_f, nle_t, nle_f, ieq_t, ieq_f, imin_l, imin_r, imax_l, imax_r, take_app1, take_map_all, round_eq, b34_1, h0, h1, h6, hbig, hm', a53, h53, a54, h54, h2]
      · simp -implicitDefEqProofs (disch := omega) [wrap_of, ilt_t, ilt_f, ile_t, ile_f, nlt_t, nlt_f, nle_t, nle_f, ieq_t, ieq_f, imin_l, imin_r, imax_l, imax_r, take_app1, take_map_all, round_eq, b34_1, h0, h1, h6, hbig, hm', a53, h53, a54, h54, h2]
    · simp -implicitDefEqProofs (disch := omega) [wrap_of, ilt_t, ilt_f, ile_t, ile_f, nlt_t, nlt_f, nle_t, nle_f, ieq_t, ieq_f, imin_l, imin_r, imax_l, imax_r, take_app1, take_map_all, round_eq, b34_1, h0, h6, hbig]
  · rw [decide_eq_false hbig, Bool.not_false, Bool.true_or, if_pos rfl, iter_eq]
    simp -implicitDefEqProofs (disch := omega) [wrap_of, ilt_t, ilt_f, ile_t, ile_f, nlt_t, nlt_f, nle_t, nle_f, ieq_t, ieq_f, imin_l, imin_r, imax_l, imax_r, take_app1, take_map_all, round_eq, b34_1, h0, h6, hbig]
theorem l34 {n : Nat} (hn : 54 < n) (a b : List Int) (ha : a.length ≤ 1000000) (hb : b.length ≤ 1000000) (f g : Bool) (e0 : Env) (h0 : e0 0 = .lst f (a.map I)) (h1 : e0 1 = .lst g (b.map I)) :
    iter (round (C16.tab n) [5] [(.exit 0, []), (.ret, [4])] c34_2 e0 0 []) ([.int .i64 0], []) = some (if meetB a b = true then (.exit 0, [], []) else (.ret, [.bool false], [])) := by
  refine for_all (f := round (C16.tab n) [5] [(.exit 0, []), (.ret, [4])] c34_2 e0 0 []) (fun i => ([.int .i64 (i : Int)], [])) (List.range 128) (inB a b) _ _ (fun k hk => ?_) ?_
  · rw [List.getElem_range]
    have hk' : k < 128 := by simpa using hk
    have h53 := s53 (n := n) (by omega) a k ha (by omega) f
    have h34 := l34a (n := n) hn a b k ha hb f g
    generalize inB a b k = q at *
    simp -implicitDefEqProofs (disch := omega) [wrap_of, ilt_t, ilt_f, ile_t, ile_f, nlt_t, nlt_f, nle_t, nle_f, ieq_t, ieq_f, imin_l, imin_r, imax_l, imax_r, take_app1, take_map_all, round_eq, b34_2, h0, hk', a53, h53]
    rw [h34 _ (by simp -implicitDefEqProofs (disch := omega) [wrap_of, ilt_t, ilt_f, ile_t, ile_f, nlt_t, nlt_f, nle_t, nle_f, ieq_t, ieq_f, imin_l, imin_r, imax_l, imax_r, take_app1, take_map_all, h0]) (by simp -implicitDefEqProofs (disch := omega) [wrap_of, ilt_t, ilt_f, ile_t, ile_f, nlt_t, nlt_f, nle_t, nle_f, ieq_t, ieq_f, imin_l, imin_r, imax_l, imax_r, take_app1, take_map_all, h1]) (by simp -implicitDefEqProofs (disch := omega) [wrap_of, ilt_t, ilt_f, ile_t, ile_f, nlt_t, nlt_f, nle_t, nle_f, ieq_t, ieq_f, imin_l, imin_r, imax_l, imax_r, take_app1, take_map_all, ])]
    cases q with
    | true => simp -implicitDefEqProofs (disch := omega) [wrap_of, ilt_t, ilt_f, ile_t, ile_f, nlt_t, nlt_f, nle_t, nle_f, ieq_t, ieq_f, imin_l, imin_r, imax_l, imax_r, take_app1, take_map_all, ]
    | false => simp -implicitDefEqProofs (disch := omega) [wrap_of, ilt_t, ilt_f, ile_t, ile_f, nlt_t, nlt_f, nle_t, nle_f, ieq_t, ieq_f, imin_l, imin_r, imax_l, imax_r, take_app1, take_map_all, ]
  · simp -implicitDefEqProofs (disch := omega) [wrap_of, ilt_t, ilt_f, ile_t, ile_f, nlt_t, nlt_f, nle_t, nle_f, ieq_t, ieq_f, imin_l, imin_r, imax_l, imax_r, take_app1, take_map_all, round_eq, b34_2]
theorem s34 {n : Nat} (hn : 55 < n) (a b : List Int) (ha : a.length ≤ 1000000) (hb : b.length ≤ 1000000) (f g : Bool) : (C16.tab n).p 34 [.lst f (a.map I), .lst g (b.map I)] = some (.bool (meetB a b)) := by
  rw [p34 hn, runP_eq, runH_eq]
  have h := l34 (n := 55) (by decide) a b ha hb f g
  simp -implicitDefEqProofs (disch := omega) [wrap_of, ilt_t, ilt_f, ile_t, ile_f, nlt_t, nlt_f, nle_t, nle_f, ieq_t, ieq_f, imin_l, imin_r, imax_l, imax_r, take_app1, take_map_all, c34]
  rw [h _ (by simp -implicitDefEqProofs (disch := omega) [wrap_of, ilt_t, ilt_f, ile_t, ile_f, nlt_t, nlt_f, nle_t, nle_f, ieq_t, ieq_f, imin_l, imin_r, imax_l, imax_r, take_app1, take_map_all, ]) (by simp -implicitDefEqProofs (disch := omega) [wrap_of, ilt_t, ilt_f, ile_t, ile_f, nlt_t, nlt_f, nle_t, nle_f, ieq_t, ieq_f, imin_l, imin_r, imax_l, imax_r, take_app1, take_map_all, ])]
  cases meetB a b with
  | true => simp -implicitDefEqProofs (disch := omega) [wrap_of, ilt_t, ilt_f, ile_t, ile_f, nlt_t, nlt_f, nle_t, nle_f, ieq_t, ieq_f, imin_l, imin_r, imax_l, imax_r, take_app1, take_map_all, ]
  | false => simp -implicitDefEqProofs (disch := omega) [wrap_of, ilt_t, ilt_f, ile_t, ile_f, nlt_t, nlt_f, nle_t, nle_f, ieq_t, ieq_f, imin_l, imin_r, imax_l, imax_r, take_app1, take_map_all, ]

/-! Has. -/
theorem l32 {Γ : Tab} (l : List Int) (x : Int) (hl : l.length ≤ 1000000) (f : Bool) (e0 : Env) (h0 : e0 0 = .lst f (l.map I)) (h1 : e0 1 = I x) :
    iter (round Γ [5] [(.exit 0, []), (.ret, [4])] c32_1 e0 0 []) ([.int .i64 0], []) = some (if (l.all fun y => !decide (y = x)) = true then (.exit 0, [], []) else (.ret, [.bool true], [])) :=
  for_all (f := round Γ [5] [(.exit 0, []), (.ret, [4])] c32_1 e0 0 []) (fun i => ([.int .i64 (i : Int)], [])) l (fun y => !decide (y = x)) _ _ (fun i hi => by
      obtain ⟨y, hy⟩ : ∃ y, y = l[i] := ⟨_, rfl⟩
      rw [← hy]
      by_cases h : y = x
      · simp -implicitDefEqProofs (disch := omega) [wrap_of, ilt_t, ilt_f, ile_t, ile_f, nlt_t, nlt_f, nle_t, nle_f, ieq_t, ieq_f, imin_l, imin_r, imax_l, imax_r, take_app1, take_map_all, round_eq, b32_1, h0, h1, hi, ← hy, h]
      · simp -implicitDefEqProofs (disch := omega) [wrap_of, ilt_t, ilt_f, ile_t, ile_f, nlt_t, nlt_f, nle_t, nle_f, ieq_t, ieq_f, imin_l, imin_r, imax_l, imax_r, take_app1, take_map_all, round_eq, b32_1, h0, h1, hi, ← hy, h])
    (by simp -implicitDefEqProofs (disch := omega) [wrap_of, ilt_t, ilt_f, ile_t, ile_f, nlt_t, nlt_f, nle_t, nle_f, ieq_t, ieq_f, imin_l, imin_r, imax_l, imax_r, take_app1, take_map_all, round_eq, b32_1, h0])
theorem l32o {Γ : Tab} (l : List Int) (x : Int) (hl : l.length ≤ 1000000) (e0 : Env) (h0 : e0 0 = .own 0 0 0 l.length) (h1 : e0 1 = I x) :
    iter (round Γ [5] [(.exit 0, []), (.ret, [4])] c32_1 e0 1 []) ([.int .i64 0], [.row 0 1 (l.map I)]) = some (if (l.all fun y => !decide (y = x)) = true then (.exit 0, [], [.row 0 1 (l.map I)]) else (.ret, [.bool true], [.row 0 1 (l.map I)])) :=
  for_all (f := round Γ [5] [(.exit 0, []), (.ret, [4])] c32_1 e0 1 []) (fun i => ([.int .i64 (i : Int)], [.row 0 1 (l.map I)])) l (fun y => !decide (y = x)) _ _ (fun i hi => by
      obtain ⟨y, hy⟩ : ∃ y, y = l[i] := ⟨_, rfl⟩
      rw [← hy]
      by_cases h : y = x
      · simp -implicitDefEqProofs (disch := omega) [wrap_of, ilt_t, ilt_f, ile_t, ile_f, nlt_t, nlt_f, nle_t, nle_f, ieq_t, ieq_f, imin_l, imin_r, imax_l, imax_r, take_app1, take_map_all, round_eq, b32_1, h0, h1, hi, ← hy, h]
      · simp -implicitDefEqProofs (disch := omega) [wrap_of, ilt_t, ilt_f, ile_t, ile_f, nlt_t, nlt_f, nle_t, nle_f, ieq_t, ieq_f, imin_l, imin_r, imax_l, imax_r, take_app1, take_map_all, round_eq, b32_1, h0, h1, hi, ← hy, h])
    (by simp -implicitDefEqProofs (disch := omega) [wrap_of, ilt_t, ilt_f, ile_t, ile_f, nlt_t, nlt_f, nle_t, nle_f, ieq_t, ieq_f, imin_l, imin_r, imax_l, imax_r, take_app1, take_map_all, round_eq, b32_1, h0])
theorem all_mem (l : List Int) (x : Int) : (l.all fun y => !decide (y = x)) = !decide (x ∈ l) := by
  induction l with
  | nil => rfl
  | cons y l ih =>
    rw [List.all_cons, ih]
    by_cases h : y = x
    · subst h; simp
    · have h' : ¬ x = y := fun h' => h h'.symm
      simp [h, h']
theorem s32 {n : Nat} (hn : 50 < n) (l : List Int) (x : Int) (hl : l.length ≤ 1000000) (f : Bool) : callA (C16.tab n) 32 [.lst f (l.map I), I x] [] = some (.bool (decide (x ∈ l)), []) := by
  rw [p32 hn, runH_eq]
  have h := l32 (Γ := C16.tab 50) l x hl f
  simp -implicitDefEqProofs (disch := omega) [wrap_of, ilt_t, ilt_f, ile_t, ile_f, nlt_t, nlt_f, nle_t, nle_f, ieq_t, ieq_f, imin_l, imin_r, imax_l, imax_r, take_app1, take_map_all, c32]
  rw [h _ (by simp -implicitDefEqProofs (disch := omega) [wrap_of, ilt_t, ilt_f, ile_t, ile_f, nlt_t, nlt_f, nle_t, nle_f, ieq_t, ieq_f, imin_l, imin_r, imax_l, imax_r, take_app1, take_map_all, ]) (by simp -implicitDefEqProofs (disch := omega) [wrap_of, ilt_t, ilt_f, ile_t, ile_f, nlt_t, nlt_f, nle_t, nle_f, ieq_t, ieq_f, imin_l, imin_r, imax_l, imax_r, take_app1, take_map_all, ]), all_mem]
  cases decide (x ∈ l) with
  | true => simp -implicitDefEqProofs (disch := omega) [wrap_of, ilt_t, ilt_f, ile_t, ile_f, nlt_t, nlt_f, nle_t, nle_f, ieq_t, ieq_f, imin_l, imin_r, imax_l, imax_r, take_app1, take_map_all, ]
  | false => simp -implicitDefEqProofs (disch := omega) [wrap_of, ilt_t, ilt_f, ile_t, ile_f, nlt_t, nlt_f, nle_t, nle_f, ieq_t, ieq_f, imin_l, imin_r, imax_l, imax_r, take_app1, take_map_all, ]
theorem s32o {n : Nat} (hn : 50 < n) (l : List Int) (x : Int) (hl : l.length ≤ 1000000) : callA (C16.tab n) 32 [.own 0 0 0 l.length, I x] [.row 0 1 (l.map I)] = some (.bool (decide (x ∈ l)), [.row 0 1 (l.map I)]) := by
  rw [p32 hn, runH_eq]
  have h := l32o (Γ := C16.tab 50) l x hl
  simp -implicitDefEqProofs (disch := omega) [wrap_of, ilt_t, ilt_f, ile_t, ile_f, nlt_t, nlt_f, nle_t, nle_f, ieq_t, ieq_f, imin_l, imin_r, imax_l, imax_r, take_app1, take_map_all, c32]
  rw [h _ (by simp -implicitDefEqProofs (disch := omega) [wrap_of, ilt_t, ilt_f, ile_t, ile_f, nlt_t, nlt_f, nle_t, nle_f, ieq_t, ieq_f, imin_l, imin_r, imax_l, imax_r, take_app1, take_map_all, ]) (by simp -implicitDefEqProofs (disch := omega) [wrap_of, ilt_t, ilt_f, ile_t, ile_f, nlt_t, nlt_f, nle_t, nle_f, ieq_t, ieq_f, imin_l, imin_r, imax_l, imax_r, take_app1, take_map_all, ]), all_mem]
  cases decide (x ∈ l) with
  | true => simp -implicitDefEqProofs (disch := omega) [wrap_of, ilt_t, ilt_f, ile_t, ile_f, nlt_t, nlt_f, nle_t, nle_f, ieq_t, ieq_f, imin_l, imin_r, imax_l, imax_r, take_app1, take_map_all, ]
  | false => simp -implicitDefEqProofs (disch := omega) [wrap_of, ilt_t, ilt_f, ile_t, ile_f, nlt_t, nlt_f, nle_t, nle_f, ieq_t, ieq_f, imin_l, imin_r, imax_l, imax_r, take_app1, take_map_all, ]

/-! Seats of raw numbers. -/
def inn (x : Int) (o : List Int) (r : UInt8) : List Int := if ((r.toNat % 12 : Nat) : Int) = x ∧ ¬ x ∈ o then o ++ [x] else o
theorem l33a {n : Nat} (hn : 50 < n) (raw : List UInt8) (x : Int) (hr : raw.length ≤ 1000) (o : List Int) (ho : o.length ≤ 1000) (f : Bool) (e0 : Env) (h0 : e0 0 = .lst f (raw.map B)) (h4 : e0 4 = I x) :
    iter (round (C16.tab n) [3, 5] [(.exit 2, [3])] c33_1 e0 1 [0]) ([.own 0 0 0 o.length, .int .i64 0], [.row 0 1 (o.map I)]) = some (.exit 2, [.own 0 0 0 (raw.foldl (inn x) o).length], [.row 0 1 ((raw.foldl (inn x) o).map I)]) :=
  for_list (f := round (C16.tab n) [3, 5] [(.exit 2, [3])] c33_1 e0 1 [0]) (fun i (o : List Int) => ([.own 0 0 0 o.length, .int .i64 (i : Int)], [.row 0 1 (o.map I)])) raw (inn x) (fun o => (.exit 2, [.own 0 0 0 o.length], [.row 0 1 (o.map I)])) (fun i s => s.length ≤ o.length + i ∧ o.length + i ≤ 1000 + i)
    (fun i hi s hs => by
      obtain ⟨r, hrr⟩ : ∃ r, r = raw[i] := ⟨_, rfl⟩
      have h32 := s32o (n := n) hn s x (by omega)
      rw [← hrr]
      have e1 : ((r.toNat : Int).tmod 12) = ((r.toNat % 12 : Nat) : Int) := by rw [Int.tmod_eq_emod_of_nonneg (by omega)]; omega
      have hw : IntKind.i64.wrap ((r.toNat % 12 : Nat) : Int) = ((r.toNat % 12 : Nat) : Int) := wrap_of (by omega) (by omega)
      unfold inn
      by_cases h : ((r.toNat % 12 : Nat) : Int) = x
      · by_cases h2 : x ∈ s
        · rw [decide_eq_true h2] at h32
          rw [if_neg (fun h' => h'.2 h2)]
          refine ⟨by omega, ?_⟩
          simp -implicitDefEqProofs (disch := omega) [wrap_of, ilt_t, ilt_f, ile_t, ile_f, nlt_t, nlt_f, nle_t, nle_f, ieq_t, ieq_f, imin_l, imin_r, imax_l, imax_r, take_app1, take_map_all, round_eq, b33_1, h0, h4, hi, ← hrr, e1, h32, h]
        · rw [decide_eq_false h2] at h32
          rw [if_pos ⟨h, h2⟩]
          refine ⟨by simp; omega, ?_⟩
          simp -implicitDefEqProofs (disch := omega) [wrap_of, ilt_t, ilt_f, ile_t, ile_f, nlt_t, nlt_f, nle_t, nle_f, ieq_t, ieq_f, imin_l, imin_r, imax_l, imax_r, take_app1, take_map_all, round_eq, b33_1, h0, h4, hi, ← hrr, e1, h32, h]
      · rw [if_neg (fun h' => h h'.1)]
        refine ⟨by omega, ?_⟩
        cases hq : decide (x ∈ s) with
        | true =>
          rw [hq] at h32
          simp -implicitDefEqProofs (disch := omega) [wrap_of, ilt_t, ilt_f, ile_t, ile_f, nlt_t, nlt_f, nle_t, nle_f, ieq_t, ieq_f, imin_l, imin_r, imax_l, imax_r, take_app1, take_map_all, round_eq, b33_1, h0, h4, hi, ← hrr, e1, hw, h32, h]
        | false =>
          rw [hq] at h32
          simp -implicitDefEqProofs (disch := omega) [wrap_of, ilt_t, ilt_f, ile_t, ile_f, nlt_t, nlt_f, nle_t, nle_f, ieq_t, ieq_f, imin_l, imin_r, imax_l, imax_r, take_app1, take_map_all, round_eq, b33_1, h0, h4, hi, ← hrr, e1, hw, h32, h])
    (fun s hs => by simp -implicitDefEqProofs (disch := omega) [wrap_of, ilt_t, ilt_f, ile_t, ile_f, nlt_t, nlt_f, nle_t, nle_f, ieq_t, ieq_f, imin_l, imin_r, imax_l, imax_r, take_app1, take_map_all, round_eq, b33_1, h0]) o (by omega)
def outg (raw : List UInt8) (o : List Int) (x : Nat) : List Int ⊕ List Int := if o.length < 7 then .inl (raw.foldl (inn x) o) else .inr o
def seatsF (raw : List UInt8) : List Int := match foldE (outg raw) (List.range 12) [] with | .inl o => o | .inr o => o
theorem inn_in (x : Int) (raw : List UInt8) : ∀ o : List Int, x ∈ o → raw.foldl (inn x) o = o := by
  induction raw with
  | nil => intro o _; rfl
  | cons r l ih =>
    intro o h
    have e : inn x o r = o := by unfold inn; rw [if_neg (fun h' => h'.2 h)]
    rw [List.foldl_cons, e, ih o h]
theorem inn_fold (x : Int) (raw : List UInt8) : ∀ o : List Int, raw.foldl (inn x) o = o ∨ raw.foldl (inn x) o = o ++ [x] := by
  induction raw with
  | nil => intro o; exact .inl rfl
  | cons r l ih =>
    intro o
    rw [List.foldl_cons]
    have e : inn x o r = o ∨ inn x o r = o ++ [x] := by unfold inn; split <;> simp
    rcases e with e | e
    · rw [e]; exact ih o
    · rw [e, inn_in x l _ (by simp)]; exact .inr rfl
/-- Seats below a number. -/
def Bel (i : Nat) (o : List Int) : Prop := Up o ∧ (∀ y ∈ o, 0 ≤ y ∧ y < i) ∧ o.length ≤ 7
theorem bel_step {raw : List UInt8} {i : Nat} {o : List Int} (h : Bel i o) (hl : o.length < 7) : Bel (i + 1) (raw.foldl (inn (i : Int)) o) := by
  obtain ⟨h1, h2, h3⟩ := h
  rcases inn_fold (i : Int) raw o with e | e
  · rw [e]
    exact ⟨h1, fun y hy => by have := h2 y hy; omega, h3⟩
  · rw [e]
    refine ⟨List.pairwise_append.2 ⟨h1, by simp, fun a ha b hb => ?_⟩, fun y hy => ?_, by simp; omega⟩
    · have := h2 a ha
      simp only [List.mem_singleton] at hb
      omega
    · rcases List.mem_append.1 hy with hy | hy
      · have := h2 y hy; omega
      · simp only [List.mem_singleton] at hy
        omega
theorem foldE_out {Y : Type} (raw : List UInt8) (fin : List Int → Y) (G : List Int → Nat → List Int ⊕ Y) (hG : ∀ o x, G o x = if o.length < 7 then .inl (raw.foldl (inn (x : Int)) o) else .inr (fin o)) : ∀ (l : List Nat) (o : List Int), foldE G l o = match foldE (outg raw) l o with | .inl o => .inl o | .inr o => .inr (fin o)
  | [], o => rfl
  | x :: l, o => by
    simp only [foldE, outg, hG]
    by_cases h : o.length < 7
    · rw [if_pos h, if_pos h]
      exact foldE_out raw fin G hG l _
    · rw [if_neg h, if_neg h]
theorem l33 {n : Nat} (hn : 50 < n) (raw : List UInt8) (hr : raw.length ≤ 1000) (f : Bool) (e0 : Env) (h0 : e0 0 = .lst f (raw.map B)) :
    iter (round (C16.tab n) [3, 4] [(.exit 0, [3])] c33_2 e0 1 [0]) ([.own 0 0 0 0, .int .i64 0], [.row 0 1 []]) = some (.exit 0, [.own 0 0 0 (seatsF raw).length], [.row 0 1 ((seatsF raw).map I)]) := by
  have := for_listE (f := round (C16.tab n) [3, 4] [(.exit 0, [3])] c33_2 e0 1 [0]) (fun i (o : List Int) => ([.own 0 0 0 o.length, .int .i64 (i : Int)], [.row 0 1 (o.map I)])) (List.range 12)
    (fun o x => if o.length < 7 then .inl (raw.foldl (inn (x : Int)) o) else .inr (.exit 0, [.own 0 0 0 o.length], [.row 0 1 (o.map I)])) (fun o => (.exit 0, [.own 0 0 0 o.length], [.row 0 1 (o.map I)])) (fun i o => Bel i o)
    (fun i hi o ho => by
      have hi' : i < 12 := by simpa using hi
      rw [List.getElem_range]
      have hol := ho.2.2
      have hstep := bel_step (raw := raw) ho
      have h33 := l33a (n := n) hn raw (i : Int) hr o (by omega) f
      generalize hq : raw.foldl (inn (i : Int)) o = q at *
      by_cases h : o.length < 7
      · rw [if_pos h]
        refine ⟨hstep h, ?_⟩
        have hql := (hstep h).2.2
        simp -implicitDefEqProofs (disch := omega) [wrap_of, ilt_t, ilt_f, ile_t, ile_f, nlt_t, nlt_f, nle_t, nle_f, ieq_t, ieq_f, imin_l, imin_r, imax_l, imax_r, take_app1, take_map_all, round_eq, b33_2, hi', h]
        rw [h33 _ (by simp -implicitDefEqProofs (disch := omega) [wrap_of, ilt_t, ilt_f, ile_t, ile_f, nlt_t, nlt_f, nle_t, nle_f, ieq_t, ieq_f, imin_l, imin_r, imax_l, imax_r, take_app1, take_map_all, h0]) (by simp -implicitDefEqProofs (disch := omega) [wrap_of, ilt_t, ilt_f, ile_t, ile_f, nlt_t, nlt_f, nle_t, nle_f, ieq_t, ieq_f, imin_l, imin_r, imax_l, imax_r, take_app1, take_map_all, ])]
        simp -implicitDefEqProofs (disch := omega) [wrap_of, ilt_t, ilt_f, ile_t, ile_f, nlt_t, nlt_f, nle_t, nle_f, ieq_t, ieq_f, imin_l, imin_r, imax_l, imax_r, take_app1, take_map_all, ]
      · rw [if_neg h]
        simp -implicitDefEqProofs (disch := omega) [wrap_of, ilt_t, ilt_f, ile_t, ile_f, nlt_t, nlt_f, nle_t, nle_f, ieq_t, ieq_f, imin_l, imin_r, imax_l, imax_r, take_app1, take_map_all, round_eq, b33_2, hi', h])
    (fun o ho => by rw [List.length_range]; simp -implicitDefEqProofs (disch := omega) [wrap_of, ilt_t, ilt_f, ile_t, ile_f, nlt_t, nlt_f, nle_t, nle_f, ieq_t, ieq_f, imin_l, imin_r, imax_l, imax_r, take_app1, take_map_all, round_eq, b33_2]) [] ⟨by simp, by simp, by simp⟩
  simp only [Int.natCast_zero, List.length_nil, List.map_nil] at this
  rw [this]
  unfold seatsF
  rw [foldE_out raw _ _ (fun o x => rfl)]
  cases foldE (outg raw) (List.range 12) [] <;> rfl
theorem foldE_bel (raw : List UInt8) : ∀ (k i : Nat) (o : List Int), Bel i o → ∃ j o', (foldE (outg raw) (List.range' i k) o = .inl o' ∨ foldE (outg raw) (List.range' i k) o = .inr o') ∧ Bel j o' ∧ j ≤ i + k
  | 0, i, o, h => ⟨i, o, .inl rfl, h, Nat.le_refl _⟩
  | k + 1, i, o, h => by
    rw [List.range'_succ]
    simp only [foldE, outg]
    by_cases hl : o.length < 7
    · rw [if_pos hl]
      obtain ⟨j, o', h1, h2, h3⟩ := foldE_bel raw k (i + 1) _ (bel_step (raw := raw) h hl)
      exact ⟨j, o', h1, h2, by omega⟩
    · rw [if_neg hl]
      exact ⟨i, o, .inr rfl, h, by omega⟩
theorem seats_bel (raw : List UInt8) : ∃ j, j ≤ 12 ∧ Bel j (seatsF raw) := by
  obtain ⟨j, o', h1, h2, h3⟩ := foldE_bel raw 12 0 [] ⟨by simp, by simp, by simp⟩
  unfold seatsF
  rw [List.range_eq_range']
  rcases h1 with h1 | h1 <;> rw [h1] <;> exact ⟨j, by omega, h2⟩
theorem seats_right (raw : List UInt8) : seatsF raw = [] ∨ right (seatsF raw) = true := by
  obtain ⟨j, hj, h1, h2, h3⟩ := seats_bel raw
  rcases hs : seatsF raw with _ | ⟨x, l⟩
  · exact .inl rfl
  · right
    rw [← hs]
    exact right_iff.2 ⟨⟨h1, fun y hy => by have := h2 y hy; omega⟩, by rw [hs]; simp, h3⟩
theorem s33 {n : Nat} (hn : 52 < n) (raw : List UInt8) (hr : raw.length ≤ 1000) (f : Bool) : (C16.tab n).p 33 [.lst f (raw.map B)] = some (.lst false ((seatsF raw).map I)) := by
  rw [p33 hn, runP_eq, runH_eq]
  have h := l33 (n := 52) (by decide) raw hr f
  simp -implicitDefEqProofs (disch := omega) [wrap_of, ilt_t, ilt_f, ile_t, ile_f, nlt_t, nlt_f, nle_t, nle_f, ieq_t, ieq_f, imin_l, imin_r, imax_l, imax_r, take_app1, take_map_all, c33]
  rw [h _ (by simp -implicitDefEqProofs (disch := omega) [wrap_of, ilt_t, ilt_f, ile_t, ile_f, nlt_t, nlt_f, nle_t, nle_f, ieq_t, ieq_f, imin_l, imin_r, imax_l, imax_r, take_app1, take_map_all, ])]
  simp -implicitDefEqProofs (disch := omega) [wrap_of, ilt_t, ilt_f, ile_t, ile_f, nlt_t, nlt_f, nle_t, nle_f, ieq_t, ieq_f, imin_l, imin_r, imax_l, imax_r, take_app1, take_map_all, ]

/-! What is asked of arguments. -/
def fewE (l : List En) : Bool := decide (l.length ≤ 40) && l.all fun e => decide (e.da.length ≤ 40) && (decide (0 ≤ e.te) && decide (e.te ≤ 1000000))
theorem l35 {Γ : Tab} (l : List En) (hl : l.length ≤ 40) (hf : ∀ e ∈ l, e.da.length ≤ 9223372036854775807) (f : Bool) (e0 : Env) (h0 : e0 0 = .lst f (l.map E)) :
    iter (round Γ [3] [(.exit 0, []), (.ret, [2])] c35_1 e0 0 []) ([.int .i64 0], []) = some (if (l.all fun e => decide (e.da.length ≤ 40) && (decide (0 ≤ e.te) && decide (e.te ≤ 1000000))) = true then (.exit 0, [], []) else (.ret, [.bool false], [])) :=
  for_all (f := round Γ [3] [(.exit 0, []), (.ret, [2])] c35_1 e0 0 []) (fun i => ([.int .i64 (i : Int)], [])) l (fun e => decide (e.da.length ≤ 40) && (decide (0 ≤ e.te) && decide (e.te ≤ 1000000))) _ _ (fun i hi => by
      obtain ⟨y, hy⟩ : ∃ y, y = l[i] := ⟨_, rfl⟩
      have hyl := hf _ (List.getElem_mem hi)
      rw [← hy] at hyl ⊢
      by_cases h1 : y.da.length ≤ 40
      · by_cases h2 : 0 ≤ y.te
        · by_cases h3 : y.te ≤ 1000000
          · simp -implicitDefEqProofs (disch := omega) [wrap_of, ilt_t, ilt_f, ile_t, ile_f, nlt_t, nlt_f, nle_t, nle_f, ieq_t, ieq_f, imin_l, imin_r, imax_l, imax_r, take_app1, take_map_all, round_eq, b35_1, h0, hi, ← hy, h1, h2, h3]
          · simp -implicitDefEqProofs (disch := omega) [wrap_of, ilt_t, ilt_f, ile_t, ile_f, nlt_t, nlt_f, nle_t, nle_f, ieq_t, ieq_f, imin_l, imin_r, imax_l, imax_r, take_app1, take_map_all, round_eq, b35_1, h0, hi, ← hy, h1, h2, h3]
        · simp -implicitDefEqProofs (disch := omega) [wrap_of, ilt_t, ilt_f, ile_t, ile_f, nlt_t, nlt_f, nle_t, nle_f, ieq_t, ieq_f, imin_l, imin_r, imax_l, imax_r, take_app1, take_map_all, round_eq, b35_1, h0, hi, ← hy, h1, h2]
      · simp -implicitDefEqProofs (disch := omega) [wrap_of, ilt_t, ilt_f, ile_t, ile_f, nlt_t, nlt_f, nle_t, nle_f, ieq_t, ieq_f, imin_l, imin_r, imax_l, imax_r, take_app1, take_map_all, round_eq, b35_1, h0, hi, ← hy, h1])
    (by simp -implicitDefEqProofs (disch := omega) [wrap_of, ilt_t, ilt_f, ile_t, ile_f, nlt_t, nlt_f, nle_t, nle_f, ieq_t, ieq_f, imin_l, imin_r, imax_l, imax_r, take_app1, take_map_all, round_eq, b35_1, h0])
theorem s35 {n : Nat} (hn : 32 < n) (l : List En) (hl : Fin l) (f : Bool) : (C16.tab n).p 35 [.lst f (l.map E)] = some (.bool (fewE l)) := by
  rw [p35 hn, runP_eq, runH_eq]
  have hll := hl.1
  unfold fewE
  by_cases h : l.length ≤ 40
  · have h35 := l35 (Γ := C16.tab 32) l h hl.2 f
    generalize (l.all fun e => decide (e.da.length ≤ 40) && (decide (0 ≤ e.te) && decide (e.te ≤ 1000000))) = q at *
    simp -implicitDefEqProofs (disch := omega) [wrap_of, ilt_t, ilt_f, ile_t, ile_f, nlt_t, nlt_f, nle_t, nle_f, ieq_t, ieq_f, imin_l, imin_r, imax_l, imax_r, take_app1, take_map_all, c35, h]
    rw [h35 _ (by simp -implicitDefEqProofs (disch := omega) [wrap_of, ilt_t, ilt_f, ile_t, ile_f, nlt_t, nlt_f, nle_t, nle_f, ieq_t, ieq_f, imin_l, imin_r, imax_l, imax_r, take_app1, take_map_all, ])]
    cases q with
    | true => simp -implicitDefEqProofs (disch := omega) [wrap_of, ilt_t, ilt_f, ile_t, ile_f, nlt_t, nlt_f, nle_t, nle_f, ieq_t, ieq_f, imin_l, imin_r, imax_l, imax_r, take_app1, take_map_all, ]
    | false => simp -implicitDefEqProofs (disch := omega) [wrap_of, ilt_t, ilt_f, ile_t, ile_f, nlt_t, nlt_f, nle_t, nle_f, ieq_t, ieq_f, imin_l, imin_r, imax_l, imax_r, take_app1, take_map_all, ]
  · simp -implicitDefEqProofs (disch := omega) [wrap_of, ilt_t, ilt_f, ile_t, ile_f, nlt_t, nlt_f, nle_t, nle_f, ieq_t, ieq_f, imin_l, imin_r, imax_l, imax_r, take_app1, take_map_all, c35, h]
def fitB (b : Ba) (l : List En) : Bool := right b.ps && (decide (0 ≤ b.many ∧ b.many ≤ 1000000 ∧ 0 ≤ b.term ∧ b.term ≤ 1000000 ∧ (b.many = 0 → b.term = 0) ∧ b.da.length ≤ 40) && fewE l)
theorem s10 {n : Nat} (hn : 34 < n) (b : Ba) (hb : BFin b) (l : List En) (hl : Fin l) (f : Bool) : (C16.tab n).p 10 [Bs b, .lst f (l.map E)] = some (.bool (fitB b l)) := by
  rw [p10 hn, runP_eq, runH_eq]
  have h39 := s39 (n := 34) (by decide) b.ps hb.ps b.fp
  have h35 := s35 (n := 34) (by decide) l hl f
  have hd := hb.da
  unfold fitB
  cases hr : right b.ps with
  | false =>
    rw [hr] at h39
    simp -implicitDefEqProofs (disch := omega) [wrap_of, ilt_t, ilt_f, ile_t, ile_f, nlt_t, nlt_f, nle_t, nle_f, ieq_t, ieq_f, imin_l, imin_r, imax_l, imax_r, take_app1, take_map_all, c10, a39, h39]
  | true =>
    rw [hr] at h39
    by_cases c1 : 0 ≤ b.many
    · by_cases c2 : b.many ≤ 1000000
      · by_cases c3 : 0 ≤ b.term
        · by_cases c4 : b.term ≤ 1000000
          · by_cases c5 : b.many = 0
            · by_cases c6 : b.term = 0
              · by_cases c7 : b.da.length ≤ 40
                · simp -implicitDefEqProofs (disch := omega) [wrap_of, ilt_t, ilt_f, ile_t, ile_f, nlt_t, nlt_f, nle_t, nle_f, ieq_t, ieq_f, imin_l, imin_r, imax_l, imax_r, take_app1, take_map_all, c10, a39, h39, a35, h35, c1, c2, c3, c4, c5, c6, c7]
                · simp -implicitDefEqProofs (disch := omega) [wrap_of, ilt_t, ilt_f, ile_t, ile_f, nlt_t, nlt_f, nle_t, nle_f, ieq_t, ieq_f, imin_l, imin_r, imax_l, imax_r, take_app1, take_map_all, c10, a39, h39, a35, h35, c1, c2, c3, c4, c5, c6, c7]
              · simp -implicitDefEqProofs (disch := omega) [wrap_of, ilt_t, ilt_f, ile_t, ile_f, nlt_t, nlt_f, nle_t, nle_f, ieq_t, ieq_f, imin_l, imin_r, imax_l, imax_r, take_app1, take_map_all, c10, a39, h39, a35, h35, c1, c2, c3, c4, c5, c6]
            · by_cases c7 : b.da.length ≤ 40
              · simp -implicitDefEqProofs (disch := omega) [wrap_of, ilt_t, ilt_f, ile_t, ile_f, nlt_t, nlt_f, nle_t, nle_f, ieq_t, ieq_f, imin_l, imin_r, imax_l, imax_r, take_app1, take_map_all, c10, a39, h39, a35, h35, c1, c2, c3, c4, c5, c7]
              · simp -implicitDefEqProofs (disch := omega) [wrap_of, ilt_t, ilt_f, ile_t, ile_f, nlt_t, nlt_f, nle_t, nle_f, ieq_t, ieq_f, imin_l, imin_r, imax_l, imax_r, take_app1, take_map_all, c10, a39, h39, a35, h35, c1, c2, c3, c4, c5, c7]
          · simp -implicitDefEqProofs (disch := omega) [wrap_of, ilt_t, ilt_f, ile_t, ile_f, nlt_t, nlt_f, nle_t, nle_f, ieq_t, ieq_f, imin_l, imin_r, imax_l, imax_r, take_app1, take_map_all, c10, a39, h39, c1, c2, c3, c4]
        · simp -implicitDefEqProofs (disch := omega) [wrap_of, ilt_t, ilt_f, ile_t, ile_f, nlt_t, nlt_f, nle_t, nle_f, ieq_t, ieq_f, imin_l, imin_r, imax_l, imax_r, take_app1, take_map_all, c10, a39, h39, c1, c2, c3]
      · simp -implicitDefEqProofs (disch := omega) [wrap_of, ilt_t, ilt_f, ile_t, ile_f, nlt_t, nlt_f, nle_t, nle_f, ieq_t, ieq_f, imin_l, imin_r, imax_l, imax_r, take_app1, take_map_all, c10, a39, h39, c1, c2]
    · simp -implicitDefEqProofs (disch := omega) [wrap_of, ilt_t, ilt_f, ile_t, ile_f, nlt_t, nlt_f, nle_t, nle_f, ieq_t, ieq_f, imin_l, imin_r, imax_l, imax_r, take_app1, take_map_all, c10, a39, h39, c1]
def smallB (a t : Int) : Bool := decide (0 ≤ a ∧ a ≤ 1000000 ∧ 0 ≤ t ∧ t ≤ 1000000)
theorem s11 {n : Nat} (hn : 35 < n) (a t : Int) : (C16.tab n).p 11 [I a, I t] = some (.bool (smallB a t)) := by
  rw [p11 hn, runP_eq, runH_eq]
  unfold smallB
  by_cases c1 : 0 ≤ a
  · by_cases c2 : a ≤ 1000000
    · by_cases c3 : 0 ≤ t
      · by_cases c4 : t ≤ 1000000
        · simp -implicitDefEqProofs (disch := omega) [wrap_of, ilt_t, ilt_f, ile_t, ile_f, nlt_t, nlt_f, nle_t, nle_f, ieq_t, ieq_f, imin_l, imin_r, imax_l, imax_r, take_app1, take_map_all, c11, c1, c2, c3, c4]
        · simp -implicitDefEqProofs (disch := omega) [wrap_of, ilt_t, ilt_f, ile_t, ile_f, nlt_t, nlt_f, nle_t, nle_f, ieq_t, ieq_f, imin_l, imin_r, imax_l, imax_r, take_app1, take_map_all, c11, c1, c2, c3, c4]
      · simp -implicitDefEqProofs (disch := omega) [wrap_of, ilt_t, ilt_f, ile_t, ile_f, nlt_t, nlt_f, nle_t, nle_f, ieq_t, ieq_f, imin_l, imin_r, imax_l, imax_r, take_app1, take_map_all, c11, c1, c2, c3]
    · simp -implicitDefEqProofs (disch := omega) [wrap_of, ilt_t, ilt_f, ile_t, ile_f, nlt_t, nlt_f, nle_t, nle_f, ieq_t, ieq_f, imin_l, imin_r, imax_l, imax_r, take_app1, take_map_all, c11, c1, c2]
  · simp -implicitDefEqProofs (disch := omega) [wrap_of, ilt_t, ilt_f, ile_t, ile_f, nlt_t, nlt_f, nle_t, nle_f, ieq_t, ieq_f, imin_l, imin_r, imax_l, imax_r, take_app1, take_map_all, c11, c1]
/-- catacombref13.Same -/
theorem l37 {n : Nat} (hn : 40 < n) (a b : List En) (hl : a.length = b.length) (ha : GL a) (hb : GL b) (f g : Bool) (e0 : Env) (h0 : e0 0 = .lst f (a.map E)) (h1 : e0 1 = .lst g (b.map E)) :
    iter (round (C16.tab n) [5] [(.exit 0, []), (.ret, [4])] c37_1 e0 0 []) ([.int .i64 0], []) = some (if (a.zip b).all (fun x => decide (core x.1 = core x.2)) = true then (.exit 0, [], []) else (.ret, [.bool false], [])) :=
  for_cmp (f := round (C16.tab n) [5] [(.exit 0, []), (.ret, [4])] c37_1 e0 0 []) (fun i => ([.int .i64 i], [])) a b hl (fun x y => decide (core x = core y)) _ _
    (fun i hi hi' => by
      have hal := ha.len
      obtain ⟨x, hx⟩ : ∃ x, x = a[i] := ⟨_, rfl⟩
      obtain ⟨y, hy⟩ : ∃ y, y = b[i] := ⟨_, rfl⟩
      have hxa := ha.da _ (List.getElem_mem hi)
      have hyb := hb.da _ (List.getElem_mem hi')
      rw [← hx] at hxa
      rw [← hy] at hyb
      have h57 := s57 (n := n) hn x y (by omega) (by omega)
      simp only [E] at h57
      rw [← hx, ← hy]
      by_cases hc : core x = core y
      · rw [decide_eq_true hc] at h57 ⊢
        simp -implicitDefEqProofs (disch := omega) [wrap_of, ilt_t, ilt_f, ile_t, ile_f, nlt_t, nlt_f, nle_t, nle_f, ieq_t, ieq_f, imin_l, imin_r, imax_l, imax_r, take_app1, take_map_all, round_eq, b37_1, h0, h1, hi, hi', ← hx, ← hy, h57]
      · rw [decide_eq_false hc] at h57 ⊢
        simp -implicitDefEqProofs (disch := omega) [wrap_of, ilt_t, ilt_f, ile_t, ile_f, nlt_t, nlt_f, nle_t, nle_f, ieq_t, ieq_f, imin_l, imin_r, imax_l, imax_r, take_app1, take_map_all, round_eq, b37_1, h0, h1, hi, hi', ← hx, ← hy, h57])
    (by simp -implicitDefEqProofs (disch := omega) [wrap_of, ilt_t, ilt_f, ile_t, ile_f, nlt_t, nlt_f, nle_t, nle_f, ieq_t, ieq_f, imin_l, imin_r, imax_l, imax_r, take_app1, take_map_all, round_eq, b37_1, h0])
theorem s37 {n : Nat} (hn : 59 < n) (a b : List En) (ha : GL a) (hb : GL b) (f g : Bool) : (C16.tab n).p 37 [.lst f (a.map E), .lst g (b.map E)] = some (.bool (logEq a b)) := by
  rw [p37 hn, runP_eq, runH_eq]
  have hal := ha.len
  have hbl := hb.len
  unfold logEq
  by_cases hl : a.length = b.length
  · have hz := core_zip hl
    simp -implicitDefEqProofs (disch := omega) [wrap_of, ilt_t, ilt_f, ile_t, ile_f, nlt_t, nlt_f, nle_t, nle_f, ieq_t, ieq_f, imin_l, imin_r, imax_l, imax_r, take_app1, take_map_all, c37, hl]
    rw [l37 (n := 59) (by decide) a b hl ha hb f g _ (by simp -implicitDefEqProofs (disch := omega) [wrap_of, ilt_t, ilt_f, ile_t, ile_f, nlt_t, nlt_f, nle_t, nle_f, ieq_t, ieq_f, imin_l, imin_r, imax_l, imax_r, take_app1, take_map_all, ]) (by simp -implicitDefEqProofs (disch := omega) [wrap_of, ilt_t, ilt_f, ile_t, ile_f, nlt_t, nlt_f, nle_t, nle_f, ieq_t, ieq_f, imin_l, imin_r, imax_l, imax_r, take_app1, take_map_all, ])]
    by_cases hab : a.map core = b.map core
    · rw [if_pos (hz.2 hab)]
      simp -implicitDefEqProofs (disch := omega) [wrap_of, ilt_t, ilt_f, ile_t, ile_f, nlt_t, nlt_f, nle_t, nle_f, ieq_t, ieq_f, imin_l, imin_r, imax_l, imax_r, take_app1, take_map_all, hab]
    · rw [if_neg (fun h => hab (hz.1 h))]
      simp -implicitDefEqProofs (disch := omega) [wrap_of, ilt_t, ilt_f, ile_t, ile_f, nlt_t, nlt_f, nle_t, nle_f, ieq_t, ieq_f, imin_l, imin_r, imax_l, imax_r, take_app1, take_map_all, hab]
  · have hab : a.map core ≠ b.map core := fun h => hl (by have := congrArg List.length h; simpa using this)
    simp -implicitDefEqProofs (disch := omega) [wrap_of, ilt_t, ilt_f, ile_t, ile_f, nlt_t, nlt_f, nle_t, nle_f, ieq_t, ieq_f, imin_l, imin_r, imax_l, imax_r, take_app1, take_map_all, c37, hl, hab]
end Go.Proofs.Ytjblbmcgpdmahaa
