import Derived.Test.YtjblbmcgpdmahaaJ16
set_option linter.unusedSimpArgs false
set_option linter.unusedVariables false
namespace Go.Proofs.Ytjblbmcgpdmahaa
open Go.Am

theorem l64 {Γ : Tab} (l : List Int) (x : Int) (hl : l.length ≤ 1000000) (f : Bool) (e0 : Env) (h0 : e0 0 = .lst f (l.map I)) (h1 : e0 1 = I x) (h7 : e0 7 = .int .i64 l.length) :
    iter (round Γ [8] [(.exit 0, []), (.ret, [4])] c64_1 e0 0 []) ([.int .i64 0], []) = some ((l.find? fun y => decide (x = y)).elim (.exit 0, [], []) fun _ => (.ret, [.int .i64 (l.findIdx fun y => decide (x = y) : Nat)], [])) :=
  for_idx (f := round Γ [8] [(.exit 0, []), (.ret, [4])] c64_1 e0 0 []) (fun i => ([.int .i64 (i : Int)], [])) l (fun y => decide (x = y)) (fun i _ => (.ret, [.int .i64 (i : Int)], [])) (.exit 0, [], [])
    (fun i hi => by
      obtain ⟨y, hy⟩ : ∃ y, y = l[i] := ⟨_, rfl⟩
      rw [← hy]
      by_cases h : x = y
      · simp -implicitDefEqProofs (disch := omega) [wrap_of, ilt_t, ilt_f, ile_t, ile_f, nlt_t, nlt_f, nle_t, nle_f, ieq_t, ieq_f, imin_l, imin_r, imax_l, imax_r, take_app1, take_map_all, round_eq, b64_1, h0, h1, h7, hi, ← hy, h]
      · simp -implicitDefEqProofs (disch := omega) [wrap_of, ilt_t, ilt_f, ile_t, ile_f, nlt_t, nlt_f, nle_t, nle_f, ieq_t, ieq_f, imin_l, imin_r, imax_l, imax_r, take_app1, take_map_all, round_eq, b64_1, h0, h1, h7, hi, ← hy, h])
    (by simp -implicitDefEqProofs (disch := omega) [wrap_of, ilt_t, ilt_f, ile_t, ile_f, nlt_t, nlt_f, nle_t, nle_f, ieq_t, ieq_f, imin_l, imin_r, imax_l, imax_r, take_app1, take_map_all, round_eq, b64_1, h7])
theorem s64 {n : Nat} (hn : 26 < n) (l : List Int) (x : Int) (hl : l.length ≤ 1000000) (f : Bool) : (C16.tab n).p 64 [.lst f (l.map I), I x] = some (I ((l.find? fun y => decide (x = y)).elim (-1) fun _ => ((l.findIdx fun y => decide (x = y) : Nat) : Int))) := by
  rw [p64 hn, runP_eq, runH_eq]
  have h := l64 (Γ := C16.tab 26) l x hl f
  simp -implicitDefEqProofs (disch := omega) [wrap_of, ilt_t, ilt_f, ile_t, ile_f, nlt_t, nlt_f, nle_t, nle_f, ieq_t, ieq_f, imin_l, imin_r, imax_l, imax_r, take_app1, take_map_all, c64]
  rw [h _ (by simp -implicitDefEqProofs (disch := omega) [wrap_of, ilt_t, ilt_f, ile_t, ile_f, nlt_t, nlt_f, nle_t, nle_f, ieq_t, ieq_f, imin_l, imin_r, imax_l, imax_r, take_app1, take_map_all, ]) (by simp -implicitDefEqProofs (disch := omega) [wrap_of, ilt_t, ilt_f, ile_t, ile_f, nlt_t, nlt_f, nle_t, nle_f, ieq_t, ieq_f, imin_l, imin_r, imax_l, imax_r, take_app1, take_map_all, ]) (by simp -implicitDefEqProofs (disch := omega) [wrap_of, ilt_t, ilt_f, ile_t, ile_f, nlt_t, nlt_f, nle_t, nle_f, ieq_t, ieq_f, imin_l, imin_r, imax_l, imax_r, take_app1, take_map_all, ])]
  cases hf : l.find? fun y => decide (x = y) with
  | none => simp -implicitDefEqProofs (disch := omega) [wrap_of, ilt_t, ilt_f, ile_t, ile_f, nlt_t, nlt_f, nle_t, nle_f, ieq_t, ieq_f, imin_l, imin_r, imax_l, imax_r, take_app1, take_map_all, ]
  | some y => simp -implicitDefEqProofs (disch := omega) [wrap_of, ilt_t, ilt_f, ile_t, ile_f, nlt_t, nlt_f, nle_t, nle_f, ieq_t, ieq_f, imin_l, imin_r, imax_l, imax_r, take_app1, take_map_all, ]
theorem find_mem {l : List Int} {x : Int} : (l.find? fun y => decide (x = y)).isSome = decide (x ∈ l) := by
  induction l with
  | nil => rfl
  | cons y l ih =>
    rw [List.find?_cons]
    by_cases h : x = y
    · simp [h]
    · simp [h, ih]
theorem s51 {n : Nat} (hn : 27 < n) (l : List Int) (x : Int) (hl : l.length ≤ 1000000) (f : Bool) : (C16.tab n).p 51 [.lst f (l.map I), I x] = some (.bool (decide (x ∈ l))) := by
  rw [p51 hn, runP_eq, runH_eq]
  have h := s64 (n := 27) (by decide) l x hl f
  rw [← find_mem]
  cases hf : l.find? fun y => decide (x = y) with
  | none =>
    rw [hf] at h
    simp only [Option.elim_none] at h
    simp -implicitDefEqProofs (disch := omega) [wrap_of, ilt_t, ilt_f, ile_t, ile_f, nlt_t, nlt_f, nle_t, nle_f, ieq_t, ieq_f, imin_l, imin_r, imax_l, imax_r, take_app1, take_map_all, c51, a64, h]
  | some y =>
    rw [hf] at h
    simp only [Option.elim_some] at h
    simp -implicitDefEqProofs (disch := omega) [wrap_of, ilt_t, ilt_f, ile_t, ile_f, nlt_t, nlt_f, nle_t, nle_f, ieq_t, ieq_f, imin_l, imin_r, imax_l, imax_r, take_app1, take_map_all, c51, a64, h]
/-- How many have both. -/
def both (a b : List Int) : Nat := (a.filter fun x => decide (x ∈ b)).length
def need (n k : Nat) : Int := max 0 ((n / 2 : Nat) + 1 - ((n : Int) - k))
def meetA (a b : List Int) : Bool := decide ((both a b : Int) < need a.length (both a b) + need b.length (both a b))
theorem s52 {n : Nat} (hn : 28 < n) (m k : Nat) (hm : m ≤ 1000000) (hk : k ≤ 1000000) : callA (C16.tab n) 52 [.int .i64 m, .ptr 0 0 0 0] [.var [.int .i64 k]] = some (.int .i64 (need m k), [.var [.int .i64 k]]) := by
  rw [p52 hn, runH_eq]
  have e1 : ((m : Int).tdiv 2) = ((m / 2 : Nat) : Int) := by rw [Int.tdiv_eq_ediv_of_nonneg (by omega)]; omega
  unfold need
  by_cases h : 0 ≤ ((m / 2 : Nat) : Int) + 1 - ((m : Int) - k)
  · rw [Int.max_eq_right h]
    simp -implicitDefEqProofs (disch := omega) [wrap_of, ilt_t, ilt_f, ile_t, ile_f, nlt_t, nlt_f, nle_t, nle_f, ieq_t, ieq_f, imin_l, imin_r, imax_l, imax_r, take_app1, take_map_all, c52, e1, h]
  · rw [Int.max_eq_left (by omega)]
    simp -implicitDefEqProofs (disch := omega) [wrap_of, ilt_t, ilt_f, ile_t, ile_f, nlt_t, nlt_f, nle_t, nle_f, ieq_t, ieq_f, imin_l, imin_r, imax_l, imax_r, take_app1, take_map_all, c52, e1, h]
theorem l31 {n : Nat} (hn : 27 < n) (a b : List Int) (ha : a.length ≤ 1000000) (hb : b.length ≤ 1000000) (f g : Bool) (e0 : Env) (h1 : e0 1 = .lst g (b.map I)) (h5 : e0 5 = .ptr 0 0 0 0) (h9 : e0 9 = .lst f (a.map I)) (h10 : e0 10 = .int .i64 a.length) :
    iter (round (C16.tab n) [11] [(.exit 0, [])] c31_1 e0 1 []) ([.int .i64 0], [.var [.int .i64 0]]) = some (.exit 0, [], [.var [.int .i64 (both a b)]]) := by
  have := for_list (f := round (C16.tab n) [11] [(.exit 0, [])] c31_1 e0 1 []) (fun i (k : Nat) => ([.int .i64 (i : Int)], [.var [.int .i64 (k : Int)]])) a (fun k x => if x ∈ b then k + 1 else k) (fun k => (.exit 0, [], [.var [.int .i64 (k : Int)]])) (fun i k => k ≤ i)
    (fun i hi k hk => by
      obtain ⟨x, hx⟩ : ∃ x, x = a[i] := ⟨_, rfl⟩
      have h51 := s51 (n := n) hn b x hb g
      rw [← hx]
      by_cases h : x ∈ b
      · rw [decide_eq_true h] at h51
        refine ⟨by rw [if_pos h]; omega, ?_⟩
        simp -implicitDefEqProofs (disch := omega) [wrap_of, ilt_t, ilt_f, ile_t, ile_f, nlt_t, nlt_f, nle_t, nle_f, ieq_t, ieq_f, imin_l, imin_r, imax_l, imax_r, take_app1, take_map_all, round_eq, b31_1, h1, h5, h9, h10, hi, ← hx, a51, h51, h]
      · rw [decide_eq_false h] at h51
        refine ⟨by rw [if_neg h]; omega, ?_⟩
        simp -implicitDefEqProofs (disch := omega) [wrap_of, ilt_t, ilt_f, ile_t, ile_f, nlt_t, nlt_f, nle_t, nle_f, ieq_t, ieq_f, imin_l, imin_r, imax_l, imax_r, take_app1, take_map_all, round_eq, b31_1, h1, h5, h9, h10, hi, ← hx, a51, h51, h])
    (fun k hk => by simp -implicitDefEqProofs (disch := omega) [wrap_of, ilt_t, ilt_f, ile_t, ile_f, nlt_t, nlt_f, nle_t, nle_f, ieq_t, ieq_f, imin_l, imin_r, imax_l, imax_r, take_app1, take_map_all, round_eq, b31_1, h10]) 0 (Nat.le_refl _)
  have e : ∀ (a : List Int) (k : Nat), a.foldl (fun k x => if x ∈ b then k + 1 else k) k = k + both a b := by
    intro a
    induction a with
    | nil => intro k; simp [both]
    | cons x a ih =>
      intro k
      rw [List.foldl_cons, ih]
      unfold both
      by_cases h : x ∈ b
      · simp [h]; omega
      · simp [h]
  rw [e, Nat.zero_add] at this
  simpa using this
theorem both_le (a b : List Int) : both a b ≤ a.length := List.length_filter_le ..
theorem s31 {n : Nat} (hn : 29 < n) (a b : List Int) (ha : a.length ≤ 1000000) (hb : b.length ≤ 1000000) (f g : Bool) : (C16.tab n).p 31 [.lst f (a.map I), .lst g (b.map I)] = some (.bool (meetA a b)) := by
  rw [p31 hn, runP_eq, runH_eq]
  have hbt := both_le a b
  have h1 := s52 (n := 29) (by decide) a.length (both a b) ha (by omega)
  have h2 := s52 (n := 29) (by decide) b.length (both a b) hb (by omega)
  have hn1 : 0 ≤ need a.length (both a b) ∧ need a.length (both a b) ≤ 3000000 := by unfold need; omega
  have hn2 : 0 ≤ need b.length (both a b) ∧ need b.length (both a b) ≤ 3000000 := by unfold need; omega
  have h := l31 (n := 29) (by decide) a b ha hb f g
  unfold meetA
  simp -implicitDefEqProofs (disch := omega) [wrap_of, ilt_t, ilt_f, ile_t, ile_f, nlt_t, nlt_f, nle_t, nle_f, ieq_t, ieq_f, imin_l, imin_r, imax_l, imax_r, take_app1, take_map_all, c31]
  rw [h _ (by simp -implicitDefEqProofs (disch := omega) [wrap_of, ilt_t, ilt_f, ile_t, ile_f, nlt_t, nlt_f, nle_t, nle_f, ieq_t, ieq_f, imin_l, imin_r, imax_l, imax_r, take_app1, take_map_all, ]) (by simp -implicitDefEqProofs (disch := omega) [wrap_of, ilt_t, ilt_f, ile_t, ile_f, nlt_t, nlt_f, nle_t, nle_f, ieq_t, ieq_f, imin_l, imin_r, imax_l, imax_r, take_app1, take_map_all, ]) (by simp -implicitDefEqProofs (disch := omega) [wrap_of, ilt_t, ilt_f, ile_t, ile_f, nlt_t, nlt_f, nle_t, nle_f, ieq_t, ieq_f, imin_l, imin_r, imax_l, imax_r, take_app1, take_map_all, ]) (by simp -implicitDefEqProofs (disch := omega) [wrap_of, ilt_t, ilt_f, ile_t, ile_f, nlt_t, nlt_f, nle_t, nle_f, ieq_t, ieq_f, imin_l, imin_r, imax_l, imax_r, take_app1, take_map_all, ])]
  by_cases hc : (both a b : Int) < need a.length (both a b) + need b.length (both a b)
  · simp -implicitDefEqProofs (disch := omega) [wrap_of, ilt_t, ilt_f, ile_t, ile_f, nlt_t, nlt_f, nle_t, nle_f, ieq_t, ieq_f, imin_l, imin_r, imax_l, imax_r, take_app1, take_map_all, h1, h2, hc]
  · simp -implicitDefEqProofs (disch := omega) [wrap_of, ilt_t, ilt_f, ile_t, ile_f, nlt_t, nlt_f, nle_t, nle_f, ieq_t, ieq_f, imin_l, imin_r, imax_l, imax_r, take_app1, take_map_all, h1, h2, hc]
/-- Those whose bits a number has. -/
def pick : List Int → Nat → List Int
  | [], _ => []
  | x :: l, n => if n % 2 = 1 then x :: pick l (n / 2) else pick l (n / 2)
theorem pick_len : ∀ (l : List Int) (n : Nat), (pick l n).length ≤ l.length
  | [], _ => by simp [pick]
  | x :: l, n => by
    have := pick_len l (n / 2)
    simp only [pick]
    split <;> simp <;> omega
def pkg (s : List Int × Nat) (x : Int) : List Int × Nat := (if s.2 % 2 = 1 then s.1 ++ [x] else s.1, s.2 / 2)
theorem pick_fold : ∀ (l a : List Int) (n : Nat), (l.foldl pkg (a, n)).1 = a ++ pick l n
  | [], a, n => by simp [pick]
  | x :: l, a, n => by
    rw [List.foldl_cons]
    unfold pkg
    simp only [pick]
    by_cases h : n % 2 = 1
    · rw [if_pos h, if_pos h]
      have := pick_fold l (a ++ [x]) (n / 2)
      unfold pkg at this
      rw [this]; simp
    · rw [if_neg h, if_neg h]
      have := pick_fold l a (n / 2)
      unfold pkg at this
      rw [this]
theorem l53 {Γ : Tab} (l : List Int) (n : Nat) (hl : l.length ≤ 1000000) (hn : n ≤ 1000) (f : Bool) (e0 : Env) (h0 : e0 0 = .lst f (l.map I)) :
    iter (round Γ [5, 6, 7] [(.exit 0, [5])] c53_1 e0 1 [0]) ([.own 0 0 0 0, .int .i64 n, .int .i64 0], [.row 0 1 []]) = some (.exit 0, [.own 0 0 0 (pick l n).length], [.row 0 1 ((pick l n).map I)]) := by
  have := for_list (f := round Γ [5, 6, 7] [(.exit 0, [5])] c53_1 e0 1 [0]) (fun i (s : List Int × Nat) => ([.own 0 0 0 s.1.length, .int .i64 (s.2 : Int), .int .i64 (i : Int)], [.row 0 1 (s.1.map I)])) l pkg (fun s => (.exit 0, [.own 0 0 0 s.1.length], [.row 0 1 (s.1.map I)])) (fun i s => s.1.length ≤ i ∧ s.2 ≤ 1000)
    (fun i hi s hs => by
      obtain ⟨x, hx⟩ : ∃ x, x = l[i] := ⟨_, rfl⟩
      obtain ⟨a, m⟩ := s
      simp only at hs
      obtain ⟨hs1, hs2⟩ := hs
      rw [← hx]
      have e1 : ((m : Int).tdiv 2) = ((m / 2 : Nat) : Int) := by rw [Int.tdiv_eq_ediv_of_nonneg (by omega)]; omega
      have e2 : ((m : Int).tmod 2) = ((m % 2 : Nat) : Int) := by rw [Int.tmod_eq_emod_of_nonneg (by omega)]; omega
      unfold pkg
      by_cases h : m % 2 = 1
      · refine ⟨by simp [h]; omega, ?_⟩
        simp -implicitDefEqProofs (disch := omega) [wrap_of, ilt_t, ilt_f, ile_t, ile_f, nlt_t, nlt_f, nle_t, nle_f, ieq_t, ieq_f, imin_l, imin_r, imax_l, imax_r, take_app1, take_map_all, round_eq, b53_1, h0, hi, ← hx, e1, e2, h]
      · have h0' : m % 2 = 0 := by omega
        refine ⟨by simp [h0']; omega, ?_⟩
        simp -implicitDefEqProofs (disch := omega) [wrap_of, ilt_t, ilt_f, ile_t, ile_f, nlt_t, nlt_f, nle_t, nle_f, ieq_t, ieq_f, imin_l, imin_r, imax_l, imax_r, take_app1, take_map_all, round_eq, b53_1, h0, hi, ← hx, e1, e2, h0'])
    (fun s hs => by simp -implicitDefEqProofs (disch := omega) [wrap_of, ilt_t, ilt_f, ile_t, ile_f, nlt_t, nlt_f, nle_t, nle_f, ieq_t, ieq_f, imin_l, imin_r, imax_l, imax_r, take_app1, take_map_all, round_eq, b53_1, h0]) ([], n) ⟨by simp, hn⟩
  rw [pick_fold] at this
  simpa using this
theorem s53 {n : Nat} (hn : 53 < n) (l : List Int) (m : Nat) (hl : l.length ≤ 1000000) (hm : m ≤ 1000) (f : Bool) : (C16.tab n).p 53 [.lst f (l.map I), .int .i64 m] = some (.lst false ((pick l m).map I)) := by
  rw [p53 hn, runP_eq, runH_eq]
  have h := l53 (Γ := C16.tab 53) l m hl hm f
  have hp := pick_len l m
  simp -implicitDefEqProofs (disch := omega) [wrap_of, ilt_t, ilt_f, ile_t, ile_f, nlt_t, nlt_f, nle_t, nle_f, ieq_t, ieq_f, imin_l, imin_r, imax_l, imax_r, take_app1, take_map_all, c53]
  rw [h _ (by simp -implicitDefEqProofs (disch := omega) [wrap_of, ilt_t, ilt_f, ile_t, ile_f, nlt_t, nlt_f, nle_t, nle_f, ieq_t, ieq_f, imin_l, imin_r, imax_l, imax_r, take_app1, take_map_all, ])]
  simp -implicitDefEqProofs (disch := omega) [wrap_of, ilt_t, ilt_f, ile_t, ile_f, nlt_t, nlt_f, nle_t, nle_f, ieq_t, ieq_f, imin_l, imin_r, imax_l, imax_r, take_app1, take_map_all, ]
def apartB (a b : List Int) : Bool := a.all fun x => b.all fun y => !decide (x = y)
theorem l54a {Γ : Tab} (a b : List Int) (i : Nat) (hi : i < a.length) (hb : b.length ≤ 1000000) (f g : Bool) (e0 : Env) (h0 : e0 0 = .lst f (a.map I)) (h1 : e0 1 = .lst g (b.map I)) (h5 : e0 5 = .int .i64 (i : Int)) :
    iter (round Γ [6] [(.exit 2, []), (.ret, [4])] c54_1 e0 0 []) ([.int .i64 0], []) = some (if (b.all fun y => !decide (a[i] = y)) = true then (.exit 2, [], []) else (.ret, [.bool false], [])) :=
  for_all (f := round Γ [6] [(.exit 2, []), (.ret, [4])] c54_1 e0 0 []) (fun i => ([.int .i64 (i : Int)], [])) b (fun y => !decide (a[i] = y)) _ _ (fun k hk => by
      obtain ⟨x, hx⟩ : ∃ x, x = a[i] := ⟨_, rfl⟩
      obtain ⟨y, hy⟩ : ∃ y, y = b[k] := ⟨_, rfl⟩
      rw [← hx, ← hy]
      by_cases h : x = y
      · simp -implicitDefEqProofs (disch := omega) [wrap_of, ilt_t, ilt_f, ile_t, ile_f, nlt_t, nlt_f, nle_t, nle_f, ieq_t, ieq_f, imin_l, imin_r, imax_l, imax_r, take_app1, take_map_all, round_eq, b54_1, h0, h1, h5, hi, hk, ← hx, ← hy, h]
      · simp -implicitDefEqProofs (disch := omega) [wrap_of, ilt_t, ilt_f, ile_t, ile_f, nlt_t, nlt_f, nle_t, nle_f, ieq_t, ieq_f, imin_l, imin_r, imax_l, imax_r, take_app1, take_map_all, round_eq, b54_1, h0, h1, h5, hi, hk, ← hx, ← hy, h])
    (by simp -implicitDefEqProofs (disch := omega) [wrap_of, ilt_t, ilt_f, ile_t, ile_f, nlt_t, nlt_f, nle_t, nle_f, ieq_t, ieq_f, imin_l, imin_r, imax_l, imax_r, take_app1, take_map_all, round_eq, b54_1, h1])
theorem l54 {Γ : Tab} (a b : List Int) (ha : a.length ≤ 1000000) (hb : b.length ≤ 1000000) (f g : Bool) (e0 : Env) (h0 : e0 0 = .lst f (a.map I)) (h1 : e0 1 = .lst g (b.map I)) :
    iter (round Γ [5] [(.exit 0, []), (.ret, [4])] c54_2 e0 0 []) ([.int .i64 0], []) = some (if apartB a b = true then (.exit 0, [], []) else (.ret, [.bool false], [])) :=
  for_all (f := round Γ [5] [(.exit 0, []), (.ret, [4])] c54_2 e0 0 []) (fun i => ([.int .i64 (i : Int)], [])) a (fun x => b.all fun y => !decide (x = y)) _ _ (fun i hi => by
      have h := l54a (Γ := Γ) a b i hi hb f g
      generalize (b.all fun y => !decide (a[i] = y)) = q at *
      simp -implicitDefEqProofs (disch := omega) [wrap_of, ilt_t, ilt_f, ile_t, ile_f, nlt_t, nlt_f, nle_t, nle_f, ieq_t, ieq_f, imin_l, imin_r, imax_l, imax_r, take_app1, take_map_all, round_eq, b54_2, h0, hi]
      rw [h _ (by simp -implicitDefEqProofs (disch := omega) [wrap_of, ilt_t, ilt_f, ile_t, ile_f, nlt_t, nlt_f, nle_t, nle_f, ieq_t, ieq_f, imin_l, imin_r, imax_l, imax_r, take_app1, take_map_all, h0]) (by simp -implicitDefEqProofs (disch := omega) [wrap_of, ilt_t, ilt_f, ile_t, ile_f, nlt_t, nlt_f, nle_t, nle_f, ieq_t, ieq_f, imin_l, imin_r, imax_l, imax_r, take_app1, take_map_all, h1]) (by simp -implicitDefEqProofs (disch := omega) [wrap_of, ilt_t, ilt_f, ile_t, ile_f, nlt_t, nlt_f, nle_t, nle_f, ieq_t, ieq_f, imin_l, imin_r, imax_l, imax_r, take_app1, take_map_all, ])]
      cases q with
      | true => simp -implicitDefEqProofs (disch := omega) [wrap_of, ilt_t, ilt_f, ile_t, ile_f, nlt_t, nlt_f, nle_t, nle_f, ieq_t, ieq_f, imin_l, imin_r, imax_l, imax_r, take_app1, take_map_all, ]
      | false => simp -implicitDefEqProofs (disch := omega) [wrap_of, ilt_t, ilt_f, ile_t, ile_f, nlt_t, nlt_f, nle_t, nle_f, ieq_t, ieq_f, imin_l, imin_r, imax_l, imax_r, take_app1, take_map_all, ])
    (by simp -implicitDefEqProofs (disch := omega) [wrap_of, ilt_t, ilt_f, ile_t, ile_f, nlt_t, nlt_f, nle_t, nle_f, ieq_t, ieq_f, imin_l, imin_r, imax_l, imax_r, take_app1, take_map_all, round_eq, b54_2, h0])
theorem s54 {n : Nat} (hn : 54 < n) (a b : List Int) (ha : a.length ≤ 1000000) (hb : b.length ≤ 1000000) (f g : Bool) : (C16.tab n).p 54 [.lst f (a.map I), .lst g (b.map I)] = some (.bool (apartB a b)) := by
  rw [p54 hn, runP_eq, runH_eq]
  have h := l54 (Γ := C16.tab 54) a b ha hb f g
  simp -implicitDefEqProofs (disch := omega) [wrap_of, ilt_t, ilt_f, ile_t, ile_f, nlt_t, nlt_f, nle_t, nle_f, ieq_t, ieq_f, imin_l, imin_r, imax_l, imax_r, take_app1, take_map_all, c54]
  rw [h _ (by simp -implicitDefEqProofs (disch := omega) [wrap_of, ilt_t, ilt_f, ile_t, ile_f, nlt_t, nlt_f, nle_t, nle_f, ieq_t, ieq_f, imin_l, imin_r, imax_l, imax_r, take_app1, take_map_all, ]) (by simp -implicitDefEqProofs (disch := omega) [wrap_of, ilt_t, ilt_f, ile_t, ile_f, nlt_t, nlt_f, nle_t, nle_f, ieq_t, ieq_f, imin_l, imin_r, imax_l, imax_r, take_app1, take_map_all, ])]
  cases apartB a b with
  | true => simp -implicitDefEqProofs (disch := omega) [wrap_of, ilt_t, ilt_f, ile_t, ile_f, nlt_t, nlt_f, nle_t, nle_f, ieq_t, ieq_f, imin_l, imin_r, imax_l, imax_r, take_app1, take_map_all, ]
  | false => simp -implicitDefEqProofs (disch := omega) [wrap_of, ilt_t, ilt_f, ile_t, ile_f, nlt_t, nlt_f, nle_t, nle_f, ieq_t, ieq_f, imin_l, imin_r, imax_l, imax_r, take_app1, take_map_all, ]
end Go.Proofs.Ytjblbmcgpdmahaa
