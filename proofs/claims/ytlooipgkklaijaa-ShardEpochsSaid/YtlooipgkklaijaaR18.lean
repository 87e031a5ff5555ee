import Derived.Test.YtlooipgkklaijaaQ18
set_option linter.unusedSimpArgs false
set_option linter.unusedVariables false
namespace Go.Proofs.Ytlooipgkklaijaa
open Go.Am Go.Am.Nm Go.Lib Go.Am.Sh

/-- What is done with pieces. -/
structure Stp where
  kd : Nat
  pa : List UInt8
  gr : Int
@[simp] def T (s : Stp) : AV := .agg [.int .u8 s.kd, .str s.pa, .int .i64 s.gr]
@[simp] theorem szT (l : List Stp) : szOk 3 (l.map T) = true := by simp [szOk]
def great (l : List Stp) : Bool := decide (60 < l.length) || l.any fun s => decide (1000 < s.pa.length)
theorem l11 {n : Nat} (l : List Stp) (hl : l.length ≤ 60) (f : Bool) (e0 : Env) (h0 : e0 0 = .lst f (l.map T)) :
    iter (round (C18.tab n) [3] [(.exit 0, []), (.ret, [2])] c11_1 e0 0 []) ([.int .i64 0], []) = some ((l.find? fun s => decide (1000 < s.pa.length)).elim (.exit 0, [], []) fun _ => (.ret, [.bool true], [])) := by
  have := for_idx (f := round (C18.tab n) [3] [(.exit 0, []), (.ret, [2])] c11_1 e0 0 []) (fun i => ([.int .i64 (i : Int)], [])) l (fun s => decide (1000 < s.pa.length)) (fun _ _ => (.ret, [.bool true], [])) (.exit 0, [], [])
    (fun i hi => by
      obtain ⟨x, hx⟩ : ∃ x, x = l[i] := ⟨_, rfl⟩
      rw [← hx]
      by_cases hs : 1000 < x.pa.length
      · simp -implicitDefEqProofs (disch := omega) [wrap_of, ilt_t, ilt_f, ile_t, ile_f, nlt_t, nlt_f, nle_t, nle_f, ieq_t, ieq_f, imin_l, imin_r, imax_l, imax_r, take_app1, take_map_all, round_eq, b11_1, h0, hi, ← hx, hs]
      · simp -implicitDefEqProofs (disch := omega) [wrap_of, ilt_t, ilt_f, ile_t, ile_f, nlt_t, nlt_f, nle_t, nle_f, ieq_t, ieq_f, imin_l, imin_r, imax_l, imax_r, take_app1, take_map_all, round_eq, b11_1, h0, hi, ← hx, hs])
    (by simp -implicitDefEqProofs (disch := omega) [wrap_of, ilt_t, ilt_f, ile_t, ile_f, nlt_t, nlt_f, nle_t, nle_f, ieq_t, ieq_f, imin_l, imin_r, imax_l, imax_r, take_app1, take_map_all, round_eq, b11_1, h0])
  rw [← this]; rfl
theorem s11 {n : Nat} (hn : 40 < n) (l : List Stp) (hl : l.length ≤ 9223372036854775807) (f : Bool) : (C18.tab n).p 11 [.lst f (l.map T)] = some (.bool (great l)) := by
  rw [p11 hn, runP_eq, runH_eq]
  unfold great
  by_cases h : 60 < l.length
  · simp -implicitDefEqProofs (disch := omega) [wrap_of, ilt_t, ilt_f, ile_t, ile_f, nlt_t, nlt_f, nle_t, nle_f, ieq_t, ieq_f, imin_l, imin_r, imax_l, imax_r, take_app1, take_map_all, c11, h]
  · simp -implicitDefEqProofs (disch := omega) [wrap_of, ilt_t, ilt_f, ile_t, ile_f, nlt_t, nlt_f, nle_t, nle_f, ieq_t, ieq_f, imin_l, imin_r, imax_l, imax_r, take_app1, take_map_all, c11, h]
    rw [l11 l (by omega) f _ (by simp -implicitDefEqProofs (disch := omega) [wrap_of, ilt_t, ilt_f, ile_t, ile_f, nlt_t, nlt_f, nle_t, nle_f, ieq_t, ieq_f, imin_l, imin_r, imax_l, imax_r, take_app1, take_map_all, ])]
    have hx := List.find?_isSome (xs := l) (p := fun s => decide (1000 < s.pa.length))
    cases hf : l.find? fun s => decide (1000 < s.pa.length) with
    | none =>
      have : l.any (fun s => decide (1000 < s.pa.length)) = false := by
        rw [List.any_eq_false]
        rw [List.find?_eq_none] at hf
        exact hf
      rw [this]
      simp -implicitDefEqProofs (disch := omega) [wrap_of, ilt_t, ilt_f, ile_t, ile_f, nlt_t, nlt_f, nle_t, nle_f, ieq_t, ieq_f, imin_l, imin_r, imax_l, imax_r, take_app1, take_map_all, ]
    | some x =>
      have : l.any (fun s => decide (1000 < s.pa.length)) = true := by
        rw [List.any_eq_true]
        exact ⟨x, List.mem_of_find?_eq_some hf, by simpa using List.find?_some hf⟩
      rw [this]
      simp -implicitDefEqProofs (disch := omega) [wrap_of, ilt_t, ilt_f, ile_t, ile_f, nlt_t, nlt_f, nle_t, nle_f, ieq_t, ieq_f, imin_l, imin_r, imax_l, imax_r, take_app1, take_map_all, ]
/-- What a step makes of pieces. -/
def stepP (l : List P) (s : Stp) : List P × Int :=
  if s.kd % 4 = 2 then joinP l s.pa else if s.kd % 4 = 3 then moveP l s.pa s.gr else cutP l s.pa s.gr
theorem s18 {n : Nat} (hn : 55 < n) (l : List P) (hr : RightP l) (f : Bool) (s : Stp) (hs : s.pa.length ≤ 1000) :
    (C18.tab n).p 18 [.lst f (l.map D), T s] = some (.tup [.lst (f && !decide ((stepP l s).2 = 0)) ((stepP l s).1.map D), .int .i64 (stepP l s).2]) := by
  rw [p18 hn, runP_eq, runH_eq]
  obtain ⟨kd, pa, gr⟩ := s
  simp only at hs
  have h27 := s27 (n := 55) (by decide) l hr f pa gr
  have h28 := s28 (n := 55) (by decide) l hr f pa (by omega)
  have h29 := s29 (n := 55) (by decide) l hr f pa gr
  have ht : (kd : Int).tmod 4 = ((kd % 4 : Nat) : Int) := rfl
  unfold stepP
  have hk : kd % 4 = 0 ∨ kd % 4 = 1 ∨ kd % 4 = 2 ∨ kd % 4 = 3 := by omega
  rcases hk with hk | hk | hk | hk
  · rw [hk] at ht
    simp only [hk]
    simp -implicitDefEqProofs (disch := omega) [wrap_of, ilt_t, ilt_f, ile_t, ile_f, nlt_t, nlt_f, nle_t, nle_f, ieq_t, ieq_f, imin_l, imin_r, imax_l, imax_r, take_app1, take_map_all, c18, ht, a27, h27]
  · rw [hk] at ht
    simp only [hk]
    simp -implicitDefEqProofs (disch := omega) [wrap_of, ilt_t, ilt_f, ile_t, ile_f, nlt_t, nlt_f, nle_t, nle_f, ieq_t, ieq_f, imin_l, imin_r, imax_l, imax_r, take_app1, take_map_all, c18, ht, a27, h27]
  · rw [hk] at ht
    simp only [hk]
    simp -implicitDefEqProofs (disch := omega) [wrap_of, ilt_t, ilt_f, ile_t, ile_f, nlt_t, nlt_f, nle_t, nle_f, ieq_t, ieq_f, imin_l, imin_r, imax_l, imax_r, take_app1, take_map_all, c18, ht, a28, h28]
  · rw [hk] at ht
    simp only [hk]
    simp -implicitDefEqProofs (disch := omega) [wrap_of, ilt_t, ilt_f, ile_t, ile_f, nlt_t, nlt_f, nle_t, nle_f, ieq_t, ieq_f, imin_l, imin_r, imax_l, imax_r, take_app1, take_map_all, c18, ht, a29, h29]
theorem s19 {n : Nat} (hn : 53 < n) (l : List P) (hr : RightP l) (hsh : Lens 1000 l) (f : Bool) (s : Stp) (hs : s.pa.length ≤ 1000) :
    (C18.tab n).p 19 [.lst f (l.map D), T s] = some (.tup [.lst (f && !decide ((stepP l s).2 = 0)) ((stepP l s).1.map D), .int .i64 (stepP l s).2]) := by
  rw [p19 hn, runP_eq, runH_eq]
  obtain ⟨kd, pa, gr⟩ := s
  simp only at hs
  have hsh' : ∀ p ∈ l, p.pa.length ≤ 1000000 := fun p hp => by have := hsh p hp; omega
  have h40 := s40 (n := 53) (by decide) l hr hsh' f pa (by omega) gr
  have h41 := s41 (n := 53) (by decide) l hr hsh' f pa (by omega)
  have h42 := s42 (n := 53) (by decide) l hr hsh' f pa (by omega) gr
  have ht : (kd : Int).tmod 4 = ((kd % 4 : Nat) : Int) := rfl
  unfold stepP
  have hk : kd % 4 = 0 ∨ kd % 4 = 1 ∨ kd % 4 = 2 ∨ kd % 4 = 3 := by omega
  rcases hk with hk | hk | hk | hk
  · rw [hk] at ht
    simp only [hk]
    simp -implicitDefEqProofs (disch := omega) [wrap_of, ilt_t, ilt_f, ile_t, ile_f, nlt_t, nlt_f, nle_t, nle_f, ieq_t, ieq_f, imin_l, imin_r, imax_l, imax_r, take_app1, take_map_all, c19, ht, a40, h40]
  · rw [hk] at ht
    simp only [hk]
    simp -implicitDefEqProofs (disch := omega) [wrap_of, ilt_t, ilt_f, ile_t, ile_f, nlt_t, nlt_f, nle_t, nle_f, ieq_t, ieq_f, imin_l, imin_r, imax_l, imax_r, take_app1, take_map_all, c19, ht, a40, h40]
  · rw [hk] at ht
    simp only [hk]
    simp -implicitDefEqProofs (disch := omega) [wrap_of, ilt_t, ilt_f, ile_t, ile_f, nlt_t, nlt_f, nle_t, nle_f, ieq_t, ieq_f, imin_l, imin_r, imax_l, imax_r, take_app1, take_map_all, c19, ht, a41, h41]
  · rw [hk] at ht
    simp only [hk]
    simp -implicitDefEqProofs (disch := omega) [wrap_of, ilt_t, ilt_f, ile_t, ile_f, nlt_t, nlt_f, nle_t, nle_f, ieq_t, ieq_f, imin_l, imin_r, imax_l, imax_r, take_app1, take_map_all, c19, ht, a42, h42]
theorem RightP.step {l : List P} (h : RightP l) (s : Stp) : RightP (stepP l s).1 := by
  unfold stepP
  split
  · exact h.join _
  · split
    · exact h.move _ _
    · exact h.cut _ _
theorem Lens.step {k : Nat} {l : List P} (h : Lens k l) {s : Stp} (hs : s.pa.length ≤ k) : Lens k (stepP l s).1 := by
  unfold stepP
  split
  · exact h.join _
  · split
    · exact h.move _ _
    · exact h.cut hs _
def newP (g : Int) : List P := [⟨[47], g, 1⟩]
theorem right_new {g : Int} (h0 : 0 ≤ g) (h1 : g < 8) : RightP (newP g) := by
  refine ⟨by simp [newP], by simp [newP], rfl, fun p hp => ?_, fun i j hij hj => ?_⟩
  · obtain rfl : p = ⟨[47], g, 1⟩ := by simpa [newP] using hp
    have : isP [47] = true := by decide
    simp only [okOne, this, okG, okE, Bool.true_and, Bool.and_eq_true, decide_eq_true_eq]
    omega
  · have : (newP g).length = 1 := rfl
    omega
theorem lens_new (g : Int) : Lens 1000 (newP g) := by
  intro p hp
  obtain rfl : p = ⟨[47], g, 1⟩ := by simpa [newP] using hp
  simp
/-- The pieces of steps. -/
def madeG (l : List P) (s : Stp) : List P := (stepP l s).1
def made (g : Nat) (l : List Stp) : List P := l.foldl madeG (newP ((g : Int) % 8))
def madeQ (s : Bool × List P) (x : Stp) : Bool × List P := (s.1 && !decide ((stepP s.2 x).2 = 0), madeG s.2 x)
theorem madeQ_snd : ∀ (l : List Stp) (s : Bool × List P), (l.foldl madeQ s).2 = l.foldl madeG s.2
  | [], _ => rfl
  | x :: l, s => madeQ_snd l _
theorem great_iff {l : List Stp} : great l = false ↔ l.length ≤ 60 ∧ ∀ s ∈ l, s.pa.length ≤ 1000 := by
  unfold great
  rw [Bool.or_eq_false_iff, decide_eq_false_iff_not, List.any_eq_false]
  simp only [decide_eq_true_eq, Nat.not_lt]
theorem made_right {g : Nat} {l : List Stp} (hl : great l = false) : RightP (made g l) ∧ Lens 1000 (made g l) := by
  unfold made
  obtain ⟨_, h2⟩ := great_iff.1 hl
  have : ∀ (l : List Stp) (p : List P), (∀ s ∈ l, s.pa.length ≤ 1000) → RightP p → Lens 1000 p → RightP (l.foldl madeG p) ∧ Lens 1000 (l.foldl madeG p) := by
    intro l
    induction l with
    | nil => exact fun p _ h h' => ⟨h, h'⟩
    | cons s l ih => exact fun p hs h h' => ih _ (fun t ht => hs t (by simp [ht])) (h.step s) (h'.step (hs s (by simp)))
  exact this l _ h2 (right_new (by omega) (by omega)) (lens_new _)
theorem l17 {n : Nat} (hn : 53 < n) (l : List Stp) (hl : l.length ≤ 60 ∧ ∀ s ∈ l, s.pa.length ≤ 1000) (f : Bool) (e0 : Env) (h1 : e0 1 = .lst f (l.map T)) (p : List P) (hp : RightP p ∧ Lens 1000 p) :
    iter (round (C18.tab n) [5, 6] [(.exit 0, [5])] c17_1 e0 0 []) ([.lst true (p.map D), .int .i64 0], []) = some (.exit 0, [.lst (l.foldl madeQ (true, p)).1 ((l.foldl madeG p).map D)], []) := by
  have h := for_list (f := round (C18.tab n) [5, 6] [(.exit 0, [5])] c17_1 e0 0 []) (fun i (s : Bool × List P) => ([.lst s.1 (s.2.map D), .int .i64 (i : Int)], [])) l madeQ (fun s => (.exit 0, [.lst s.1 (s.2.map D)], []))
    (fun i s => RightP s.2 ∧ Lens 1000 s.2)
    (fun i hi s hs => by
      obtain ⟨x, hx⟩ : ∃ x, x = l[i] := ⟨_, rfl⟩
      have hxl := hl.2 _ (List.getElem_mem hi)
      rw [← hx] at hxl ⊢
      refine ⟨⟨hs.1.step x, hs.2.step hxl⟩, ?_⟩
      have h19 := s19 (n := n) hn s.2 hs.1 hs.2 s.1 x hxl
      simp only [T] at h19
      unfold madeQ madeG
      simp -implicitDefEqProofs (disch := omega) [wrap_of, ilt_t, ilt_f, ile_t, ile_f, nlt_t, nlt_f, nle_t, nle_f, ieq_t, ieq_f, imin_l, imin_r, imax_l, imax_r, take_app1, take_map_all, round_eq, b17_1, h1, hi, ← hx, a19, h19])
    (fun s hs => by simp -implicitDefEqProofs (disch := omega) [wrap_of, ilt_t, ilt_f, ile_t, ile_f, nlt_t, nlt_f, nle_t, nle_f, ieq_t, ieq_f, imin_l, imin_r, imax_l, imax_r, take_app1, take_map_all, round_eq, b17_1, h1]) (true, p) hp
  simp only [Int.natCast_zero] at h
  rw [h, madeQ_snd]
theorem s17 {n : Nat} (hn : 54 < n) (g : Nat) (hg : g < 256) (l : List Stp) (hl : great l = false) (f : Bool) :
    (C18.tab n).p 17 [.int .u8 g, .lst f (l.map T)] = some (.lst (l.foldl madeQ (true, newP ((g : Int) % 8))).1 ((made g l).map D)) := by
  rw [p17 hn, runP_eq, runH_eq]
  have hl' := great_iff.1 hl
  have h16 := s16 (n := 54) (by decide)
  have ht : (g : Int).tmod 8 = (g : Int) % 8 := rfl
  have h17 := fun e0 h1 => l17 (n := 54) (by decide) l hl' f e0 h1 (newP ((g : Int) % 8)) ⟨right_new (by omega) (by omega), lens_new _⟩
  unfold made
  simp only [newP, D, List.map_cons, List.map_nil] at h17
  simp -implicitDefEqProofs (disch := omega) [wrap_of, ilt_t, ilt_f, ile_t, ile_f, nlt_t, nlt_f, nle_t, nle_f, ieq_t, ieq_f, imin_l, imin_r, imax_l, imax_r, take_app1, take_map_all, c17, ht, a16, h16]
  rw [h17 _ (by simp -implicitDefEqProofs (disch := omega) [wrap_of, ilt_t, ilt_f, ile_t, ile_f, nlt_t, nlt_f, nle_t, nle_f, ieq_t, ieq_f, imin_l, imin_r, imax_l, imax_r, take_app1, take_map_all, ])]
  simp -implicitDefEqProofs (disch := omega) [wrap_of, ilt_t, ilt_f, ile_t, ile_f, nlt_t, nlt_f, nle_t, nle_f, ieq_t, ieq_f, imin_l, imin_r, imax_l, imax_r, take_app1, take_map_all, newP]
end Go.Proofs.Ytlooipgkklaijaa
