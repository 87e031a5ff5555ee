import Derived.Test.YtnokdfhhnjmeoaaP23
set_option linter.unusedSimpArgs false
set_option linter.unusedVariables false
namespace Go.Proofs.Ytnokdfhhnjmeoaa
open Go.Am Go.Am.Kp

/-! CacheForgets -/
theorem l7 {n : Nat} (hn : 36 < n) (l : List Act) (hl : l.length ≤ 60) (hs : ∀ a ∈ l, Small a) (hr : ∀ a ∈ l, a.Rng) (f : Bool) (x : Act) (e0 : Env) (h0 : e0 0 = .lst f (l.map A)) :
    iter (round (C23.tab n) [10, 11] [(.exit 0, [10])] c7_1 e0 1 []) ([.lst true [], .int .i64 0], [.var (A x).cells]) = some (.exit 0, [.lst (runL l).1 ((runL l).2.map D)], [.var (A x).cells]) :=
  for_list (f := round (C23.tab n) [10, 11] [(.exit 0, [10])] c7_1 e0 1 []) (fun i (s : Bool × List K) => ([.lst s.1 (s.2.map D), .int .i64 i], [.var (A x).cells])) l stp
    (fun s => (.exit 0, [.lst s.1 (s.2.map D)], [.var (A x).cells])) (fun i s => Ok i s.2)
    (fun i hi s h => by
      have ha := hs _ (List.getElem_mem hi)
      refine ⟨h.step ha false, ?_⟩
      obtain ⟨f1, l1⟩ := s
      simp only [stp] at h ⊢
      have n1 := h.n
      have k1 := s13 (n := n) (by omega) l1 h.s (by omega) f1 l[i] ha (hr _ (List.getElem_mem hi)).lo
      simp only [A] at k1
      simp -implicitDefEqProofs (disch := omega) [wrap_of, ilt_t, ilt_f, ile_t, ile_f, nlt_t, nlt_f, nle_t, nle_f, ieq_t, ieq_f, imin_l, imin_r, imax_l, imax_r, take_app1, take_map_all, round_eq, b7_1, h0, hi, a13, k1])
    (fun s h => by simp -implicitDefEqProofs (disch := omega) [wrap_of, ilt_t, ilt_f, ile_t, ile_f, nlt_t, nlt_f, nle_t, nle_f, ieq_t, ieq_f, imin_l, imin_r, imax_l, imax_r, take_app1, take_map_all, round_eq, b7_1, h0]) (true, []) Ok.nil
def fgt (s : Bool × List K) (a : Act) : Bool × List K := (false, s.2.filter fun k => !decide (k.ino = a.ino))
theorem fgt_mem : ∀ (l : List Act) (s : Bool × List K) (k : K), k ∈ (l.foldl fgt s).2 ↔ k ∈ s.2 ∧ ∀ a ∈ l, ¬ k.ino = a.ino
  | [], s, k => by simp
  | a :: l, s, k => by
    rw [List.foldl_cons, fgt_mem l]
    simp only [fgt, List.mem_filter, Bool.not_eq_true', decide_eq_false_iff_not, List.mem_cons, forall_eq_or_imp]
    constructor
    · rintro ⟨⟨h1, h2⟩, h3⟩; exact ⟨h1, h2, h3⟩
    · rintro ⟨h1, h2, h3⟩; exact ⟨⟨h1, h2⟩, h3⟩
theorem l7b {n : Nat} (hn : 26 < n) (l : List Act) (hl : l.length ≤ 60) (f : Bool) (x : Act) (f1 : Bool) (l1 : List K) (o1 : Ok 60 l1) (e0 : Env) (h0 : e0 0 = .lst f (l.map A)) :
    iter (round (C23.tab n) [21, 22] [(.exit 2, [21])] c7_2 e0 1 []) ([.lst f1 (l1.map D), .int .i64 0], [.var (A x).cells]) = some (.exit 2, [.lst (l.foldl fgt (f1, l1)).1 ((l.foldl fgt (f1, l1)).2.map D)], [.var (A x).cells]) :=
  for_list (f := round (C23.tab n) [21, 22] [(.exit 2, [21])] c7_2 e0 1 []) (fun i (s : Bool × List K) => ([.lst s.1 (s.2.map D), .int .i64 i], [.var (A x).cells])) l fgt
    (fun s => (.exit 2, [.lst s.1 (s.2.map D)], [.var (A x).cells])) (fun _ s => Ok 60 s.2)
    (fun i hi s h => by
      refine ⟨h.filter _, ?_⟩
      obtain ⟨f2, l2⟩ := s
      simp only [fgt] at h ⊢
      have n1 := h.n
      have k1 := s22 (n := n) (by omega) l2 (by omega) f2 l[i].ino
      simp -implicitDefEqProofs (disch := omega) [wrap_of, ilt_t, ilt_f, ile_t, ile_f, nlt_t, nlt_f, nle_t, nle_f, ieq_t, ieq_f, imin_l, imin_r, imax_l, imax_r, take_app1, take_map_all, round_eq, b7_2, h0, hi, a22, k1])
    (fun s h => by simp -implicitDefEqProofs (disch := omega) [wrap_of, ilt_t, ilt_f, ile_t, ile_f, nlt_t, nlt_f, nle_t, nle_f, ieq_t, ieq_f, imin_l, imin_r, imax_l, imax_r, take_app1, take_map_all, round_eq, b7_2, h0]) (f1, l1) o1
/-- Each row is of a node that was named. -/
theorem run_ino (l : List Act) : ∀ k ∈ (runL l).2, ∃ a ∈ l, k.ino = a.ino := by
  have key : ∀ (l : List Act) (s : Bool × List K) (k : K), k ∈ (l.foldl stp s).2 → k ∈ s.2 ∨ ∃ a ∈ l, k.ino = a.ino := by
    intro l
    induction l with
    | nil => intro s k h; exact .inl h
    | cons a l ih =>
      intro s k h
      rw [List.foldl_cons] at h
      rcases ih _ k h with h | ⟨b, hb, e⟩
      · have : k ∈ s.2 ∨ k.ino = a.ino := by
          simp only [stp] at h
          unfold doG at h
          split at h
          · rcases mem_put.1 h with rfl | ⟨h, _⟩
            · exact .inr rfl
            · exact .inl h
          · split at h
            · exact .inl h
            · rcases mem_put.1 h with rfl | ⟨h, _⟩
              · exact .inr rfl
              · exact .inl h
          · exact .inl (List.mem_filter.1 h).1
          · exact .inl (List.mem_filter.1 h).1
        rcases this with h | e
        · exact .inl h
        · exact .inr ⟨a, by simp, e⟩
      · exact .inr ⟨b, by simp [hb], e⟩
  intro k hk
  rcases key l (true, []) k hk with h | h
  · simp at h
  · exact h
theorem get_ino {l : List K} (h : Sorted l) {k x : K} (hg : get l k = some x) : x.ino = k.ino := (same_iff.1 ((get_some h).1 hg).2).1
theorem pg_fgt {l : List K} (h : Sorted l) (i ino page now : Int) : pg (l.filter fun k => !decide (k.ino = i)) ino page now = if ino = i then none else pg l ino page now := by
  unfold pg
  rw [get_filter h]
  cases hg : get l ⟨ino, [], page, 0, true, [], 0⟩ with
  | none => simp
  | some x =>
    have := get_ino h hg
    simp only at this
    by_cases e : ino = i
    · simp [Option.filter, e, this]
    · simp [Option.filter, e, this]
theorem nm_fgt {l : List K} (h : Sorted l) (i ino now : Int) (m : List UInt8) : nm (l.filter fun k => !decide (k.ino = i)) ino m now = if ino = i then none else nm l ino m now := by
  unfold nm
  by_cases hm : m = []
  · simp [hm]
  rw [if_neg hm, if_neg hm, get_filter h]
  cases hg : get l ⟨ino, m, 0, 0, true, [], 0⟩ with
  | none => simp
  | some x =>
    have := get_ino h hg
    simp only at this
    by_cases e : ino = i
    · simp [Option.filter, e, this]
    · simp [Option.filter, e, this]
theorem w7 (acts : List Act) (f : Bool) (ha : acts.length ≤ 9223372036854775807) (hr : ∀ a ∈ acts, a.Rng) (x : Act) (hx : x.Rng) (ino now : Int) :
    runP (C23.tab 50) c7 [.lst f (acts.map A), A x, .int .i64 ino, .int .i64 now] = some (.bool true) := by
  rw [runP_eq, runH_eq]
  have g1 := s10 (n := 50) (by omega) acts ha (fun a h => (hr a h).r) f
  have g2 := fun b => s10 (n := 50) (by omega) [x] (by simp) (fun a h => by simp only [List.mem_singleton] at h; subst h; exact hx.r) b
  simp only [List.map_cons, List.map_nil, A] at g2
  cases hg1 : greatB acts with
  | true =>
    rw [hg1] at g1
    simp -implicitDefEqProofs (disch := omega) [wrap_of, ilt_t, ilt_f, ile_t, ile_f, nlt_t, nlt_f, nle_t, nle_f, ieq_t, ieq_f, imin_l, imin_r, imax_l, imax_r, take_app1, take_map_all, c7, a9, s9, a10, g1]
  | false =>
    rw [hg1] at g1
    cases hg2 : greatB [x] with
    | true =>
      rw [hg2] at g2
      simp -implicitDefEqProofs (disch := omega) [wrap_of, ilt_t, ilt_f, ile_t, ile_f, nlt_t, nlt_f, nle_t, nle_f, ieq_t, ieq_f, imin_l, imin_r, imax_l, imax_r, take_app1, take_map_all, c7, a9, s9, a10, g1, g2]
    | false =>
      rw [hg2] at g2
      simp -implicitDefEqProofs (disch := omega) [wrap_of, ilt_t, ilt_f, ile_t, ile_f, nlt_t, nlt_f, nle_t, nle_f, ieq_t, ieq_f, imin_l, imin_r, imax_l, imax_r, take_app1, take_map_all, c7, a9, s9, a10, g1, g2]
      obtain ⟨hl, hs⟩ := small_of hg1
      have q2 := l7 (n := 50) (by omega) acts hl hs hr f x
      have o1 := run_ok hs
      have oi := run_ino acts
      obtain ⟨t, ht⟩ : ∃ t, t = runL acts := ⟨_, rfl⟩
      rw [← ht] at q2 o1 oi
      obtain ⟨f1, l1⟩ := t
      simp only [A, AV.cells] at q2 o1 oi
      rw [q2 _ (by simp -implicitDefEqProofs (disch := omega) [wrap_of, ilt_t, ilt_f, ile_t, ile_f, nlt_t, nlt_f, nle_t, nle_f, ieq_t, ieq_f, imin_l, imin_r, imax_l, imax_r, take_app1, take_map_all, ])]
      have n1 := o1.n
      have o2 := o1.filter (fun k => !decide (k.ino = ino))
      have k1 := s22 (n := 50) (by omega) l1 (by omega) f1 ino
      have y1 := pg_fgt o1.s ino x.ino x.page now
      have y2 := nm_fgt o1.s ino x.ino now x.name
      generalize hM : l1.filter (fun k => !decide (k.ino = ino)) = M at *
      have k4 := fun f g => s20 (n := 50) (by omega) (datO (pg l1 x.ino x.page now)) (datO (pg l1 x.ino x.page now)) f g (dat_le o1 _ _ _)
      simp only [decide_true] at k4
      have q3 := l7b (n := 50) (by omega) acts hl f x f1 l1 (o1.le hl)
      have hnil : (acts.foldl fgt (f1, l1)).2 = [] := by
        rw [List.eq_nil_iff_forall_not_mem]
        intro k hk
        rw [fgt_mem] at hk
        obtain ⟨a, ha, e⟩ := oi k hk.1
        exact hk.2 a ha e
      rw [hnil] at q3
      simp only [A, AV.cells, List.map_nil] at q3
      by_cases e : x.ino = ino
      · rw [if_pos e] at y1 y2
        have t16' := t16 (by omega : 18 < 50) o2 (by omega) false x.ino x.page now
        have t18' := t18 (by omega : 20 < 50) o2 (by omega) false x.ino now x.name
        rw [y1] at t16'
        rw [y2] at t18'
        simp -implicitDefEqProofs (disch := omega) [wrap_of, ilt_t, ilt_f, ile_t, ile_f, nlt_t, nlt_f, nle_t, nle_f, ieq_t, ieq_f, imin_l, imin_r, imax_l, imax_r, take_app1, take_map_all, a22, k1, a16, a18, t16 (by omega : 18 < 50) o1 (by omega), t18 (by omega : 20 < 50) o1 (by omega), t16', t18']
        rw [q3 _ (by simp -implicitDefEqProofs (disch := omega) [wrap_of, ilt_t, ilt_f, ile_t, ile_f, nlt_t, nlt_f, nle_t, nle_f, ieq_t, ieq_f, imin_l, imin_r, imax_l, imax_r, take_app1, take_map_all, ])]
        simp -implicitDefEqProofs (disch := omega) [wrap_of, ilt_t, ilt_f, ile_t, ile_f, nlt_t, nlt_f, nle_t, nle_f, ieq_t, ieq_f, imin_l, imin_r, imax_l, imax_r, take_app1, take_map_all, e]
      · rw [if_neg e] at y1 y2
        simp -implicitDefEqProofs (disch := omega) [wrap_of, ilt_t, ilt_f, ile_t, ile_f, nlt_t, nlt_f, nle_t, nle_f, ieq_t, ieq_f, imin_l, imin_r, imax_l, imax_r, take_app1, take_map_all, a22, k1, a16, a18, t16 (by omega : 18 < 50) o1 (by omega), t18 (by omega : 20 < 50) o1 (by omega), t16 (by omega : 18 < 50) o2 (by omega), t18 (by omega : 20 < 50) o2 (by omega), y1, y2]
        rw [q3 _ (by simp -implicitDefEqProofs (disch := omega) [wrap_of, ilt_t, ilt_f, ile_t, ile_f, nlt_t, nlt_f, nle_t, nle_f, ieq_t, ieq_f, imin_l, imin_r, imax_l, imax_r, take_app1, take_map_all, ])]
        simp -implicitDefEqProofs (disch := omega) [wrap_of, ilt_t, ilt_f, ile_t, ile_f, nlt_t, nlt_f, nle_t, nle_f, ieq_t, ieq_f, imin_l, imin_r, imax_l, imax_r, take_app1, take_map_all, e, a20, k4]
/-! CacheRises -/
theorem l8a {Γ : Tab} (l : List K) (hl : l.length ≤ 1000) (ha : adj l = true) (f : Bool) (e0 : Env) (h6 : e0 6 = .lst f (l.map D)) :
    iter (round Γ [7] [(.exit 2, []), (.ret, [2])] c8_1 e0 0 []) ([.int .i64 1], []) = some (.exit 2, [], []) := by
  rw [← adj_zip] at ha
  have := for_list (f := round Γ [7] [(.exit 2, []), (.ret, [2])] c8_1 e0 0 []) (fun i (_ : Unit) => ([.int .i64 ((i : Int) + 1)], [])) (l.zip l.tail) (fun _ _ => ())
    (fun _ => (.exit 2, [], [])) (fun _ _ => True)
    (fun i hi _ _ => by
      have hi' : i + 1 < l.length := by simp at hi; omega
      have hi1 : i < l.length := by omega
      have e1 : ((i : Int) + 1).toNat = i + 1 := by omega
      have e2 : ((i : Int) + 1 - 1).toNat = i := by omega
      have hlt : lt l[i] l[i + 1] = true := by
        have := List.all_eq_true.1 ha _ (List.getElem_mem hi)
        simpa using this
      refine ⟨trivial, ?_⟩
      unfold lt at hlt
      by_cases c1 : l[i].ino = l[i + 1].ino
      · rw [if_pos c1] at hlt
        by_cases c2 : l[i].name = l[i + 1].name
        · rw [if_pos c2] at hlt
          simp only [decide_eq_true_eq] at hlt
          simp -implicitDefEqProofs (disch := omega) [wrap_of, ilt_t, ilt_f, ile_t, ile_f, nlt_t, nlt_f, nle_t, nle_f, ieq_t, ieq_f, imin_l, imin_r, imax_l, imax_r, take_app1, take_map_all, round_eq, b8_1, h6, hi', hi1, e1, e2, c1, c2, strBin, sLess_irrefl]
        · rw [if_neg c2] at hlt
          have c3 : ¬ l[i + 1].name = l[i].name := fun e => c2 e.symm
          have c4 : sLess l[i + 1].name l[i].name = false := by
            cases h : sLess l[i + 1].name l[i].name with
            | false => rfl
            | true => have := sLess_trans hlt h; rw [sLess_irrefl] at this; cases this
          simp -implicitDefEqProofs (disch := omega) [wrap_of, ilt_t, ilt_f, ile_t, ile_f, nlt_t, nlt_f, nle_t, nle_f, ieq_t, ieq_f, imin_l, imin_r, imax_l, imax_r, take_app1, take_map_all, round_eq, b8_1, h6, hi', hi1, e1, e2, c1, c2, strBin, hlt, c3, c4]
      · rw [if_neg c1] at hlt
        simp only [decide_eq_true_eq] at hlt
        simp -implicitDefEqProofs (disch := omega) [wrap_of, ilt_t, ilt_f, ile_t, ile_f, nlt_t, nlt_f, nle_t, nle_f, ieq_t, ieq_f, imin_l, imin_r, imax_l, imax_r, take_app1, take_map_all, round_eq, b8_1, h6, hi', hi1, e1, e2, c1])
    (fun _ _ => by
      have e : ¬ (((l.zip l.tail).length : Int) + 1 < l.length) := by simp; omega
      simp -implicitDefEqProofs (disch := omega) [wrap_of, ilt_t, ilt_f, ile_t, ile_f, nlt_t, nlt_f, nle_t, nle_f, ieq_t, ieq_f, imin_l, imin_r, imax_l, imax_r, take_app1, take_map_all, round_eq, b8_1, h6, e]) () trivial
  exact this
theorem doG_length {N : Nat} {l : List K} (h : Ok N l) (a : Act) : (doG false l a).length ≤ l.length + 1 ∧ (1 < a.dO.tmod 4 → (doG false l a).length ≤ l.length) ∧ (a.dO.tmod 4 < 2 → 0 ≤ a.dO → l.length ≤ (doG false l a).length) := by
  have hp : ∀ k, (put l k).length ≤ l.length + 1 ∧ l.length ≤ (put l k).length := fun k => by
    rw [put_length h.s]
    cases fnd l k <;> simp
  have hf : ∀ p : K → Bool, (l.filter p).length ≤ l.length := fun p => List.length_filter_le _ _
  unfold doG md
  by_cases c1 : a.dO.tmod 4 = 0
  · simp only [c1, if_true]
    have := hp ⟨a.ino, [], a.page, 0, false, a.dat, a.til⟩
    exact ⟨this.1, fun h => by omega, fun _ _ => this.2⟩
  · by_cases c2 : a.dO.tmod 4 = 1
    · simp only [c2]
      by_cases hm : a.name = []
      · simp [hm]
      · have := hp ⟨a.ino, a.name, 0, a.is, true, [], a.til⟩
        simp only [hm, if_false]
        exact ⟨this.1, fun h => by omega, fun _ _ => this.2⟩
    · have z : a.dO.tmod 4 < 2 → 0 ≤ a.dO → False := fun h1 h2 => by
        rw [Int.tmod_eq_emod_of_nonneg h2] at c1 c2 h1
        omega
      by_cases c3 : a.dO.tmod 4 = 2
      · simp only [c3]
        have := hf fun k => !decide (k.ino = a.ino)
        exact ⟨by simp; omega, fun _ => by simpa using this, fun h => by omega⟩
      · simp only [c1, c2, c3, if_false]
        have := hf fun k => decide (a.til < k.til)
        exact ⟨by omega, fun _ => this, fun h1 h2 => absurd (z h1 h2) id⟩
theorem l8 {n : Nat} (hn : 36 < n) (l : List Act) (hl : l.length ≤ 60) (hs : ∀ a ∈ l, Small a) (hr : ∀ a ∈ l, a.Rng) (f : Bool) (e0 : Env) (h0 : e0 0 = .lst f (l.map A)) :
    iter (round (C23.tab n) [4, 5] [(.exit 0, []), (.ret, [2])] c8_2 e0 0 []) ([.lst true [], .int .i64 0], []) = some (.exit 0, [], []) :=
  for_list (f := round (C23.tab n) [4, 5] [(.exit 0, []), (.ret, [2])] c8_2 e0 0 []) (fun i (s : Bool × List K) => ([.lst s.1 (s.2.map D), .int .i64 i], [])) l stp
    (fun s => (.exit 0, [], [])) (fun i s => Ok i s.2)
    (fun i hi s h => by
      have ha := hs _ (List.getElem_mem hi)
      have o2 := h.step ha false
      refine ⟨o2, ?_⟩
      obtain ⟨f1, l1⟩ := s
      simp only [stp] at h o2 ⊢
      have n1 := h.n
      have n2 := o2.n
      have hd := (hr _ (List.getElem_mem hi)).lo
      have k1 := s13 (n := n) (by omega) l1 h.s (by omega) f1 l[i] ha hd
      obtain ⟨d1, d2, d3⟩ := doG_length h l[i]
      have hadj := adj_of_sorted o2.s
      have k2 := s11 (n := n) (by omega) (doG false l1 l[i]) (by omega) (doF f1 l[i])
      rw [o2.right] at k2
      simp only [A] at k1
      generalize doG false l1 l[i] = M at *
      generalize doF f1 l[i] = F at *
      have c1 : ¬ ((l1.length : Int) + 1 < M.length) := by omega
      have q := l8a (Γ := C23.tab n) M (by omega) hadj F
      by_cases c2 : 1 < l[i].dO.tmod 4
      · have d2 := d2 c2
        have c3 : ¬ ((l1.length : Int) < M.length) := by omega
        have c4 : ¬ (l[i].dO.tmod 4 < 2) := by omega
        simp -implicitDefEqProofs (disch := omega) [wrap_of, ilt_t, ilt_f, ile_t, ile_f, nlt_t, nlt_f, nle_t, nle_f, ieq_t, ieq_f, imin_l, imin_r, imax_l, imax_r, take_app1, take_map_all, round_eq, b8_2, h0, hi, a13, k1, a11, k2, c1, c2, c3, c4]
        rw [q _ (by simp -implicitDefEqProofs (disch := omega) [wrap_of, ilt_t, ilt_f, ile_t, ile_f, nlt_t, nlt_f, nle_t, nle_f, ieq_t, ieq_f, imin_l, imin_r, imax_l, imax_r, take_app1, take_map_all, ])]
        simp -implicitDefEqProofs (disch := omega) [wrap_of, ilt_t, ilt_f, ile_t, ile_f, nlt_t, nlt_f, nle_t, nle_f, ieq_t, ieq_f, imin_l, imin_r, imax_l, imax_r, take_app1, take_map_all, ]
      · have d3 := d3 (by omega) hd
        have c3 : ¬ ((M.length : Int) < l1.length) := by omega
        have c4 : l[i].dO.tmod 4 < 2 := by omega
        simp -implicitDefEqProofs (disch := omega) [wrap_of, ilt_t, ilt_f, ile_t, ile_f, nlt_t, nlt_f, nle_t, nle_f, ieq_t, ieq_f, imin_l, imin_r, imax_l, imax_r, take_app1, take_map_all, round_eq, b8_2, h0, hi, a13, k1, a11, k2, c1, c2, c3, c4]
        rw [q _ (by simp -implicitDefEqProofs (disch := omega) [wrap_of, ilt_t, ilt_f, ile_t, ile_f, nlt_t, nlt_f, nle_t, nle_f, ieq_t, ieq_f, imin_l, imin_r, imax_l, imax_r, take_app1, take_map_all, ])]
        simp -implicitDefEqProofs (disch := omega) [wrap_of, ilt_t, ilt_f, ile_t, ile_f, nlt_t, nlt_f, nle_t, nle_f, ieq_t, ieq_f, imin_l, imin_r, imax_l, imax_r, take_app1, take_map_all, ])
    (fun s h => by simp -implicitDefEqProofs (disch := omega) [wrap_of, ilt_t, ilt_f, ile_t, ile_f, nlt_t, nlt_f, nle_t, nle_f, ieq_t, ieq_f, imin_l, imin_r, imax_l, imax_r, take_app1, take_map_all, round_eq, b8_2, h0]) (true, []) Ok.nil
theorem w8 (acts : List Act) (f : Bool) (ha : acts.length ≤ 9223372036854775807) (hr : ∀ a ∈ acts, a.Rng) :
    runP (C23.tab 51) c8 [.lst f (acts.map A)] = some (.bool true) := by
  rw [runP_eq, runH_eq]
  have g1 := s10 (n := 51) (by omega) acts ha (fun a h => (hr a h).r) f
  cases hg1 : greatB acts with
  | true =>
    rw [hg1] at g1
    simp -implicitDefEqProofs (disch := omega) [wrap_of, ilt_t, ilt_f, ile_t, ile_f, nlt_t, nlt_f, nle_t, nle_f, ieq_t, ieq_f, imin_l, imin_r, imax_l, imax_r, take_app1, take_map_all, c8, a9, s9, a10, g1]
  | false =>
    rw [hg1] at g1
    simp -implicitDefEqProofs (disch := omega) [wrap_of, ilt_t, ilt_f, ile_t, ile_f, nlt_t, nlt_f, nle_t, nle_f, ieq_t, ieq_f, imin_l, imin_r, imax_l, imax_r, take_app1, take_map_all, c8, a9, s9, a10, g1]
    obtain ⟨hl, hs⟩ := small_of hg1
    rw [l8 (by omega) acts hl hs hr f _ (by simp -implicitDefEqProofs (disch := omega) [wrap_of, ilt_t, ilt_f, ile_t, ile_f, nlt_t, nlt_f, nle_t, nle_f, ieq_t, ieq_f, imin_l, imin_r, imax_l, imax_r, take_app1, take_map_all, ])]
    simp -implicitDefEqProofs (disch := omega) [wrap_of, ilt_t, ilt_f, ile_t, ile_f, nlt_t, nlt_f, nle_t, nle_f, ieq_t, ieq_f, imin_l, imin_r, imax_l, imax_r, take_app1, take_map_all, ]
end Go.Proofs.Ytnokdfhhnjmeoaa
