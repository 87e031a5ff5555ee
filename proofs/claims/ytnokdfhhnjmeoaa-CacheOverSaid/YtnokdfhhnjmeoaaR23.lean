import Derived.Test.YtnokdfhhnjmeoaaP23
set_option linter.unusedSimpArgs false
set_option linter.unusedVariables false
namespace Go.Proofs.Ytnokdfhhnjmeoaa
open Go.Am Go.Am.Kp

/-! CacheOver -/
theorem l6 {n : Nat} (hn : 36 < n) (l : List Act) (hl : l.length ≤ 60) (hs : ∀ a ∈ l, Small a) (hr : ∀ a ∈ l, a.Rng) (f : Bool) (x : Act) (e0 : Env) (h0 : e0 0 = .lst f (l.map A)) :
    iter (round (C23.tab n) [10, 11] [(.exit 0, [10])] c6_1 e0 1 []) ([.lst true [], .int .i64 0], [.var (A x).cells]) = some (.exit 0, [.lst (runL l).1 ((runL l).2.map D)], [.var (A x).cells]) :=
  for_list (f := round (C23.tab n) [10, 11] [(.exit 0, [10])] c6_1 e0 1 []) (fun i (s : Bool × List K) => ([.lst s.1 (s.2.map D), .int .i64 i], [.var (A x).cells])) l stp
    (fun s => (.exit 0, [.lst s.1 (s.2.map D)], [.var (A x).cells])) (fun i s => Ok i s.2)
    (fun i hi s h => by
      have ha := hs _ (List.getElem_mem hi)
      refine ⟨h.step ha false, ?_⟩
      obtain ⟨f1, l1⟩ := s
      simp only [stp] at h ⊢
      have n1 := h.n
      have k1 := s13 (n := n) (by omega) l1 h.s (by omega) f1 l[i] ha (hr _ (List.getElem_mem hi)).lo
      simp only [A] at k1
      simp -implicitDefEqProofs (disch := omega) [wrap_of, ilt_t, ilt_f, ile_t, ile_f, nlt_t, nlt_f, nle_t, nle_f, ieq_t, ieq_f, imin_l, imin_r, imax_l, imax_r, take_app1, take_map_all, round_eq, b6_1, h0, hi, a13, k1])
    (fun s h => by simp -implicitDefEqProofs (disch := omega) [wrap_of, ilt_t, ilt_f, ile_t, ile_f, nlt_t, nlt_f, nle_t, nle_f, ieq_t, ieq_f, imin_l, imin_r, imax_l, imax_r, take_app1, take_map_all, round_eq, b6_1, h0]) (true, []) Ok.nil
theorem l6b {Γ : Tab} (l : List K) (hl : l.length ≤ 1000) (now : Int) (hd : ∀ k ∈ l, ¬ k.til ≤ now) (f : Bool) (x : Act) (e0 : Env) (h12 : e0 12 = .lst f (l.map D)) (h2 : e0 2 = .int .i64 now) :
    iter (round Γ [22] [(.exit 2, []), (.ret, [8])] c6_2 e0 1 []) ([.int .i64 0], [.var (A x).cells]) = some (.exit 2, [], [.var (A x).cells]) :=
  for_list (f := round Γ [22] [(.exit 2, []), (.ret, [8])] c6_2 e0 1 []) (fun i (_ : Unit) => ([.int .i64 i], [.var (A x).cells])) l (fun _ _ => ())
    (fun _ => (.exit 2, [], [.var (A x).cells])) (fun _ _ => True)
    (fun i hi _ _ => by
      have ha := hd _ (List.getElem_mem hi)
      refine ⟨trivial, ?_⟩
      simp -implicitDefEqProofs (disch := omega) [wrap_of, ilt_t, ilt_f, ile_t, ile_f, nlt_t, nlt_f, nle_t, nle_f, ieq_t, ieq_f, imin_l, imin_r, imax_l, imax_r, take_app1, take_map_all, round_eq, b6_2, h12, h2, hi, ha])
    (fun _ _ => by simp -implicitDefEqProofs (disch := omega) [wrap_of, ilt_t, ilt_f, ile_t, ile_f, nlt_t, nlt_f, nle_t, nle_f, ieq_t, ieq_f, imin_l, imin_r, imax_l, imax_r, take_app1, take_map_all, round_eq, b6_2, h12]) () trivial
theorem pg_age {l : List K} (h : Sorted l) (t ino page now : Int) (hn : t ≤ now) : pg (l.filter fun k => decide (t < k.til)) ino page now = pg l ino page now := by
  unfold pg
  rw [get_filter h, Option.filter_filter]
  congr 1; funext x
  by_cases h1 : now < x.til
  · have : t < x.til := by omega
    simp [h1, this]
  · simp [h1]
theorem nm_age {l : List K} (h : Sorted l) (t ino now : Int) (m : List UInt8) (hn : t ≤ now) : nm (l.filter fun k => decide (t < k.til)) ino m now = nm l ino m now := by
  unfold nm
  rw [get_filter h, Option.filter_filter]
  congr 2; funext x
  by_cases h1 : now < x.til
  · have : t < x.til := by omega
    simp [h1, this]
  · simp [h1]
theorem w6 (acts : List Act) (f : Bool) (ha : acts.length ≤ 9223372036854775807) (hr : ∀ a ∈ acts, a.Rng) (x : Act) (hx : x.Rng) (now later : Int) (hl0 : 0 ≤ later) (hl1 : later ≤ 65535) :
    runP (C23.tab 49) c6 [.lst f (acts.map A), A x, .int .i64 now, .int .u16 later] = some (.bool true) := by
  rw [runP_eq, runH_eq]
  have g1 := s10 (n := 49) (by omega) acts ha (fun a h => (hr a h).r) f
  have g2 := fun b => s10 (n := 49) (by omega) [x] (by simp) (fun a h => by simp only [List.mem_singleton] at h; subst h; exact hx.r) b
  simp only [List.map_cons, List.map_nil, A] at g2
  cases hg1 : greatB acts with
  | true =>
    rw [hg1] at g1
    simp -implicitDefEqProofs (disch := omega) [wrap_of, ilt_t, ilt_f, ile_t, ile_f, nlt_t, nlt_f, nle_t, nle_f, ieq_t, ieq_f, imin_l, imin_r, imax_l, imax_r, take_app1, take_map_all, c6, a9, s9, a10, g1]
  | false =>
    rw [hg1] at g1
    cases hg2 : greatB [x] with
    | true =>
      rw [hg2] at g2
      simp -implicitDefEqProofs (disch := omega) [wrap_of, ilt_t, ilt_f, ile_t, ile_f, nlt_t, nlt_f, nle_t, nle_f, ieq_t, ieq_f, imin_l, imin_r, imax_l, imax_r, take_app1, take_map_all, c6, a9, s9, a10, g1, g2]
    | false =>
      rw [hg2] at g2
      by_cases t1 : 1099511627776 < now
      · simp -implicitDefEqProofs (disch := omega) [wrap_of, ilt_t, ilt_f, ile_t, ile_f, nlt_t, nlt_f, nle_t, nle_f, ieq_t, ieq_f, imin_l, imin_r, imax_l, imax_r, take_app1, take_map_all, c6, a9, s9, a10, g1, g2, t1]
      by_cases t2 : now < -1099511627776
      · simp -implicitDefEqProofs (disch := omega) [wrap_of, ilt_t, ilt_f, ile_t, ile_f, nlt_t, nlt_f, nle_t, nle_f, ieq_t, ieq_f, imin_l, imin_r, imax_l, imax_r, take_app1, take_map_all, c6, a9, s9, a10, g1, g2, t1, t2]
      simp -implicitDefEqProofs (disch := omega) [wrap_of, ilt_t, ilt_f, ile_t, ile_f, nlt_t, nlt_f, nle_t, nle_f, ieq_t, ieq_f, imin_l, imin_r, imax_l, imax_r, take_app1, take_map_all, c6, a9, s9, a10, g1, g2, t1, t2]
      obtain ⟨hl, hs⟩ := small_of hg1
      have q2 := l6 (n := 49) (by omega) acts hl hs hr f x
      have o1 := run_ok hs
      obtain ⟨t, ht⟩ : ∃ t, t = runL acts := ⟨_, rfl⟩
      rw [← ht] at q2 o1
      obtain ⟨f1, l1⟩ := t
      simp only [A, AV.cells] at q2 o1
      rw [q2 _ (by simp -implicitDefEqProofs (disch := omega) [wrap_of, ilt_t, ilt_f, ile_t, ile_f, nlt_t, nlt_f, nle_t, nle_f, ieq_t, ieq_f, imin_l, imin_r, imax_l, imax_r, take_app1, take_map_all, ])]
      have n1 := o1.n
      have o2 := o1.filter (fun k => decide (now < k.til))
      have k1 := s21 (n := 49) (by omega) l1 (by omega) f1 now
      rw [filter_age] at k1
      have y1 := pg_age o1.s now x.ino x.page (now + later) (by omega)
      have y2 := nm_age o1.s now x.ino (now + later) x.name (by omega)
      have hle : (l1.filter fun k => decide (now < k.til)).length ≤ l1.length := List.length_filter_le _ _
      have hd : ∀ k ∈ l1.filter (fun k => decide (now < k.til)), ¬ k.til ≤ now := fun k hk => by
        have := (List.mem_filter.1 hk).2
        simp only [decide_eq_true_eq] at this
        omega
      have k2 := fun f => s21 (n := 49) (by omega) (l1.filter fun k => decide (now < k.til)) (by omega) f now
      have e2 : (l1.filter fun k => decide (now < k.til)).filter (fun k => !decide (k.til ≤ now)) = l1.filter fun k => decide (now < k.til) := by
        rw [List.filter_eq_self]
        intro k hk
        simp [hd k hk]
      simp only [e2] at k2
      generalize hM : l1.filter (fun k => decide (now < k.til)) = M at *
      have k3 := fun f g => s15 (n := 49) (by omega) M M f g (by omega) o2.short
      have k4 := fun f g => s20 (n := 49) (by omega) (datO (pg l1 x.ino x.page (now + later))) (datO (pg l1 x.ino x.page (now + later))) f g (dat_le o1 _ _ _)
      simp only [sameL_refl, decide_true] at k3 k4
      have wl : IntKind.i64.wrap later = later := wrap_of (by omega) (by omega)
      have q3 := l6b (Γ := C23.tab 49) M (by omega) now hd false x
      simp only [A, AV.cells] at q3
      simp -implicitDefEqProofs (disch := omega) [wrap_of, ilt_t, ilt_f, ile_t, ile_f, nlt_t, nlt_f, nle_t, nle_f, ieq_t, ieq_f, imin_l, imin_r, imax_l, imax_r, take_app1, take_map_all, a21, k1, wl, a16, a18, t16 (by omega : 18 < 49) o1 (by omega), t18 (by omega : 20 < 49) o1 (by omega), t16 (by omega : 18 < 49) o2 (by omega), t18 (by omega : 20 < 49) o2 (by omega), y1, y2]
      rw [q3 _ (by simp -implicitDefEqProofs (disch := omega) [wrap_of, ilt_t, ilt_f, ile_t, ile_f, nlt_t, nlt_f, nle_t, nle_f, ieq_t, ieq_f, imin_l, imin_r, imax_l, imax_r, take_app1, take_map_all, ]) (by simp -implicitDefEqProofs (disch := omega) [wrap_of, ilt_t, ilt_f, ile_t, ile_f, nlt_t, nlt_f, nle_t, nle_f, ieq_t, ieq_f, imin_l, imin_r, imax_l, imax_r, take_app1, take_map_all, ])]
      simp -implicitDefEqProofs (disch := omega) [wrap_of, ilt_t, ilt_f, ile_t, ile_f, nlt_t, nlt_f, nle_t, nle_f, ieq_t, ieq_f, imin_l, imin_r, imax_l, imax_r, take_app1, take_map_all, a20, a21, a15, k2, k3, k4]
end Go.Proofs.Ytnokdfhhnjmeoaa
