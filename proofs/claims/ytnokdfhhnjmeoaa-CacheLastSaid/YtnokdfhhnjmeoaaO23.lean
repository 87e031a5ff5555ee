import Derived.Test.YtnokdfhhnjmeoaaP23
set_option linter.unusedSimpArgs false
set_option linter.unusedVariables false
namespace Go.Proofs.Ytnokdfhhnjmeoaa
open Go.Am Go.Am.Kp

def bigK (k : K) : Bool := decide (40 < k.name.length) || decide (100 < k.dat.length)
theorem l3a {Γ : Tab} (l : List K) (hl : l.length ≤ 60) (hr : ∀ k ∈ l, k.name.length ≤ 9223372036854775807 ∧ k.dat.length ≤ 9223372036854775807) (f : Bool) (x : Act) (e0 : Env) (h1 : e0 1 = .lst f (l.map D)) (h9 : e0 9 = .bool true) :
    iter (round Γ [10] [(.exit 0, []), (.ret, [8])] c3_1 e0 1 []) ([.int .i64 0], [.var (A x).cells]) = some ((l.find? bigK).elim (.exit 0, [], [.var (A x).cells]) (fun _ => (.ret, [.bool true], [.var (A x).cells]))) :=
  for_idx (f := round Γ [10] [(.exit 0, []), (.ret, [8])] c3_1 e0 1 []) (fun i => ([.int .i64 i], [.var (A x).cells])) l bigK (fun _ _ => (.ret, [.bool true], [.var (A x).cells])) (.exit 0, [], [.var (A x).cells])
    (fun i hi => by
      obtain ⟨k1, k2⟩ := hr _ (List.getElem_mem hi)
      unfold bigK
      by_cases h : 40 < l[i].name.length
      · simp -implicitDefEqProofs (disch := omega) [wrap_of, ilt_t, ilt_f, ile_t, ile_f, nlt_t, nlt_f, nle_t, nle_f, ieq_t, ieq_f, imin_l, imin_r, imax_l, imax_r, take_app1, take_map_all, round_eq, b3_1, h1, h9, hi, h]
      · by_cases h' : 100 < l[i].dat.length <;> simp -implicitDefEqProofs (disch := omega) [wrap_of, ilt_t, ilt_f, ile_t, ile_f, nlt_t, nlt_f, nle_t, nle_f, ieq_t, ieq_f, imin_l, imin_r, imax_l, imax_r, take_app1, take_map_all, round_eq, b3_1, h1, h9, hi, h, h'])
    (by simp -implicitDefEqProofs (disch := omega) [wrap_of, ilt_t, ilt_f, ile_t, ile_f, nlt_t, nlt_f, nle_t, nle_f, ieq_t, ieq_f, imin_l, imin_r, imax_l, imax_r, take_app1, take_map_all, round_eq, b3_1, h1])
def stp2 (s : (Bool × List K) × (Bool × List K)) (a : Act) : (Bool × List K) × (Bool × List K) := ((doF s.1.1 a, doG false s.1.2 a), (doF s.2.1 a, doG a.fl s.2.2 a))
def run2 (l : List Act) : (Bool × List K) × (Bool × List K) := l.foldl stp2 ((true, []), (true, []))
def Two (i : Nat) (s : (Bool × List K) × (Bool × List K)) : Prop := Ok i s.1.2 ∧ Ok i s.2.2 ∧ s.1.2.map nrm = s.2.2.map nrm
theorem two_step {i : Nat} {s : (Bool × List K) × (Bool × List K)} (h : Two i s) {a : Act} (ha : Small a) : Two (i + 1) (stp2 s a) := by
  obtain ⟨o1, o2, e⟩ := h
  exact ⟨o1.step ha false, o2.step ha a.fl, by simp only [stp2]; rw [doG_nrm, doG_nrm, e]⟩
theorem run2_ok {l : List Act} (hs : ∀ a ∈ l, Small a) : Two l.length (run2 l) := by
  have := fold_inv l stp2 Two 0 ((true, []), (true, [])) (fun i hi s h => two_step h (hs _ (List.getElem_mem hi))) ⟨Ok.nil, Ok.nil, rfl⟩
  rwa [Nat.zero_add] at this
theorem l3b {n : Nat} (hn : 43 < n) (l : List Act) (hl : l.length ≤ 60) (hs : ∀ a ∈ l, Small a) (hr : ∀ a ∈ l, a.Rng) (f : Bool) (x : Act) (e0 : Env) (h0 : e0 0 = .lst f (l.map A)) :
    iter (round (C23.tab n) [11, 12, 13] [(.exit 2, [11, 12]), (.ret, [8])] c3_2 e0 1 []) ([.lst true [], .lst true [], .int .i64 0], [.var (A x).cells]) =
      some (.exit 2, [.lst (run2 l).1.1 ((run2 l).1.2.map D), .lst (run2 l).2.1 ((run2 l).2.2.map D)], [.var (A x).cells]) :=
  for_list (f := round (C23.tab n) [11, 12, 13] [(.exit 2, [11, 12]), (.ret, [8])] c3_2 e0 1 [])
    (fun i (s : (Bool × List K) × (Bool × List K)) => ([.lst s.1.1 (s.1.2.map D), .lst s.2.1 (s.2.2.map D), .int .i64 i], [.var (A x).cells])) l stp2
    (fun s => (.exit 2, [.lst s.1.1 (s.1.2.map D), .lst s.2.1 (s.2.2.map D)], [.var (A x).cells])) Two
    (fun i hi s h => by
      have ha := hs _ (List.getElem_mem hi)
      refine ⟨two_step h ha, ?_⟩
      obtain ⟨q1, q2, q3⟩ := two_step h ha
      obtain ⟨⟨f1, l1⟩, ⟨f2, l2⟩⟩ := s
      obtain ⟨o1, o2, e⟩ := h
      simp only [stp2] at o1 o2 e q1 q2 q3 ⊢
      have hd := (hr _ (List.getElem_mem hi)).lo
      have n1 := o1.n
      have n2 := o2.n
      have n3 := q1.n
      have k1 := s13 (n := n) (by omega) l1 o1.s (by omega) f1 l[i] ha hd
      have k2 := s14 (n := n) (by omega) l2 o2.s (by omega) f2 l[i] ha hd
      have k3 := s15 (n := n) (by omega) (doG false l1 l[i]) (doG l[i].fl l2 l[i]) (doF f1 l[i]) (doF f2 l[i]) (by omega) q1.short
      rw [sameL_iff.2 q3] at k3
      have k4 := s11 (n := n) (by omega) (doG false l1 l[i]) (by omega) (doF f1 l[i])
      rw [q1.right] at k4
      simp only [A] at k1 k2
      simp -implicitDefEqProofs (disch := omega) [wrap_of, ilt_t, ilt_f, ile_t, ile_f, nlt_t, nlt_f, nle_t, nle_f, ieq_t, ieq_f, imin_l, imin_r, imax_l, imax_r, take_app1, take_map_all, round_eq, b3_2, h0, hi, a13, a14, a15, a11, k1, k2, k3, k4])
    (fun s h => by simp -implicitDefEqProofs (disch := omega) [wrap_of, ilt_t, ilt_f, ile_t, ile_f, nlt_t, nlt_f, nle_t, nle_f, ieq_t, ieq_f, imin_l, imin_r, imax_l, imax_r, take_app1, take_map_all, round_eq, b3_2, h0]) ((true, []), (true, [])) ⟨Ok.nil, Ok.nil, rfl⟩
theorem w3 (acts : List Act) (f : Bool) (ha : acts.length ≤ 9223372036854775807) (hr : ∀ a ∈ acts, a.Rng) (raw : List K) (g : Bool) (hw : raw.length ≤ 9223372036854775807) (hk : ∀ k ∈ raw, k.name.length ≤ 9223372036854775807 ∧ k.dat.length ≤ 9223372036854775807) (x : Act) (hx : x.Rng) (now : Int) :
    runP (C23.tab 46) c3 [.lst f (acts.map A), .lst g (raw.map D), A x, .int .i64 now] = some (.bool true) := by
  rw [runP_eq, runH_eq]
  have g1 := s10 (n := 46) (by omega) acts ha (fun a h => (hr a h).r) f
  have g2 := fun b => s10 (n := 46) (by omega) [x] (by simp) (fun a h => by simp only [List.mem_singleton] at h; subst h; exact hx.r) b
  simp only [List.map_cons, List.map_nil, A] at g2
  cases hg1 : greatB acts with
  | true =>
    rw [hg1] at g1
    simp -implicitDefEqProofs (disch := omega) [wrap_of, ilt_t, ilt_f, ile_t, ile_f, nlt_t, nlt_f, nle_t, nle_f, ieq_t, ieq_f, imin_l, imin_r, imax_l, imax_r, take_app1, take_map_all, c3, a9, s9, a10, g1]
  | false =>
    rw [hg1] at g1
    cases hg2 : greatB [x] with
    | true =>
      rw [hg2] at g2
      simp -implicitDefEqProofs (disch := omega) [wrap_of, ilt_t, ilt_f, ile_t, ile_f, nlt_t, nlt_f, nle_t, nle_f, ieq_t, ieq_f, imin_l, imin_r, imax_l, imax_r, take_app1, take_map_all, c3, a9, s9, a10, g1, g2]
    | false =>
      rw [hg2] at g2
      by_cases h60 : 60 < raw.length
      · simp -implicitDefEqProofs (disch := omega) [wrap_of, ilt_t, ilt_f, ile_t, ile_f, nlt_t, nlt_f, nle_t, nle_f, ieq_t, ieq_f, imin_l, imin_r, imax_l, imax_r, take_app1, take_map_all, c3, a9, s9, a10, g1, g2, h60]
      · simp -implicitDefEqProofs (disch := omega) [wrap_of, ilt_t, ilt_f, ile_t, ile_f, nlt_t, nlt_f, nle_t, nle_f, ieq_t, ieq_f, imin_l, imin_r, imax_l, imax_r, take_app1, take_map_all, c3, a9, s9, a10, g1, g2, h60]
        have q1 := l3a (Γ := C23.tab 46) raw (by omega) hk g x
        simp only [A, AV.cells] at q1
        rw [q1 _ (by simp -implicitDefEqProofs (disch := omega) [wrap_of, ilt_t, ilt_f, ile_t, ile_f, nlt_t, nlt_f, nle_t, nle_f, ieq_t, ieq_f, imin_l, imin_r, imax_l, imax_r, take_app1, take_map_all, ]) (by simp -implicitDefEqProofs (disch := omega) [wrap_of, ilt_t, ilt_f, ile_t, ile_f, nlt_t, nlt_f, nle_t, nle_f, ieq_t, ieq_f, imin_l, imin_r, imax_l, imax_r, take_app1, take_map_all, ])]
        cases hf : raw.find? bigK with
        | some y => simp -implicitDefEqProofs (disch := omega) [wrap_of, ilt_t, ilt_f, ile_t, ile_f, nlt_t, nlt_f, nle_t, nle_f, ieq_t, ieq_f, imin_l, imin_r, imax_l, imax_r, take_app1, take_map_all, ]
        | none =>
          simp -implicitDefEqProofs (disch := omega) [wrap_of, ilt_t, ilt_f, ile_t, ile_f, nlt_t, nlt_f, nle_t, nle_f, ieq_t, ieq_f, imin_l, imin_r, imax_l, imax_r, take_app1, take_map_all, a11, a12, s11 (by omega : 15 < 46) raw (by omega), s12 (by omega : 35 < 46) raw (by omega)]
          obtain ⟨hl, hs⟩ := small_of hg1
          obtain ⟨_, hsx⟩ := small_of hg2
          have q2 := l3b (n := 46) (by omega) acts hl hs hr f x
          obtain ⟨o1, o2, e⟩ := run2_ok hs
          obtain ⟨t, ht⟩ : ∃ t, t = run2 acts := ⟨_, rfl⟩
          rw [← ht] at q2 o1 o2 e
          obtain ⟨⟨f1, l1⟩, ⟨f2, l2⟩⟩ := t
          simp only [A, AV.cells] at q2 o1 o2 e
          rw [q2 _ (by simp -implicitDefEqProofs (disch := omega) [wrap_of, ilt_t, ilt_f, ile_t, ile_f, nlt_t, nlt_f, nle_t, nle_f, ieq_t, ieq_f, imin_l, imin_r, imax_l, imax_r, take_app1, take_map_all, ])]
          have n1 := o1.n
          have n2 := o2.n
          simp -implicitDefEqProofs (disch := omega) [wrap_of, ilt_t, ilt_f, ile_t, ile_f, nlt_t, nlt_f, nle_t, nle_f, ieq_t, ieq_f, imin_l, imin_r, imax_l, imax_r, take_app1, take_map_all, a16, a17, a18, a19, t16 (by omega : 18 < 46) o1 (by omega), t17 (by omega : 44 < 46) o2 (by omega), t18 (by omega : 20 < 46) o1 (by omega), t19 (by omega : 45 < 46) o2 (by omega)]
          obtain ⟨u1, u2, _⟩ := some_nrm (pg_nrm e x.ino x.page now)
          obtain ⟨v1, _, v3⟩ := some_nrm (nm_nrm e x.ino now x.name)
          have k := s20 (n := 46) (by omega) (datO (pg l1 x.ino x.page now)) (datO (pg l2 x.ino x.page now)) (pg l1 x.ino x.page now).isNone ((pg l2 x.ino x.page now).elim true (·.fl)) (dat_le o1 _ _ _)
          rw [decide_eq_true u2, u2] at k
          simp -implicitDefEqProofs (disch := omega) [wrap_of, ilt_t, ilt_f, ile_t, ile_f, nlt_t, nlt_f, nle_t, nle_f, ieq_t, ieq_f, imin_l, imin_r, imax_l, imax_r, take_app1, take_map_all, a20, k, u1, u2, v1, v3]
end Go.Proofs.Ytnokdfhhnjmeoaa
