import Derived.Test.YtnokdfhhnjmeoaaP23
set_option linter.unusedSimpArgs false
set_option linter.unusedVariables false
namespace Go.Proofs.Ytnokdfhhnjmeoaa
open Go.Am Go.Am.Kp

/-! CacheApart -/
theorem l5 {n : Nat} (hn : 36 < n) (l : List Act) (hl : l.length ≤ 60) (hs : ∀ a ∈ l, Small a) (hr : ∀ a ∈ l, a.Rng) (f : Bool) (x y : Act) (e0 : Env) (h0 : e0 0 = .lst f (l.map A)) :
    iter (round (C23.tab n) [8, 9] [(.exit 0, [8])] c5_1 e0 2 []) ([.lst true [], .int .i64 0], [.var (A x).cells, .var (A y).cells]) = some (.exit 0, [.lst (runL l).1 ((runL l).2.map D)], [.var (A x).cells, .var (A y).cells]) :=
  for_list (f := round (C23.tab n) [8, 9] [(.exit 0, [8])] c5_1 e0 2 []) (fun i (s : Bool × List K) => ([.lst s.1 (s.2.map D), .int .i64 i], [.var (A x).cells, .var (A y).cells])) l stp
    (fun s => (.exit 0, [.lst s.1 (s.2.map D)], [.var (A x).cells, .var (A y).cells])) (fun i s => Ok i s.2)
    (fun i hi s h => by
      have ha := hs _ (List.getElem_mem hi)
      refine ⟨h.step ha false, ?_⟩
      obtain ⟨f1, l1⟩ := s
      simp only [stp] at h ⊢
      have n1 := h.n
      have k1 := s13 (n := n) (by omega) l1 h.s (by omega) f1 l[i] ha (hr _ (List.getElem_mem hi)).lo
      simp only [A] at k1
      simp -implicitDefEqProofs (disch := omega) [wrap_of, ilt_t, ilt_f, ile_t, ile_f, nlt_t, nlt_f, nle_t, nle_f, ieq_t, ieq_f, imin_l, imin_r, imax_l, imax_r, take_app1, take_map_all, round_eq, b5_1, h0, hi, a13, k1])
    (fun s h => by simp -implicitDefEqProofs (disch := omega) [wrap_of, ilt_t, ilt_f, ile_t, ile_f, nlt_t, nlt_f, nle_t, nle_f, ieq_t, ieq_f, imin_l, imin_r, imax_l, imax_r, take_app1, take_map_all, round_eq, b5_1, h0]) (true, []) Ok.nil
def mod2 (a : Act) : Act := { a with dO := a.dO.tmod 2 }
/-- What an act keeps. -/
def pk (a : Act) : Option K := if a.dO.tmod 2 = 0 then some ⟨a.ino, [], a.page, 0, false, a.dat, a.til⟩ else if a.name = [] then none else some ⟨a.ino, a.name, 0, a.is, true, [], a.til⟩
def putO (l : List K) (o : Option K) : List K := o.elim l (Kp.put l)
theorem two (a : Act) (h : 0 ≤ a.dO) : a.dO.tmod 2 = 0 ∨ a.dO.tmod 2 = 1 := by
  rw [Int.tmod_eq_emod_of_nonneg h]; omega
theorem doG_mod2 (l : List K) (a : Act) (h : 0 ≤ a.dO) : doG false l (mod2 a) = putO l (pk a) := by
  unfold doG md mod2 pk putO
  rcases two a h with e | e
  · simp [e]
  · simp only [e]
    by_cases hm : a.name = [] <;> simp [hm]
theorem putO_putO {l : List K} (h : Sorted l) (o : Option K) : putO (putO l o) o = putO l o := by
  cases o with
  | none => rfl
  | some k => exact put_put h (same_iff.2 ⟨rfl, rfl, rfl⟩)
/-- Do two acts keep the same? -/
def alk (a b : Act) : Bool := decide (a.dO.tmod 2 = b.dO.tmod 2) && (decide (a.ino = b.ino) && (if a.dO.tmod 2 = 0 then decide (a.page = b.page) else decide (a.name = b.name)))
theorem putO_same {l : List K} (h : Sorted l) {a b : Act} (ha : 0 ≤ a.dO) (e : alk a b = true) : putO (putO l (pk a)) (pk b) = putO l (pk b) := by
  unfold alk at e
  simp only [Bool.and_eq_true, decide_eq_true_eq] at e
  obtain ⟨e1, e2, e3⟩ := e
  unfold pk
  rw [← e1]
  rcases two a ha with z | z
  · rw [if_pos z] at e3
    rw [if_pos z, if_pos z]
    exact put_put h (same_iff.2 ⟨e2, rfl, by simpa using e3⟩)
  · have z' : ¬ a.dO.tmod 2 = 0 := by omega
    rw [if_neg z'] at e3
    simp only [decide_eq_true_eq] at e3
    rw [if_neg z', if_neg z', ← e3]
    by_cases hm : a.name = []
    · rw [if_pos hm, if_pos hm]; rfl
    · rw [if_neg hm, if_neg hm]
      exact put_put h (same_iff.2 ⟨e2, rfl, rfl⟩)
theorem putO_comm {l : List K} (h : Sorted l) {a b : Act} (ha : 0 ≤ a.dO) (hb : 0 ≤ b.dO) (e : alk a b = false) : putO (putO l (pk a)) (pk b) = putO (putO l (pk b)) (pk a) := by
  have key : ∀ k q, pk a = some k → pk b = some q → same k q = false := by
    intro k q hk hq
    cases hs : same k q with
    | false => rfl
    | true =>
      obtain ⟨g1, g2, g3⟩ := same_iff.1 hs
      unfold pk at hk hq
      unfold alk at e
      rcases two a ha with z | z <;> rcases two b hb with w | w
      · rw [if_pos z] at hk; rw [if_pos w] at hq
        cases hk; cases hq
        simp only at g1 g3
        simp [z, w, g1, g3] at e
      · rw [if_pos z] at hk; rw [if_neg (by omega)] at hq
        by_cases hm : b.name = []
        · rw [if_pos hm] at hq; cases hq
        · rw [if_neg hm] at hq
          cases hk; cases hq
          exact absurd g2.symm hm
      · rw [if_neg (by omega)] at hk; rw [if_pos w] at hq
        by_cases hm : a.name = []
        · rw [if_pos hm] at hk; cases hk
        · rw [if_neg hm] at hk
          cases hk; cases hq
          exact absurd g2 hm
      · rw [if_neg (by omega)] at hk hq
        by_cases hm : a.name = []
        · rw [if_pos hm] at hk; cases hk
        · by_cases hm' : b.name = []
          · rw [if_pos hm'] at hq; cases hq
          · rw [if_neg hm] at hk; rw [if_neg hm'] at hq
            cases hk; cases hq
            simp only at g1 g2
            simp [z, w, g1, g2] at e
  cases hk : pk a with
  | none => rfl
  | some k =>
    cases hq : pk b with
    | none => rfl
    | some q => exact put_comm h (key k q hk hq)
theorem small_mod2 {a : Act} (h : Small a) : Small (mod2 a) := ⟨h.name, h.dat⟩
theorem w5 (acts : List Act) (f : Bool) (ha : acts.length ≤ 9223372036854775807) (hr : ∀ a ∈ acts, a.Rng) (a b : Act) (hra : a.Rng) (hrb : b.Rng) :
    runP (C23.tab 48) c5 [.lst f (acts.map A), A a, A b] = some (.bool true) := by
  rw [runP_eq, runH_eq]
  have g1 := s10 (n := 48) (by omega) acts ha (fun a h => (hr a h).r) f
  have g2 := fun c => s10 (n := 48) (by omega) [a, b] (by simp) (fun x h => by
    simp only [List.mem_cons, List.not_mem_nil, or_false] at h
    rcases h with rfl | rfl
    · exact hra.r
    · exact hrb.r) c
  simp only [List.map_cons, List.map_nil, A] at g2
  cases hg1 : greatB acts with
  | true =>
    rw [hg1] at g1
    simp -implicitDefEqProofs (disch := omega) [wrap_of, ilt_t, ilt_f, ile_t, ile_f, nlt_t, nlt_f, nle_t, nle_f, ieq_t, ieq_f, imin_l, imin_r, imax_l, imax_r, take_app1, take_map_all, c5, a9, s9, a10, g1]
  | false =>
    rw [hg1] at g1
    cases hg2 : greatB [a, b] with
    | true =>
      rw [hg2] at g2
      simp -implicitDefEqProofs (disch := omega) [wrap_of, ilt_t, ilt_f, ile_t, ile_f, nlt_t, nlt_f, nle_t, nle_f, ieq_t, ieq_f, imin_l, imin_r, imax_l, imax_r, take_app1, take_map_all, c5, a9, s9, a10, g1, g2]
    | false =>
      rw [hg2] at g2
      simp -implicitDefEqProofs (disch := omega) [wrap_of, ilt_t, ilt_f, ile_t, ile_f, nlt_t, nlt_f, nle_t, nle_f, ieq_t, ieq_f, imin_l, imin_r, imax_l, imax_r, take_app1, take_map_all, c5, a9, s9, a10, g1, g2]
      obtain ⟨hl, hs⟩ := small_of hg1
      obtain ⟨_, hsx⟩ := small_of hg2
      have hsa := small_mod2 (hsx a (by simp))
      have hsb := small_mod2 (hsx b (by simp))
      have q2 := l5 (n := 48) (by omega) acts hl hs hr f a b
      have o1 := run_ok hs
      obtain ⟨t, ht⟩ : ∃ t, t = runL acts := ⟨_, rfl⟩
      rw [← ht] at q2 o1
      obtain ⟨f1, l1⟩ := t
      simp only [A, AV.cells] at q2 o1
      rw [q2 _ (by simp -implicitDefEqProofs (disch := omega) [wrap_of, ilt_t, ilt_f, ile_t, ile_f, nlt_t, nlt_f, nle_t, nle_f, ieq_t, ieq_f, imin_l, imin_r, imax_l, imax_r, take_app1, take_map_all, ])]
      have za : 0 ≤ (mod2 a).dO := by rcases two a hra.lo with e | e <;> simp [mod2, e]
      have zb : 0 ≤ (mod2 b).dO := by rcases two b hrb.lo with e | e <;> simp [mod2, e]
      have n1 := o1.n
      have oa := o1.step hsa false
      have ob := o1.step hsb false
      have oaa := oa.step hsa false
      have oab := oa.step hsb false
      have nab := oab.n
      have k1 := s13 (n := 48) (by omega) l1 o1.s (by omega) f1 (mod2 a) hsa za
      have k2 := s13 (n := 48) (by omega) _ oa.s (by have := oa.n; omega) (doF f1 (mod2 a)) (mod2 a) hsa za
      have k3 := s13 (n := 48) (by omega) _ oa.s (by have := oa.n; omega) (doF f1 (mod2 a)) (mod2 b) hsb zb
      have k4 := s13 (n := 48) (by omega) l1 o1.s (by omega) f1 (mod2 b) hsb zb
      have k5 := s13 (n := 48) (by omega) _ ob.s (by have := ob.n; omega) (doF f1 (mod2 b)) (mod2 a) hsa za
      have e1 : doG false (doG false l1 (mod2 a)) (mod2 a) = doG false l1 (mod2 a) := by
        rw [doG_mod2 _ _ hra.lo, doG_mod2 _ _ hra.lo]; exact putO_putO o1.s _
      have m1 := fun g => s15 (n := 48) (by omega) _ (doG false l1 (mod2 a)) (doF (doF f1 (mod2 a)) (mod2 a)) g (by have := oaa.n; omega) oaa.short
      rw [e1, sameL_refl] at m1
      rw [e1] at k2
      have e2 : alk a b = true → doG false (doG false l1 (mod2 a)) (mod2 b) = doG false l1 (mod2 b) := fun hal => by
        rw [doG_mod2 _ _ hra.lo, doG_mod2 _ _ hrb.lo, doG_mod2 _ _ hrb.lo]
        exact putO_same o1.s hra.lo hal
      have e3 : alk a b = false → doG false (doG false l1 (mod2 a)) (mod2 b) = doG false (doG false l1 (mod2 b)) (mod2 a) := fun hal => by
        rw [doG_mod2 _ _ hra.lo, doG_mod2 _ _ hrb.lo, doG_mod2 _ _ hrb.lo, doG_mod2 _ _ hra.lo]
        exact putO_comm o1.s hra.lo hrb.lo hal
      have m2 := fun l f g => s15 (n := 48) (by omega) (doG false (doG false l1 (mod2 a)) (mod2 b)) l f g (by omega) oab.short
      have ta := two a hra.lo
      have tb := two b hrb.lo
      have ra := hra.lo
      have rb := hrb.lo
      clear hra hrb g1 g2 hsx hsa hsb za zb oa ob oaa oab nab hg1 hg2 e1
      obtain ⟨da, ia, pa, ma, sa, fa, va, xa⟩ := a
      obtain ⟨db, ib, pb, mb, sb, fb, vb, xb⟩ := b
      generalize hLa : doG false l1 (mod2 ⟨da, ia, pa, ma, sa, fa, va, xa⟩) = La at *
      generalize hLb : doG false l1 (mod2 ⟨db, ib, pb, mb, sb, fb, vb, xb⟩) = Lb at *
      generalize hLab : doG false La (mod2 ⟨db, ib, pb, mb, sb, fb, vb, xb⟩) = Lab at *
      generalize hLba : doG false Lb (mod2 ⟨da, ia, pa, ma, sa, fa, va, xa⟩) = Lba at *
      generalize hF1 : doF f1 (mod2 ⟨da, ia, pa, ma, sa, fa, va, xa⟩) = F1 at *
      generalize hF2 : doF F1 (mod2 ⟨da, ia, pa, ma, sa, fa, va, xa⟩) = F2 at *
      generalize hF3 : doF F1 (mod2 ⟨db, ib, pb, mb, sb, fb, vb, xb⟩) = F3 at *
      generalize hF4 : doF f1 (mod2 ⟨db, ib, pb, mb, sb, fb, vb, xb⟩) = F4 at *
      generalize hF5 : doF F4 (mod2 ⟨da, ia, pa, ma, sa, fa, va, xa⟩) = F5 at *
      clear hLa hLb hLab hLba hF1 hF2 hF3 hF4 hF5
      simp only [A, mod2] at k1 k2 k3 k4 k5 m1
      unfold alk at e2 e3
      simp only at e2 e3 ta tb
      have m3 : ∀ l f g, (C23.tab 48).p 15 [.lst f (Lab.map D), .lst g (l.map D)] = some (.bool (sameL Lab l)) := m2
      clear m2
      by_cases c1 : da.tmod 2 = db.tmod 2
      · rw [c1] at k1 k2 k5 ta e2 e3
        by_cases c2 : ia = ib
        · subst c2
          rcases tb with z | z
          · rw [z] at k1 k2 k3 k4 k5
            by_cases c3 : pa = pb
            · subst c3
              have := e2 (by simp [z]); subst this
              simp -implicitDefEqProofs (disch := omega) [wrap_of, ilt_t, ilt_f, ile_t, ile_f, nlt_t, nlt_f, nle_t, nle_f, ieq_t, ieq_f, imin_l, imin_r, imax_l, imax_r, take_app1, take_map_all, a13, a15, c1, z, k1, k2, k3, k4, k5, m1, m3, sameL_refl]
            · have := e3 (by simp [z, c3]); subst this
              simp -implicitDefEqProofs (disch := omega) [wrap_of, ilt_t, ilt_f, ile_t, ile_f, nlt_t, nlt_f, nle_t, nle_f, ieq_t, ieq_f, imin_l, imin_r, imax_l, imax_r, take_app1, take_map_all, a13, a15, c1, z, c3, k1, k2, k3, k4, k5, m1, m3, sameL_refl]
          · rw [z] at k1 k2 k3 k4 k5
            by_cases c3 : ma = mb
            · subst c3
              have := e2 (by simp [z]); subst this
              simp -implicitDefEqProofs (disch := omega) [wrap_of, ilt_t, ilt_f, ile_t, ile_f, nlt_t, nlt_f, nle_t, nle_f, ieq_t, ieq_f, imin_l, imin_r, imax_l, imax_r, take_app1, take_map_all, a13, a15, strBin, c1, z, k1, k2, k3, k4, k5, m1, m3, sameL_refl]
            · have := e3 (by simp [z, c3]); subst this
              simp -implicitDefEqProofs (disch := omega) [wrap_of, ilt_t, ilt_f, ile_t, ile_f, nlt_t, nlt_f, nle_t, nle_f, ieq_t, ieq_f, imin_l, imin_r, imax_l, imax_r, take_app1, take_map_all, a13, a15, strBin, c1, z, c3, k1, k2, k3, k4, k5, m1, m3, sameL_refl]
        · have := e3 (by simp [c2]); subst this
          simp -implicitDefEqProofs (disch := omega) [wrap_of, ilt_t, ilt_f, ile_t, ile_f, nlt_t, nlt_f, nle_t, nle_f, ieq_t, ieq_f, imin_l, imin_r, imax_l, imax_r, take_app1, take_map_all, a13, a15, c1, c2, k1, k2, k3, k4, k5, m1, m3, sameL_refl]
      · have := e3 (by simp [c1]); subst this
        simp -implicitDefEqProofs (disch := omega) [wrap_of, ilt_t, ilt_f, ile_t, ile_f, nlt_t, nlt_f, nle_t, nle_f, ieq_t, ieq_f, imin_l, imin_r, imax_l, imax_r, take_app1, take_map_all, a13, a15, c1, k1, k2, k3, k4, k5, m1, m3, sameL_refl]
end Go.Proofs.Ytnokdfhhnjmeoaa
