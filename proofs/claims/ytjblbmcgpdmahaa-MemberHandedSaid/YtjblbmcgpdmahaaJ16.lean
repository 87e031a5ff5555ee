import Derived.Test.YtjblbmcgpdmahaaI16
set_option linter.unusedSimpArgs false
set_option linter.unusedVariables false
namespace Go.Proofs.Ytjblbmcgpdmahaa
open Go.Am

/-- How the document goes through seats. -/
structure TS where
  out : List Int
  is : Bool
  dn : Bool
def tg (x : Int) (s : TS) (p : Int) : TS :=
  if p = x then ⟨s.out, true, s.dn⟩ else if x < p ∧ s.is = false ∧ s.dn = false then ⟨s.out ++ [x] ++ [p], false, true⟩ else ⟨s.out ++ [p], s.is, s.dn⟩
def tfin (x : Int) (s : TS) : List Int := if s.is = false ∧ s.dn = false then s.out ++ [x] else s.out
theorem tg_rest (x : Int) : ∀ (l : List Int) (s : TS), (∀ y ∈ l, x < y) → ¬ (s.is = false ∧ s.dn = false) → tfin x (l.foldl (tg x) s) = s.out ++ l
  | [], s, _, h => by simp [tfin, h]
  | p :: l, s, hl, h => by
    have hp := hl p (by simp)
    have h1 : ¬ p = x := by omega
    have h2 : ¬ (x < p ∧ s.is = false ∧ s.dn = false) := fun h' => h h'.2
    rw [List.foldl_cons]
    have e : tg x s p = ⟨s.out ++ [p], s.is, s.dn⟩ := by unfold tg; rw [if_neg h1, if_neg h2]
    rw [e, tg_rest x l ⟨s.out ++ [p], s.is, s.dn⟩ (fun y hy => hl y (by simp [hy])) h]
    simp
theorem tg_tog (x : Int) : ∀ (l a : List Int), Up l → tfin x (l.foldl (tg x) ⟨a, false, false⟩) = a ++ tog l x
  | [], a, _ => by simp [tfin, tog_nil]
  | p :: l, a, h => by
    obtain ⟨h1, h2⟩ := List.pairwise_cons.1 h
    rw [List.foldl_cons, tog_cons]
    by_cases c1 : p = x
    · subst c1
      have e : tg p ⟨a, false, false⟩ p = ⟨a, true, false⟩ := by unfold tg; rw [if_pos rfl]
      rw [e, tg_rest p l _ h1 (by simp), if_neg (by omega), if_pos rfl]
    · by_cases c2 : x < p
      · have e : tg x ⟨a, false, false⟩ p = ⟨a ++ [x] ++ [p], false, true⟩ := by unfold tg; rw [if_neg c1, if_pos ⟨c2, rfl, rfl⟩]
        rw [e, tg_rest x l _ (fun y hy => by have := h1 y hy; omega) (by simp), if_neg (by omega), if_neg c1]
        simp
      · have e : tg x ⟨a, false, false⟩ p = ⟨a ++ [p], false, false⟩ := by unfold tg; rw [if_neg c1, if_neg (by omega)]
        rw [e, tg_tog x l _ h2, if_pos (by omega)]
        simp
theorem l28 {Γ : Tab} (x : Int) (l : List Int) (hl : l.length ≤ 7) (f : Bool) (e0 : Env) (h12 : e0 12 = .lst f (l.map I)) (h4 : e0 4 = I x) :
    iter (round Γ [15, 16, 17, 18] [(.exit 0, [15, 16, 17])] c28_1 e0 2 [1]) ([.own 1 0 0 0, .bool false, .bool false, .int .i64 0], [.var [.int .i64 0, .lst true []], .row 0 1 []]) =
      some (.exit 0, [.own 1 0 0 (l.foldl (tg x) ⟨[], false, false⟩).out.length, .bool (l.foldl (tg x) ⟨[], false, false⟩).is, .bool (l.foldl (tg x) ⟨[], false, false⟩).dn], [.var [.int .i64 0, .lst true []], .row 0 1 ((l.foldl (tg x) ⟨[], false, false⟩).out.map I)]) :=
  for_list (f := round Γ [15, 16, 17, 18] [(.exit 0, [15, 16, 17])] c28_1 e0 2 [1]) (fun i (s : TS) => ([.own 1 0 0 s.out.length, .bool s.is, .bool s.dn, .int .i64 (i : Int)], [.var [.int .i64 0, .lst true []], .row 0 1 (s.out.map I)])) l (tg x) (fun s => (.exit 0, [.own 1 0 0 s.out.length, .bool s.is, .bool s.dn], [.var [.int .i64 0, .lst true []], .row 0 1 (s.out.map I)])) (fun i s => s.out.length ≤ 2 * i)
    (fun i hi s hs => by
      obtain ⟨p, hp⟩ : ∃ p, p = l[i] := ⟨_, rfl⟩
      obtain ⟨out, is, dn⟩ := s
      rw [← hp]
      simp only at hs
      unfold tg
      by_cases c1 : p = x
      · subst c1
        rw [if_pos rfl]
        refine ⟨by simp only; omega, ?_⟩
        simp -implicitDefEqProofs (disch := omega) [wrap_of, ilt_t, ilt_f, ile_t, ile_f, nlt_t, nlt_f, nle_t, nle_f, ieq_t, ieq_f, imin_l, imin_r, imax_l, imax_r, take_app1, take_map_all, round_eq, b28_1, h12, h4, hi, ← hp]
      · rw [if_neg c1]
        by_cases c2 : x < p
        · cases is with
          | true =>
            rw [if_neg (by simp)]
            refine ⟨by simp; omega, ?_⟩
            simp -implicitDefEqProofs (disch := omega) [wrap_of, ilt_t, ilt_f, ile_t, ile_f, nlt_t, nlt_f, nle_t, nle_f, ieq_t, ieq_f, imin_l, imin_r, imax_l, imax_r, take_app1, take_map_all, round_eq, b28_1, h12, h4, hi, ← hp, c1, c2]
          | false =>
            cases dn with
            | true =>
              rw [if_neg (by simp)]
              refine ⟨by simp; omega, ?_⟩
              simp -implicitDefEqProofs (disch := omega) [wrap_of, ilt_t, ilt_f, ile_t, ile_f, nlt_t, nlt_f, nle_t, nle_f, ieq_t, ieq_f, imin_l, imin_r, imax_l, imax_r, take_app1, take_map_all, round_eq, b28_1, h12, h4, hi, ← hp, c1, c2]
            | false =>
              rw [if_pos ⟨c2, rfl, rfl⟩]
              refine ⟨by simp; omega, ?_⟩
              simp -implicitDefEqProofs (disch := omega) [wrap_of, ilt_t, ilt_f, ile_t, ile_f, nlt_t, nlt_f, nle_t, nle_f, ieq_t, ieq_f, imin_l, imin_r, imax_l, imax_r, take_app1, take_map_all, round_eq, b28_1, h12, h4, hi, ← hp, c1, c2]
        · rw [if_neg (by omega)]
          refine ⟨by simp; omega, ?_⟩
          simp -implicitDefEqProofs (disch := omega) [wrap_of, ilt_t, ilt_f, ile_t, ile_f, nlt_t, nlt_f, nle_t, nle_f, ieq_t, ieq_f, imin_l, imin_r, imax_l, imax_r, take_app1, take_map_all, round_eq, b28_1, h12, h4, hi, ← hp, c1, c2])
    (fun s hs => by simp -implicitDefEqProofs (disch := omega) [wrap_of, ilt_t, ilt_f, ile_t, ile_f, nlt_t, nlt_f, nle_t, nle_f, ieq_t, ieq_f, imin_l, imin_r, imax_l, imax_r, take_app1, take_map_all, round_eq, b28_1, h12]) ⟨[], false, false⟩ (by simp)
theorem s28 {n : Nat} (hn : 49 < n) (b : Ba) (hb : GB b) (hr : right b.ps = true) (l : List En) (hl : GL l) (f : Bool) (commit now who : Int) (hc : (termA b l commit).isSome = true) (hcb : commit ≤ 9223372036854775807) :
    (C16.tab n).p 28 [Bs b, .lst f (l.map E), I commit, I now, I who] = some (nextA b l commit now who) := by
  rw [p28 hn, runP_eq, runH_eq]
  unfold nextA
  have h13 := s13 (n := 49) (by decide) b hb l hl f
  have h24 := s24 (n := 49) (by decide) b hb l hl f commit now hcb
  have hpr := peers_right hr l
  simp only [Bs, psV] at h13 h24
  obtain ⟨u, hu⟩ := Option.isSome_iff_exists.1 hc
  have hfit : fitsA b l commit now = decide (u = now) := by unfold fitsA; rw [hu]; simp
  rw [hfit] at h24
  rw [hu]
  generalize hq : (peersS b l).1 = q at *
  obtain ⟨fq, ps, at_⟩ := q
  simp only at *
  have hpl : ps.length ≤ 7 := (right_iff.1 hpr).2.2
  have hup := (right_iff.1 hpr).1.1
  have h28 := fun f => l28 (Γ := C16.tab 49) who ps hpl f
  by_cases c1 : who < 0
  · simp -implicitDefEqProofs (disch := omega) [wrap_of, ilt_t, ilt_f, ile_t, ile_f, nlt_t, nlt_f, nle_t, nle_f, ieq_t, ieq_f, imin_l, imin_r, imax_l, imax_r, take_app1, take_map_all, c28, c1, E0]
  · by_cases c2 : 199 < who
    · simp -implicitDefEqProofs (disch := omega) [wrap_of, ilt_t, ilt_f, ile_t, ile_f, nlt_t, nlt_f, nle_t, nle_f, ieq_t, ieq_f, imin_l, imin_r, imax_l, imax_r, take_app1, take_map_all, c28, c1, c2, E0]
    · by_cases c3 : commit < at_
      · simp -implicitDefEqProofs (disch := omega) [wrap_of, ilt_t, ilt_f, ile_t, ile_f, nlt_t, nlt_f, nle_t, nle_f, ieq_t, ieq_f, imin_l, imin_r, imax_l, imax_r, take_app1, take_map_all, c28, c1, c2, a13, h13, a24, h24, c3, E0]
      · by_cases c4 : u = now
        · subst c4
          have ht := tg_tog who ps [] hup
          rw [List.nil_append] at ht
          have hrt := right_tog hpr (x := who) (by omega) (by omega)
          have htl : (tog ps who).length ≤ 8 := by
            unfold tog; have := cntI_le ps who; split <;> simp <;> omega
          have h49 := s49 (n := 49) (by decide) u (tog ps who) (by omega) false
          simp -implicitDefEqProofs (disch := omega) [wrap_of, ilt_t, ilt_f, ile_t, ile_f, nlt_t, nlt_f, nle_t, nle_f, ieq_t, ieq_f, imin_l, imin_r, imax_l, imax_r, take_app1, take_map_all, c28, c1, c2, a13, h13, a24, h24, c3]
          rw [h28 fq _ (by simp -implicitDefEqProofs (disch := omega) [wrap_of, ilt_t, ilt_f, ile_t, ile_f, nlt_t, nlt_f, nle_t, nle_f, ieq_t, ieq_f, imin_l, imin_r, imax_l, imax_r, take_app1, take_map_all, ]) (by simp -implicitDefEqProofs (disch := omega) [wrap_of, ilt_t, ilt_f, ile_t, ile_f, nlt_t, nlt_f, nle_t, nle_f, ieq_t, ieq_f, imin_l, imin_r, imax_l, imax_r, take_app1, take_map_all, ])]
          unfold nextV
          rw [hrt]
          generalize (ps.foldl (tg who) ⟨[], false, false⟩) = s at *
          obtain ⟨out, is, dn⟩ := s
          unfold tfin at ht
          simp only at ht
          by_cases cf : is = false ∧ dn = false
          · rw [if_pos cf] at ht
            obtain ⟨rfl, rfl⟩ := cf
            rw [← ht] at h49 htl ⊢
            simp only [List.length_append, List.length_cons, List.length_nil] at htl
            rw [List.map_append, List.map_cons, List.map_nil] at h49
            by_cases c5 : out.length ≤ 6
            · simp -implicitDefEqProofs (disch := omega) [wrap_of, ilt_t, ilt_f, ile_t, ile_f, nlt_t, nlt_f, nle_t, nle_f, ieq_t, ieq_f, imin_l, imin_r, imax_l, imax_r, take_app1, take_map_all, c5, a49, h49]
            · simp -implicitDefEqProofs (disch := omega) [wrap_of, ilt_t, ilt_f, ile_t, ile_f, nlt_t, nlt_f, nle_t, nle_f, ieq_t, ieq_f, imin_l, imin_r, imax_l, imax_r, take_app1, take_map_all, c5, E0]
          · rw [if_neg cf] at ht
            have cf' : (!is && !dn) = false := by cases is <;> cases dn <;> simp at cf ⊢
            rw [← ht] at h49 htl ⊢
            by_cases c5 : out.length = 0
            · cases is <;> cases dn <;> simp at cf' <;> simp -implicitDefEqProofs (disch := omega) [wrap_of, ilt_t, ilt_f, ile_t, ile_f, nlt_t, nlt_f, nle_t, nle_f, ieq_t, ieq_f, imin_l, imin_r, imax_l, imax_r, take_app1, take_map_all, c5, E0]
            · by_cases c6 : out.length ≤ 7
              · cases is <;> cases dn <;> simp at cf' <;> simp -implicitDefEqProofs (disch := omega) [wrap_of, ilt_t, ilt_f, ile_t, ile_f, nlt_t, nlt_f, nle_t, nle_f, ieq_t, ieq_f, imin_l, imin_r, imax_l, imax_r, take_app1, take_map_all, c5, c6, a49, h49]
              · cases is <;> cases dn <;> simp at cf' <;> simp -implicitDefEqProofs (disch := omega) [wrap_of, ilt_t, ilt_f, ile_t, ile_f, nlt_t, nlt_f, nle_t, nle_f, ieq_t, ieq_f, imin_l, imin_r, imax_l, imax_r, take_app1, take_map_all, c5, c6, E0]
        · simp -implicitDefEqProofs (disch := omega) [wrap_of, ilt_t, ilt_f, ile_t, ile_f, nlt_t, nlt_f, nle_t, nle_f, ieq_t, ieq_f, imin_l, imin_r, imax_l, imax_r, take_app1, take_map_all, c28, c1, c2, a13, h13, a24, h24, c3, c4, E0]
end Go.Proofs.Ytjblbmcgpdmahaa
