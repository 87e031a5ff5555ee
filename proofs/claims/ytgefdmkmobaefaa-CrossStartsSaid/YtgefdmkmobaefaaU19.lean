import Derived.Test.YtgefdmkmobaefaaT19
set_option linter.unusedSimpArgs false
set_option linter.unusedVariables false
namespace Go.Proofs.Ytgefdmkmobaefaa
open Go.Am Go.Am.Nm Go.Lib Go.Cr

theorem for_anyF {ι σ X Y : Type} {f : ι → X → Option (X ⊕ Y)} (P : ι → Prop) (emb : Nat → σ → X) (n : Nat) (J : Nat → σ → Prop) (Q : Y → Prop)
    (hstep : ∀ i, i < n → ∀ s, J i s → (∃ s', J (i + 1) s' ∧ ∀ e, P e → f e (emb i s) = some (.inl (emb (i + 1) s'))) ∨ ∃ y, Q y ∧ ∀ e, P e → f e (emb i s) = some (.inr y))
    (hend : ∀ s, J n s → ∃ y, Q y ∧ ∀ e, P e → f e (emb n s) = some (.inr y)) : ∀ k i s, n - i = k → i ≤ n → J i s → ∃ y, Q y ∧ ∀ e, P e → iter (f e) (emb i s) = some y
  | 0, i, s, hk, hi, h => by
    have : i = n := by omega
    subst this
    obtain ⟨y, q, e⟩ := hend s h
    exact ⟨y, q, fun ι hι => by rw [iter_eq, e ι hι]⟩
  | k + 1, i, s, hk, hi, h => by
    rcases hstep i (by omega) s h with ⟨s', h', e⟩ | ⟨y, q, e⟩
    · obtain ⟨y, q, e'⟩ := for_anyF P emb n J Q hstep hend k (i + 1) s' (by omega) (by omega) h'
      exact ⟨y, q, fun ι hι => by rw [iter_eq, e ι hι]; exact e' ι hι⟩
    · exact ⟨y, q, fun ι hι => by rw [iter_eq, e ι hι]⟩
theorem for_any {ι σ X Y : Type} {f : ι → X → Option (X ⊕ Y)} (P : ι → Prop) (emb : Nat → σ → X) (n : Nat) (J : Nat → σ → Prop) (Q : Y → Prop)
    (hstep : ∀ i, i < n → ∀ s, J i s → (∃ s', J (i + 1) s' ∧ ∀ e, P e → f e (emb i s) = some (.inl (emb (i + 1) s'))) ∨ ∃ y, Q y ∧ ∀ e, P e → f e (emb i s) = some (.inr y))
    (hend : ∀ s, J n s → ∃ y, Q y ∧ ∀ e, P e → f e (emb n s) = some (.inr y)) (s : σ) (h : J 0 s) : ∃ y, Q y ∧ ∀ e, P e → iter (f e) (emb 0 s) = some y :=
  for_anyF P emb n J Q hstep hend _ 0 s rfl (Nat.zero_le _) h
theorem l3a {Γ : Tab} (ds : List De) (f : Bool) (i : Nat) (hi : i < ds.length) (hl : ds.length ≤ 30) (hp : ds[i].pas.length ≤ 10) (b0 b1 : List AV) (h0 : b0.all AV.isS = true) (h1 : b1.all AV.isS = true) (e0 : Env) (q1 : e0 1 = .lst f (ds.map Dv)) (q5 : e0 5 = .bool true) (q8 : e0 8 = .int .i64 i) :
    iter (round Γ [9] [(.exit 2, []), (.ret, [4])] c3_1 e0 2 []) ([.int .i64 0], [.var b0, .var b1]) = some (if ds[i].pas.all (fun p => decide (p.length ≤ 400)) = true then (.exit 2, [], [.var b0, .var b1]) else (.ret, [.bool true], [.var b0, .var b1])) :=
  for_all (f := round Γ [9] [(.exit 2, []), (.ret, [4])] c3_1 e0 2 []) (fun k => ([.int .i64 (k : Int)], [.var b0, .var b1])) ds[i].pas (fun p => decide (p.length ≤ 400)) (.exit 2, [], [.var b0, .var b1]) (.ret, [.bool true], [.var b0, .var b1])
    (fun k hk => by
      have hpl := fun h' => normH_plain 2 h' [.var b0, .var b1] 0 (by simp only [plainB, List.all_cons, List.all_nil, h0, h1, Bool.and_self])
      simp only [normH, List.cons.injEq] at hpl
      obtain ⟨d, hd⟩ : ∃ d, d = ds[i] := ⟨_, rfl⟩
      rw [← hd] at hp
      obtain ⟨x, hx⟩ : ∃ x, x = ds[i].pas[k] := ⟨_, rfl⟩
      rw [← hx]
      have hk' : k < d.pas.length := by rw [hd]; exact hk
      have hx' : x = d.pas[k] := by simp only [hd]; exact hx
      by_cases c : x.length ≤ 400
      · have c' : ¬ 400 < x.length := by omega
        simp -implicitDefEqProofs (disch := omega) [wrap_of, ilt_t, ilt_f, ile_t, ile_f, nlt_t, nlt_f, nle_t, nle_f, ieq_t, ieq_f, imin_l, imin_r, imax_l, imax_r, take_app1, take_map_all, round_eq, b3_1, q1, q5, q8, hi, ← hd, Dv, hk', ← hx', c, c', hpl]
        done
      · have c' : 400 < x.length := by omega
        simp -implicitDefEqProofs (disch := omega) [wrap_of, ilt_t, ilt_f, ile_t, ile_f, nlt_t, nlt_f, nle_t, nle_f, ieq_t, ieq_f, imin_l, imin_r, imax_l, imax_r, take_app1, take_map_all, round_eq, b3_1, q1, q5, q8, hi, ← hd, Dv, hk', ← hx', c, c', hpl]
        done)
    (by
      obtain ⟨d, hd⟩ : ∃ d, d = ds[i] := ⟨_, rfl⟩
      rw [← hd]
      simp -implicitDefEqProofs (disch := omega) [wrap_of, ilt_t, ilt_f, ile_t, ile_f, nlt_t, nlt_f, nle_t, nle_f, ieq_t, ieq_f, imin_l, imin_r, imax_l, imax_r, take_app1, take_map_all, round_eq, b3_1, q1, q8, hi, ← hd, Dv])
theorem normF_plain (L : Nat) (h' : AH) (b0 b1 : List AV) (h0 : b0.all AV.isS = true) (h1 : b1.all AV.isS = true) : normH L [] h' 0 [.var b0, .var b1] = [.var b0, .var b1] := normH_plain L h' _ 0 (by simp only [plainB, List.all_cons, List.all_nil, h0, h1, Bool.and_self])
theorem startR_eq (b : Bo) (f : Bool) (grs : List Int) (g : Bool) (pas : List (List UInt8)) (c : Bo) (h : Bz b = Bz c) :
    Bz (startP isPth b grs pas).1 = Bz (startR c f grs g pas).1 ∧ (startP isPth b grs pas).2.1 = (startR c f grs g pas).2.1 ∧ (startP isPth b grs pas).2.2.1 = (startR c f grs g pas).2.2.1 ∧ (startP isPth b grs pas).2.2.2 = (startR c f grs g pas).2.2.2 ∧ mayP isPth b grs pas = mayP isPth c grs pas := by
  obtain ⟨bi, bn, bf, bc⟩ := b
  obtain ⟨ci, cn, cf, cc⟩ := c
  simp only [Bz, Bo.mk.injEq, true_and] at h
  obtain ⟨rfl, rfl, h⟩ := h
  have hl : bc.length = cc.length := by simpa using congrArg List.length h
  have hm : mayP isPth ⟨bi, bn, bf, bc⟩ grs pas = mayP isPth ⟨bi, bn, cf, cc⟩ grs pas := by unfold mayP; simp only [hl]
  unfold startP startR
  rw [hm]
  by_cases c1 : mayP isPth ⟨bi, bn, cf, cc⟩ grs pas = 0
  · simp only [if_pos c1]
    refine ⟨?_, trivial, trivial, trivial, trivial⟩
    simp [Bz, h, Cz, Dz]
  · simp only [if_neg c1]
    exact ⟨by simp [Bz, h], trivial, trivial, trivial, trivial⟩
theorem startP_inv {b : Bo} {grs : List Int} {pas : List (List UInt8)} : (startP isPth b grs pas).1.id = b.id ∧ (0 ≤ b.next → 0 ≤ (startP isPth b grs pas).1.next) ∧ (startP isPth b grs pas).1.cases.length ≤ b.cases.length + 1 ∧
    (grs.length ≤ 1000000 → pas.length ≤ 1000000 → (∀ c ∈ b.cases, OkC c) → ∀ c ∈ (startP isPth b grs pas).1.cases, OkC c) := by
  unfold startP
  by_cases c1 : mayP isPth b grs pas = 0
  · simp only [if_pos c1]
    refine ⟨trivial, fun h => by omega, by simp, fun h1 h2 h3 c hc => ?_⟩
    rcases List.mem_append.1 hc with hc | hc
    · exact h3 c hc
    · rw [List.mem_singleton.1 hc]
      exact ⟨h1, h2, Nat.zero_le _⟩
  · simp only [if_neg c1]
    exact ⟨trivial, fun h => h, by omega, fun _ _ h3 => h3⟩
theorem startP_msg {b : Bo} {grs : List Int} {pas : List (List UInt8)} (h : ∀ p ∈ pas, p.length ≤ 1000000) : ∀ m ∈ (startP isPth b grs pas).2.2.1, OkM m := by
  intro m hm
  unfold startP at hm
  by_cases c4 : mayP isPth b grs pas = 0
  · simp only [if_pos c4, List.mem_map] at hm
    obtain ⟨x, hx, rfl⟩ := hm
    exact ⟨by simp [prepP], h _ (List.of_mem_zip hx).2⟩
  · simp only [if_neg c4] at hm
    cases hm
def Bc (b : Bo) : List AV := [I b.id, I b.next, .lst b.fc (b.cases.map Cv)]
theorem l3b (ds : List De) (f : Bool) (hl : ds.length ≤ 30) (id : Nat) (hid : id < 8) :
    ∃ y : AX × List AV × AH, (∃ h, y = (.exit 0, [], h) ∨ y = (.ret, [.bool true], h)) ∧ ∀ e0 : Env, (e0 1 = .lst f (ds.map Dv) ∧ e0 5 = .bool true ∧ e0 6 = .ptr 0 0 0 0 ∧ e0 7 = .ptr 1 0 0 0) → iter (round (C19.tab 60) [8] [(.exit 0, []), (.ret, [4])] c3_2 e0 2 []) ([.int .i64 0], [.var [I id, I 0, .lst true []], .var [I id, I 0, .lst true []]]) = some y := by
  refine for_any (f := fun e0 => round (C19.tab 60) [8] [(.exit 0, []), (.ret, [4])] c3_2 e0 2 []) (fun e0 => e0 1 = .lst f (ds.map Dv) ∧ e0 5 = .bool true ∧ e0 6 = .ptr 0 0 0 0 ∧ e0 7 = .ptr 1 0 0 0) (fun i (s : Bo × Bo) => ([.int .i64 (i : Int)], [.var (Bc s.1), .var (Bc s.2)])) ds.length
    (fun i s => Bz s.1 = Bz s.2 ∧ s.1.id = id ∧ 0 ≤ s.1.next ∧ s.1.cases.length ≤ i ∧ ∀ c ∈ s.1.cases, OkC c) _ (fun i hi s hs => ?_) (fun s hs => ?_) (⟨id, 0, true, []⟩, ⟨id, 0, true, []⟩) ⟨rfl, rfl, Int.le_refl _, Nat.le_refl _, by simp⟩
  · obtain ⟨w1, w2, w3, w4, w5⟩ := hs
    obtain ⟨b, c⟩ := s
    simp only at w1 w2 w3 w4 w5
    obtain ⟨d, hd⟩ : ∃ d, d = ds[i] := ⟨_, rfl⟩
    by_cases c1 : d.grs.length ≤ 10
    · by_cases c2 : d.pas.length ≤ 10
      · have h3a := l3a (Γ := C19.tab 60) ds f i hi hl (by rw [← hd]; exact c2) (Bc b) (Bc c) rfl rfl
        rw [← hd] at h3a
        have hnp := fun h' => normF_plain 2 h' (Bc b) (Bc c) rfl rfl
        simp only [Bc] at h3a hnp
        have c1' : ¬ 10 < d.grs.length := by omega
        have c2' : ¬ 10 < d.pas.length := by omega
        by_cases c3 : d.pas.all (fun p => decide (p.length ≤ 400)) = true
        · rw [if_pos c3] at h3a
          refine .inl ?_
          have hbc : b.cases.length = c.cases.length := by
            simp only [Bz, Bo.mk.injEq] at w1
            simpa using congrArg List.length w1.2.2.2
          have hids : b.id = c.id ∧ b.next = c.next := by simp only [Bz, Bo.mk.injEq] at w1; exact ⟨w1.1, w1.2.1⟩
          have h12 := s12 (n := 60) (by decide) b d.grs d.pas d.fg d.fp (by omega) (by omega) (by omega) (by rw [w2]; omega) w3
          have hpl : ∀ p ∈ d.pas, p.length ≤ 1000000 := fun p hp => by
            have := List.all_eq_true.1 c3 p hp
            simp only [decide_eq_true_eq] at this
            omega
          have h13 := s13 (n := 60) (by decide) c d.grs d.pas d.fg d.fp (by omega) (by omega) (by omega) (by rw [← hids.1, w2]; omega) (by rw [← hids.2]; exact w3) hpl
          obtain ⟨e1, e2, e3, e4, e5⟩ := startR_eq b d.fg d.grs d.fp d.pas c w1
          obtain ⟨i1, i2, i3, i4⟩ := startP_inv (b := b) (grs := d.grs) (pas := d.pas)
          rw [← e2, ← e3, ← e4, ← e5] at h13
          have hmz : ∀ m ∈ (startP isPth b d.grs d.pas).2.2.1, OkM m := startP_msg fun p hp => by
            have := List.all_eq_true.1 c3 p hp
            simp only [decide_eq_true_eq] at this
            omega
          have hml : (startP isPth b d.grs d.pas).2.2.1.length ≤ 1000000 := by
            unfold startP
            by_cases c4 : mayP isPth b d.grs d.pas = 0
            · simp only [if_pos c4, List.length_map, List.length_zip]; omega
            · simp only [if_neg c4]; exact Nat.zero_le _
          obtain ⟨r, hr⟩ : ∃ r, r = startP isPth b d.grs d.pas := ⟨_, rfl⟩
          obtain ⟨t, ht⟩ : ∃ t, t = startR c d.fg d.grs d.fp d.pas := ⟨_, rfl⟩
          rw [← hr] at h12 e1 e2 e3 e4 i1 i2 i3 i4 hmz hml h13
          rw [← ht] at h13 e1 e2 e3 e4
          have h14 := s14 (n := 60) (by decide) r.1 t.1 e1 (by omega) (i4 (by omega) (by omega) w5)
          generalize decide (mayP isPth b d.grs d.pas ≠ 0) = fo at h12 h13
          have h15 := s15 (n := 60) (by decide) r.2.2.1 r.2.2.1 fo fo rfl hml hmz
          refine ⟨(r.1, t.1), ⟨e1, by rw [i1, w2], i2 w3, by simp only; omega, i4 (by omega) (by omega) w5⟩, fun e0 he => ?_⟩
          simp only [Bc, Bv] at h12 h13 h14 ⊢
          obtain ⟨q1, q5, q6, q7⟩ := he
          simp -implicitDefEqProofs (disch := omega) [wrap_of, ilt_t, ilt_f, ile_t, ile_f, nlt_t, nlt_f, nle_t, nle_f, ieq_t, ieq_f, imin_l, imin_r, imax_l, imax_r, take_app1, take_map_all, round_eq, b3_2, q1, q5, q6, q7, hi, ← hd, Dv, c1', c2']
          rw [h3a _ (by simp -implicitDefEqProofs (disch := omega) [wrap_of, ilt_t, ilt_f, ile_t, ile_f, nlt_t, nlt_f, nle_t, nle_f, ieq_t, ieq_f, imin_l, imin_r, imax_l, imax_r, take_app1, take_map_all, q1]) (by simp -implicitDefEqProofs (disch := omega) [wrap_of, ilt_t, ilt_f, ile_t, ile_f, nlt_t, nlt_f, nle_t, nle_f, ieq_t, ieq_f, imin_l, imin_r, imax_l, imax_r, take_app1, take_map_all, q5]) (by simp -implicitDefEqProofs (disch := omega) [wrap_of, ilt_t, ilt_f, ile_t, ile_f, nlt_t, nlt_f, nle_t, nle_f, ieq_t, ieq_f, imin_l, imin_r, imax_l, imax_r, take_app1, take_map_all, ])]
          simp -implicitDefEqProofs (disch := omega) [wrap_of, ilt_t, ilt_f, ile_t, ile_f, nlt_t, nlt_f, nle_t, nle_f, ieq_t, ieq_f, imin_l, imin_r, imax_l, imax_r, take_app1, take_map_all, q1, q6, q7, hi, ← hd, Dv, a12, h12, a13, h13, a14, h14, a15, h15]
          done
        · rw [if_neg c3] at h3a
          refine .inr ⟨(.ret, [.bool true], [.var (Bc b), .var (Bc c)]), ⟨_, .inr rfl⟩, fun e0 he => ?_⟩
          obtain ⟨q1, q5, q6, q7⟩ := he
          simp -implicitDefEqProofs (disch := omega) [wrap_of, ilt_t, ilt_f, ile_t, ile_f, nlt_t, nlt_f, nle_t, nle_f, ieq_t, ieq_f, imin_l, imin_r, imax_l, imax_r, take_app1, take_map_all, round_eq, b3_2, q1, q5, q6, q7, hi, ← hd, Dv, Bc, c1', c2', hnp]
          rw [h3a _ (by simp -implicitDefEqProofs (disch := omega) [wrap_of, ilt_t, ilt_f, ile_t, ile_f, nlt_t, nlt_f, nle_t, nle_f, ieq_t, ieq_f, imin_l, imin_r, imax_l, imax_r, take_app1, take_map_all, q1]) (by simp -implicitDefEqProofs (disch := omega) [wrap_of, ilt_t, ilt_f, ile_t, ile_f, nlt_t, nlt_f, nle_t, nle_f, ieq_t, ieq_f, imin_l, imin_r, imax_l, imax_r, take_app1, take_map_all, q5]) (by simp -implicitDefEqProofs (disch := omega) [wrap_of, ilt_t, ilt_f, ile_t, ile_f, nlt_t, nlt_f, nle_t, nle_f, ieq_t, ieq_f, imin_l, imin_r, imax_l, imax_r, take_app1, take_map_all, ])]
          simp -implicitDefEqProofs (disch := omega) [wrap_of, ilt_t, ilt_f, ile_t, ile_f, nlt_t, nlt_f, nle_t, nle_f, ieq_t, ieq_f, imin_l, imin_r, imax_l, imax_r, take_app1, take_map_all, ]
      · have c2' : 10 < d.pas.length := by omega
        have c1' : ¬ 10 < d.grs.length := by omega
        refine .inr ⟨(.ret, [.bool true], [.var (Bc b), .var (Bc c)]), ⟨_, .inr rfl⟩, fun e0 he => ?_⟩
        obtain ⟨q1, q5, q6, q7⟩ := he
        simp -implicitDefEqProofs (disch := omega) [wrap_of, ilt_t, ilt_f, ile_t, ile_f, nlt_t, nlt_f, nle_t, nle_f, ieq_t, ieq_f, imin_l, imin_r, imax_l, imax_r, take_app1, take_map_all, round_eq, b3_2, q1, q5, q6, q7, hi, ← hd, Dv, Bc, c1', c2']
    · have c1' : 10 < d.grs.length := by omega
      refine .inr ⟨(.ret, [.bool true], [.var (Bc b), .var (Bc c)]), ⟨_, .inr rfl⟩, fun e0 he => ?_⟩
      obtain ⟨q1, q5, q6, q7⟩ := he
      simp -implicitDefEqProofs (disch := omega) [wrap_of, ilt_t, ilt_f, ile_t, ile_f, nlt_t, nlt_f, nle_t, nle_f, ieq_t, ieq_f, imin_l, imin_r, imax_l, imax_r, take_app1, take_map_all, round_eq, b3_2, q1, q5, q6, q7, hi, ← hd, Dv, Bc, c1']
  · refine ⟨(.exit 0, [], [.var (Bc s.1), .var (Bc s.2)]), ⟨_, .inl rfl⟩, fun e0 he => ?_⟩
    obtain ⟨q1, q5, q6, q7⟩ := he
    simp -implicitDefEqProofs (disch := omega) [wrap_of, ilt_t, ilt_f, ile_t, ile_f, nlt_t, nlt_f, nle_t, nle_f, ieq_t, ieq_f, imin_l, imin_r, imax_l, imax_r, take_app1, take_map_all, round_eq, b3_2, q1]
/-- CrossStarts, from its arguments. -/
theorem lp3 {n : Nat} (hn : 60 < n) (k : Nat) (hk : k < 256) (f : Bool) (ds : List De) : (C19.tab n).p 3 [.int .u8 k, .lst f (ds.map Dv)] = some (.bool true) := by
  rw [p3 hn, runP_eq, runH_eq]
  have h10 := s10 (n := 60) (by decide)
  by_cases hl : ds.length ≤ 30
  · have hl' : ¬ 30 < ds.length := by omega
    have h11 := s11 (n := 60) (by decide) (((k % 8 : Nat) : Int))
    simp only [Bv, List.map_nil] at h11
    have e8 : ((k : Int).tmod 8) = ((k % 8 : Nat) : Int) := by rw [Int.tmod_eq_emod_of_nonneg (by omega)]; omega
    have hk8 : k % 8 < 8 := Nat.mod_lt _ (by decide)
    generalize k % 8 = id at h11 e8 hk8
    obtain ⟨y, ⟨hh, hy⟩, h⟩ := l3b ds f hl id hk8
    simp -implicitDefEqProofs (disch := omega) [wrap_of, ilt_t, ilt_f, ile_t, ile_f, nlt_t, nlt_f, nle_t, nle_f, ieq_t, ieq_f, imin_l, imin_r, imax_l, imax_r, take_app1, take_map_all, c3, a10, h10, a11, h11, hl', e8]
    rw [h _ ⟨by simp -implicitDefEqProofs (disch := omega) [wrap_of, ilt_t, ilt_f, ile_t, ile_f, nlt_t, nlt_f, nle_t, nle_f, ieq_t, ieq_f, imin_l, imin_r, imax_l, imax_r, take_app1, take_map_all, ], by simp -implicitDefEqProofs (disch := omega) [wrap_of, ilt_t, ilt_f, ile_t, ile_f, nlt_t, nlt_f, nle_t, nle_f, ieq_t, ieq_f, imin_l, imin_r, imax_l, imax_r, take_app1, take_map_all, ], by simp -implicitDefEqProofs (disch := omega) [wrap_of, ilt_t, ilt_f, ile_t, ile_f, nlt_t, nlt_f, nle_t, nle_f, ieq_t, ieq_f, imin_l, imin_r, imax_l, imax_r, take_app1, take_map_all, ], by simp -implicitDefEqProofs (disch := omega) [wrap_of, ilt_t, ilt_f, ile_t, ile_f, nlt_t, nlt_f, nle_t, nle_f, ieq_t, ieq_f, imin_l, imin_r, imax_l, imax_r, take_app1, take_map_all, ]⟩]
    rcases hy with rfl | rfl
    · simp -implicitDefEqProofs (disch := omega) [wrap_of, ilt_t, ilt_f, ile_t, ile_f, nlt_t, nlt_f, nle_t, nle_f, ieq_t, ieq_f, imin_l, imin_r, imax_l, imax_r, take_app1, take_map_all, ]
    · simp -implicitDefEqProofs (disch := omega) [wrap_of, ilt_t, ilt_f, ile_t, ile_f, nlt_t, nlt_f, nle_t, nle_f, ieq_t, ieq_f, imin_l, imin_r, imax_l, imax_r, take_app1, take_map_all, ]
  · have hl' : 30 < ds.length := by omega
    simp -implicitDefEqProofs (disch := omega) [wrap_of, ilt_t, ilt_f, ile_t, ile_f, nlt_t, nlt_f, nle_t, nle_f, ieq_t, ieq_f, imin_l, imin_r, imax_l, imax_r, take_app1, take_map_all, c3, a10, h10, hl']
end Go.Proofs.Ytgefdmkmobaefaa
