import Derived.Test.YtlooipgkklaijaaX18
set_option linter.unusedSimpArgs false
set_option linter.unusedVariables false
namespace Go.Proofs.Ytlooipgkklaijaa
open Go.Am Go.Am.Nm Go.Lib Go.Am.Sh

theorem for_thru {X Y : Type} {f : X → Option (X ⊕ Y)} (emb : Nat → X) (n : Nat) (fin : Y) (hstep : ∀ i, i < n → f (emb i) = some (.inl (emb (i + 1)))) (hend : f (emb n) = some (.inr fin)) : iter f (emb 0) = some fin := by
  have := for_list (f := f) (fun i (_ : Unit) => emb i) (List.range n) (fun s _ => s) (fun _ => fin) (fun _ _ => True)
    (fun i hi s _ => ⟨trivial, hstep i (by simpa using hi)⟩) (fun s _ => by rw [List.length_range]; exact hend) () trivial
  exact this
theorem l5 {n : Nat} (hn : 45 < n) (p : List P) (hr : RightP p) (hL : Lens 1000 p) (fl : Bool) (o : List UInt8) (ho : o.length ≤ 1000) (hio : isP o = true) (e0 : Env) (h8 : e0 8 = .lst fl (p.map D)) (h9 : e0 9 = .int .i64 (ofI p o)) (h2 : e0 2 = .str o) :
    iter (round (C18.tab n) [13] [(.exit 0, []), (.ret, [6])] c5_1 e0 0 []) ([.int .i64 0], []) = some (.exit 0, [], []) := by
  have hple := hr.le
  refine for_thru (f := round (C18.tab n) [13] [(.exit 0, []), (.ret, [6])] c5_1 e0 0 []) (fun i => ([.int .i64 (i : Int)], [])) p.length _ (fun i hi => ?_) (by simp -implicitDefEqProofs (disch := omega) [wrap_of, ilt_t, ilt_f, ile_t, ile_f, nlt_t, nlt_f, nle_t, nle_f, ieq_t, ieq_f, imin_l, imin_r, imax_l, imax_r, take_app1, take_map_all, round_eq, b5_1, h8])
  obtain ⟨a1, a2⟩ := ofI_abv hr hio
  have hpi : isP (pat p i) = true := by rw [pat_of hi]; exact hr.pa _ (List.getElem_mem hi)
  have h20 := s20 (n := n) (by omega) p (by omega) fl (pat p i) (fun h => hr.abo_ne h)
  rw [hpi, ofI_own hr hi] at h20
  simp only [if_true] at h20
  have e1 := hL _ (List.getElem_mem hi)
  have e2 := hL _ (List.getElem_mem a1)
  have hup := fun h => ofI_above hr hi (s := o) h
  rw [pat_of hi] at h20 hup
  rw [pat_of a1] at hup
  have h26 := s26 (n := n) (by omega) p[i].pa o (by omega) (by omega)
  have h26' := s26 (n := n) (by omega) p[i].pa p[ofI p o].pa (by omega) (by omega)
  generalize ofI p o = a at *
  obtain ⟨x, hx⟩ : ∃ x, x = p[i] := ⟨_, rfl⟩
  obtain ⟨y, hy⟩ : ∃ y, y = p[a] := ⟨_, rfl⟩
  rw [← hx] at h20 h26 h26' hup
  rw [← hy] at h26' hup
  cases hab : abv x.pa o with
  | false =>
    rw [hab] at h26
    simp -implicitDefEqProofs (disch := omega) [wrap_of, ilt_t, ilt_f, ile_t, ile_f, nlt_t, nlt_f, nle_t, nle_f, ieq_t, ieq_f, imin_l, imin_r, imax_l, imax_r, take_app1, take_map_all, round_eq, b5_1, h8, h9, h2, hi, ← hx, a20, h20, h26]
  | true =>
    rw [hab] at h26
    rw [hup hab] at h26'
    simp -implicitDefEqProofs (disch := omega) [wrap_of, ilt_t, ilt_f, ile_t, ile_f, nlt_t, nlt_f, nle_t, nle_f, ieq_t, ieq_f, imin_l, imin_r, imax_l, imax_r, take_app1, take_map_all, round_eq, b5_1, h8, h9, h2, hi, ← hx, a20, h20, h26, a1, ← hy, h26']
theorem lp5 (g : Nat) (hg : g < 256) (l : List Stp) (f : Bool) (hl : l.length ≤ 9223372036854775807) (o : List UInt8) (ho : o.length ≤ 9223372036854775807) :
    runP (C18.tab 59) c5 [.int .u8 g, .lst f (l.map T), .str o] = some (.bool true) := by
  rw [runP_eq, runH_eq]
  have h10 := s10 (n := 59) (by decide)
  have h11 := s11 (n := 59) (by decide) l hl f
  cases hgr : great l with
  | true =>
    rw [hgr] at h11
    simp -implicitDefEqProofs (disch := omega) [wrap_of, ilt_t, ilt_f, ile_t, ile_f, nlt_t, nlt_f, nle_t, nle_f, ieq_t, ieq_f, imin_l, imin_r, imax_l, imax_r, take_app1, take_map_all, c5, a10, h10, a11, h11]
  | false =>
    rw [hgr] at h11
    by_cases ho1 : 1000 < o.length
    · simp -implicitDefEqProofs (disch := omega) [wrap_of, ilt_t, ilt_f, ile_t, ile_f, nlt_t, nlt_f, nle_t, nle_f, ieq_t, ieq_f, imin_l, imin_r, imax_l, imax_r, take_app1, take_map_all, c5, a10, h10, a11, h11, ho1]
    · have h17 := s17 (n := 59) (by decide) g hg l hgr f
      obtain ⟨hr, hL⟩ := made_right (g := g) hgr
      generalize (List.foldl madeQ (true, newP ((g : Int) % 8)) l).1 = fl at h17
      generalize made g l = p at *
      have hple := hr.le
      have h20 := s20 (n := 59) (by decide) p (by omega) fl o (fun h => hr.abo_ne h)
      have h25 := s25 (n := 59) (by decide) o (by omega)
      have h23 := s23 (n := 59) (by decide) p (by omega) fl o
      unfold spV at h25
      have hiP : isP o = (split o).isSome := rfl
      cases hs : split o with
      | none =>
        rw [hs] at h25 hiP
        simp only [Option.isSome_none] at hiP
        rw [hiP] at h20 h23
        simp only [Bool.false_eq_true, if_false] at h20 h23
        simp -implicitDefEqProofs (disch := omega) [wrap_of, ilt_t, ilt_f, ile_t, ile_f, nlt_t, nlt_f, nle_t, nle_f, ieq_t, ieq_f, imin_l, imin_r, imax_l, imax_r, take_app1, take_map_all, c5, a10, h10, a11, h11, ho1, a17, h17, a20, h20, a25, h25, a23, h23]
      | some w =>
        rw [hs] at h25 hiP
        simp only [Option.isSome_some] at hiP
        rw [hiP] at h20
        simp only [if_true] at h20
        obtain ⟨a1, a2⟩ := ofI_abv hr hiP
        have e2 := hL _ (List.getElem_mem a1)
        have h26 := s26 (n := 59) (by decide) p[ofI p o].pa o (by omega) (by omega)
        have hl5 := fun e0 => l5 (n := 59) (by decide) p hr hL fl o (by omega) hiP e0
        rw [pat_of a1] at a2
        rw [a2] at h26
        generalize ofI p o = a at *
        obtain ⟨y, hy⟩ : ∃ y, y = p[a] := ⟨_, rfl⟩
        rw [← hy] at h26
        simp -implicitDefEqProofs (disch := omega) [wrap_of, ilt_t, ilt_f, ile_t, ile_f, nlt_t, nlt_f, nle_t, nle_f, ieq_t, ieq_f, imin_l, imin_r, imax_l, imax_r, take_app1, take_map_all, c5, a10, h10, a11, h11, ho1, a17, h17, a20, h20, a25, h25, a26, h26, a1, ← hy]
        rw [hl5 _ (by simp -implicitDefEqProofs (disch := omega) [wrap_of, ilt_t, ilt_f, ile_t, ile_f, nlt_t, nlt_f, nle_t, nle_f, ieq_t, ieq_f, imin_l, imin_r, imax_l, imax_r, take_app1, take_map_all, ]) (by simp -implicitDefEqProofs (disch := omega) [wrap_of, ilt_t, ilt_f, ile_t, ile_f, nlt_t, nlt_f, nle_t, nle_f, ieq_t, ieq_f, imin_l, imin_r, imax_l, imax_r, take_app1, take_map_all, ]) (by simp -implicitDefEqProofs (disch := omega) [wrap_of, ilt_t, ilt_f, ile_t, ile_f, nlt_t, nlt_f, nle_t, nle_f, ieq_t, ieq_f, imin_l, imin_r, imax_l, imax_r, take_app1, take_map_all, ])]
        simp -implicitDefEqProofs (disch := omega) [wrap_of, ilt_t, ilt_f, ile_t, ile_f, nlt_t, nlt_f, nle_t, nle_f, ieq_t, ieq_f, imin_l, imin_r, imax_l, imax_r, take_app1, take_map_all, ]
theorem l8 {n : Nat} (p r : List P) (fl fr : Bool) (hp : p.length ≤ 16) (h : ∀ i, i < p.length → ∃ x y, p[i]? = some x ∧ r[i]? = some y ∧ y.pa = x.pa ∧ y.gr = x.gr ∧ x.ep ≤ y.ep) (e0 : Env) (h12 : e0 12 = .lst fl (p.map D)) (h15 : e0 15 = .lst fr (r.map D)) :
    iter (round (C18.tab n) [17] [(.exit 0, []), (.ret, [10])] c8_1 e0 0 []) ([.int .i64 0], []) = some (.exit 0, [], []) := by
  refine for_thru (f := round (C18.tab n) [17] [(.exit 0, []), (.ret, [10])] c8_1 e0 0 []) (fun i => ([.int .i64 (i : Int)], [])) p.length _ (fun i hi => ?_) (by simp -implicitDefEqProofs (disch := omega) [wrap_of, ilt_t, ilt_f, ile_t, ile_f, nlt_t, nlt_f, nle_t, nle_f, ieq_t, ieq_f, imin_l, imin_r, imax_l, imax_r, take_app1, take_map_all, round_eq, b8_1, h12])
  obtain ⟨x, y, hx, hy, e1, e2, e3⟩ := h i hi
  obtain ⟨i1, ex⟩ := get_at hx
  obtain ⟨i2, ey⟩ := get_at hy
  simp -implicitDefEqProofs (disch := omega) [wrap_of, ilt_t, ilt_f, ile_t, ile_f, nlt_t, nlt_f, nle_t, nle_f, ieq_t, ieq_f, imin_l, imin_r, imax_l, imax_r, take_app1, take_map_all, round_eq, b8_1, h12, h15, i1, i2, ex, ey, e1, e2, e3, strBin]
theorem lp8 (g : Nat) (hg : g < 256) (l : List Stp) (f : Bool) (hl : l.length ≤ 9223372036854775807) (s : List UInt8) (hs : s.length ≤ 9223372036854775807) (t : Nat) (ht : t < 256) (o : List UInt8) (ho : o.length ≤ 9223372036854775807) :
    runP (C18.tab 62) c8 [.int .u8 g, .lst f (l.map T), .str s, .int .u8 t, .str o] = some (.bool true) := by
  rw [runP_eq, runH_eq]
  have h10 := s10 (n := 62) (by decide)
  have h11 := s11 (n := 62) (by decide) l hl f
  cases hgr : great l with
  | true =>
    rw [hgr] at h11
    simp -implicitDefEqProofs (disch := omega) [wrap_of, ilt_t, ilt_f, ile_t, ile_f, nlt_t, nlt_f, nle_t, nle_f, ieq_t, ieq_f, imin_l, imin_r, imax_l, imax_r, take_app1, take_map_all, c8, a10, h10, a11, h11]
  | false =>
    rw [hgr] at h11
    by_cases hs1 : 1000 < s.length
    · simp -implicitDefEqProofs (disch := omega) [wrap_of, ilt_t, ilt_f, ile_t, ile_f, nlt_t, nlt_f, nle_t, nle_f, ieq_t, ieq_f, imin_l, imin_r, imax_l, imax_r, take_app1, take_map_all, c8, a10, h10, a11, h11, hs1]
    · by_cases ho1 : 1000 < o.length
      · simp -implicitDefEqProofs (disch := omega) [wrap_of, ilt_t, ilt_f, ile_t, ile_f, nlt_t, nlt_f, nle_t, nle_f, ieq_t, ieq_f, imin_l, imin_r, imax_l, imax_r, take_app1, take_map_all, c8, a10, h10, a11, h11, hs1, ho1]
      · have h17 := s17 (n := 62) (by decide) g hg l hgr f
        obtain ⟨hr, hL⟩ := made_right (g := g) hgr
        generalize (List.foldl madeQ (true, newP ((g : Int) % 8)) l).1 = fl at h17
        generalize made g l = p at *
        have h27 := s27 (n := 62) (by decide) p hr fl s ((t : Int) % 8)
        have hq := hr.cut s ((t : Int) % 8)
        have hlaw := fun h1 => back_law hr (s := s) (g := (t : Int) % 8) h1
        have hple := hr.le
        have hqle := hq.le
        generalize cutP p s ((t : Int) % 8) = q at *
        obtain ⟨q, e⟩ := q
        simp only at hq hlaw h27 hqle
        by_cases he : e = 0
        · generalize (fl && !decide (e = 0)) = fq at h27
          subst he
          have h28 := s28 (n := 62) (by decide) q hq fq s (by omega)
          have hrr := hq.join s
          have hrle := hrr.le
          have hlaw := hlaw rfl
          generalize hfr : (fq && !decide ((joinP q s).2 = 0)) = fr at h28
          generalize joinP q s = r at *
          obtain ⟨r, e'⟩ := r
          simp only at hrr h28 hrle hlaw
          rcases hlaw with rfl | ⟨rfl, hpa, hi⟩
          · simp -implicitDefEqProofs (disch := omega) [wrap_of, ilt_t, ilt_f, ile_t, ile_f, nlt_t, nlt_f, nle_t, nle_f, ieq_t, ieq_f, imin_l, imin_r, imax_l, imax_r, take_app1, take_map_all, c8, a10, h10, a11, h11, hs1, ho1, a17, h17, tmod8, a27, h27, a28, h28]
          · have hlen := len_paths hpa
            have h20 := s20 (n := 62) (by decide) p (by omega) fl o (fun h => hr.abo_ne h)
            have h20' := s20 (n := 62) (by decide) r (by omega) fr o (fun h => hrr.abo_ne h)
            rw [ofI_paths hpa o] at h20'
            have hl8 := fun e0 => l8 (n := 62) p r fl fr (by omega) hi e0
            cases hio : isP o with
            | false =>
              rw [hio] at h20 h20'
              simp only [Bool.false_eq_true, if_false] at h20 h20'
              simp -implicitDefEqProofs (disch := omega) [wrap_of, ilt_t, ilt_f, ile_t, ile_f, nlt_t, nlt_f, nle_t, nle_f, ieq_t, ieq_f, imin_l, imin_r, imax_l, imax_r, take_app1, take_map_all, c8, a10, h10, a11, h11, hs1, ho1, a17, h17, tmod8, a27, h27, a28, h28, hlen]
              rw [hl8 _ (by simp -implicitDefEqProofs (disch := omega) [wrap_of, ilt_t, ilt_f, ile_t, ile_f, nlt_t, nlt_f, nle_t, nle_f, ieq_t, ieq_f, imin_l, imin_r, imax_l, imax_r, take_app1, take_map_all, ]) (by simp -implicitDefEqProofs (disch := omega) [wrap_of, ilt_t, ilt_f, ile_t, ile_f, nlt_t, nlt_f, nle_t, nle_f, ieq_t, ieq_f, imin_l, imin_r, imax_l, imax_r, take_app1, take_map_all, ])]
              simp -implicitDefEqProofs (disch := omega) [wrap_of, ilt_t, ilt_f, ile_t, ile_f, nlt_t, nlt_f, nle_t, nle_f, ieq_t, ieq_f, imin_l, imin_r, imax_l, imax_r, take_app1, take_map_all, a20, h20, h20']
            | true =>
              rw [hio] at h20 h20'
              simp only [if_true] at h20 h20'
              simp -implicitDefEqProofs (disch := omega) [wrap_of, ilt_t, ilt_f, ile_t, ile_f, nlt_t, nlt_f, nle_t, nle_f, ieq_t, ieq_f, imin_l, imin_r, imax_l, imax_r, take_app1, take_map_all, c8, a10, h10, a11, h11, hs1, ho1, a17, h17, tmod8, a27, h27, a28, h28, hlen]
              rw [hl8 _ (by simp -implicitDefEqProofs (disch := omega) [wrap_of, ilt_t, ilt_f, ile_t, ile_f, nlt_t, nlt_f, nle_t, nle_f, ieq_t, ieq_f, imin_l, imin_r, imax_l, imax_r, take_app1, take_map_all, ]) (by simp -implicitDefEqProofs (disch := omega) [wrap_of, ilt_t, ilt_f, ile_t, ile_f, nlt_t, nlt_f, nle_t, nle_f, ieq_t, ieq_f, imin_l, imin_r, imax_l, imax_r, take_app1, take_map_all, ])]
              simp -implicitDefEqProofs (disch := omega) [wrap_of, ilt_t, ilt_f, ile_t, ile_f, nlt_t, nlt_f, nle_t, nle_f, ieq_t, ieq_f, imin_l, imin_r, imax_l, imax_r, take_app1, take_map_all, a20, h20, h20']
        · simp -implicitDefEqProofs (disch := omega) [wrap_of, ilt_t, ilt_f, ile_t, ile_f, nlt_t, nlt_f, nle_t, nle_f, ieq_t, ieq_f, imin_l, imin_r, imax_l, imax_r, take_app1, take_map_all, c8, a10, h10, a11, h11, hs1, ho1, a17, h17, tmod8, a27, h27, he]
theorem l9 {n : Nat} (hn : 45 < n) (p : List P) (hr : RightP p) (hL : Lens 1000 p) (fl fb : Bool) (s : List UInt8) (hs : s.length ≤ 1000) (a : Nat) (is : Bool) (e0 : Env) (h10 : e0 10 = .lst fl (p.map D)) (h13 : e0 13 = .lst fb ((bel p s).map N)) (h2 : e0 2 = .str s) (h16 : e0 16 = .int .i64 a) :
    iter (round (C18.tab n) [18, 19] [(.exit 0, [18]), (.ret, [8])] c9_1 e0 0 []) ([.bool is, .int .i64 0], []) = some (.exit 0, [.bool ((bel p s).foldl (fun b i => b || decide (i = a)) is)], []) := by
  have hple := hr.le
  have hbl := ix_len (fun q => abv s q.pa) p 0
  have hsor := ix_sorted (fun q => abv s q.pa) p 0
  have hmem := fun i hi => bel_mem (p := p) (s := s) (i := i) hi
  unfold bel at hmem h13 ⊢
  generalize ix (fun q => abv s q.pa) p 0 = w at *
  have h := for_list (f := round (C18.tab n) [18, 19] [(.exit 0, [18]), (.ret, [8])] c9_1 e0 0 []) (fun i (b : Bool) => ([.bool b, .int .i64 (i : Int)], [])) w (fun b i => b || decide (i = a)) (fun b => (.exit 0, [.bool b], [])) (fun _ _ => True)
    (fun i hi b _ => by
      refine ⟨trivial, ?_⟩
      obtain ⟨m1, m2⟩ := hmem _ (List.getElem_mem hi)
      have e1 := hL _ (List.getElem_mem m1)
      have h26 := s26 (n := n) (by omega) s p[w[i]].pa (by omega) (by omega)
      rw [pat_of m1] at m2
      rw [m2] at h26
      obtain ⟨k, hk⟩ : ∃ k, k = w[i] := ⟨_, rfl⟩
      simp only [← hk] at m1 h26 ⊢
      obtain ⟨y, hy⟩ : ∃ y, y = p[k] := ⟨_, rfl⟩
      rw [← hy] at h26
      cases b with
      | true =>
        by_cases hi0 : 0 < i
        · obtain ⟨j, rfl⟩ : ∃ j, i = j + 1 := ⟨i - 1, by omega⟩
          have hj : j < w.length := by omega
          obtain ⟨k', hk'⟩ : ∃ k', k' = w[j] := ⟨_, rfl⟩
          have hlt : k' < k := by rw [hk, hk']; exact List.pairwise_iff_getElem.1 hsor j (j + 1) hj hi (by omega)
          have ej : ((j + 1 : Nat) : Int) - 1 = (j : Int) := by omega
          simp -implicitDefEqProofs (disch := omega) [wrap_of, ilt_t, ilt_f, ile_t, ile_f, nlt_t, nlt_f, nle_t, nle_f, ieq_t, ieq_f, imin_l, imin_r, imax_l, imax_r, take_app1, take_map_all, round_eq, b9_1, h10, h13, h2, h16, hi, hj, ← hk, ← hk', m1, ← hy, h26, ej, hlt]
        · obtain rfl : i = 0 := by omega
          simp -implicitDefEqProofs (disch := omega) [wrap_of, ilt_t, ilt_f, ile_t, ile_f, nlt_t, nlt_f, nle_t, nle_f, ieq_t, ieq_f, imin_l, imin_r, imax_l, imax_r, take_app1, take_map_all, round_eq, b9_1, h10, h13, h2, h16, hi, ← hk, m1, ← hy, h26]
      | false =>
        by_cases hi0 : 0 < i
        · obtain ⟨j, rfl⟩ : ∃ j, i = j + 1 := ⟨i - 1, by omega⟩
          have hj : j < w.length := by omega
          obtain ⟨k', hk'⟩ : ∃ k', k' = w[j] := ⟨_, rfl⟩
          have hlt : k' < k := by rw [hk, hk']; exact List.pairwise_iff_getElem.1 hsor j (j + 1) hj hi (by omega)
          have ej : ((j + 1 : Nat) : Int) - 1 = (j : Int) := by omega
          simp -implicitDefEqProofs (disch := omega) [wrap_of, ilt_t, ilt_f, ile_t, ile_f, nlt_t, nlt_f, nle_t, nle_f, ieq_t, ieq_f, imin_l, imin_r, imax_l, imax_r, take_app1, take_map_all, round_eq, b9_1, Int.natCast_inj, h10, h13, h2, h16, hi, hj, ← hk, ← hk', m1, ← hy, h26, ej, hlt]
        · obtain rfl : i = 0 := by omega
          simp -implicitDefEqProofs (disch := omega) [wrap_of, ilt_t, ilt_f, ile_t, ile_f, nlt_t, nlt_f, nle_t, nle_f, ieq_t, ieq_f, imin_l, imin_r, imax_l, imax_r, take_app1, take_map_all, round_eq, b9_1, Int.natCast_inj, h10, h13, h2, h16, hi, ← hk, m1, ← hy, h26])
    (fun b _ => by simp -implicitDefEqProofs (disch := omega) [wrap_of, ilt_t, ilt_f, ile_t, ile_f, nlt_t, nlt_f, nle_t, nle_f, ieq_t, ieq_f, imin_l, imin_r, imax_l, imax_r, take_app1, take_map_all, round_eq, b9_1, h13]) is trivial
  simp only [Int.natCast_zero] at h
  exact h
theorem fold_or (a : Nat) : ∀ (w : List Nat) (is : Bool), (is = true ∨ a ∈ w) → w.foldl (fun b i => b || decide (i = a)) is = true
  | [], is, h => by simpa using h
  | x :: w, is, h => by
    rw [List.foldl_cons]
    refine fold_or a w _ ?_
    rcases h with rfl | h
    · left; rfl
    · rcases List.mem_cons.1 h with rfl | h
      · left; simp
      · right; exact h
theorem lp9 (g : Nat) (hg : g < 256) (l : List Stp) (f : Bool) (hl : l.length ≤ 9223372036854775807) (s : List UInt8) (hs : s.length ≤ 9223372036854775807) (o : List UInt8) (ho : o.length ≤ 9223372036854775807) :
    runP (C18.tab 63) c9 [.int .u8 g, .lst f (l.map T), .str s, .str o] = some (.bool true) := by
  rw [runP_eq, runH_eq]
  have h10 := s10 (n := 63) (by decide)
  have h11 := s11 (n := 63) (by decide) l hl f
  cases hgr : great l with
  | true =>
    rw [hgr] at h11
    simp -implicitDefEqProofs (disch := omega) [wrap_of, ilt_t, ilt_f, ile_t, ile_f, nlt_t, nlt_f, nle_t, nle_f, ieq_t, ieq_f, imin_l, imin_r, imax_l, imax_r, take_app1, take_map_all, c9, a10, h10, a11, h11]
  | false =>
    rw [hgr] at h11
    by_cases hs1 : 1000 < s.length
    · simp -implicitDefEqProofs (disch := omega) [wrap_of, ilt_t, ilt_f, ile_t, ile_f, nlt_t, nlt_f, nle_t, nle_f, ieq_t, ieq_f, imin_l, imin_r, imax_l, imax_r, take_app1, take_map_all, c9, a10, h10, a11, h11, hs1]
    · by_cases ho1 : 1000 < o.length
      · simp -implicitDefEqProofs (disch := omega) [wrap_of, ilt_t, ilt_f, ile_t, ile_f, nlt_t, nlt_f, nle_t, nle_f, ieq_t, ieq_f, imin_l, imin_r, imax_l, imax_r, take_app1, take_map_all, c9, a10, h10, a11, h11, hs1, ho1]
      · have h17 := s17 (n := 63) (by decide) g hg l hgr f
        obtain ⟨hr, hL⟩ := made_right (g := g) hgr
        generalize (List.foldl madeQ (true, newP ((g : Int) % 8)) l).1 = fl at h17
        generalize made g l = p at *
        have hple := hr.le
        have h20 := s20 (n := 63) (by decide) p (by omega) fl o (fun h => hr.abo_ne h)
        have h20s := s20 (n := 63) (by decide) p (by omega) fl s (fun h => hr.abo_ne h)
        have h25 := s25 (n := 63) (by decide) o (by omega)
        have h23 := s23 (n := 63) (by decide) p (by omega) fl s
        have h26 := s26 (n := 63) (by decide) s o (by omega) (by omega)
        unfold spV at h25
        have hiP : isP o = (split o).isSome := rfl
        cases his : isP s with
        | false =>
          rw [his] at h20s h23
          simp only [Bool.false_eq_true, if_false] at h20s h23
          cases hso : split o with
          | none =>
            rw [hso] at h25
            simp -implicitDefEqProofs (disch := omega) [wrap_of, ilt_t, ilt_f, ile_t, ile_f, nlt_t, nlt_f, nle_t, nle_f, ieq_t, ieq_f, imin_l, imin_r, imax_l, imax_r, take_app1, take_map_all, c9, a10, h10, a11, h11, hs1, ho1, a17, h17, a20, h20s, a25, h25, a23, h23]
          | some w =>
            rw [hso] at h25
            simp -implicitDefEqProofs (disch := omega) [wrap_of, ilt_t, ilt_f, ile_t, ile_f, nlt_t, nlt_f, nle_t, nle_f, ieq_t, ieq_f, imin_l, imin_r, imax_l, imax_r, take_app1, take_map_all, c9, a10, h10, a11, h11, hs1, ho1, a17, h17, a20, h20s, a25, h25, a23, h23]
        | true =>
          rw [his] at h20s h23
          simp only [if_true] at h20s h23
          cases hso : split o with
          | none =>
            rw [hso] at h25
            simp -implicitDefEqProofs (disch := omega) [wrap_of, ilt_t, ilt_f, ile_t, ile_f, nlt_t, nlt_f, nle_t, nle_f, ieq_t, ieq_f, imin_l, imin_r, imax_l, imax_r, take_app1, take_map_all, c9, a10, h10, a11, h11, hs1, ho1, a17, h17, a20, h20s, a25, h25, a23, h23]
          | some w =>
            rw [hso] at h25 hiP
            simp only [Option.isSome_some] at hiP
            rw [hiP] at h20
            simp only [if_true] at h20
            cases hab : abv s o with
            | false =>
              rw [hab] at h26
              simp -implicitDefEqProofs (disch := omega) [wrap_of, ilt_t, ilt_f, ile_t, ile_f, nlt_t, nlt_f, nle_t, nle_f, ieq_t, ieq_f, imin_l, imin_r, imax_l, imax_r, take_app1, take_map_all, c9, a10, h10, a11, h11, hs1, ho1, a17, h17, a20, h20s, a25, h25, a23, h23, a26, h26]
            | true =>
              rw [hab] at h26
              have hl9 := fun is e0 => l9 (n := 63) (by decide) p hr hL fl false s (by omega) (ofI p o) is e0
              have hfo := fold_or (ofI p o) (bel p s) (decide ((ofI p o : Int) = (ofI p s : Int))) (by
                rcases below_law hr hab with h | h
                · left; rw [h]; exact decide_eq_true rfl
                · right; exact h)
              simp only [Bool.not_true] at h23
              simp -implicitDefEqProofs (disch := omega) [wrap_of, ilt_t, ilt_f, ile_t, ile_f, nlt_t, nlt_f, nle_t, nle_f, ieq_t, ieq_f, imin_l, imin_r, imax_l, imax_r, take_app1, take_map_all, c9, a10, h10, a11, h11, hs1, ho1, a17, h17, a20, h20s, a25, h25, a23, h23, a26, h26, h20]
              rw [hl9 _ _ (by simp -implicitDefEqProofs (disch := omega) [wrap_of, ilt_t, ilt_f, ile_t, ile_f, nlt_t, nlt_f, nle_t, nle_f, ieq_t, ieq_f, imin_l, imin_r, imax_l, imax_r, take_app1, take_map_all, ]) (by simp -implicitDefEqProofs (disch := omega) [wrap_of, ilt_t, ilt_f, ile_t, ile_f, nlt_t, nlt_f, nle_t, nle_f, ieq_t, ieq_f, imin_l, imin_r, imax_l, imax_r, take_app1, take_map_all, ]) (by simp -implicitDefEqProofs (disch := omega) [wrap_of, ilt_t, ilt_f, ile_t, ile_f, nlt_t, nlt_f, nle_t, nle_f, ieq_t, ieq_f, imin_l, imin_r, imax_l, imax_r, take_app1, take_map_all, ]) (by simp -implicitDefEqProofs (disch := omega) [wrap_of, ilt_t, ilt_f, ile_t, ile_f, nlt_t, nlt_f, nle_t, nle_f, ieq_t, ieq_f, imin_l, imin_r, imax_l, imax_r, take_app1, take_map_all, ])]
              simp -implicitDefEqProofs (disch := omega) [wrap_of, ilt_t, ilt_f, ile_t, ile_f, nlt_t, nlt_f, nle_t, nle_f, ieq_t, ieq_f, imin_l, imin_r, imax_l, imax_r, take_app1, take_map_all, hfo]
end Go.Proofs.Ytlooipgkklaijaa
