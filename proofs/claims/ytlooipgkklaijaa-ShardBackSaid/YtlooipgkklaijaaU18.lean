import Derived.Test.YtlooipgkklaijaaT18
set_option linter.unusedSimpArgs false
set_option linter.unusedVariables false
namespace Go.Proofs.Ytlooipgkklaijaa
open Go.Am Go.Am.Nm Go.Lib Go.Am.Sh

theorem lp4 (g : Nat) (hg : g < 256) (l : List Stp) (f : Bool) (hl : l.length ≤ 9223372036854775807) (s : Stp) (hs : s.pa.length ≤ 9223372036854775807) :
    runP (C18.tab 58) c4 [.int .u8 g, .lst f (l.map T), T s] = some (.bool true) := by
  rw [runP_eq, runH_eq]
  have h10 := s10 (n := 58) (by decide)
  have h11 := s11 (n := 58) (by decide) l hl f
  obtain ⟨kd, pa, gr⟩ := s
  simp only at hs
  cases hgr : great l with
  | true =>
    rw [hgr] at h11
    simp -implicitDefEqProofs (disch := omega) [wrap_of, ilt_t, ilt_f, ile_t, ile_f, nlt_t, nlt_f, nle_t, nle_f, ieq_t, ieq_f, imin_l, imin_r, imax_l, imax_r, take_app1, take_map_all, c4, a10, h10, a11, h11]
  | false =>
    rw [hgr] at h11
    by_cases hs1 : 1000 < pa.length
    · simp -implicitDefEqProofs (disch := omega) [wrap_of, ilt_t, ilt_f, ile_t, ile_f, nlt_t, nlt_f, nle_t, nle_f, ieq_t, ieq_f, imin_l, imin_r, imax_l, imax_r, take_app1, take_map_all, c4, a10, h10, a11, h11, hs1]
    · have h17 := s17 (n := 58) (by decide) g hg l hgr f
      obtain ⟨hr, hL⟩ := made_right (g := g) hgr
      generalize (List.foldl madeQ (true, newP ((g : Int) % 8)) l).1 = fl at h17
      generalize made g l = p at *
      have h18 := s18 (n := 58) (by decide) p hr fl ⟨kd, pa, gr⟩ (by simp only; omega)
      have hq := hr.step ⟨kd, pa, gr⟩
      have hsame := step_same (l := p) (s := ⟨kd, pa, gr⟩)
      have hple := hr.le
      have hqle := hq.le
      have h12 := s12 (n := 58) (by decide) p (by omega) fl
      rw [rightA_iff.2 hr] at h12
      simp only [T] at h18
      generalize stepP p ⟨kd, pa, gr⟩ = q at *
      obtain ⟨q, e⟩ := q
      simp only at hq hsame h18 hqle
      have h12' := fun h => s12 (n := 58) (by decide) q (by omega) h
      rw [rightA_iff.2 hq] at h12'
      by_cases he : e = 0
      · simp -implicitDefEqProofs (disch := omega) [wrap_of, ilt_t, ilt_f, ile_t, ile_f, nlt_t, nlt_f, nle_t, nle_f, ieq_t, ieq_f, imin_l, imin_r, imax_l, imax_r, take_app1, take_map_all, c4, a10, h10, a11, h11, hs1, a17, h17, a18, h18, a12, h12, h12', he]
      · have := hsame he
        subst this
        have h14 := fun h h' => s14 (n := 58) (by decide) q q h h' (by omega) (by omega)
        simp only [decide_true] at h14
        simp -implicitDefEqProofs (disch := omega) [wrap_of, ilt_t, ilt_f, ile_t, ile_f, nlt_t, nlt_f, nle_t, nle_f, ieq_t, ieq_f, imin_l, imin_r, imax_l, imax_r, take_app1, take_map_all, c4, a10, h10, a11, h11, hs1, a17, h17, a18, h18, a12, h12, h12', he, a14, h14]
theorem l3 {n : Nat} (l : List P) (hl : l.length ≤ 50) (f : Bool) (kd gr : Int) (pa : List UInt8) (e0 : Env) (h0 : e0 0 = .lst f (l.map D)) (h11 : e0 11 = .bool true) :
    iter (round (C18.tab n) [12] [(.exit 0, []), (.ret, [10])] c3_1 e0 1 []) ([.int .i64 0], [.var [.int .u8 kd, .str pa, .int .i64 gr]]) = some ((l.find? fun s => decide (1000 < s.pa.length)).elim (.exit 0, [], [.var [.int .u8 kd, .str pa, .int .i64 gr]]) fun _ => (.ret, [.bool true], [.var [.int .u8 kd, .str pa, .int .i64 gr]])) := by
  have := for_idx (f := round (C18.tab n) [12] [(.exit 0, []), (.ret, [10])] c3_1 e0 1 []) (fun i => ([.int .i64 (i : Int)], [.var [.int .u8 kd, .str pa, .int .i64 gr]])) l (fun s => decide (1000 < s.pa.length)) (fun _ _ => (.ret, [.bool true], [.var [.int .u8 kd, .str pa, .int .i64 gr]])) (.exit 0, [], [.var [.int .u8 kd, .str pa, .int .i64 gr]])
    (fun i hi => by
      obtain ⟨x, hx⟩ : ∃ x, x = l[i] := ⟨_, rfl⟩
      rw [← hx]
      by_cases hs : 1000 < x.pa.length
      · simp -implicitDefEqProofs (disch := omega) [wrap_of, ilt_t, ilt_f, ile_t, ile_f, nlt_t, nlt_f, nle_t, nle_f, ieq_t, ieq_f, imin_l, imin_r, imax_l, imax_r, take_app1, take_map_all, round_eq, b3_1, h0, h11, hi, ← hx, hs]
      · simp -implicitDefEqProofs (disch := omega) [wrap_of, ilt_t, ilt_f, ile_t, ile_f, nlt_t, nlt_f, nle_t, nle_f, ieq_t, ieq_f, imin_l, imin_r, imax_l, imax_r, take_app1, take_map_all, round_eq, b3_1, h0, hi, ← hx, hs])
    (by simp -implicitDefEqProofs (disch := omega) [wrap_of, ilt_t, ilt_f, ile_t, ile_f, nlt_t, nlt_f, nle_t, nle_f, ieq_t, ieq_f, imin_l, imin_r, imax_l, imax_r, take_app1, take_map_all, round_eq, b3_1, h0])
  rw [← this]; rfl
theorem facts3 (p : List P) (fl : Bool) (hr : RightP p) (hL : Lens 1000 p) (s : Stp) (hs : s.pa.length ≤ 1000) (path : List UInt8) (hp : path.length ≤ 1000) : ∃ (q : List P) (e : Int) (fb : Bool) (k : Nat) (c : Int) (b1 b2 : Bool) (w : List Nat),
    (C18.tab 57).p 18 [.lst fl (p.map D), T s] = some (.tup [.lst fb (q.map D), .int .i64 e]) ∧
    (C18.tab 57).p 19 [.lst fl (p.map D), T s] = some (.tup [.lst fb (q.map D), .int .i64 e]) ∧
    (C18.tab 57).p 14 [.lst fb (q.map D), .lst fb (q.map D)] = some (.bool true) ∧
    (C18.tab 57).p 20 [.lst fl (p.map D), .str path] = some (.tup [.int .i64 k, .int .i64 c]) ∧
    (C18.tab 57).p 21 [.lst fl (p.map D), .str path] = some (.tup [.int .i64 k, .int .i64 c]) ∧
    (C18.tab 57).p 23 [.lst fl (p.map D), .str path] = some (.lst b1 (w.map N)) ∧
    (C18.tab 57).p 24 [.lst fl (p.map D), .str path] = some (.lst b2 (w.map N)) ∧
    (C18.tab 57).p 22 [.lst b1 (w.map N), .lst b2 (w.map N)] = some (.bool true) := by
  have hple := hr.le
  have hqle := (hr.step s).le
  have hsh : Short p := ⟨by omega, fun q hq => by have := hL q hq; omega⟩
  have h20 := s20 (n := 57) (by decide) p (by omega) fl path (fun h => hr.abo_ne h)
  have h21 := s21 (n := 57) (by decide) p hsh fl path (by omega)
  have h23 := s23 (n := 57) (by decide) p (by omega) fl path
  obtain ⟨b2, h24⟩ := s24 (n := 57) (by decide) p hsh fl path (by omega)
  have hw := ix_len (fun q => abv path q.pa) p 0
  have h14 := s14 (n := 57) (by decide) (stepP p s).1 (stepP p s).1 (fl && !decide ((stepP p s).2 = 0)) (fl && !decide ((stepP p s).2 = 0)) (by omega) (by omega)
  rw [decide_eq_true rfl] at h14
  refine ⟨(stepP p s).1, (stepP p s).2, _, if isP path = true then ofI p path else 0, if isP path = true then 0 else 60, !isP path, b2, if isP path = true then bel p path else [], s18 (by decide) p hr fl s hs, s19 (by decide) p hr hL fl s hs, h14, ?_, ?_, ?_, ?_, ?_⟩
  · rw [h20]; cases isP path <;> rfl
  · rw [h21]
    cases hi : isP path with
    | false => rfl
    | true => rw [hr.refOf hi]; rfl
  · rw [h23]; cases isP path <;> rfl
  · rw [h24]; cases isP path <;> rfl
  · rw [s22 (n := 57) (by decide) _ _ _ _ (by cases isP path <;> simp [bel]; omega) (by cases isP path <;> simp [bel]; omega), decide_eq_true rfl]
theorem lp3 (raw : List P) (fr : Bool) (hraw : raw.length ≤ 9223372036854775807) (g : Nat) (hg : g < 256) (l : List Stp) (f : Bool) (hl : l.length ≤ 9223372036854775807) (s : Stp) (hs : s.pa.length ≤ 9223372036854775807) (path : List UInt8) (hp : path.length ≤ 9223372036854775807) :
    runP (C18.tab 57) c3 [.lst fr (raw.map D), .int .u8 g, .lst f (l.map T), T s, .str path] = some (.bool true) := by
  rw [runP_eq, runH_eq]
  have h10 := s10 (n := 57) (by decide)
  have h11 := s11 (n := 57) (by decide) l hl f
  obtain ⟨kd, pa, gr⟩ := s
  simp only at hs
  cases hgr : great l with
  | true =>
    rw [hgr] at h11
    simp -implicitDefEqProofs (disch := omega) [wrap_of, ilt_t, ilt_f, ile_t, ile_f, nlt_t, nlt_f, nle_t, nle_f, ieq_t, ieq_f, imin_l, imin_r, imax_l, imax_r, take_app1, take_map_all, c3, a10, h10, a11, h11]
  | false =>
    rw [hgr] at h11
    by_cases hr5 : 50 < raw.length
    · simp -implicitDefEqProofs (disch := omega) [wrap_of, ilt_t, ilt_f, ile_t, ile_f, nlt_t, nlt_f, nle_t, nle_f, ieq_t, ieq_f, imin_l, imin_r, imax_l, imax_r, take_app1, take_map_all, c3, a10, h10, a11, h11, hr5]
    · by_cases hs1 : 1000 < pa.length
      · simp -implicitDefEqProofs (disch := omega) [wrap_of, ilt_t, ilt_f, ile_t, ile_f, nlt_t, nlt_f, nle_t, nle_f, ieq_t, ieq_f, imin_l, imin_r, imax_l, imax_r, take_app1, take_map_all, c3, a10, h10, a11, h11, hr5, hs1]
      · by_cases hp1 : 1000 < path.length
        · simp -implicitDefEqProofs (disch := omega) [wrap_of, ilt_t, ilt_f, ile_t, ile_f, nlt_t, nlt_f, nle_t, nle_f, ieq_t, ieq_f, imin_l, imin_r, imax_l, imax_r, take_app1, take_map_all, c3, a10, h10, a11, h11, hr5, hs1, hp1]
        · have hl3 := fun e0 => l3 (n := 57) raw (by omega) fr kd gr pa e0
          cases hf : raw.find? fun s => decide (1000 < s.pa.length) with
          | some x =>
            rw [hf] at hl3
            simp -implicitDefEqProofs (disch := omega) [wrap_of, ilt_t, ilt_f, ile_t, ile_f, nlt_t, nlt_f, nle_t, nle_f, ieq_t, ieq_f, imin_l, imin_r, imax_l, imax_r, take_app1, take_map_all, c3, a10, h10, a11, h11, hr5, hs1, hp1]
            rw [hl3 _ (by simp -implicitDefEqProofs (disch := omega) [wrap_of, ilt_t, ilt_f, ile_t, ile_f, nlt_t, nlt_f, nle_t, nle_f, ieq_t, ieq_f, imin_l, imin_r, imax_l, imax_r, take_app1, take_map_all, ]) (by simp -implicitDefEqProofs (disch := omega) [wrap_of, ilt_t, ilt_f, ile_t, ile_f, nlt_t, nlt_f, nle_t, nle_f, ieq_t, ieq_f, imin_l, imin_r, imax_l, imax_r, take_app1, take_map_all, ])]
            simp -implicitDefEqProofs (disch := omega) [wrap_of, ilt_t, ilt_f, ile_t, ile_f, nlt_t, nlt_f, nle_t, nle_f, ieq_t, ieq_f, imin_l, imin_r, imax_l, imax_r, take_app1, take_map_all, ]
          | none =>
            rw [hf] at hl3
            have hLr : Lens 1000 raw := by
              rw [List.find?_eq_none] at hf
              exact fun p hp => by simpa using hf p hp
            have h12 := s12 (n := 57) (by decide) raw hraw fr
            have h13 := s13' (n := 57) (by decide) raw hraw (fun p hp => by have := hLr p hp; omega) fr
            have hAB := rightAB raw
            rw [hAB] at h12
            have ht : (g : Int).tmod 8 = (g : Int) % 8 := rfl
            have h15 := s15 (n := 57) (by decide)
            have h16 := s16 (n := 57) (by decide)
            have h14 := s14 (n := 57) (by decide) [⟨[47], (g : Int) % 8, 1⟩] [⟨[47], (g : Int) % 8, 1⟩] true true (by simp) (by simp)
            simp only [decide_true, List.map_cons, List.map_nil, D] at h14
            have h17 := s17 (n := 57) (by decide) g hg l hgr f
            have hmr := made_right (g := g) hgr
            generalize (List.foldl madeQ (true, newP ((g : Int) % 8)) l).1 = fl at h17
            generalize made g l = p at *
            simp only [T] at *
            cases hB : rightB raw with
            | false =>
              rw [hB] at h12 h13
              obtain ⟨q, e, fb, k, c, b1, b2, w, f1, f2, f3, f4, f5, f6, f7, f8⟩ := facts3 p fl hmr.1 hmr.2 ⟨kd, pa, gr⟩ (by simp only; omega) path (by omega)
              simp only [T] at f1 f2
              simp -implicitDefEqProofs (disch := omega) [wrap_of, ilt_t, ilt_f, ile_t, ile_f, nlt_t, nlt_f, nle_t, nle_f, ieq_t, ieq_f, imin_l, imin_r, imax_l, imax_r, take_app1, take_map_all, c3, a10, h10, a11, h11, hr5, hs1, hp1]
              rw [hl3 _ (by simp -implicitDefEqProofs (disch := omega) [wrap_of, ilt_t, ilt_f, ile_t, ile_f, nlt_t, nlt_f, nle_t, nle_f, ieq_t, ieq_f, imin_l, imin_r, imax_l, imax_r, take_app1, take_map_all, ]) (by simp -implicitDefEqProofs (disch := omega) [wrap_of, ilt_t, ilt_f, ile_t, ile_f, nlt_t, nlt_f, nle_t, nle_f, ieq_t, ieq_f, imin_l, imin_r, imax_l, imax_r, take_app1, take_map_all, ])]
              simp -implicitDefEqProofs (disch := omega) [wrap_of, ilt_t, ilt_f, ile_t, ile_f, nlt_t, nlt_f, nle_t, nle_f, ieq_t, ieq_f, imin_l, imin_r, imax_l, imax_r, take_app1, take_map_all, a12, h12, a13, h13, ht, a15, h15, a16, h16, a14, h14, a17, h17, a18, f1, a19, f2, f3, a20, f4, a21, f5, a23, f6, a24, f7, a22, f8]
            | true =>
              rw [hB] at h12 h13
              obtain ⟨q, e, fb, k, c, b1, b2, w, f1, f2, f3, f4, f5, f6, f7, f8⟩ := facts3 raw fr (rightB_iff.1 hB) hLr ⟨kd, pa, gr⟩ (by simp only; omega) path (by omega)
              simp only [T] at f1 f2
              simp -implicitDefEqProofs (disch := omega) [wrap_of, ilt_t, ilt_f, ile_t, ile_f, nlt_t, nlt_f, nle_t, nle_f, ieq_t, ieq_f, imin_l, imin_r, imax_l, imax_r, take_app1, take_map_all, c3, a10, h10, a11, h11, hr5, hs1, hp1]
              rw [hl3 _ (by simp -implicitDefEqProofs (disch := omega) [wrap_of, ilt_t, ilt_f, ile_t, ile_f, nlt_t, nlt_f, nle_t, nle_f, ieq_t, ieq_f, imin_l, imin_r, imax_l, imax_r, take_app1, take_map_all, ]) (by simp -implicitDefEqProofs (disch := omega) [wrap_of, ilt_t, ilt_f, ile_t, ile_f, nlt_t, nlt_f, nle_t, nle_f, ieq_t, ieq_f, imin_l, imin_r, imax_l, imax_r, take_app1, take_map_all, ])]
              simp -implicitDefEqProofs (disch := omega) [wrap_of, ilt_t, ilt_f, ile_t, ile_f, nlt_t, nlt_f, nle_t, nle_f, ieq_t, ieq_f, imin_l, imin_r, imax_l, imax_r, take_app1, take_map_all, a12, h12, a13, h13, ht, a15, h15, a16, h16, a14, h14, a17, h17, a18, f1, a19, f2, f3, a20, f4, a21, f5, a23, f6, a24, f7, a22, f8]
end Go.Proofs.Ytlooipgkklaijaa
