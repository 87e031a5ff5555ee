import Derived.Test.YtjblbmcgpdmahaaR16
set_option linter.unusedSimpArgs false
set_option linter.unusedVariables false
namespace Go.Proofs.Ytjblbmcgpdmahaa
open Go.Am

theorem l5 {Γ : Tab} (l : List Int) (hl : l.length ≤ 7) (f : Bool) (w : Nat) (hw : w < 256) (e0 : Env) (h8 : e0 8 = .lst f (l.map I)) (h2 : e0 2 = .int .u8 (w : Int)) :
    iter (round Γ [12, 13] [(.exit 0, [12])] c5_1 e0 1 [0]) ([.own 0 0 0 0, .int .i64 0], [.row 0 1 []]) = some (.exit 0, [.own 0 0 0 (l.filter fun y => decide (y ≠ ((w % 12 : Nat) : Int))).length], [.row 0 1 ((l.filter fun y => decide (y ≠ ((w % 12 : Nat) : Int))).map I)]) := by
  have := for_list (f := round Γ [12, 13] [(.exit 0, [12])] c5_1 e0 1 [0]) (fun i (a : List Int) => ([.own 0 0 0 a.length, .int .i64 (i : Int)], [.row 0 1 (a.map I)])) l (fun a y => if y ≠ ((w % 12 : Nat) : Int) then a ++ [y] else a) (fun a => (.exit 0, [.own 0 0 0 a.length], [.row 0 1 (a.map I)])) (fun i a => a.length ≤ i)
    (fun i hi a ha => by
      obtain ⟨x, hx⟩ : ∃ x, x = l[i] := ⟨_, rfl⟩
      rw [← hx]
      have e1 : ((w : Int).tmod 12) = ((w % 12 : Nat) : Int) := by rw [Int.tmod_eq_emod_of_nonneg (by omega)]; omega
      have e2 : IntKind.i64.wrap (w : Int) = (w : Int) := wrap_of (by omega) (by omega)
      have e3 : IntKind.i64.wrap ((w % 12 : Nat) : Int) = ((w % 12 : Nat) : Int) := wrap_of (by omega) (by omega)
      generalize ((w % 12 : Nat) : Int) = c at *
      by_cases h : x = c
      · rw [if_neg (by simpa using h)]
        refine ⟨by omega, ?_⟩
        simp -implicitDefEqProofs (disch := omega) [wrap_of, ilt_t, ilt_f, ile_t, ile_f, nlt_t, nlt_f, nle_t, nle_f, ieq_t, ieq_f, imin_l, imin_r, imax_l, imax_r, take_app1, take_map_all, round_eq, b5_1, h8, h2, hi, ← hx, e1, e2, e3, h]
      · rw [if_pos h]
        refine ⟨by simp; omega, ?_⟩
        simp -implicitDefEqProofs (disch := omega) [wrap_of, ilt_t, ilt_f, ile_t, ile_f, nlt_t, nlt_f, nle_t, nle_f, ieq_t, ieq_f, imin_l, imin_r, imax_l, imax_r, take_app1, take_map_all, round_eq, b5_1, h8, h2, hi, ← hx, e1, e2, e3, h])
    (fun a ha => by simp -implicitDefEqProofs (disch := omega) [wrap_of, ilt_t, ilt_f, ile_t, ile_f, nlt_t, nlt_f, nle_t, nle_f, ieq_t, ieq_f, imin_l, imin_r, imax_l, imax_r, take_app1, take_map_all, round_eq, b5_1, h8]) [] (by simp)
  have e : ∀ (l a : List Int), l.foldl (fun a y => if y ≠ ((w % 12 : Nat) : Int) then a ++ [y] else a) a = a ++ l.filter fun y => decide (y ≠ ((w % 12 : Nat) : Int)) := by
    intro l
    induction l with
    | nil => intro a; simp
    | cons y l ih =>
      intro a
      rw [List.foldl_cons, ih, List.filter_cons]
      by_cases h : y = ((w % 12 : Nat) : Int)
      · rw [if_neg (by simpa using h), if_neg (by simpa using h)]
      · rw [if_pos h, if_pos (by simpa using h)]
        simp
  rw [e, List.nil_append] at this
  simpa using this
/-- MemberMeet -/
theorem lp5 (ra rb : List UInt8) (f g : Bool) (ha : ra.length ≤ 9223372036854775807) (hb : rb.length ≤ 9223372036854775807) (w : Nat) (hw : w < 256) :
    runP (C16.tab 56) c5 [.lst f (ra.map B), .lst g (rb.map B), .int .u8 (w : Int)] = some (.bool true) := by
  rw [runP_eq, runH_eq]
  have h9 := s9 (n := 56) (by decide)
  by_cases c1 : 30 < ra.length
  · simp -implicitDefEqProofs (disch := omega) [wrap_of, ilt_t, ilt_f, ile_t, ile_f, nlt_t, nlt_f, nle_t, nle_f, ieq_t, ieq_f, imin_l, imin_r, imax_l, imax_r, take_app1, take_map_all, c5, a9, h9, c1]
  · by_cases c2 : 30 < rb.length
    · simp -implicitDefEqProofs (disch := omega) [wrap_of, ilt_t, ilt_f, ile_t, ile_f, nlt_t, nlt_f, nle_t, nle_f, ieq_t, ieq_f, imin_l, imin_r, imax_l, imax_r, take_app1, take_map_all, c5, a9, h9, c1, c2]
    · have g33 := s33 (n := 56) (by decide) ra (by omega) f
      have g33' := s33 (n := 56) (by decide) rb (by omega) g
      obtain ⟨_, _, _, _, hp7⟩ := seats_bel ra
      obtain ⟨_, _, _, _, hq7⟩ := seats_bel rb
      have hpr := seats_right ra
      have hqr := seats_right rb
      generalize seatsF ra = p at *
      generalize seatsF rb = q at *
      have g30 := s30 (n := 56) (by decide) p (by omega) false
      have g30' := s30 (n := 56) (by decide) q (by omega) false
      cases r1 : right p with
      | false =>
        have hp0 : p = [] := hpr.resolve_right (by rw [r1]; simp)
        rw [r1] at g30
        subst hp0
        simp only [List.map_nil] at g30 g33
        cases r2 : right q with
        | false =>
          have hq0 : q = [] := hqr.resolve_right (by rw [r2]; simp)
          rw [r2] at g30'
          subst hq0
          simp only [List.map_nil] at g30' g33'
          simp -implicitDefEqProofs (disch := omega) [wrap_of, ilt_t, ilt_f, ile_t, ile_f, nlt_t, nlt_f, nle_t, nle_f, ieq_t, ieq_f, imin_l, imin_r, imax_l, imax_r, take_app1, take_map_all, c5, a9, h9, c1, c2, a33, g33, g33', a30, g30, g30']
        | true =>
          rw [r2] at g30'
          by_cases hq0 : q.length = 0
          · simp -implicitDefEqProofs (disch := omega) [wrap_of, ilt_t, ilt_f, ile_t, ile_f, nlt_t, nlt_f, nle_t, nle_f, ieq_t, ieq_f, imin_l, imin_r, imax_l, imax_r, take_app1, take_map_all, c5, a9, h9, c1, c2, a33, g33, g33', a30, g30, g30', hq0]
          · simp -implicitDefEqProofs (disch := omega) [wrap_of, ilt_t, ilt_f, ile_t, ile_f, nlt_t, nlt_f, nle_t, nle_f, ieq_t, ieq_f, imin_l, imin_r, imax_l, imax_r, take_app1, take_map_all, c5, a9, h9, c1, c2, a33, g33, g33', a30, g30, g30', hq0]
      | true =>
        rw [r1] at g30
        obtain ⟨⟨hpu, _⟩, hp1, _⟩ := right_iff.1 r1
        have hpn := up_nodup hpu
        have hp0 : ¬ p.length = 0 := by omega
        cases r2 : right q with
        | false =>
          have hq0 : q = [] := hqr.resolve_right (by rw [r2]; simp)
          rw [r2] at g30'
          subst hq0
          simp only [List.map_nil] at g30' g33'
          simp -implicitDefEqProofs (disch := omega) [wrap_of, ilt_t, ilt_f, ile_t, ile_f, nlt_t, nlt_f, nle_t, nle_f, ieq_t, ieq_f, imin_l, imin_r, imax_l, imax_r, take_app1, take_map_all, c5, a9, h9, c1, c2, a33, g33, g33', a30, g30, g30', hp0]
        | true =>
          rw [r2] at g30'
          obtain ⟨⟨hqu, _⟩, hq1, _⟩ := right_iff.1 r2
          have hqn := up_nodup hqu
          have g31 := s31 (n := 56) (by decide) p q (by omega) (by omega) false false
          have g31' := s31 (n := 56) (by decide) q p (by omega) (by omega) false false
          have g31'' := s31 (n := 56) (by decide) p p (by omega) (by omega) false false
          have g34 := s34 (n := 56) (by decide) p q (by omega) (by omega) false false
          rw [← meet_all hpn hqn hp7 hq7] at g34
          rw [meet_comm hqn hpn] at g31'
          rw [meet_self hp1] at g31''
          have hl5 := l5 (Γ := C16.tab 56) p hp7 false w hw
          obtain ⟨s, hs⟩ : ∃ s, s = p.filter fun y => decide (y ≠ ((w % 12 : Nat) : Int)) := ⟨_, rfl⟩
          have hsl : s.length ≤ 7 := by rw [hs]; have := List.length_filter_le (fun y => decide (y ≠ ((w % 12 : Nat) : Int))) p; omega
          have hm := meet_less hpn ((w % 12 : Nat) : Int)
          have hsn : s.Nodup := by rw [hs]; exact hpn.sublist List.filter_sublist
          rw [← hs] at hl5 hm
          have g31s := s31 (n := 56) (by decide) p s (by omega) (by omega) false false
          have g31t := s31 (n := 56) (by decide) s p (by omega) (by omega) false false
          rw [meet_comm hsn hpn] at g31t
          generalize meetA p q = mq at *
          cases mq with
          | true =>
            simp -implicitDefEqProofs (disch := omega) [wrap_of, ilt_t, ilt_f, ile_t, ile_f, nlt_t, nlt_f, nle_t, nle_f, ieq_t, ieq_f, imin_l, imin_r, imax_l, imax_r, take_app1, take_map_all, c5, a9, h9, c1, c2, a33, g33, g33', a30, g30, g30', a31, g31, g31', g31'', a34, g34]
            rw [hl5 _ (by simp -implicitDefEqProofs (disch := omega) [wrap_of, ilt_t, ilt_f, ile_t, ile_f, nlt_t, nlt_f, nle_t, nle_f, ieq_t, ieq_f, imin_l, imin_r, imax_l, imax_r, take_app1, take_map_all, ]) (by simp -implicitDefEqProofs (disch := omega) [wrap_of, ilt_t, ilt_f, ile_t, ile_f, nlt_t, nlt_f, nle_t, nle_f, ieq_t, ieq_f, imin_l, imin_r, imax_l, imax_r, take_app1, take_map_all, ])]
            by_cases h0 : s.length = 0
            · simp -implicitDefEqProofs (disch := omega) [wrap_of, ilt_t, ilt_f, ile_t, ile_f, nlt_t, nlt_f, nle_t, nle_f, ieq_t, ieq_f, imin_l, imin_r, imax_l, imax_r, take_app1, take_map_all, h0]
            · rw [hm (fun e => h0 (by rw [e]; rfl))] at g31s g31t
              simp -implicitDefEqProofs (disch := omega) [wrap_of, ilt_t, ilt_f, ile_t, ile_f, nlt_t, nlt_f, nle_t, nle_f, ieq_t, ieq_f, imin_l, imin_r, imax_l, imax_r, take_app1, take_map_all, h0, a31, g31s, g31t]
          | false =>
            simp -implicitDefEqProofs (disch := omega) [wrap_of, ilt_t, ilt_f, ile_t, ile_f, nlt_t, nlt_f, nle_t, nle_f, ieq_t, ieq_f, imin_l, imin_r, imax_l, imax_r, take_app1, take_map_all, c5, a9, h9, c1, c2, a33, g33, g33', a30, g30, g30', a31, g31, g31', g31'', a34, g34]
            rw [hl5 _ (by simp -implicitDefEqProofs (disch := omega) [wrap_of, ilt_t, ilt_f, ile_t, ile_f, nlt_t, nlt_f, nle_t, nle_f, ieq_t, ieq_f, imin_l, imin_r, imax_l, imax_r, take_app1, take_map_all, ]) (by simp -implicitDefEqProofs (disch := omega) [wrap_of, ilt_t, ilt_f, ile_t, ile_f, nlt_t, nlt_f, nle_t, nle_f, ieq_t, ieq_f, imin_l, imin_r, imax_l, imax_r, take_app1, take_map_all, ])]
            by_cases h0 : s.length = 0
            · simp -implicitDefEqProofs (disch := omega) [wrap_of, ilt_t, ilt_f, ile_t, ile_f, nlt_t, nlt_f, nle_t, nle_f, ieq_t, ieq_f, imin_l, imin_r, imax_l, imax_r, take_app1, take_map_all, h0]
            · rw [hm (fun e => h0 (by rw [e]; rfl))] at g31s g31t
              simp -implicitDefEqProofs (disch := omega) [wrap_of, ilt_t, ilt_f, ile_t, ile_f, nlt_t, nlt_f, nle_t, nle_f, ieq_t, ieq_f, imin_l, imin_r, imax_l, imax_r, take_app1, take_map_all, h0, a31, g31s, g31t]
end Go.Proofs.Ytjblbmcgpdmahaa
