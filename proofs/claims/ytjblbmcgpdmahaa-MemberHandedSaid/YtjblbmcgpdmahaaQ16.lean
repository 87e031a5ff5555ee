import Derived.Test.YtjblbmcgpdmahaaO16
set_option linter.unusedSimpArgs false
set_option linter.unusedVariables false
namespace Go.Proofs.Ytjblbmcgpdmahaa
open Go.Am

abbrev vE (e : En) : AB := .var [.int .i64 e.te, .lst e.fl (e.da.map B)]
theorem l32v {Γ : Tab} (l : List Int) (x : Int) (hl : l.length ≤ 1000000) (f : Bool) (X Y : En) (e0 : Env) (h0 : e0 0 = .lst f (l.map I)) (h1 : e0 1 = I x) :
    iter (round Γ [5] [(.exit 0, []), (.ret, [4])] c32_1 e0 2 []) ([.int .i64 0], [vE X, vE Y]) = some (if (l.all fun y => !decide (y = x)) = true then (.exit 0, [], [vE X, vE Y]) else (.ret, [.bool true], [vE X, vE Y])) :=
  for_all (f := round Γ [5] [(.exit 0, []), (.ret, [4])] c32_1 e0 2 []) (fun i => ([.int .i64 (i : Int)], [vE X, vE Y])) l (fun y => !decide (y = x)) _ _ (fun i hi => by
      obtain ⟨y, hy⟩ : ∃ y, y = l[i] := ⟨_, rfl⟩
      rw [← hy]
      by_cases h : y = x
      · simp -implicitDefEqProofs (disch := omega) [wrap_of, ilt_t, ilt_f, ile_t, ile_f, nlt_t, nlt_f, nle_t, nle_f, ieq_t, ieq_f, imin_l, imin_r, imax_l, imax_r, take_app1, take_map_all, round_eq, b32_1, h0, h1, hi, ← hy, h]
      · simp -implicitDefEqProofs (disch := omega) [wrap_of, ilt_t, ilt_f, ile_t, ile_f, nlt_t, nlt_f, nle_t, nle_f, ieq_t, ieq_f, imin_l, imin_r, imax_l, imax_r, take_app1, take_map_all, round_eq, b32_1, h0, h1, hi, ← hy, h])
    (by simp -implicitDefEqProofs (disch := omega) [wrap_of, ilt_t, ilt_f, ile_t, ile_f, nlt_t, nlt_f, nle_t, nle_f, ieq_t, ieq_f, imin_l, imin_r, imax_l, imax_r, take_app1, take_map_all, round_eq, b32_1, h0])
theorem s32v {n : Nat} (hn : 50 < n) (l : List Int) (x : Int) (hl : l.length ≤ 1000000) (f : Bool) (X Y : En) : callA (C16.tab n) 32 [.lst f (l.map I), I x] [vE X, vE Y] = some (.bool (decide (x ∈ l)), [vE X, vE Y]) := by
  rw [p32 hn, runH_eq]
  have h := l32v (Γ := C16.tab 50) l x hl f X Y
  simp -implicitDefEqProofs (disch := omega) [wrap_of, ilt_t, ilt_f, ile_t, ile_f, nlt_t, nlt_f, nle_t, nle_f, ieq_t, ieq_f, imin_l, imin_r, imax_l, imax_r, take_app1, take_map_all, c32]
  rw [h _ (by simp -implicitDefEqProofs (disch := omega) [wrap_of, ilt_t, ilt_f, ile_t, ile_f, nlt_t, nlt_f, nle_t, nle_f, ieq_t, ieq_f, imin_l, imin_r, imax_l, imax_r, take_app1, take_map_all, ]) (by simp -implicitDefEqProofs (disch := omega) [wrap_of, ilt_t, ilt_f, ile_t, ile_f, nlt_t, nlt_f, nle_t, nle_f, ieq_t, ieq_f, imin_l, imin_r, imax_l, imax_r, take_app1, take_map_all, ]), all_mem]
  cases decide (x ∈ l) with
  | true => simp -implicitDefEqProofs (disch := omega) [wrap_of, ilt_t, ilt_f, ile_t, ile_f, nlt_t, nlt_f, nle_t, nle_f, ieq_t, ieq_f, imin_l, imin_r, imax_l, imax_r, take_app1, take_map_all, ]
  | false => simp -implicitDefEqProofs (disch := omega) [wrap_of, ilt_t, ilt_f, ile_t, ile_f, nlt_t, nlt_f, nle_t, nle_f, ieq_t, ieq_f, imin_l, imin_r, imax_l, imax_r, take_app1, take_map_all, ]
/-- MemberNext -/
theorem lp4 (b : Ba) (hb : BFin b) (l : List En) (hl : Fin l) (f : Bool) (commit : Nat) (hc : commit < 256) (t who : Int) :
    runP (C16.tab 51) c4 [Bs b, .lst f (l.map E), .int .u8 (commit : Int), I t, I who] = some (.bool true) := by
  rw [runP_eq, runH_eq]
  have h9 := s9 (n := 51) (by decide)
  have h10 := s10 (n := 51) (by decide) b hb l hl f
  simp only [Bs] at h10
  cases q1 : fitB b l with
  | false =>
    rw [q1] at h10
    simp -implicitDefEqProofs (disch := omega) [wrap_of, ilt_t, ilt_f, ile_t, ile_f, nlt_t, nlt_f, nle_t, nle_f, ieq_t, ieq_f, imin_l, imin_r, imax_l, imax_r, take_app1, take_map_all, c4, a9, h9, a10, h10]
  | true =>
    rw [q1] at h10
    by_cases t0 : t < 0
    · simp -implicitDefEqProofs (disch := omega) [wrap_of, ilt_t, ilt_f, ile_t, ile_f, nlt_t, nlt_f, nle_t, nle_f, ieq_t, ieq_f, imin_l, imin_r, imax_l, imax_r, take_app1, take_map_all, c4, a9, h9, a10, h10, t0]
    · by_cases t1 : 1000000 < t
      · simp -implicitDefEqProofs (disch := omega) [wrap_of, ilt_t, ilt_f, ile_t, ile_f, nlt_t, nlt_f, nle_t, nle_f, ieq_t, ieq_f, imin_l, imin_r, imax_l, imax_r, take_app1, take_map_all, c4, a9, h9, a10, h10, t0, t1]
      · have F := fits_of q1
        have hlo := F.lo
        have hhi := F.hi
        have hll := F.len
        obtain ⟨k, hk⟩ : ∃ k, k = commit % (l.length + 1) := ⟨_, rfl⟩
        have hkl : k ≤ l.length := by rw [hk]; have := Nat.mod_lt commit (show 0 < l.length + 1 by omega); omega
        have e1 : ((commit : Int).tmod ((l.length : Int) + 1)) = (k : Int) := by
          rw [Int.tmod_eq_emod_of_nonneg (by omega), hk, Int.natCast_emod, Int.natCast_add]; rfl
        have e2 : IntKind.i64.wrap (commit : Int) = (commit : Int) := wrap_of (by omega) (by omega)
        have ht : (termA b l (b.many + k)).isSome = true := by
          unfold termA
          rw [if_neg (by omega)]
          split <;> rfl
        have g27 := s27 (n := 51) (by decide) b F.gb F.right l F.gl f (b.many + k) t who ht
        have g28 := s28 (n := 51) (by decide) b F.gb F.right l F.gl f (b.many + k) t who ht (by omega)
        have g12 := s12 (n := 51) (by decide) b F.gb l F.gl f
        have hpr := peers_right F.right l
        simp only [Bs, psV] at g12 g27 g28
        have fin : ∀ (x : En) (c : Int), x.da.length ≤ 1000 → ¬ c = 0 → nextA b l (b.many + k) t who = .tup [E x, I c] → runH (C16.tab 51) c4 [Bs b, .lst f (l.map E), .int .u8 (commit : Int), I t, I who] [] = some (.bool true, [vE x, vE x]) := by
          intro x c hx hcz hv
          rw [hv] at g27 g28
          have g22 := s22 (n := 51) (by decide) [x] [x] true true ⟨by simp, by simp; omega⟩ ⟨by simp, by simp; omega⟩
          rw [logEq_refl] at g22
          simp only [List.map_cons, List.map_nil, E] at g22 g27 g28
          rw [runH_eq]
          simp -implicitDefEqProofs (disch := omega) [wrap_of, ilt_t, ilt_f, ile_t, ile_f, nlt_t, nlt_f, nle_t, nle_f, ieq_t, ieq_f, imin_l, imin_r, imax_l, imax_r, take_app1, take_map_all, c4, a9, h9, a10, h10, t0, t1, e1, e2, a27, g27, a28, g28, a22, g22, hcz]
        have key : nextA b l (b.many + k) t who = .tup [E E0, I 1] ∨ nextA b l (b.many + k) t who = .tup [E E0, I 121] ∨ nextA b l (b.many + k) t who = .tup [E E0, I 76] ∨ (right (tog (peersS b l).1.2.1 who) = true ∧ nextA b l (b.many + k) t who = .tup [E (entE t (tog (peersS b l).1.2.1 who)), I 0]) := by
          unfold nextA
          split
          · exact .inl rfl
          · split
            · exact .inr (.inl rfl)
            · unfold nextV
              split
              · rename_i hr; exact .inr (.inr (.inr ⟨hr, rfl⟩))
              · exact .inr (.inr (.inl rfl))
        rw [← runH_eq]
        rcases key with key | key | key | ⟨hr, key⟩
        · rw [fin E0 1 (by decide) (by decide) key]
          simp -implicitDefEqProofs (disch := omega) [wrap_of, ilt_t, ilt_f, ile_t, ile_f, nlt_t, nlt_f, nle_t, nle_f, ieq_t, ieq_f, imin_l, imin_r, imax_l, imax_r, take_app1, take_map_all, ]
        · rw [fin E0 121 (by decide) (by decide) key]
          simp -implicitDefEqProofs (disch := omega) [wrap_of, ilt_t, ilt_f, ile_t, ile_f, nlt_t, nlt_f, nle_t, nle_f, ieq_t, ieq_f, imin_l, imin_r, imax_l, imax_r, take_app1, take_map_all, ]
        · rw [fin E0 76 (by decide) (by decide) key]
          simp -implicitDefEqProofs (disch := omega) [wrap_of, ilt_t, ilt_f, ile_t, ile_f, nlt_t, nlt_f, nle_t, nle_f, ieq_t, ieq_f, imin_l, imin_r, imax_l, imax_r, take_app1, take_map_all, ]
        · rw [runH_eq]
          rw [key] at g27 g28
          generalize (peersS b l).1 = pq at *
          obtain ⟨fp, ps, pat⟩ := pq
          simp only at *
          obtain ⟨⟨hup, hrng⟩, hps1, hps7⟩ := right_iff.1 hpr
          obtain ⟨⟨_, _⟩, hq1, hq7⟩ := right_iff.1 hr
          obtain ⟨gap, hm⟩ := tog_gap hup who
          obtain ⟨m1, m2⟩ := meet_tog hup who hq1
          have hof := of_ent (t := t) hr
          generalize tog ps who = q at *
          obtain ⟨x, hx⟩ : ∃ x, x = entE t q := ⟨_, rfl⟩
          have hxl : x.da.length ≤ 8 := by rw [hx]; simp [entE]; omega
          have g25 := s25 (n := 51) (by decide) x (by omega)
          have g29 := s29 (n := 51) (by decide) t q (by omega) false
          rw [← hx] at hof g27 g28 g29
          have g22 := s22 (n := 51) (by decide) [x] [x] true true ⟨by simp, by simp; omega⟩ ⟨by simp, by simp; omega⟩
          have g30 := s30 (n := 51) (by decide) q (by omega) false
          have g31 := s31 (n := 51) (by decide) ps q (by omega) (by omega) fp false
          have g31' := s31 (n := 51) (by decide) q ps (by omega) (by omega) false fp
          have g32 := s32v (n := 51) (by decide) ps who (by omega) fp x x
          have g32' := s32v (n := 51) (by decide) q who (by omega) false x x
          rw [logEq_refl] at g22
          rw [hr] at g30
          rw [m1] at g31
          rw [m2] at g31'
          unfold ofV at g25
          rw [hof] at g25
          simp only [List.map_cons, List.map_nil, E, Option.elim_some] at g22 g25 g27 g28 g29
          by_cases hw : who ∈ ps
          · rw [decide_eq_true hw] at g32
            rw [decide_eq_false (hm.1 hw)] at g32'
            rcases gap with gap | gap
            · simp -implicitDefEqProofs (disch := omega) [wrap_of, ilt_t, ilt_f, ile_t, ile_f, nlt_t, nlt_f, nle_t, nle_f, ieq_t, ieq_f, imin_l, imin_r, imax_l, imax_r, take_app1, take_map_all, c4, a9, h9, a10, h10, t0, t1, e1, e2, a27, g27, a28, g28, a22, g22, a12, g12, a25, g25, g29, a30, g30, a31, g31, g31', g32, g32', gap]
            · simp -implicitDefEqProofs (disch := omega) [wrap_of, ilt_t, ilt_f, ile_t, ile_f, nlt_t, nlt_f, nle_t, nle_f, ieq_t, ieq_f, imin_l, imin_r, imax_l, imax_r, take_app1, take_map_all, c4, a9, h9, a10, h10, t0, t1, e1, e2, a27, g27, a28, g28, a22, g22, a12, g12, a25, g25, g29, a30, g30, a31, g31, g31', g32, g32', gap]
          · rw [decide_eq_false hw] at g32
            rw [decide_eq_true (by rw [hm] at hw; simpa using hw)] at g32'
            rcases gap with gap | gap
            · simp -implicitDefEqProofs (disch := omega) [wrap_of, ilt_t, ilt_f, ile_t, ile_f, nlt_t, nlt_f, nle_t, nle_f, ieq_t, ieq_f, imin_l, imin_r, imax_l, imax_r, take_app1, take_map_all, c4, a9, h9, a10, h10, t0, t1, e1, e2, a27, g27, a28, g28, a22, g22, a12, g12, a25, g25, g29, a30, g30, a31, g31, g31', g32, g32', gap]
            · simp -implicitDefEqProofs (disch := omega) [wrap_of, ilt_t, ilt_f, ile_t, ile_f, nlt_t, nlt_f, nle_t, nle_f, ieq_t, ieq_f, imin_l, imin_r, imax_l, imax_r, take_app1, take_map_all, c4, a9, h9, a10, h10, t0, t1, e1, e2, a27, g27, a28, g28, a22, g22, a12, g12, a25, g25, g29, a30, g30, a31, g31, g31', g32, g32', gap]
end Go.Proofs.Ytjblbmcgpdmahaa
