import Derived.Test.YtfdenmkoampgnaaP09a
set_option linter.unusedSimpArgs false
set_option linter.unusedVariables false
namespace Go.Proofs.Ytfdenmkoampgnaa
open Go.Am Go.Tr

theorem l5 {Γ : Tab} (l : List Qu) (hl : l.length ≤ 1000) (f : Bool) (i : Int) (hn : ∀ q ∈ l, q.ino ≠ i) (X : AH) (hX : X.all plainB = true) (L : Nat) (hL : X.length = L) (e0 : Env) (h18 : e0 18 = .lst f (l.map Qv)) (h14 : e0 14 = I i) :
    iter (round Γ [23] [(.exit 0, []), (.ret, [10])] c5_1 e0 L []) ([.int .i64 0], X) = some (.exit 0, [], X) := by
  subst hL
  have h := for_idx (f := round Γ [23] [(.exit 0, []), (.ret, [10])] c5_1 e0 X.length []) (fun i => ([.int .i64 (i : Int)], X)) l (fun q => decide (q.ino = i)) (fun _ _ => (.ret, [.bool false], X)) (.exit 0, [], X)
    (fun k hk => by
      obtain ⟨y, hy⟩ : ∃ y, y = l[k] := ⟨_, rfl⟩
      rw [← hy]
      by_cases c1 : y.ino = i
      · exact absurd c1 (hn y (by rw [hy]; exact List.getElem_mem hk))
      · simp -implicitDefEqProofs (disch := omega) [wrap_of, ilt_t, ilt_f, ile_t, ile_f, nlt_t, nlt_f, nle_t, nle_f, ieq_t, ieq_f, imin_l, imin_r, imax_l, imax_r, take_app1, take_map_all, round_eq, b5_1, h18, h14, hk, ← hy, c1, normH_plain _ _ X _ hX])
    (by simp -implicitDefEqProofs (disch := omega) [wrap_of, ilt_t, ilt_f, ile_t, ile_f, nlt_t, nlt_f, nle_t, nle_f, ieq_t, ieq_f, imin_l, imin_r, imax_l, imax_r, take_app1, take_map_all, round_eq, b5_1, h18, normH_plain _ _ X _ hX])
  have hf : l.find? (fun q => decide (q.ino = i)) = none := List.find?_eq_none.2 fun q hq => by simpa using hn q hq
  rw [hf] at h
  exact h
/-- QuotaSet -/
theorem lp5 (l : List Sd) (hl : l.length ≤ 9223372036854775807) (hd : ∀ s ∈ l, s.data.length ≤ 9223372036854775807) (f : Bool) (gs : List Gi) (hg : gs.length ≤ 9223372036854775807) (g : Bool) (a : UInt8) (x y : Int) :
    runP (C09.tab 68) c5 [.lst f (l.map Sv), .lst g (gs.map Gv), .int .u8 a.toNat, I x, I y] = some (.bool true) := by
  rw [runP_eq, runH_eq]
  have h8 := s8 (n := 68) (by decide)
  have h9 := s9 (n := 68) (by decide) l hl hd f
  cases hgr : greatT l with
  | true =>
    rw [hgr] at h9
    simp -implicitDefEqProofs (disch := omega) [wrap_of, ilt_t, ilt_f, ile_t, ile_f, nlt_t, nlt_f, nle_t, nle_f, ieq_t, ieq_f, imin_l, imin_r, imax_l, imax_r, take_app1, take_map_all, c5, a8, h8, a9, h9]
  | false =>
    rw [hgr] at h9
    have hl' : l.length ≤ 1000000 := by
      unfold greatT at hgr
      simp at hgr
      omega
    have h10 := s10 (n := 68) (by decide) l hl' hd f
    have w : WFt (Tr.made okN sLess (l.map Sd.st)) := WF.made ord_sLess _
    generalize Tr.made okN sLess (l.map Sd.st) = t at *
    have h11 := s11 (n := 68) (by decide) t w gs hg g
    have hv := quo_inv t gs
    generalize quoL t gs = q at *
    obtain ⟨q, fq⟩ := q
    simp only at h11 hv
    have hq16 := hv.len
    have hql : q.length ≤ 1000 := by omega
    have h20 := s20 (n := 68) (by decide) t w a.toNat (u8lt a)
    have hda := dirAt_dir w a.toNat
    generalize dirAt t a.toNat = d at *
    obtain ⟨g1, h15a⟩ := s15 (n := 68) (by decide) t w q hv.srt hql fq d x y
    have hvr := hv.set d x y
    rcases setP_cases t (l := q) d x y with ⟨k1, k2, k3⟩ | ⟨_, k1, k2⟩ | ⟨_, k1, k2, k3, k4, k5⟩
    · have k3 := k3 hda
      rw [k2] at h15a
      generalize (setP t q d x y).2 = e at *
      have h17 := fun f g => s17 (n := 68) (by decide) q q hql hql f g
      simp only [Tv, decide_true] at h10 h11 h20 h15a h17
      rcases k3 with rfl | ⟨rfl, k3⟩
      · simp -implicitDefEqProofs (disch := omega) [wrap_of, ilt_t, ilt_f, ile_t, ile_f, nlt_t, nlt_f, nle_t, nle_f, ieq_t, ieq_f, imin_l, imin_r, imax_l, imax_r, take_app1, take_map_all, c5, a8, h8, a9, h9, a10, h10, a11, h11, a20, h20, a15, h15a, a17, h17]
      · have k4 : q.length = 16 := by omega
        simp -implicitDefEqProofs (disch := omega) [wrap_of, ilt_t, ilt_f, ile_t, ile_f, nlt_t, nlt_f, nle_t, nle_f, ieq_t, ieq_f, imin_l, imin_r, imax_l, imax_r, take_app1, take_map_all, c5, a8, h8, a9, h9, a10, h10, a11, h11, a20, h20, a15, h15a, a17, h17, k4]
    · rw [k2] at h15a hvr
      simp only at h15a hvr
      have hrl := rem_len q d
      have e1 : ∀ l, setP t l d (-1) 0 = (remQ l d, 0) := fun l => by
        unfold setP
        rw [if_neg (by simpa using hda), if_pos (by decide)]
      obtain ⟨g2, h15b⟩ := s15 (n := 68) (by decide) t w (remQ q d) hvr.srt (by omega) g1 d (-1) 0
      obtain ⟨g3, h15c⟩ := s15 (n := 68) (by decide) t w q hv.srt hql fq d (-1) 0
      rw [e1, rem_rem] at h15b
      rw [e1] at h15c
      have h17 := fun f g => s17 (n := 68) (by decide) (remQ q d) (remQ q d) (by omega) (by omega) f g
      have h18 := fun f => s18 (n := 68) (by decide) t w (remQ q d) (by omega) f
      rw [(rightQ_iff t _).2 hvr] at h18
      have hL := fun e0 h18 h14 => l5 (Γ := C09.tab 68) (remQ q d) (by omega) g2 d (fun q hq => (remQ_mem.1 hq).2) [.var (Tb t)] (by rfl) 1 rfl e0 h18 h14
      generalize remQ q d = s at *
      simp only [Tv, decide_true] at h10 h11 h20 h15a h15b h15c h17 h18
      simp -implicitDefEqProofs (disch := omega) [wrap_of, ilt_t, ilt_f, ile_t, ile_f, nlt_t, nlt_f, nle_t, nle_f, ieq_t, ieq_f, imin_l, imin_r, imax_l, imax_r, take_app1, take_map_all, c5, a8, h8, a9, h9, a10, h10, a11, h11, a20, h20, a15, h15a, h15b, h15c, a17, h17, a18, h18, k1]
      rw [hL _ (by simp -implicitDefEqProofs (disch := omega) [wrap_of, ilt_t, ilt_f, ile_t, ile_f, nlt_t, nlt_f, nle_t, nle_f, ieq_t, ieq_f, imin_l, imin_r, imax_l, imax_r, take_app1, take_map_all, ]) (by simp -implicitDefEqProofs (disch := omega) [wrap_of, ilt_t, ilt_f, ile_t, ile_f, nlt_t, nlt_f, nle_t, nle_f, ieq_t, ieq_f, imin_l, imin_r, imax_l, imax_r, take_app1, take_map_all, ])]
      simp -implicitDefEqProofs (disch := omega) [wrap_of, ilt_t, ilt_f, ile_t, ile_f, nlt_t, nlt_f, nle_t, nle_f, ieq_t, ieq_f, imin_l, imin_r, imax_l, imax_r, take_app1, take_map_all, a17, h17, k1]
    · rw [k5] at h15a hvr
      simp only at h15a hvr
      have hrl := rem_len q d
      have hpl := put_len hv.srt ⟨d, x, y⟩
      simp only at hpl
      have e1 : ∀ l, setP t l d (-1) 0 = (remQ l d, 0) := fun l => by
        unfold setP
        rw [if_neg (by simpa using hda), if_pos (by decide)]
      have e2 : remQ (putQ q ⟨d, x, y⟩) d = remQ q d := rem_put hv.srt ⟨d, x, y⟩
      have hvs : InvQ t (remQ q d) := by
        have := hv.set d (-1) 0
        rw [e1] at this
        exact this
      obtain ⟨g2, h15b⟩ := s15 (n := 68) (by decide) t w (putQ q ⟨d, x, y⟩) hvr.srt (by omega) g1 d (-1) 0
      obtain ⟨g3, h15c⟩ := s15 (n := 68) (by decide) t w q hv.srt hql fq d (-1) 0
      rw [e1, e2] at h15b
      rw [e1] at h15c
      have h17 := fun f g => s17 (n := 68) (by decide) (remQ q d) (remQ q d) (by omega) (by omega) f g
      have h18a := s18 (n := 68) (by decide) t w (putQ q ⟨d, x, y⟩) (by omega) g1
      have h18b := s18 (n := 68) (by decide) t w (remQ q d) (by omega) g2
      rw [(rightQ_iff t _).2 hvr] at h18a
      rw [(rightQ_iff t _).2 hvs] at h18b
      have h22 := s22 (n := 68) (by decide) t w (putQ q ⟨d, x, y⟩) hvr.srt (by omega) g1 hda
      have hfd : (findQ (putQ q ⟨d, x, y⟩) d).isSome = true := by
        have := findQ_of hvr.srt ((putQ_mem hv.srt (x := ⟨d, x, y⟩)).2 (.inl rfl))
        simp only at this
        rw [this]; rfl
      rw [dom_own hfd] at h22
      have h24 := s24 (n := 68) (by decide) t w (putQ q ⟨d, x, y⟩) hvr.srt (by omega) g1 0 0 (by decide) (by decide) (by decide) (by decide) hda
      rw [may_ok w hvr hda] at h24
      have hL := fun e0 h18 h14 => l5 (Γ := C09.tab 68) (remQ q d) (by omega) g2 d (fun q hq => (remQ_mem.1 hq).2) [.var (Tb t)] (by rfl) 1 rfl e0 h18 h14
      generalize putQ q ⟨d, x, y⟩ = r at *
      generalize remQ q d = s at *
      simp only [Tv, decide_true] at h10 h11 h20 h15a h15b h15c h17 h18a h18b h22 h24
      have k1' : ¬ x < 0 := by omega
      simp -implicitDefEqProofs (disch := omega) [wrap_of, ilt_t, ilt_f, ile_t, ile_f, nlt_t, nlt_f, nle_t, nle_f, ieq_t, ieq_f, imin_l, imin_r, imax_l, imax_r, take_app1, take_map_all, c5, a8, h8, a9, h9, a10, h10, a11, h11, a20, h20, a15, h15a, h15b, h15c, a17, h17, a18, h18a, h18b, k1']
      rw [hL _ (by simp -implicitDefEqProofs (disch := omega) [wrap_of, ilt_t, ilt_f, ile_t, ile_f, nlt_t, nlt_f, nle_t, nle_f, ieq_t, ieq_f, imin_l, imin_r, imax_l, imax_r, take_app1, take_map_all, ]) (by simp -implicitDefEqProofs (disch := omega) [wrap_of, ilt_t, ilt_f, ile_t, ile_f, nlt_t, nlt_f, nle_t, nle_f, ieq_t, ieq_f, imin_l, imin_r, imax_l, imax_r, take_app1, take_map_all, ])]
      simp -implicitDefEqProofs (disch := omega) [wrap_of, ilt_t, ilt_f, ile_t, ile_f, nlt_t, nlt_f, nle_t, nle_f, ieq_t, ieq_f, imin_l, imin_r, imax_l, imax_r, take_app1, take_map_all, a22, h22, a24, h24, k1', hpl]
end Go.Proofs.Ytfdenmkoampgnaa
