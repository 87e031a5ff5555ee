import Derived.Test.YtfdenmkoampgnaaP09b
set_option linter.unusedSimpArgs false
set_option linter.unusedVariables false
namespace Go.Proofs.Ytfdenmkoampgnaa
open Go.Am Go.Tr

def on6 (a b : Int) (s : Bool × Bool) (x : Qu) : Bool × Bool := (s.1 || decide (x.ino = a), s.2 || decide (x.ino = b))
theorem on6_fold (a b : Int) : ∀ (l : List Qu) (s : Bool × Bool), l.foldl (on6 a b) s = (s.1 || (findQ l a).isSome, s.2 || (findQ l b).isSome)
  | [], s => by simp [findQ]
  | x :: l, s => by
    rw [List.foldl_cons, on6_fold a b l]
    unfold on6 findQ
    rw [List.find?_cons, List.find?_cons]
    generalize decide (x.ino = a) = u
    generalize decide (x.ino = b) = v
    cases u <;> cases v <;> simp
theorem l6 {Γ : Tab} (l : List Qu) (hl : l.length ≤ 1000) (f : Bool) (t : Tr.Tree) (x : Tr.Node) (D : Int) (e0 : Env) (h9 : e0 9 = .lst f (l.map Qv)) (h10 : e0 10 = .ptr 1 0 0 0) (h12 : e0 12 = I D) :
    iter (round Γ [13, 14, 15] [(.exit 0, [13, 14])] c6_1 e0 2 []) ([.bool false, .bool false, .int .i64 0], [.var (Tb t), .var (Nc x)]) = some (.exit 0, [.bool (findQ l x.ino).isSome, .bool (findQ l D).isSome], [.var (Tb t), .var (Nc x)]) := by
  have h := for_list (f := round Γ [13, 14, 15] [(.exit 0, [13, 14])] c6_1 e0 2 []) (fun k (s : Bool × Bool) => ([.bool s.1, .bool s.2, .int .i64 (k : Int)], [.var (Tb t), .var (Nc x)])) l (on6 x.ino D) (fun s => (.exit 0, [.bool s.1, .bool s.2], [.var (Tb t), .var (Nc x)])) (fun _ _ => True)
    (fun k hk s _ => by
      refine ⟨trivial, ?_⟩
      obtain ⟨y, hy⟩ : ∃ y, y = l[k] := ⟨_, rfl⟩
      rw [← hy]
      obtain ⟨s1, s2⟩ := s
      unfold on6
      simp only [Nc, Tb]
      by_cases c1 : y.ino = x.ino
      · by_cases c2 : x.ino = D
        · cases s1 <;> cases s2 <;> simp -implicitDefEqProofs (disch := omega) [wrap_of, ilt_t, ilt_f, ile_t, ile_f, nlt_t, nlt_f, nle_t, nle_f, ieq_t, ieq_f, imin_l, imin_r, imax_l, imax_r, take_app1, take_map_all, round_eq, b6_1, h9, h10, h12, hk, ← hy, c1, c2]
        · cases s1 <;> cases s2 <;> simp -implicitDefEqProofs (disch := omega) [wrap_of, ilt_t, ilt_f, ile_t, ile_f, nlt_t, nlt_f, nle_t, nle_f, ieq_t, ieq_f, imin_l, imin_r, imax_l, imax_r, take_app1, take_map_all, round_eq, b6_1, h9, h10, h12, hk, ← hy, c1, c2]
      · by_cases c2 : y.ino = D
        · have c3 : ¬ D = x.ino := fun h => c1 (by omega)
          cases s1 <;> cases s2 <;> simp -implicitDefEqProofs (disch := omega) [wrap_of, ilt_t, ilt_f, ile_t, ile_f, nlt_t, nlt_f, nle_t, nle_f, ieq_t, ieq_f, imin_l, imin_r, imax_l, imax_r, take_app1, take_map_all, round_eq, b6_1, h9, h10, h12, hk, ← hy, c1, c2, c3]
        · cases s1 <;> cases s2 <;> simp -implicitDefEqProofs (disch := omega) [wrap_of, ilt_t, ilt_f, ile_t, ile_f, nlt_t, nlt_f, nle_t, nle_f, ieq_t, ieq_f, imin_l, imin_r, imax_l, imax_r, take_app1, take_map_all, round_eq, b6_1, h9, h10, h12, hk, ← hy, c1, c2])
    (fun s _ => by
      simp only [Nc, Tb]
      simp -implicitDefEqProofs (disch := omega) [wrap_of, ilt_t, ilt_f, ile_t, ile_f, nlt_t, nlt_f, nle_t, nle_f, ieq_t, ieq_f, imin_l, imin_r, imax_l, imax_r, take_app1, take_map_all, round_eq, b6_1, h9]) (false, false) trivial
  rw [on6_fold] at h
  simpa using h
/-- QuotaNearest -/
theorem lp6 (l : List Sd) (hl : l.length ≤ 9223372036854775807) (hd : ∀ s ∈ l, s.data.length ≤ 9223372036854775807) (f : Bool) (gs : List Gi) (hg : gs.length ≤ 9223372036854775807) (g : Bool) (a : UInt8) :
    runP (C09.tab 69) c6 [.lst f (l.map Sv), .lst g (gs.map Gv), .int .u8 a.toNat] = some (.bool true) := by
  rw [runP_eq, runH_eq]
  have h8 := s8 (n := 69) (by decide)
  have h9 := s9 (n := 69) (by decide) l hl hd f
  cases hgr : greatT l with
  | true =>
    rw [hgr] at h9
    simp -implicitDefEqProofs (disch := omega) [wrap_of, ilt_t, ilt_f, ile_t, ile_f, nlt_t, nlt_f, nle_t, nle_f, ieq_t, ieq_f, imin_l, imin_r, imax_l, imax_r, take_app1, take_map_all, c6, a8, h8, a9, h9]
  | false =>
    rw [hgr] at h9
    have hl' : l.length ≤ 1000000 := by
      unfold greatT at hgr
      simp at hgr
      omega
    have h10 := s10 (n := 69) (by decide) l hl' hd f
    have w : WFt (Tr.made okN sLess (l.map Sd.st)) := WF.made ord_sLess _
    generalize Tr.made okN sLess (l.map Sd.st) = t at *
    have h11 := s11 (n := 69) (by decide) t w gs hg g
    have hv := quo_inv t gs
    generalize quoL t gs = q at *
    obtain ⟨q, fq⟩ := q
    simp only at h11 hv
    have hq16 := hv.len
    have hql : q.length ≤ 1000 := by omega
    have h20 := s20 (n := 69) (by decide) t w a.toNat (u8lt a)
    have hda := dirAt_dir w a.toNat
    generalize dirAt t a.toNat = d at *
    obtain ⟨x, hx, hxk⟩ := dirE_iff.1 hda
    have hxi := find_ino hx
    have hG := s26 (n := 69) (by decide) t (wbt w) d
    rw [hx] at hG
    unfold getV at hG
    have h22 := s22 (n := 69) (by decide) t w q hv.srt hql fq hda
    have hup : upN t d = x.up := by unfold upN; rw [hx]; rfl
    have hL := fun D e0 h9 h10 h12 => l6 (Γ := C09.tab 69) q hql fq t x D e0 h9 h10 h12
    rw [hxi] at hL
    have hpos := dir_pos w hda
    cases hown : (findQ q d).isSome with
    | true =>
      have hD := dom_own (t := t) hown
      rw [hown] at hL
      have h23 := s23 (n := 69) (by decide) t w q hv.srt hql fq hda hda
      rw [hD] at h22 h23
      have hL := hL d
      subst hxi
      simp only [Tv, Nd, Option.elim_some, ne_eq, not_true_eq_false, decide_false, Nc, Tb] at h10 h11 h20 hG h22 h23 hL
      simp -implicitDefEqProofs (disch := omega) [wrap_of, ilt_t, ilt_f, ile_t, ile_f, nlt_t, nlt_f, nle_t, nle_f, ieq_t, ieq_f, imin_l, imin_r, imax_l, imax_r, take_app1, take_map_all, c6, a8, h8, a9, h9, a10, h10, a11, h11, h20, hG, a22, h22]
      rw [hL _ (by simp -implicitDefEqProofs (disch := omega) [wrap_of, ilt_t, ilt_f, ile_t, ile_f, nlt_t, nlt_f, nle_t, nle_f, ieq_t, ieq_f, imin_l, imin_r, imax_l, imax_r, take_app1, take_map_all, ]) (by simp -implicitDefEqProofs (disch := omega) [wrap_of, ilt_t, ilt_f, ile_t, ile_f, nlt_t, nlt_f, nle_t, nle_f, ieq_t, ieq_f, imin_l, imin_r, imax_l, imax_r, take_app1, take_map_all, ]) (by simp -implicitDefEqProofs (disch := omega) [wrap_of, ilt_t, ilt_f, ile_t, ile_f, nlt_t, nlt_f, nle_t, nle_f, ieq_t, ieq_f, imin_l, imin_r, imax_l, imax_r, take_app1, take_map_all, ])]
      simp -implicitDefEqProofs (disch := omega) [wrap_of, ilt_t, ilt_f, ile_t, ile_f, nlt_t, nlt_f, nle_t, nle_f, ieq_t, ieq_f, imin_l, imin_r, imax_l, imax_r, take_app1, take_map_all, a23, h23]
    | false =>
      rw [hown] at hL
      have hfn : findQ q d = none := by
        cases hf : findQ q d with
        | none => rfl
        | some y => rw [hf] at hown; cases hown
      by_cases h1 : d = 1
      · have hD : dom t q d = 0 := by rw [h1]; exact dom_root (by rw [← h1]; exact hfn)
        rw [hD] at h22
        have hL := hL 0
        generalize (findQ q 0).isSome = hs at *
        rw [h1] at hxi
        subst h1
        simp only [Tv, Nd, Option.elim_some, hxi, Nc, Tb] at h10 h11 h20 hG h22 hL
        simp -implicitDefEqProofs (disch := omega) [wrap_of, ilt_t, ilt_f, ile_t, ile_f, nlt_t, nlt_f, nle_t, nle_f, ieq_t, ieq_f, imin_l, imin_r, imax_l, imax_r, take_app1, take_map_all, c6, a8, h8, a9, h9, a10, h10, a11, h11, h20, hG, a22, h22]
        rw [hL _ (by simp -implicitDefEqProofs (disch := omega) [wrap_of, ilt_t, ilt_f, ile_t, ile_f, nlt_t, nlt_f, nle_t, nle_f, ieq_t, ieq_f, imin_l, imin_r, imax_l, imax_r, take_app1, take_map_all, ]) (by simp -implicitDefEqProofs (disch := omega) [wrap_of, ilt_t, ilt_f, ile_t, ile_f, nlt_t, nlt_f, nle_t, nle_f, ieq_t, ieq_f, imin_l, imin_r, imax_l, imax_r, take_app1, take_map_all, ]) (by simp -implicitDefEqProofs (disch := omega) [wrap_of, ilt_t, ilt_f, ile_t, ile_f, nlt_t, nlt_f, nle_t, nle_f, ieq_t, ieq_f, imin_l, imin_r, imax_l, imax_r, take_app1, take_map_all, ])]
        simp -implicitDefEqProofs (disch := omega) [wrap_of, ilt_t, ilt_f, ile_t, ile_f, nlt_t, nlt_f, nle_t, nle_f, ieq_t, ieq_f, imin_l, imin_r, imax_l, imax_r, take_app1, take_map_all, ]
      · have hud := up_dir w hda h1
        have hdu := dom_up w hfn h1 hda
        have h22u := s22 (n := 69) (by decide) t w q hv.srt hql fq hud
        rw [← hdu, hup] at h22u
        obtain ⟨k, hk⟩ := dep_dir w hda
        rcases dom_spec w q hk with hD | ⟨hDs, e, hDe⟩
        · rw [hD] at h22 h22u
          have hn0 : findQ q 0 = none := by
            cases hf : findQ q 0 with
            | none => rfl
            | some y =>
              obtain ⟨y1, y2⟩ := findQ_mem hf
              have := dir_pos w (hv.dir y y1)
              omega
          have hL := hL 0
          rw [hn0, Option.isSome_none] at hL
          subst hxi
          simp only [Tv, Nd, Option.elim_some, Nc, Tb] at h10 h11 h20 hG h22 h22u hL
          simp -implicitDefEqProofs (disch := omega) [wrap_of, ilt_t, ilt_f, ile_t, ile_f, nlt_t, nlt_f, nle_t, nle_f, ieq_t, ieq_f, imin_l, imin_r, imax_l, imax_r, take_app1, take_map_all, c6, a8, h8, a9, h9, a10, h10, a11, h11, h20, hG, a22, h22]
          rw [hL _ (by simp -implicitDefEqProofs (disch := omega) [wrap_of, ilt_t, ilt_f, ile_t, ile_f, nlt_t, nlt_f, nle_t, nle_f, ieq_t, ieq_f, imin_l, imin_r, imax_l, imax_r, take_app1, take_map_all, ]) (by simp -implicitDefEqProofs (disch := omega) [wrap_of, ilt_t, ilt_f, ile_t, ile_f, nlt_t, nlt_f, nle_t, nle_f, ieq_t, ieq_f, imin_l, imin_r, imax_l, imax_r, take_app1, take_map_all, ]) (by simp -implicitDefEqProofs (disch := omega) [wrap_of, ilt_t, ilt_f, ile_t, ile_f, nlt_t, nlt_f, nle_t, nle_f, ieq_t, ieq_f, imin_l, imin_r, imax_l, imax_r, take_app1, take_map_all, ])]
          simp -implicitDefEqProofs (disch := omega) [wrap_of, ilt_t, ilt_f, ile_t, ile_f, nlt_t, nlt_f, nle_t, nle_f, ieq_t, ieq_f, imin_l, imin_r, imax_l, imax_r, take_app1, take_map_all, a22, h22u, h1]
        · have hD0 : dom t q d ≠ 0 := fun h => by
            rw [h] at hDs
            obtain ⟨y, hy⟩ := Option.isSome_iff_exists.1 hDs
            obtain ⟨y1, y2⟩ := findQ_mem hy
            have := dir_pos w (hv.dir y y1)
            omega
          have hDd : dirE t (dom t q d) = 0 := by
            obtain ⟨y, hy⟩ := Option.isSome_iff_exists.1 hDs
            obtain ⟨y1, y2⟩ := findQ_mem hy
            rw [← y2]
            exact hv.dir y y1
          have hbl : below t d (dom t q d) = true := (bel_iff w hk).2 ⟨e, hDe⟩
          have h27 := s27 (n := 69) (by decide) t (wbt w) d (dom t q d)
          rw [hbl] at h27
          have hL := hL (dom t q d)
          rw [hDs] at hL
          have h22d := s22 (n := 69) (by decide) t w q hv.srt hql fq hDd
          rw [dom_own hDs] at h22d
          have h23 := s23 (n := 69) (by decide) t w q hv.srt hql fq hud hda
          rw [← hdu, hup] at h23
          generalize dom t q d = D at *
          subst hxi
          simp only [Tv, Nd, Option.elim_some, ne_eq, not_true_eq_false, decide_false, Nc, Tb] at h10 h11 h20 hG h22 h22u h22d h23 h27 hL
          simp -implicitDefEqProofs (disch := omega) [wrap_of, ilt_t, ilt_f, ile_t, ile_f, nlt_t, nlt_f, nle_t, nle_f, ieq_t, ieq_f, imin_l, imin_r, imax_l, imax_r, take_app1, take_map_all, c6, a8, h8, a9, h9, a10, h10, a11, h11, h20, hG, a22, h22]
          rw [hL _ (by simp -implicitDefEqProofs (disch := omega) [wrap_of, ilt_t, ilt_f, ile_t, ile_f, nlt_t, nlt_f, nle_t, nle_f, ieq_t, ieq_f, imin_l, imin_r, imax_l, imax_r, take_app1, take_map_all, ]) (by simp -implicitDefEqProofs (disch := omega) [wrap_of, ilt_t, ilt_f, ile_t, ile_f, nlt_t, nlt_f, nle_t, nle_f, ieq_t, ieq_f, imin_l, imin_r, imax_l, imax_r, take_app1, take_map_all, ]) (by simp -implicitDefEqProofs (disch := omega) [wrap_of, ilt_t, ilt_f, ile_t, ile_f, nlt_t, nlt_f, nle_t, nle_f, ieq_t, ieq_f, imin_l, imin_r, imax_l, imax_r, take_app1, take_map_all, ])]
          simp -implicitDefEqProofs (disch := omega) [wrap_of, ilt_t, ilt_f, ile_t, ile_f, nlt_t, nlt_f, nle_t, nle_f, ieq_t, ieq_f, imin_l, imin_r, imax_l, imax_r, take_app1, take_map_all, a22, h22u, h22d, a23, h23, a27, h27, h1, hD0]
end Go.Proofs.Ytfdenmkoampgnaa
