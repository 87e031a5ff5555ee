import Derived.Test.YtdnoopjpkcmpjaaN08a
set_option linter.unusedSimpArgs false
set_option linter.unusedVariables false
namespace Go.Proofs.Ytdnoopjpkcmpjaa
open Go.Am Go.Tr

theorem sameT_teq {u v : Tr.Tree} (h : Teq u v) : sameT u v = true := by
  unfold sameT
  rw [h.1, h.2.1, h.2.2]
  simp
theorem l4 {n : Nat} (hn : 87 < n) (ac : List Ad) (ha : ac.length ≤ 1000000) (g : Bool) (s : Tr.Tree × List Ho × Bool) (w : WFt s.1) (hv : InvH s.1 s.2.1) (e0 : Env) (h1 : e0 1 = .lst g (ac.map Av)) (h12 : e0 12 = .ptr 0 0 0 0) :
    iter (round (C08.tab n) [13, 14] [(.exit 0, [13]), (.ret, [10])] c4_1 e0 1 []) ([.lst s.2.2 (s.2.1.map Hv), .int .i64 0], [.var (Tb s.1)]) =
      some (.exit 0, [.lst ((ac.map Ad.ac).foldl gd s).2.2 (((ac.map Ad.ac).foldl gd s).2.1.map Hv)], [.var (Tb ((ac.map Ad.ac).foldl gd s).1)]) := by
  have := for_list (f := round (C08.tab n) [13, 14] [(.exit 0, [13]), (.ret, [10])] c4_1 e0 1 []) (fun i (s : Tr.Tree × List Ho × Bool) => ([.lst s.2.2 (s.2.1.map Hv), .int .i64 (i : Int)], [.var (Tb s.1)])) ac (fun s a => gd s a.ac)
    (fun s => (.exit 0, [.lst s.2.2 (s.2.1.map Hv)], [.var (Tb s.1)])) (fun _ s => WFt s.1 ∧ InvH s.1 s.2.1)
    (fun i hi s hs => by
      obtain ⟨w, hv⟩ := hs
      obtain ⟨t, m, f⟩ := s
      obtain ⟨a, hae⟩ : ∃ a, a = ac[i] := ⟨_, rfl⟩
      rw [← hae]
      simp only at w hv
      have hml : m.length ≤ 1000 := by have := hv.len; omega
      have h22 := s22 (n := n) (by omega) t w m hml f a
      obtain ⟨g', h21⟩ := s21 (n := n) (by omega) t w m hv.srt hml f a
      have h14 := s14 (n := n) (by omega) a
      have h15 := s15 (n := n) (by omega) a
      have hod := own_done (ok := okN) w.wf.srt hv a.ac
      have wo := w.ownP ord_sLess m a.ac
      have wd := w.doneP ord_sLess m a.ac
      have vd := hv.doneP ord_sLess w a.ac
      unfold gd
      refine ⟨⟨wd, vd⟩, ?_⟩
      simp only
      generalize doneP okN t m a.ac = z at *
      generalize ownP okN t m a.ac = y at *
      generalize doneG t m f a.ac = f' at *
      obtain ⟨v, o, err⟩ := z
      obtain ⟨u, o', err'⟩ := y
      obtain ⟨hod1, hod2⟩ := hod
      simp only [Prod.mk.injEq] at hod1 hod2 wo wd vd
      obtain ⟨rfl, rfl⟩ := hod1
      have hol : o'.length ≤ 1000 := by have := vd.len; omega
      have h19 := s19 (n := n) (by omega) u v (wbt wo) (wbt wd)
      rw [sameT_teq hod2] at h19
      have h16 := s16 (n := n) (by omega) o' o' g' f' hol hol
      have h17 := s17 (n := n) (by omega) o' hol f' (whoA a.ac) (handA a.ac)
      have h23 := s23 (n := n) (by omega) o' hol f' (whoA a.ac) (handA a.ac)
      generalize inoP o' (whoA a.ac) (handA a.ac) = q at *
      generalize whoA a.ac = c at *
      generalize handA a.ac = k at *
      simp only [Tv, Av, decide_true] at h22 h21 h14 h15 h19 h16
      simp -implicitDefEqProofs (disch := omega) [wrap_of, ilt_t, ilt_f, ile_t, ile_f, nlt_t, nlt_f, nle_t, nle_f, ieq_t, ieq_f, imin_l, imin_r, imax_l, imax_r, take_app1, take_map_all, round_eq, b4_1, h1, h12, hi, ← hae, h21, h22, h14, h15, h17, h23, a19, h19, a16, h16])
    (fun s hs => by simp -implicitDefEqProofs (disch := omega) [wrap_of, ilt_t, ilt_f, ile_t, ile_f, nlt_t, nlt_f, nle_t, nle_f, ieq_t, ieq_f, imin_l, imin_r, imax_l, imax_r, take_app1, take_map_all, round_eq, b4_1, h1]) s ⟨w, hv⟩
  rw [List.foldl_map]
  simpa using this
theorem l4b {Γ : Tab} (o : List Int) (ho : o.length ≤ 1000000) (X : AH) (hX : X.all plainB = true) (L : Nat) (hL : X.length = L) (e0 : Env) (h25 : e0 25 = .lst false (o.map I)) (h26 : e0 26 = .lst false (o.map I)) :
    iter (round Γ [27] [(.exit 2, []), (.ret, [10])] c4_2 e0 L []) ([.int .i64 0], X) = some (.exit 2, [], X) := by
  subst hL
  exact for_list (f := round Γ [27] [(.exit 2, []), (.ret, [10])] c4_2 e0 X.length []) (fun i (_ : Unit) => ([.int .i64 (i : Int)], X)) o (fun _ _ => ()) (fun _ => (.exit 2, [], X)) (fun _ _ => True)
    (fun i hi s hs => by
      obtain ⟨x, hx⟩ : ∃ x, x = o[i] := ⟨_, rfl⟩
      refine ⟨trivial, ?_⟩
      simp -implicitDefEqProofs (disch := omega) [wrap_of, ilt_t, ilt_f, ile_t, ile_f, nlt_t, nlt_f, nle_t, nle_f, ieq_t, ieq_f, imin_l, imin_r, imax_l, imax_r, take_app1, take_map_all, round_eq, b4_2, h25, h26, hi, ← hx, normH_plain _ _ X _ hX])
    (fun s hs => by simp -implicitDefEqProofs (disch := omega) [wrap_of, ilt_t, ilt_f, ile_t, ile_f, nlt_t, nlt_f, nle_t, nle_f, ieq_t, ieq_f, imin_l, imin_r, imax_l, imax_r, take_app1, take_map_all, round_eq, b4_2, h25, normH_plain _ _ X _ hX]) () trivial
/-- HoldTells -/
theorem lp4 (l : List Sd) (hl : l.length ≤ 9223372036854775807) (hd : ∀ s ∈ l, s.data.length ≤ 9223372036854775807) (f : Bool) (ac : List Ad) (ha : ac.length ≤ 9223372036854775807) (g : Bool) (raw : List Ho) (hr : raw.length ≤ 9223372036854775807) (fr : Bool) (c k : Int) :
    runP (C08.tab 88) c4 [.lst f (l.map Sv), .lst g (ac.map Av), .lst fr (raw.map Hv), I c, I k] = some (.bool true) := by
  rw [runP_eq, runH_eq]
  have h9 := s9 (n := 88) (by decide)
  have h10 := s10 (n := 88) (by decide) l hl hd f ac ha g
  cases hg : (greatT l || decide (80 < ac.length)) with
  | true =>
    rw [hg] at h10
    simp -implicitDefEqProofs (disch := omega) [wrap_of, ilt_t, ilt_f, ile_t, ile_f, nlt_t, nlt_f, nle_t, nle_f, ieq_t, ieq_f, imin_l, imin_r, imax_l, imax_r, take_app1, take_map_all, c4, a9, h9, a10, h10]
  | false =>
    rw [hg] at h10
    by_cases hrl : 100 < raw.length
    · simp -implicitDefEqProofs (disch := omega) [wrap_of, ilt_t, ilt_f, ile_t, ile_f, nlt_t, nlt_f, nle_t, nle_f, ieq_t, ieq_f, imin_l, imin_r, imax_l, imax_r, take_app1, take_map_all, c4, a9, h9, a10, h10, hrl]
    · have hg1 : l.length ≤ 60 ∧ ac.length ≤ 80 := by
        unfold greatT at hg
        simp at hg
        exact ⟨hg.1.1, hg.2⟩
      have h20 := s20 (n := 88) (by decide) l (by omega) hd f
      obtain ⟨w, hv⟩ := start_inv (WF.made ord_sLess (l.map Sd.st) : WFt _)
      generalize swept (Tr.made okN sLess (l.map Sd.st)) [] = t at *
      have h4 := l4 (n := 88) (by decide) ac (by omega) g (t, [], true) w hv
      have e := gd_made t (ac.map Ad.ac) true
      have hm := made_inv ord_sLess (ac.map Ad.ac) w hv
      have e' : madeH okN t (ac.map Ad.ac) = (ac.map Ad.ac).foldl (fun s a => ((Tr.doneP okN s.1 s.2 a).1, (Tr.doneP okN s.1 s.2 a).2.1)) (t, []) := rfl
      rw [← e', ← e.1, ← e.2] at hm
      clear e e'
      generalize (ac.map Ad.ac).foldl gd (t, [], true) = r at *
      obtain ⟨u, m, f'⟩ := r
      obtain ⟨wu, hu⟩ := hm
      simp only at wu hu h4
      have hml : m.length ≤ 1000 := by have := hu.len; omega
      have h24 := s24 (n := 88) (by decide) u (wbt wu).len
      have h25 := s25 (n := 88) (by decide) u (wbt wu).len
      have hol : (orphs u).length ≤ 1000000 := Nat.le_trans (Nat.le_trans (orphs_len u) (wbt wu).len) (by omega)
      have h4b := l4b (Γ := C08.tab 88) (orphs u) hol [.var (Tb u)] rfl 1 rfl
      have h17 := s17 (n := 88) (by decide) raw (by omega) fr c k
      have h23 := s23 (n := 88) (by decide) raw (by omega) fr c k
      have h26a := s26 (n := 88) (by decide) u wu.wf.srt (wbt wu).len raw (by omega) fr
      have h27a := s27 (n := 88) (by decide) u (wbt wu) raw (by omega) fr
      have h26b := s26 (n := 88) (by decide) u wu.wf.srt (wbt wu).len m hml f'
      have h27b := s27 (n := 88) (by decide) u (wbt wu) m hml f'
      generalize rightH u raw = q1 at *
      generalize rightH u m = q2 at *
      generalize inoP raw c k = q3 at *
      generalize orphs u = o at *
      simp only [Tv, List.map_nil] at h20 h24 h25 h26a h27a h26b h27b h4
      simp -implicitDefEqProofs (disch := omega) [wrap_of, ilt_t, ilt_f, ile_t, ile_f, nlt_t, nlt_f, nle_t, nle_f, ieq_t, ieq_f, imin_l, imin_r, imax_l, imax_r, take_app1, take_map_all, c4, a9, h9, a10, h10, hrl, a20, h20]
      rw [h4 _ (by simp -implicitDefEqProofs (disch := omega) [wrap_of, ilt_t, ilt_f, ile_t, ile_f, nlt_t, nlt_f, nle_t, nle_f, ieq_t, ieq_f, imin_l, imin_r, imax_l, imax_r, take_app1, take_map_all, ]) (by simp -implicitDefEqProofs (disch := omega) [wrap_of, ilt_t, ilt_f, ile_t, ile_f, nlt_t, nlt_f, nle_t, nle_f, ieq_t, ieq_f, imin_l, imin_r, imax_l, imax_r, take_app1, take_map_all, ])]
      simp -implicitDefEqProofs (disch := omega) [wrap_of, ilt_t, ilt_f, ile_t, ile_f, nlt_t, nlt_f, nle_t, nle_f, ieq_t, ieq_f, imin_l, imin_r, imax_l, imax_r, take_app1, take_map_all, a24, h24, a25, h25]
      rw [h4b _ (by simp -implicitDefEqProofs (disch := omega) [wrap_of, ilt_t, ilt_f, ile_t, ile_f, nlt_t, nlt_f, nle_t, nle_f, ieq_t, ieq_f, imin_l, imin_r, imax_l, imax_r, take_app1, take_map_all, ]) (by simp -implicitDefEqProofs (disch := omega) [wrap_of, ilt_t, ilt_f, ile_t, ile_f, nlt_t, nlt_f, nle_t, nle_f, ieq_t, ieq_f, imin_l, imin_r, imax_l, imax_r, take_app1, take_map_all, ])]
      simp -implicitDefEqProofs (disch := omega) [wrap_of, ilt_t, ilt_f, ile_t, ile_f, nlt_t, nlt_f, nle_t, nle_f, ieq_t, ieq_f, imin_l, imin_r, imax_l, imax_r, take_app1, take_map_all, a17, h17, a23, h23, h26a, h27a, h26b, h27b]
end Go.Proofs.Ytdnoopjpkcmpjaa
