import Derived.Test.YtdnoopjpkcmpjaaP08c
set_option linter.unusedSimpArgs false
set_option linter.unusedVariables false
namespace Go.Proofs.Ytdnoopjpkcmpjaa
open Go.Am Go.Tr

theorem l8a {n : Nat} (hn : 55 < n) (t : Tr.Tree) (hb : Bt t) (hs : Srt t.nodes) (m : List Ho) (hm : m.length ≤ 64) (ho : ∀ q ∈ t.nodes, orph q = true → hld m q.ino = true) (f : Bool) (e0 : Env) (h6 : e0 6 = .ptr 0 0 0 0) (h7 : e0 7 = .lst f (m.map Hv)) (h8 : e0 8 = .lst false ((orphs t).map I)) :
    iter (round (C08.tab n) [9] [(.exit 0, []), (.ret, [4])] c8_1 e0 1 []) ([.int .i64 0], [.var (Tb t)]) = some (.exit 0, [], [.var (Tb t)]) := by
  have hol : (orphs t).length ≤ 1000 := Nat.le_trans (orphs_len t) hb.len
  have := for_list (f := round (C08.tab n) [9] [(.exit 0, []), (.ret, [4])] c8_1 e0 1 []) (fun i (_ : Unit) => ([.int .i64 (i : Int)], [.var (Tb t)])) (orphs t) (fun _ _ => ()) (fun _ => (.exit 0, [], [.var (Tb t)])) (fun _ _ => True)
    (fun i hi s _ => by
      obtain ⟨x, hx⟩ : ∃ x, x = (orphs t)[i] := ⟨_, rfl⟩
      obtain ⟨q, hq, hk, hlk, hqm, hqo, hqi⟩ := orphs_is hs (i := x) (by rw [hx]; exact List.getElem_mem hi)
      have hh := ho q hqm hqo
      rw [hqi] at hh
      have h29 := s29 (n := n) (by omega) t hb x
      have h30 := s30 (n := n) (by omega) m (by omega) f x
      have hz := cntH_hld m x
      have hz' : ¬ ((cntH m x : Nat) : Int) = 0 := fun h => by rw [hz.1 h] at hh; cases hh
      generalize ((cntH m x : Nat) : Int) = cz at *
      unfold getV at h29
      rw [hq] at h29
      simp only [Tv, Nd, Option.elim_some, hk, hlk] at h29
      have hsr := orphs_srt hs
      refine ⟨trivial, ?_⟩
      rcases Nat.eq_zero_or_pos i with c2 | c2
      · subst c2
        generalize orphs t = o at *
        simp -implicitDefEqProofs (disch := omega) [wrap_of, ilt_t, ilt_f, ile_t, ile_f, nlt_t, nlt_f, nle_t, nle_f, ieq_t, ieq_f, imin_l, imin_r, imax_l, imax_r, take_app1, take_map_all, round_eq, b8_1, h6, h7, h8, hi, ← hx, h29, h30, hz']
      · obtain ⟨j, rfl⟩ : ∃ j, i = j + 1 := ⟨i - 1, by omega⟩
        have hj : j < (orphs t).length := by omega
        have hlt := (List.pairwise_iff_getElem.1 hsr) j (j + 1) hj hi (by omega)
        obtain ⟨y, hy⟩ : ∃ y, y = (orphs t)[j] := ⟨_, rfl⟩
        rw [← hx, ← hy] at hlt
        have hle : ¬ x ≤ y := by omega
        generalize orphs t = o at *
        simp -implicitDefEqProofs (disch := omega) [wrap_of, ilt_t, ilt_f, ile_t, ile_f, nlt_t, nlt_f, nle_t, nle_f, ieq_t, ieq_f, imin_l, imin_r, imax_l, imax_r, take_app1, take_map_all, round_eq, b8_1, h6, h7, h8, hi, ← hx, h29, h30, hz', hj, ← hy, hle])
    (fun s _ => by
      generalize orphs t = o at *
      simp -implicitDefEqProofs (disch := omega) [wrap_of, ilt_t, ilt_f, ile_t, ile_f, nlt_t, nlt_f, nle_t, nle_f, ieq_t, ieq_f, imin_l, imin_r, imax_l, imax_r, take_app1, take_map_all, round_eq, b8_1, h8]) () trivial
  simpa using this
def gk (s : Tr.Tree × List Ho × Bool) (k : Nat) : Tr.Tree × List Ho × Bool := (own_ s.2.1 (k : Int)).foldl (gf (k : Int)) s
theorem gk_gone (s : Tr.Tree × List Ho × Bool) (k : Nat) : (gk s k).1 = (goneL k (own_ s.2.1 k) s.1 s.2.1).1 ∧ (gk s k).2.1 = (goneL k (own_ s.2.1 k) s.1 s.2.1).2 := by
  have h := gf_fold (k : Int) (own_ s.2.1 k) s
  exact ⟨congrArg Prod.fst h, congrArg Prod.snd h⟩
def gkI (t : Tr.Tree) (m : List Ho) (k : Nat) (s : Tr.Tree × List Ho × Bool) : Prop := WFt s.1 ∧ InvH s.1 s.2.1 ∧ Teq s.1 (swp t s.2.1) ∧ s.2.1 = m.filter fun x => decide ((k : Int) ≤ x.c)
theorem gkI_step {t : Tr.Tree} (ht : Srt t.nodes) {m : List Ho} {k : Nat} {s : Tr.Tree × List Ho × Bool} (h : gkI t m k s) : gkI t m (k + 1) (gk s k) := by
  obtain ⟨w, hv, he, hl⟩ := h
  obtain ⟨e1, e2⟩ := gk_gone s k
  unfold gkI
  rw [e1, e2]
  obtain ⟨n1, n2⟩ := gone_next ht hv.srt he k hl
  exact ⟨WF.gone _ _ _ w, hv.gone w.wf.srt _ _, n1, n2⟩
theorem l8b {n : Nat} (hn : 84 < n) (t : Tr.Tree) (ht : Srt t.nodes) (m : List Ho) (s : Tr.Tree × List Ho × Bool) (hi : gkI t m 0 s) (e0 : Env) (h12 : e0 12 = .ptr 1 0 0 0) :
    iter (round (C08.tab n) [13, 14] [(.exit 2, [13])] c8_2 e0 2 []) ([.lst s.2.2 (s.2.1.map Hv), .int .i64 0], [.var (Tb t), .var (Tb s.1)]) =
      some (.exit 2, [.lst ((List.range 16).foldl gk s).2.2 (((List.range 16).foldl gk s).2.1.map Hv)], [.var (Tb t), .var (Tb ((List.range 16).foldl gk s).1)]) :=
  for_list (f := round (C08.tab n) [13, 14] [(.exit 2, [13])] c8_2 e0 2 []) (fun i (s : Tr.Tree × List Ho × Bool) => ([.lst s.2.2 (s.2.1.map Hv), .int .i64 (i : Int)], [.var (Tb t), .var (Tb s.1)])) (List.range 16) gk
    (fun s => (.exit 2, [.lst s.2.2 (s.2.1.map Hv)], [.var (Tb t), .var (Tb s.1)])) (gkI t m)
    (fun k hk s hs => by
      have hk : k < 16 := by simpa using hk
      rw [List.getElem_range]
      refine ⟨gkI_step ht hs, ?_⟩
      obtain ⟨w, hv, _, _⟩ := hs
      have h32 := s32x (n := n) hn s.1 w.wf.srt (wbt w) s.2.1 (by have := hv.len; omega) s.2.2 (k : Int)
      have e : gk s k = (own_ s.2.1 (k : Int)).foldl (gf (k : Int)) (s.1, s.2.1, s.2.2) := rfl
      rw [← e] at h32
      generalize gk s k = r at *
      obtain ⟨u, o, g⟩ := r
      obtain ⟨v, p, d⟩ := s
      simp only [Tv] at h32 ⊢
      simp -implicitDefEqProofs (disch := omega) [wrap_of, ilt_t, ilt_f, ile_t, ile_f, nlt_t, nlt_f, nle_t, nle_f, ieq_t, ieq_f, imin_l, imin_r, imax_l, imax_r, take_app1, take_map_all, round_eq, b8_2, h12, hk, a32, h32])
    (fun s hs => by
      obtain ⟨v, p, d⟩ := s
      simp -implicitDefEqProofs (disch := omega) [wrap_of, ilt_t, ilt_f, ile_t, ile_f, nlt_t, nlt_f, nle_t, nle_f, ieq_t, ieq_f, imin_l, imin_r, imax_l, imax_r, take_app1, take_map_all, round_eq, b8_2]) s hi
/-- HoldOrphans -/
theorem lp8 (l : List Sd) (hl : l.length ≤ 9223372036854775807) (hd : ∀ s ∈ l, s.data.length ≤ 9223372036854775807) (f : Bool) (ac : List Ad) (ha : ac.length ≤ 9223372036854775807) (g : Bool) :
    runP (C08.tab 96) c8 [.lst f (l.map Sv), .lst g (ac.map Av)] = some (.bool true) := by
  rw [runP_eq, runH_eq]
  have h9 := s9 (n := 96) (by decide)
  have h10 := s10 (n := 96) (by decide) l hl hd f ac ha g
  cases hg : (greatT l || decide (80 < ac.length)) with
  | true =>
    rw [hg] at h10
    simp -implicitDefEqProofs (disch := omega) [wrap_of, ilt_t, ilt_f, ile_t, ile_f, nlt_t, nlt_f, nle_t, nle_f, ieq_t, ieq_f, imin_l, imin_r, imax_l, imax_r, take_app1, take_map_all, c8, a9, h9, a10, h10]
  | false =>
    rw [hg] at h10
    have hg1 : l.length ≤ 60 ∧ ac.length ≤ 80 := by
      unfold greatT at hg
      simp at hg
      exact ⟨hg.1.1, hg.2⟩
    obtain ⟨f', h11⟩ := s11 (n := 96) (by decide) l (by omega) hd f ac (by omega) g
    obtain ⟨w, hv⟩ := madeH_inv ord_sLess (WF.made ord_sLess (l.map Sd.st) : WFt _) (ac.map Ad.ac)
    generalize madeH okN (swept (Tr.made okN sLess (l.map Sd.st)) []) (ac.map Ad.ac) = r at *
    obtain ⟨t, m⟩ := r
    simp only at w hv h11
    have hb := wbt w
    have hml := hv.len
    have h24 := s24 (n := 96) (by decide) t hb.len
    have h8a := l8a (n := 96) (by decide) t hb w.wf.srt m hml hv.orp f'
    have hkey : ∀ x ∈ m, 0 ≤ x.c ∧ x.c < 16 := fun x hx => by
      have := of_decide_eq_true (hv.key x hx)
      omega
    have hi0 : gkI t m 0 (t, m, f') := ⟨w, hv, teq_self hv.orp, (List.filter_eq_self.2 fun x hx => by have := hkey x hx; exact decide_eq_true (by omega)).symm⟩
    have h8b := l8b (n := 96) (by decide) t w.wf.srt m (t, m, f') hi0
    have hin := fold_inv (List.range 16) gk (gkI t m) 0 (t, m, f') (fun i hi s h => by
      rw [Nat.zero_add] at h ⊢
      rw [List.getElem_range]
      exact gkI_step w.wf.srt h) hi0
    rw [Nat.zero_add, List.length_range] at hin
    generalize (List.range 16).foldl gk (t, m, f') = r at *
    obtain ⟨u, o, go⟩ := r
    obtain ⟨wu, vu, tu, lu⟩ := hin
    simp only at wu vu tu lu h8b
    have ho : o = [] := by
      rw [lu, List.filter_eq_nil_iff]
      intro x hx h
      have h := of_decide_eq_true h
      have := hkey x hx
      omega
    subst ho
    have hno := vu.none wu.wf.srt rfl
    have hou : orphs u = [] := by
      unfold orphs
      rw [List.map_eq_nil_iff, List.filter_eq_nil_iff]
      intro q hq h
      rw [hno q hq] at h
      cases h
    have h24u := s24 (n := 96) (by decide) u (wbt wu).len
    rw [hou] at h24u
    have hlen : (u.nodes.length : Int) = (t.nodes.length : Int) - ((orphs t).length : Int) := by
      have e1 : u.nodes.length = (t.nodes.filter fun q => !orph q).length := by
        rw [tu.1]
        show (t.nodes.filter (keepN [])).length = _
        congr 1
        refine List.filter_congr fun q _ => ?_
        unfold keepN hld
        simp
      have e2 := filter_sum orph t.nodes
      have e3 : (orphs t).length = (t.nodes.filter orph).length := by unfold orphs; rw [List.length_map]
      omega
    have h33 := s33 (n := 96) (by decide) t hb [] (by simp) true
    have h19 := s19 (n := 96) (by decide) u (swept t []) (wbt wu) (wbt (w.swept []))
    rw [sameT_teq (tu.trans (swept_teq w.wf.srt []).symm)] at h19
    have htl := hb.len
    have hul := (wbt wu).len
    have hol : (orphs t).length ≤ 1000 := Nat.le_trans (orphs_len t) hb.len
    generalize swept t [] = v at *
    generalize orphs t = oo at *
    simp only [Tv, Av, List.map_nil] at h11 h24 h24u h19 h33 h8b
    simp -implicitDefEqProofs (disch := omega) [wrap_of, ilt_t, ilt_f, ile_t, ile_f, nlt_t, nlt_f, nle_t, nle_f, ieq_t, ieq_f, imin_l, imin_r, imax_l, imax_r, take_app1, take_map_all, c8, a9, h9, a10, h10, a11, h11, a24, h24]
    rw [h8a _ (by simp -implicitDefEqProofs (disch := omega) [wrap_of, ilt_t, ilt_f, ile_t, ile_f, nlt_t, nlt_f, nle_t, nle_f, ieq_t, ieq_f, imin_l, imin_r, imax_l, imax_r, take_app1, take_map_all, ]) (by simp -implicitDefEqProofs (disch := omega) [wrap_of, ilt_t, ilt_f, ile_t, ile_f, nlt_t, nlt_f, nle_t, nle_f, ieq_t, ieq_f, imin_l, imin_r, imax_l, imax_r, take_app1, take_map_all, ]) (by simp -implicitDefEqProofs (disch := omega) [wrap_of, ilt_t, ilt_f, ile_t, ile_f, nlt_t, nlt_f, nle_t, nle_f, ieq_t, ieq_f, imin_l, imin_r, imax_l, imax_r, take_app1, take_map_all, ])]
    simp -implicitDefEqProofs (disch := omega) [wrap_of, ilt_t, ilt_f, ile_t, ile_f, nlt_t, nlt_f, nle_t, nle_f, ieq_t, ieq_f, imin_l, imin_r, imax_l, imax_r, take_app1, take_map_all, ]
    rw [h8b _ (by simp -implicitDefEqProofs (disch := omega) [wrap_of, ilt_t, ilt_f, ile_t, ile_f, nlt_t, nlt_f, nle_t, nle_f, ieq_t, ieq_f, imin_l, imin_r, imax_l, imax_r, take_app1, take_map_all, ])]
    simp -implicitDefEqProofs (disch := omega) [wrap_of, ilt_t, ilt_f, ile_t, ile_f, nlt_t, nlt_f, nle_t, nle_f, ieq_t, ieq_f, imin_l, imin_r, imax_l, imax_r, take_app1, take_map_all, h24u, h33, h19, hlen]
end Go.Proofs.Ytdnoopjpkcmpjaa
