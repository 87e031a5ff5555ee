import Derived.Test.YtdnoopjpkcmpjaaP08b
import Derived.Test.YtdnoopjpkcmpjaaHoG
set_option linter.unusedSimpArgs false
set_option linter.unusedVariables false
namespace Go.Proofs.Ytdnoopjpkcmpjaa
open Go.Am Go.Tr

theorem l7a {n : Nat} (hn : 29 < n) (m : List Ho) (hm : m.length ≤ 64) (hms : SrtH m) (f : Bool) (c : Int) (zt zu : Tr.Tree) (s : Tr.Tree × List Ho × Bool) (hs : Srt s.1.nodes) (hb : Bt s.1) (hsl : s.2.1.length ≤ 64) (hss : SrtH s.2.1) (hin : ∀ x ∈ m, x ∈ s.2.1) (e0 : Env) (h9 : e0 9 = .lst f (m.map Hv)) (h10 : e0 10 = I c) (h13 : e0 13 = .ptr 2 0 0 0) :
    iter (round (C08.tab n) [14, 16] [(.exit 0, [14]), (.ret, [6])] c7_1 e0 4 []) ([.lst s.2.2 (s.2.1.map Hv), .int .i64 ((m.length : Int) - 1)], [.var (Tb zt), .var (Tb zu), .var (Tb s.1), .row 0 3 []]) =
      some (.exit 0, [.lst (m.reverse.foldl (gi c) s).2.2 ((m.reverse.foldl (gi c) s).2.1.map Hv)], [.var (Tb zt), .var (Tb zu), .var (Tb (m.reverse.foldl (gi c) s).1), .row 0 3 []]) := by
  have := for_list (f := round (C08.tab n) [14, 16] [(.exit 0, [14]), (.ret, [6])] c7_1 e0 4 []) (fun i (s : Tr.Tree × List Ho × Bool) => ([.lst s.2.2 (s.2.1.map Hv), .int .i64 ((m.length : Int) - 1 - (i : Int))], [.var (Tb zt), .var (Tb zu), .var (Tb s.1), .row 0 3 []])) m.reverse (gi c)
    (fun s => (.exit 0, [.lst s.2.2 (s.2.1.map Hv)], [.var (Tb zt), .var (Tb zu), .var (Tb s.1), .row 0 3 []])) (fun k s => Srt s.1.nodes ∧ Bt s.1 ∧ s.2.1.length ≤ 64 ∧ SrtH s.2.1 ∧ ∀ j (hj : j < m.length), j + k < m.length → m[j] ∈ s.2.1)
    (fun k hk s hs => by
      obtain ⟨hs, hb, hsl, hss, hin⟩ := hs
      obtain ⟨t, o, g⟩ := s
      rw [List.length_reverse] at hk
      rw [List.getElem_reverse]
      obtain ⟨j, hj⟩ : ∃ j, j = m.length - 1 - k := ⟨_, rfl⟩
      have hjl : j < m.length := by omega
      have hji : (m.length : Int) - 1 - (k : Int) = (j : Int) := by omega
      obtain ⟨x, hx⟩ : ∃ x, x = m[j] := ⟨_, rfl⟩
      have hx' : m[m.length - 1 - k] = x := by rw [hx]; congr 1; exact hj.symm
      rw [hx']
      simp only at hs hb hsl hss hin
      have h18 := s18 (n := n) hn t hs hb.len o (by omega) g c x.h
      have hok := close_ok (t := t) (hin j hjl (by omega))
      have hnx : (m.length : Int) - 1 - ((k + 1 : Nat) : Int) = (j : Int) - 1 := by omega
      rw [hji, hnx]
      rw [← hx] at hok
      unfold gi gf
      by_cases c1 : x.c = c
      · rw [if_pos c1]
        rw [c1] at hok
        refine ⟨⟨closeP_srt hs _ _ _, closeP_bt hb _ _ _, Nat.le_trans (closeP_len _ _ _ _) hsl, ?_, fun i hi hik => ?_⟩, ?_⟩
        · show SrtH (closeP t o c x.h).2.1
          rw [closeP_list hss]
          exact hss.filter _
        · refine close_stay hss (hin i hi (by omega)) ?_
          have := key_ne hms (i := i) (j := j) (by omega) hjl
          rw [← hx, c1] at this
          exact this
        · generalize closeP t o c x.h = r at *
          obtain ⟨u, p, e⟩ := r
          simp only at hok
          subst hok
          simp only [Tv] at h18 ⊢
          simp -implicitDefEqProofs (disch := omega) [wrap_of, ilt_t, ilt_f, ile_t, ile_f, nlt_t, nlt_f, nle_t, nle_f, ieq_t, ieq_f, imin_l, imin_r, imax_l, imax_r, take_app1, take_map_all, round_eq, b7_1, h9, h10, h13, hjl, ← hx, c1, h18]
      · rw [if_neg c1]
        refine ⟨⟨hs, hb, hsl, hss, fun i hi hik => hin i hi (by omega)⟩, ?_⟩
        simp -implicitDefEqProofs (disch := omega) [wrap_of, ilt_t, ilt_f, ile_t, ile_f, nlt_t, nlt_f, nle_t, nle_f, ieq_t, ieq_f, imin_l, imin_r, imax_l, imax_r, take_app1, take_map_all, round_eq, b7_1, h9, h10, h13, hjl, ← hx, c1])
    (fun s hs => by
      rw [List.length_reverse]
      have e : (m.length : Int) - 1 - (m.length : Int) = -1 := by omega
      rw [e]
      simp -implicitDefEqProofs (disch := omega) [wrap_of, ilt_t, ilt_f, ile_t, ile_f, nlt_t, nlt_f, nle_t, nle_f, ieq_t, ieq_f, imin_l, imin_r, imax_l, imax_r, take_app1, take_map_all, round_eq, b7_1]) s ⟨hs, hb, hsl, hss, fun j hj _ => hin _ (List.getElem_mem hj)⟩
  simpa using this
def ng (c : Int) (a : List Ho) (x : Ho) : List Ho := if x.c = c then a else a ++ [x]
theorem ng_fold (c : Int) (l : List Ho) : ∀ a, l.foldl (ng c) a = a ++ l.filter fun x => !decide (x.c = c) := by
  induction l with
  | nil => intro a; simp
  | cons x l ih =>
    intro a
    rw [List.foldl_cons, ih, List.filter_cons]
    unfold ng
    by_cases h : x.c = c <;> simp [h]
theorem l7b {Γ : Tab} (m : List Ho) (hm : m.length ≤ 64) (f : Bool) (c : Int) (za zb zc : Tr.Tree) (e0 : Env) (h9 : e0 9 = .lst f (m.map Hv)) (h10 : e0 10 = I c) :
    iter (round Γ [15, 20] [(.exit 2, [15])] c7_2 e0 4 [3]) ([.own 3 0 0 0, .int .i64 0], [.var (Tb za), .var (Tb zb), .var (Tb zc), .row 0 3 []]) =
      some (.exit 2, [.own 3 0 0 (m.filter fun x => !decide (x.c = c)).length], [.var (Tb za), .var (Tb zb), .var (Tb zc), .row 0 3 ((m.filter fun x => !decide (x.c = c)).map Hv)]) := by
  have := for_list (f := round Γ [15, 20] [(.exit 2, [15])] c7_2 e0 4 [3]) (fun i (a : List Ho) => ([.own 3 0 0 a.length, .int .i64 (i : Int)], [.var (Tb za), .var (Tb zb), .var (Tb zc), .row 0 3 (a.map Hv)])) m (ng c)
    (fun a => (.exit 2, [.own 3 0 0 a.length], [.var (Tb za), .var (Tb zb), .var (Tb zc), .row 0 3 (a.map Hv)])) (fun i a => a.length ≤ i)
    (fun i hi a ha => by
      obtain ⟨x, hx⟩ : ∃ x, x = m[i] := ⟨_, rfl⟩
      rw [← hx]
      unfold ng
      by_cases c1 : x.c = c
      · rw [if_pos c1]
        refine ⟨by omega, ?_⟩
        simp -implicitDefEqProofs (disch := omega) [wrap_of, ilt_t, ilt_f, ile_t, ile_f, nlt_t, nlt_f, nle_t, nle_f, ieq_t, ieq_f, imin_l, imin_r, imax_l, imax_r, take_app1, take_map_all, round_eq, b7_2, h9, h10, hi, ← hx, c1]
      · rw [if_neg c1]
        refine ⟨by simp; omega, ?_⟩
        simp -implicitDefEqProofs (disch := omega) [wrap_of, ilt_t, ilt_f, ile_t, ile_f, nlt_t, nlt_f, nle_t, nle_f, ieq_t, ieq_f, imin_l, imin_r, imax_l, imax_r, take_app1, take_map_all, round_eq, b7_2, h9, h10, hi, ← hx, c1])
    (fun a ha => by simp -implicitDefEqProofs (disch := omega) [wrap_of, ilt_t, ilt_f, ile_t, ile_f, nlt_t, nlt_f, nle_t, nle_f, ieq_t, ieq_f, imin_l, imin_r, imax_l, imax_r, take_app1, take_map_all, round_eq, b7_2, h9]) [] (by simp)
  rw [ng_fold, List.nil_append] at this
  simpa using this
/-- HoldGone -/
theorem lp7 (l : List Sd) (hl : l.length ≤ 9223372036854775807) (hd : ∀ s ∈ l, s.data.length ≤ 9223372036854775807) (f : Bool) (ac : List Ad) (ha : ac.length ≤ 9223372036854775807) (g : Bool) (b : UInt8) :
    runP (C08.tab 95) c7 [.lst f (l.map Sv), .lst g (ac.map Av), .int .u8 b.toNat] = some (.bool true) := by
  rw [runP_eq, runH_eq]
  have h9 := s9 (n := 95) (by decide)
  have h10 := s10 (n := 95) (by decide) l hl hd f ac ha g
  cases hg : (greatT l || decide (80 < ac.length)) with
  | true =>
    rw [hg] at h10
    simp -implicitDefEqProofs (disch := omega) [wrap_of, ilt_t, ilt_f, ile_t, ile_f, nlt_t, nlt_f, nle_t, nle_f, ieq_t, ieq_f, imin_l, imin_r, imax_l, imax_r, take_app1, take_map_all, c7, a9, h9, a10, h10]
  | false =>
    rw [hg] at h10
    have hg1 : l.length ≤ 60 ∧ ac.length ≤ 80 := by
      unfold greatT at hg
      simp at hg
      exact ⟨hg.1.1, hg.2⟩
    obtain ⟨f', h11⟩ := s11 (n := 95) (by decide) l (by omega) hd f ac (by omega) g
    obtain ⟨w, hv⟩ := madeH_inv ord_sLess (WF.made ord_sLess (l.map Sd.st) : WFt _) (ac.map Ad.ac)
    generalize madeH okN (swept (Tr.made okN sLess (l.map Sd.st)) []) (ac.map Ad.ac) = r at *
    obtain ⟨t, m⟩ := r
    simp only at w hv h11
    have hb := wbt w
    have hml := hv.len
    have hcc : (b.toNat : Int).tmod 17 = ((b.toNat % 17 : Nat) : Int) := rfl
    have hbl := u8lt b
    obtain ⟨c, hc⟩ : ∃ c : Int, c = ((b.toNat % 17 : Nat) : Int) := ⟨_, rfl⟩
    rw [← hc] at hcc
    obtain ⟨g', h32⟩ := s32 (n := 95) (by decide) t w.wf.srt hb m (by omega) f' c
    obtain ⟨ga1, ga2⟩ := gone_any w.wf.srt hv c (own_ m c) (fun x hx hxc => by rw [← hxc]; exact own_contains hx)
    have wu := WF.gone (ok := okN) (lt := sLess) c (own_ m c) m w
    have h7a := fun u => l7a (n := 95) (by decide) m hml hv.srt f' c t u (t, m, f') w.wf.srt hb hml hv.srt (fun x hx => hx)
    have eg := gf_fold c (own_ m.reverse c) (t, m, f')
    rw [← gi_fold] at eg
    obtain ⟨gb1, gb2⟩ := gone_any w.wf.srt hv c (own_ m.reverse c) (own_rev c)
    have wv := WF.gone (ok := okN) (lt := sLess) c (own_ m.reverse c) m w
    simp only at eg
    rw [← eg] at gb1 gb2 wv
    generalize m.reverse.foldl (gi c) (t, m, f') = r at *
    obtain ⟨v, o, go⟩ := r
    simp only at gb1 gb2 wv h7a
    rw [ga1] at h32
    generalize (goneL c (own_ m c) t m).1 = u at *
    have h7b := fun Γ => l7b (Γ := Γ) m hml f' c t u v
    have hfl : (m.filter fun x => !decide (x.c = c)).length ≤ 1000 := Nat.le_trans (List.length_filter_le ..) (by omega)
    generalize (m.filter fun x => !decide (x.c = c)) = p at *
    subst gb1
    have h16a := s16 (n := 95) (by decide) o o g' false hfl hfl
    have h16b := s16 (n := 95) (by decide) o o go g' hfl hfl
    have h19 := s19 (n := 95) (by decide) u v (wbt wu) (wbt wv)
    rw [sameT_teq (ga2.trans gb2.symm)] at h19
    simp only [Tv, Av, decide_true, List.map_nil] at h11 h32 h19 h16a h16b h7a h7b
    simp -implicitDefEqProofs (disch := omega) [wrap_of, ilt_t, ilt_f, ile_t, ile_f, nlt_t, nlt_f, nle_t, nle_f, ieq_t, ieq_f, imin_l, imin_r, imax_l, imax_r, take_app1, take_map_all, c7, a9, h9, a10, h10, a11, h11, hcc, a32, h32]
    rw [h7a u _ (by simp -implicitDefEqProofs (disch := omega) [wrap_of, ilt_t, ilt_f, ile_t, ile_f, nlt_t, nlt_f, nle_t, nle_f, ieq_t, ieq_f, imin_l, imin_r, imax_l, imax_r, take_app1, take_map_all, ]) (by simp -implicitDefEqProofs (disch := omega) [wrap_of, ilt_t, ilt_f, ile_t, ile_f, nlt_t, nlt_f, nle_t, nle_f, ieq_t, ieq_f, imin_l, imin_r, imax_l, imax_r, take_app1, take_map_all, ]) (by simp -implicitDefEqProofs (disch := omega) [wrap_of, ilt_t, ilt_f, ile_t, ile_f, nlt_t, nlt_f, nle_t, nle_f, ieq_t, ieq_f, imin_l, imin_r, imax_l, imax_r, take_app1, take_map_all, ])]
    simp -implicitDefEqProofs (disch := omega) [wrap_of, ilt_t, ilt_f, ile_t, ile_f, nlt_t, nlt_f, nle_t, nle_f, ieq_t, ieq_f, imin_l, imin_r, imax_l, imax_r, take_app1, take_map_all, ]
    rw [h7b _ _ (by simp -implicitDefEqProofs (disch := omega) [wrap_of, ilt_t, ilt_f, ile_t, ile_f, nlt_t, nlt_f, nle_t, nle_f, ieq_t, ieq_f, imin_l, imin_r, imax_l, imax_r, take_app1, take_map_all, ]) (by simp -implicitDefEqProofs (disch := omega) [wrap_of, ilt_t, ilt_f, ile_t, ile_f, nlt_t, nlt_f, nle_t, nle_f, ieq_t, ieq_f, imin_l, imin_r, imax_l, imax_r, take_app1, take_map_all, ])]
    simp -implicitDefEqProofs (disch := omega) [wrap_of, ilt_t, ilt_f, ile_t, ile_f, nlt_t, nlt_f, nle_t, nle_f, ieq_t, ieq_f, imin_l, imin_r, imax_l, imax_r, take_app1, take_map_all, a16, h16a, h16b, a19, h19]
end Go.Proofs.Ytdnoopjpkcmpjaa
