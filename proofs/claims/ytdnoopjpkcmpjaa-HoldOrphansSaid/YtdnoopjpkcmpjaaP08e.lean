import Derived.Test.YtdnoopjpkcmpjaaP08d
import Derived.Test.YtdnoopjpkcmpjaaT08GP
set_option linter.unusedSimpArgs false
set_option linter.unusedVariables false
namespace Go.Proofs.Ytdnoopjpkcmpjaa
open Go.Am Go.Tr

/-- HoldRight -/
theorem lp5 (l : List Sd) (hl : l.length ≤ 9223372036854775807) (hd : ∀ s ∈ l, s.data.length ≤ 9223372036854775807) (f : Bool) (ac : List Ad) (ha : ac.length ≤ 9223372036854775807) (g : Bool) (a : Ad) :
    runP (C08.tab 93) c5 [.lst f (l.map Sv), .lst g (ac.map Av), Av a] = some (.bool true) := by
  rw [runP_eq, runH_eq]
  have h9 := s9 (n := 93) (by decide)
  have h10 := s10 (n := 93) (by decide) l hl hd f ac ha g
  cases hg : (greatT l || decide (80 < ac.length)) with
  | true =>
    rw [hg] at h10
    simp -implicitDefEqProofs (disch := omega) [wrap_of, ilt_t, ilt_f, ile_t, ile_f, nlt_t, nlt_f, nle_t, nle_f, ieq_t, ieq_f, imin_l, imin_r, imax_l, imax_r, take_app1, take_map_all, c5, a9, h9, a10, h10]
  | false =>
    rw [hg] at h10
    have hg1 : l.length ≤ 60 ∧ ac.length ≤ 80 := by
      unfold greatT at hg
      simp at hg
      exact ⟨hg.1.1, hg.2⟩
    obtain ⟨f', h11⟩ := s11 (n := 93) (by decide) l (by omega) hd f ac (by omega) g
    obtain ⟨w, hv⟩ := madeH_inv ord_sLess (WF.made ord_sLess (l.map Sd.st) : WFt _) (ac.map Ad.ac)
    generalize madeH okN (swept (Tr.made okN sLess (l.map Sd.st)) []) (ac.map Ad.ac) = r at *
    obtain ⟨t, m⟩ := r
    simp only at w hv h11
    have hb := wbt w
    have hml : m.length ≤ 1000 := by have := hv.len; omega
    obtain ⟨g', h21⟩ := s21 (n := 93) (by decide) t w m hv.srt hml f' a
    have wo := w.ownP ord_sLess m a.ac
    have vo := hv.ownP ord_sLess w a.ac
    have hrf := own_refused (ok := okN) (t := t) (l := m) (a := a.ac)
    generalize ownP okN t m a.ac = z at *
    obtain ⟨u, o, e⟩ := z
    simp only at wo vo h21 hrf
    have hol : o.length ≤ 1000 := by have := vo.len; omega
    have h26a := s26 (n := 93) (by decide) t w.wf.srt hb.len m hml f'
    have h26b := s26 (n := 93) (by decide) u wo.wf.srt (wbt wo).len o hol g'
    rw [rightH_of w.wf.srt hv] at h26a
    rw [rightH_of wo.wf.srt vo] at h26b
    have h28 := s28 (n := 93) (by decide) u wo
    simp only [Tv, Av] at h11 h21 h26a h26b h28
    by_cases he : e = 0
    · simp -implicitDefEqProofs (disch := omega) [wrap_of, ilt_t, ilt_f, ile_t, ile_f, nlt_t, nlt_f, nle_t, nle_f, ieq_t, ieq_f, imin_l, imin_r, imax_l, imax_r, take_app1, take_map_all, c5, a9, h9, a10, h10, a11, h11, a21, h21, a26, h26a, h26b, a28, h28, he]
    · obtain ⟨rfl, rfl⟩ := hrf he
      have h19 := s19 (n := 93) (by decide) u u (wbt wo) (wbt wo)
      rw [sameT_teq Teq.rfl'] at h19
      have h16 := s16 (n := 93) (by decide) o o f' g' hol hol
      simp only [Tv, decide_true] at h19 h16
      simp -implicitDefEqProofs (disch := omega) [wrap_of, ilt_t, ilt_f, ile_t, ile_f, nlt_t, nlt_f, nle_t, nle_f, ieq_t, ieq_f, imin_l, imin_r, imax_l, imax_r, take_app1, take_map_all, c5, a9, h9, a10, h10, a11, h11, a21, h21, a26, h26a, h26b, a28, h28, he, a19, h19, a16, h16]
end Go.Proofs.Ytdnoopjpkcmpjaa
