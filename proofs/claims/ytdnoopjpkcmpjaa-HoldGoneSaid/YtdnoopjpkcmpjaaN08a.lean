import Derived.Test.YtdnoopjpkcmpjaaH08GF
import Derived.Test.YtdnoopjpkcmpjaaHoG
set_option linter.unusedSimpArgs false
set_option linter.unusedVariables false
namespace Go.Proofs.Ytdnoopjpkcmpjaa
open Go.Am Go.Tr

/-- HoldBack -/
theorem lp3 (l : List Sd) (hl : l.length ≤ 9223372036854775807) (hd : ∀ s ∈ l, s.data.length ≤ 9223372036854775807) (f : Bool) (ac : List Ad) (ha : ac.length ≤ 9223372036854775807) (g : Bool) (a : Ad) :
    runP (C08.tab 83) c3 [.lst f (l.map Sv), .lst g (ac.map Av), Av a] = some (.bool true) := by
  rw [runP_eq, runH_eq]
  have h9 := s9 (n := 83) (by decide)
  have h10 := s10 (n := 83) (by decide) l hl hd f ac ha g
  cases hg : (greatT l || decide (80 < ac.length)) with
  | true =>
    rw [hg] at h10
    simp -implicitDefEqProofs (disch := omega) [wrap_of, ilt_t, ilt_f, ile_t, ile_f, nlt_t, nlt_f, nle_t, nle_f, ieq_t, ieq_f, imin_l, imin_r, imax_l, imax_r, take_app1, take_map_all, c3, a9, h9, a10, h10]
  | false =>
    rw [hg] at h10
    have hg1 : l.length ≤ 60 ∧ ac.length ≤ 80 := by
      unfold greatT at hg
      simp at hg
      exact ⟨hg.1.1, hg.2⟩
    obtain ⟨f', h11⟩ := s11 (n := 83) (by decide) l (by omega) hd f ac (by omega) g
    obtain ⟨w, hv⟩ := madeH_inv ord_sLess (WF.made ord_sLess (l.map Sd.st) : WFt _) (ac.map Ad.ac)
    generalize madeH okN (swept (Tr.made okN sLess (l.map Sd.st)) []) (ac.map Ad.ac) = r at *
    obtain ⟨t, m⟩ := r
    simp only at w hv h11
    have hb := wbt w
    have hml : m.length ≤ 1000 := by have := hv.len; omega
    have h12 := s12 (n := 83) (by decide) t hb a.n.toNat (u8lt _)
    have h14 := s14 (n := 83) (by decide) a
    have h15 := s15 (n := 83) (by decide) a
    generalize whoA a.ac = c at *
    generalize handA a.ac = k at *
    generalize nodeAt t a.n.toNat = i at *
    have h13 := s13 (n := 83) (by decide) t w.wf.srt hb.len m hv.srt hml f' c k i
    by_cases he : (openP t m c k i).2 = 0
    · obtain ⟨b1, b2, b3, b4⟩ := openP_back he
      rw [he] at h13
      have hol : (openP t m c k i).1.length ≤ 1000 := by rw [b4]; have := hv.len; omega
      generalize (openP t m c k i).1 = o at *
      simp only [decide_true, Bool.not_true, Bool.and_false] at h13
      have h17a := s17 (n := 83) (by decide) o hol false c k
      have h17b := s17 (n := 83) (by decide) m hml f' c k
      have h18 := s18 (n := 83) (by decide) t w.wf.srt hb.len o hol false c k
      rw [b1] at h17a
      rw [b2] at h17b
      rw [b3] at h18
      have h19 := s19 (n := 83) (by decide) t t hb hb
      have h16 := s16 (n := 83) (by decide) m m false f' hml hml
      have hs : sameT t t = true := by simp [sameT]
      rw [hs] at h19
      simp only [Tv, Av, decide_true, Bool.not_true, Bool.and_false] at h11 h12 h13 h14 h15 h16 h17a h17b h18 h19
      simp -implicitDefEqProofs (disch := omega) [wrap_of, ilt_t, ilt_f, ile_t, ile_f, nlt_t, nlt_f, nle_t, nle_f, ieq_t, ieq_f, imin_l, imin_r, imax_l, imax_r, take_app1, take_map_all, c3, a9, h9, a10, h10, a11, h11, a12, h12, h14, h15, h13, h17a, h17b, h18, a19, h19, a16, h16, b4]
    · have b1 := openP_no he
      rw [b1] at h13
      generalize (openP t m c k i).2 = e at *
      have h16 := fun g => s16 (n := 83) (by decide) m m g f' hml hml
      simp only [Tv, Av, he, decide_true, decide_false, Bool.not_false, Bool.and_true] at h11 h12 h13 h14 h15 h16
      simp -implicitDefEqProofs (disch := omega) [wrap_of, ilt_t, ilt_f, ile_t, ile_f, nlt_t, nlt_f, nle_t, nle_f, ieq_t, ieq_f, imin_l, imin_r, imax_l, imax_r, take_app1, take_map_all, c3, a9, h9, a10, h10, a11, h11, a12, h12, h14, h15, h13, he, a16, h16]
end Go.Proofs.Ytdnoopjpkcmpjaa
