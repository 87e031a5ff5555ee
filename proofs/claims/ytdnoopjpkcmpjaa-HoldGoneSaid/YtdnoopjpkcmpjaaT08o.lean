import Derived.Test.YtdnoopjpkcmpjaaT08n
set_option linter.unusedSimpArgs false
set_option linter.unusedVariables false
namespace Go.Proofs.Ytdnoopjpkcmpjaa
open Go.Am Go.Tr

theorem s97 {n : Nat} (hn : 64 < n) (t : Tr.Tree) (hb : Bt t) (fr to : Int) (s nm : List UInt8) (hs : s.length ≤ 9223372036854775807) (hnm : nm.length ≤ 9223372036854775807) (hck : t.cookie < 4398046511104)
    (hm : Bm t fr s to nm (Tr.look okN t fr s).1 (Tr.onto t to nm)) (hcu : (if Tr.onto t to nm ≠ 0 then unnamed (left (left t fr s) to nm) (Tr.onto t to nm) else left t fr s).cookie < 4398046511104) :
    (C08.tab n).p 97 [Tv t, I fr, .str s, I to, .str nm] = some (.tup [Tv (Tr.mv okN sLess t fr s to nm).1, I (Tr.mv okN sLess t fr s to nm).2.1, I (Tr.mv okN sLess t fr s to nm).2.2]) := by
  by_cases d1 : (Tr.look okN t fr s).2 = 0 ∧ dirE t to = 0 ∧ okN nm = true
  · obtain ⟨d1, d2, d3⟩ := d1
    rcases onto_ix (t := t) to nm with ⟨hi, hy⟩ | ⟨k, e, hi, hk, hek, hy⟩
    · exact mvA hn t hb fr to s nm hs hnm hck hm hcu d1 d2 d3 hi hy
    · exact mvB hn t hb fr to s nm hs hnm hck hm hcu d1 d2 d3 k e hi hk hek hy (hm.y0 e (List.mem_of_getElem? hek))
  rw [p97 hn, runP_eq, runH_eq]
  have hL := s69 (n := 64) (by decide) t hb fr s hs
  have hD := s87 (n := 64) (by decide) t hb to
  have hR := s88 (n := 64) (by decide) nm hnm
  have hN := s89 (n := 64) (by decide) (dirN t to) (dirN_ents hb to) nm
  unfold Tr.mv
  by_cases c1 : (Tr.look okN t fr s).2 = 0
  · rw [if_neg (show ¬ (Tr.look okN t fr s).2 ≠ 0 from fun h => h c1)]
    by_cases c2 : dirE t to = 0
    · rw [if_neg (show ¬ dirE t to ≠ 0 from fun h => h c2)]
      cases c3 : okN nm with
      | false =>
        rw [if_pos rfl]
        rw [c3] at hR
        generalize Tr.look okN t fr s = r at *
        obtain ⟨i, e⟩ := r
        simp only at c1
        generalize dirN t to = q at *
        generalize dirE t to = d at *
        simp only [Tv, Nd] at hL hD
        simp -implicitDefEqProofs (disch := omega) [wrap_of, ilt_t, ilt_f, ile_t, ile_f, nlt_t, nlt_f, nle_t, nle_f, ieq_t, ieq_f, imin_l, imin_r, imax_l, imax_r, take_app1, take_map_all, c97, a69, hL, c1, a87, hD, c2, a88, hR]
      | true => exact absurd ⟨c1, c2, c3⟩ d1
    · rw [if_pos (show dirE t to ≠ 0 from c2)]
      generalize Tr.look okN t fr s = r at *
      obtain ⟨i, e⟩ := r
      simp only at c1
      generalize dirN t to = q at *
      generalize dirE t to = d at *
      simp only [Tv, Nd] at hL hD
      simp -implicitDefEqProofs (disch := omega) [wrap_of, ilt_t, ilt_f, ile_t, ile_f, nlt_t, nlt_f, nle_t, nle_f, ieq_t, ieq_f, imin_l, imin_r, imax_l, imax_r, take_app1, take_map_all, c97, a69, hL, c1, a87, hD, c2]
  · rw [if_pos (show (Tr.look okN t fr s).2 ≠ 0 from c1)]
    generalize Tr.look okN t fr s = r at *
    obtain ⟨i, e⟩ := r
    simp only [Tv] at hL c1 ⊢
    simp -implicitDefEqProofs (disch := omega) [wrap_of, ilt_t, ilt_f, ile_t, ile_f, nlt_t, nlt_f, nle_t, nle_f, ieq_t, ieq_f, imin_l, imin_r, imax_l, imax_r, take_app1, take_map_all, c97, a69, hL, c1]
end Go.Proofs.Ytdnoopjpkcmpjaa
