import Derived.Test.YtdnoopjpkcmpjaaT08m
set_option linter.unusedSimpArgs false
set_option linter.unusedVariables false
namespace Go.Proofs.Ytdnoopjpkcmpjaa
open Go.Am Go.Tr
set_option maxHeartbeats 4000000 in
theorem mvB {n : Nat} (hn : 64 < n) (t : Tr.Tree) (hb : Bt t) (fr to : Int) (s nm : List UInt8) (hs : s.length ≤ 9223372036854775807) (hnm : nm.length ≤ 9223372036854775807) (hck : t.cookie < 4398046511104)
    (hm : Bm t fr s to nm (Tr.look okN t fr s).1 (Tr.onto t to nm)) (hcu : (if Tr.onto t to nm ≠ 0 then unnamed (left (left t fr s) to nm) (Tr.onto t to nm) else left t fr s).cookie < 4398046511104)
    (c1 : (Tr.look okN t fr s).2 = 0) (c2 : dirE t to = 0) (c3 : okN nm = true) (k : Nat) (e : Tr.Ent) (hon : idxE (dirN t to).ents nm = k) (hkl : k < (dirN t to).ents.length) (he : (dirN t to).ents[k]? = some e) (hy : Tr.onto t to nm = e.ino) (c6 : e.ino ≠ 0) :
    (C08.tab n).p 97 [Tv t, I fr, .str s, I to, .str nm] = some (.tup [Tv (Tr.mv okN sLess t fr s to nm).1, I (Tr.mv okN sLess t fr s to nm).2.1, I (Tr.mv okN sLess t fr s to nm).2.2]) := by
  rw [p97 hn, runP_eq, runH_eq]
  have hL := s69 (n := 64) (by decide) t hb fr s hs
  have hD := s87 (n := 64) (by decide) t hb to
  have hR := s88 (n := 64) (by decide) nm hnm
  have hN := s89 (n := 64) (by decide) (dirN t to) (dirN_ents hb to) nm
  have hlf := s71 (m := 64) (by decide) t hb fr s
  have hma := hm.a
  have hmb := hm.b
  have hmk := hm.lk
  have hmc := hm.c
  have hmd := hm.d
  clear hm
  have hE := s61 (n := 64) (by decide) t hb to
  have hdl := depth_le t to
  have hck0 := hb.ck0
  have hdn := dirN_ents hb to
  rw [c3] at hR
  rw [hon] at hN
  rw [hy] at hmb hmk hmc hmd hcu
  rw [mv_eq, hy, c3, if_neg (show ¬ (Tr.look okN t fr s).2 ≠ 0 from fun h => h c1), if_neg (show ¬ dirE t to ≠ 0 from fun h => h c2), if_neg (show ¬ true = false by simp), if_pos c6]
  rw [c1] at hL
  rw [c2] at hD
  generalize (Tr.look okN t fr s).1 = i at *
  clear c1 c2 hy
  generalize dirN t to = d at *
  generalize left t fr s = v1 at *
  have hB := s62 (n := 64) (by decide) t hb to i
  have hC := s102 (n := 64) (by decide) t hb (getZ t i) (e.ino)
  have hH := s103 (n := 64) (by decide) t hb i (depth t to + 1) (by omega) (by omega)
  have hG := s29 (n := 64) (by decide) t hb i
  obtain ⟨b, hv, _⟩ := getZ_V t i
  rw [hv] at hG
  have hqe := getZ_ents hb i
  clear hv
  generalize getZ t i = q at *
  generalize below t to i = bl at *
  generalize clash t q e.ino = cl at *
  generalize high t i (depth t to + 1) = hi at *
  generalize depth t to = dp at *

  have he' : e = d.ents[k] := by rw [List.getElem?_eq_getElem hkl] at he; exact (Option.some.inj he).symm
  have hl2 := s71 (m := 64) (by decide) v1 hma to nm
  rw [if_pos c6] at hmc hmd hcu
  generalize left v1 to nm = v2 at *
  have hun := s70 (m := 64) (by decide) v2 (hmb c6) e.ino (hmk c6)
  generalize unnamed v2 e.ino = v3 at *

  have hw := s68 (m := 64) (by decide) v3 hmc { q with up := to }
  have hcw : (withN v3 { q with up := to }).cookie < 4398046511104 := hcu
  generalize withN v3 { q with up := to } = v4 at *
  simp only [Tv, Nd] at hL hD hN hC hB hE hH hG hlf hw hl2 hun

  by_cases c4 : e.ino = i
  · rw [if_pos c4]
    simp -implicitDefEqProofs (disch := omega) [wrap_of, ilt_t, ilt_f, ile_t, ile_f, nlt_t, nlt_f, nle_t, nle_f, ieq_t, ieq_f, imin_l, imin_r, imax_l, imax_r, take_app1, take_map_all, c97, a69, hL, a87, hD, a88, hR, a89, hN, a29, hG, a62, hB, a102, hC, a61, hE, a103, hH, hon, hkl, ← he', c4]
  · rw [if_neg c4]
    by_cases ck : q.kind = 2
    · rw [ck] at hC hw
      cases bl with
      | true =>
        rw [if_pos (show q.kind = 2 ∧ true = true from ⟨ck, rfl⟩)]
        simp -implicitDefEqProofs (disch := omega) [wrap_of, ilt_t, ilt_f, ile_t, ile_f, nlt_t, nlt_f, nle_t, nle_f, ieq_t, ieq_f, imin_l, imin_r, imax_l, imax_r, take_app1, take_map_all, c97, a69, hL, a87, hD, a88, hR, a89, hN, a29, hG, a62, hB, a102, hC, a61, hE, a103, hH, hon, hkl, ← he', c4, ck]
      | false =>
        rw [if_neg (show ¬ (q.kind = 2 ∧ false = true) by simp)]
        by_cases c5 : cl = 0
        · rw [if_neg (show ¬ cl ≠ 0 from fun h => h c5)]
          by_cases c9 : 12 ≤ dp
          · rw [if_pos (Or.inr (Or.inl c9))]
            simp -implicitDefEqProofs (disch := omega) [wrap_of, ilt_t, ilt_f, ile_t, ile_f, nlt_t, nlt_f, nle_t, nle_f, ieq_t, ieq_f, imin_l, imin_r, imax_l, imax_r, take_app1, take_map_all, c97, a69, hL, a87, hD, a88, hR, a89, hN, a29, hG, a62, hB, a102, hC, a61, hE, a103, hH, hon, hkl, ← he', c4, ck, c5, c6, c9]
          · by_cases c10 : 12 < hi
            · rw [if_pos (Or.inr (Or.inr (Or.inl ⟨ck, c10⟩)))]
              simp -implicitDefEqProofs (disch := omega) [wrap_of, ilt_t, ilt_f, ile_t, ile_f, nlt_t, nlt_f, nle_t, nle_f, ieq_t, ieq_f, imin_l, imin_r, imax_l, imax_r, take_app1, take_map_all, c97, a69, hL, a87, hD, a88, hR, a89, hN, a29, hG, a62, hB, a102, hC, a61, hE, a103, hH, hon, hkl, ← he', c4, ck, c5, c6, c9, c10]
            · by_cases c11 : 1099511627776 ≤ t.cookie
              · rw [if_pos (Or.inr (Or.inr (Or.inr c11)))]
                simp -implicitDefEqProofs (disch := omega) [wrap_of, ilt_t, ilt_f, ile_t, ile_f, nlt_t, nlt_f, nle_t, nle_f, ieq_t, ieq_f, imin_l, imin_r, imax_l, imax_r, take_app1, take_map_all, c97, a69, hL, a87, hD, a88, hR, a89, hN, a29, hG, a62, hB, a102, hC, a61, hE, a103, hH, hon, hkl, ← he', c4, ck, c5, c6, c9, c10, c11]
              · rw [if_neg (fun h => Or.elim h (fun h => c6 h.1) (fun h => Or.elim h c9 (fun h => Or.elim h (fun h => c10 h.2) c11)))]
                rw [if_pos ck]
                rw [if_pos ck] at hmd
                have he := s67 (m := 64) (by decide) v4 hmd to nm i hcw
                generalize entered sLess v4 to nm i = v5 at *
                simp only [Tv] at he hw ⊢
                simp -implicitDefEqProofs (disch := omega) [wrap_of, ilt_t, ilt_f, ile_t, ile_f, nlt_t, nlt_f, nle_t, nle_f, ieq_t, ieq_f, imin_l, imin_r, imax_l, imax_r, take_app1, take_map_all, c97, a69, hL, a87, hD, a88, hR, a89, hN, a29, hG, a62, hB, a102, hC, a61, hE, a103, hH, hon, hkl, ← he', c4, ck, c5, c6, c9, c10, c11, a71, hlf, hl2, a70, hun, a68, hw, a67, he]
        · rw [if_pos (show cl ≠ 0 from c5)]
          simp -implicitDefEqProofs (disch := omega) [wrap_of, ilt_t, ilt_f, ile_t, ile_f, nlt_t, nlt_f, nle_t, nle_f, ieq_t, ieq_f, imin_l, imin_r, imax_l, imax_r, take_app1, take_map_all, c97, a69, hL, a87, hD, a88, hR, a89, hN, a29, hG, a62, hB, a102, hC, a61, hE, a103, hH, hon, hkl, ← he', c4, ck, c5]
    · rw [if_neg (show ¬ (q.kind = 2 ∧ bl = true) from fun h => ck h.1)]
      by_cases c5 : cl = 0
      · rw [if_neg (show ¬ cl ≠ 0 from fun h => h c5)]
        by_cases c9 : 12 ≤ dp
        · rw [if_pos (Or.inr (Or.inl c9))]
          simp -implicitDefEqProofs (disch := omega) [wrap_of, ilt_t, ilt_f, ile_t, ile_f, nlt_t, nlt_f, nle_t, nle_f, ieq_t, ieq_f, imin_l, imin_r, imax_l, imax_r, take_app1, take_map_all, c97, a69, hL, a87, hD, a88, hR, a89, hN, a29, hG, a62, hB, a102, hC, a61, hE, a103, hH, hon, hkl, ← he', c4, ck, c5, c6, c9]
        · by_cases c11 : 1099511627776 ≤ t.cookie
          · rw [if_pos (Or.inr (Or.inr (Or.inr c11)))]
            simp -implicitDefEqProofs (disch := omega) [wrap_of, ilt_t, ilt_f, ile_t, ile_f, nlt_t, nlt_f, nle_t, nle_f, ieq_t, ieq_f, imin_l, imin_r, imax_l, imax_r, take_app1, take_map_all, c97, a69, hL, a87, hD, a88, hR, a89, hN, a29, hG, a62, hB, a102, hC, a61, hE, a103, hH, hon, hkl, ← he', c4, ck, c5, c6, c9, c11]
          · rw [if_neg (fun h => Or.elim h (fun h => c6 h.1) (fun h => Or.elim h c9 (fun h => Or.elim h (fun h => ck h.1) c11)))]
            rw [if_neg ck]
            rw [if_neg ck] at hmd
            have he := s67 (m := 64) (by decide) v3 hmd to nm i hcu
            generalize entered sLess v3 to nm i = v5 at *
            simp only [Tv] at he hw ⊢
            simp -implicitDefEqProofs (disch := omega) [wrap_of, ilt_t, ilt_f, ile_t, ile_f, nlt_t, nlt_f, nle_t, nle_f, ieq_t, ieq_f, imin_l, imin_r, imax_l, imax_r, take_app1, take_map_all, c97, a69, hL, a87, hD, a88, hR, a89, hN, a29, hG, a62, hB, a102, hC, a61, hE, a103, hH, hon, hkl, ← he', c4, ck, c5, c6, c9, c11, a71, hlf, hl2, a70, hun, a67, he]
      · rw [if_pos (show cl ≠ 0 from c5)]
        simp -implicitDefEqProofs (disch := omega) [wrap_of, ilt_t, ilt_f, ile_t, ile_f, nlt_t, nlt_f, nle_t, nle_f, ieq_t, ieq_f, imin_l, imin_r, imax_l, imax_r, take_app1, take_map_all, c97, a69, hL, a87, hD, a88, hR, a89, hN, a29, hG, a62, hB, a102, hC, a61, hE, a103, hH, hon, hkl, ← he', c4, ck, c5]
end Go.Proofs.Ytdnoopjpkcmpjaa
