import Derived.Test.YtfdenmkoampgnaaGreatT49GG
set_option linter.unusedSimpArgs false
set_option linter.unusedVariables false
namespace Go.Proofs.YtfdenmkoampgnaaGreat
open Go.Am Go.Tr

/-- What of a move's trees a machine wants. -/
structure Bm (t : Tr.Tree) (fr : Int) (s : List UInt8) (to : Int) (nm : List UInt8) (i y : Int) : Prop where
  y0 : ∀ e ∈ (dirN t to).ents, e.ino ≠ 0
  a : Bt (left t fr s)
  b : y ≠ 0 → Bt (left (left t fr s) to nm)
  lk : y ≠ 0 → ∀ q, find (left (left t fr s) to nm).nodes y = some q → -4398046511104 ≤ q.links ∧ q.links ≤ 4398046511104
  c : Bt (if y ≠ 0 then unnamed (left (left t fr s) to nm) y else left t fr s)
  d : Bt (if (getZ t i).kind = 2 then withN (if y ≠ 0 then unnamed (left (left t fr s) to nm) y else left t fr s) { getZ t i with up := to } else (if y ≠ 0 then unnamed (left (left t fr s) to nm) y else left t fr s))
theorem onto_ix {t : Tr.Tree} (to : Int) (nm : List UInt8) : (idxE (dirN t to).ents nm = -1 ∧ Tr.onto t to nm = 0) ∨ ∃ (k : Nat) (e : Tr.Ent), idxE (dirN t to).ents nm = k ∧ k < (dirN t to).ents.length ∧ (dirN t to).ents[k]? = some e ∧ Tr.onto t to nm = e.ino := by
  unfold Tr.onto entOf
  cases h : (dirN t to).ents.find? fun e => decide (e.name = nm) with
  | none => exact .inl ⟨by unfold idxE; rw [h]; rfl, rfl⟩
  | some e =>
    obtain ⟨k, h1, h2, h3⟩ := ent_at h
    exact .inr ⟨k, e, h1, h2, h3, rfl⟩
theorem mv_eq (ok : List UInt8 → Bool) (lt : List UInt8 → List UInt8 → Bool) (t : Tr.Tree) (fr : Int) (s : List UInt8) (to : Int) (nm : List UInt8) : Tr.mv ok lt t fr s to nm =
  if (Tr.look ok t fr s).2 ≠ 0 then (t, 0, (Tr.look ok t fr s).2) else if dirE t to ≠ 0 then (t, 0, dirE t to) else if ok nm = false then (t, 0, 60) else
  if Tr.onto t to nm = (Tr.look ok t fr s).1 then (t, 0, 0) else if (getZ t (Tr.look ok t fr s).1).kind = 2 ∧ below t to (Tr.look ok t fr s).1 = true then (t, 0, 75) else
  if Tr.clash t (getZ t (Tr.look ok t fr s).1) (Tr.onto t to nm) ≠ 0 then (t, 0, Tr.clash t (getZ t (Tr.look ok t fr s).1) (Tr.onto t to nm)) else
  if (Tr.onto t to nm = 0 ∧ to ≠ fr ∧ 64 ≤ (dirN t to).ents.length) ∨ 12 ≤ depth t to ∨ ((getZ t (Tr.look ok t fr s).1).kind = 2 ∧ 12 < high t (Tr.look ok t fr s).1 (depth t to + 1)) ∨ 1099511627776 ≤ t.cookie then (t, 0, 76) else
  (entered lt (if (getZ t (Tr.look ok t fr s).1).kind = 2 then withN (if Tr.onto t to nm ≠ 0 then unnamed (left (left t fr s) to nm) (Tr.onto t to nm) else left t fr s) { getZ t (Tr.look ok t fr s).1 with up := to } else (if Tr.onto t to nm ≠ 0 then unnamed (left (left t fr s) to nm) (Tr.onto t to nm) else left t fr s)) to nm (Tr.look ok t fr s).1, Tr.onto t to nm, 0) := rfl
set_option maxHeartbeats 4000000 in
theorem mvA {n : Nat} (hn : 54 < n) (t : Tr.Tree) (hb : Bt t) (fr to : Int) (s nm : List UInt8) (hs : s.length ≤ 9223372036854775807) (hnm : nm.length ≤ 9223372036854775807) (hck : t.cookie < 4398046511104)
    (hm : Bm t fr s to nm (Tr.look okN t fr s).1 (Tr.onto t to nm)) (hcu : (if Tr.onto t to nm ≠ 0 then unnamed (left (left t fr s) to nm) (Tr.onto t to nm) else left t fr s).cookie < 4398046511104)
    (c1 : (Tr.look okN t fr s).2 = 0) (c2 : dirE t to = 0) (co3 : okN nm = true) (hon : idxE (dirN t to).ents nm = -1) (hy : Tr.onto t to nm = 0) :
    (C49.tab n).p 46 [Tv t, I fr, .str s, I to, .str nm] = some (.tup [Tv (Tr.mv okN sLess t fr s to nm).1, I (Tr.mv okN sLess t fr s to nm).2.1, I (Tr.mv okN sLess t fr s to nm).2.2]) := by
  rw [p46 hn, runP_eq, runH_eq]
  have hL := s70 (n := 54) (by decide) t hb fr s hs
  have hD := s73 (n := 54) (by decide) t hb to
  have hR := s74 (n := 54) (by decide) nm hnm
  have hN := s75 (n := 54) (by decide) (dirN t to) (dirN_ents hb to) nm
  have hlf := s72 (m := 54) (by decide) t hb fr s
  have hma := hm.a
  have hmb := hm.b
  have hmk := hm.lk
  have hmc := hm.c
  have hmd := hm.d
  clear hm
  have hE := s78 (n := 54) (by decide) t hb to
  have hdl := depth_le t to
  have hck0 := hb.ck0
  have hdn := dirN_ents hb to
  rw [co3] at hR
  rw [hon] at hN
  rw [hy] at hmb hmk hmc hmd hcu
  rw [mv_eq, hy, co3, if_neg (show ¬ (Tr.look okN t fr s).2 ≠ 0 from fun h => h c1), if_neg (show ¬ dirE t to ≠ 0 from fun h => h c2), if_neg (show ¬ true = false by simp), if_neg (show ¬ (0 : Int) ≠ 0 by simp)]
  rw [c1] at hL
  rw [c2] at hD
  generalize (Tr.look okN t fr s).1 = i at *
  clear c1 c2 hy
  generalize dirN t to = d at *
  generalize left t fr s = v1 at *
  have hB := s76 (n := 54) (by decide) t hb to i
  have hC := s77 (n := 54) (by decide) t hb (getZ t i) (0)
  have hH := s79 (n := 54) (by decide) t hb i (depth t to + 1) (by omega) (by omega)
  have hG := s14 (n := 54) (by decide) t hb i
  obtain ⟨b, hv, _⟩ := getZ_V t i
  rw [hv] at hG
  have hqe := getZ_ents hb i
  clear hv
  generalize getZ t i = q at *
  generalize below t to i = bl at *
  generalize clash t q 0 = cl at *
  generalize high t i (depth t to + 1) = hi at *
  generalize depth t to = dp at *

  rw [if_neg (show ¬ (0 : Int) ≠ 0 by simp)] at hmc hmd hcu

  have hw := s67 (m := 54) (by decide) v1 hmc { q with up := to }
  have hcw : (withN v1 { q with up := to }).cookie < 4398046511104 := hcu
  generalize withN v1 { q with up := to } = v4 at *
  simp only [Tv, Nd] at hL hD hN hC hB hE hH hG hlf hw

  by_cases co4 : 0 = i
  · rw [if_pos co4]
    simp -implicitDefEqProofs (disch := omega) [wrap_of, ilt_t, ilt_f, ile_t, ile_f, nlt_t, nlt_f, nle_t, nle_f, ieq_t, ieq_f, imin_l, imin_r, imax_l, imax_r, take_app1, take_map_all, c46, a70, hL, a73, hD, a74, hR, a75, hN, a14, hG, a76, hB, a77, hC, a78, hE, a79, hH, hon, co4.symm]
  · rw [if_neg co4]
    by_cases ck : q.kind = 2
    · rw [ck] at hC hw
      cases bl with
      | true =>
        rw [if_pos (show q.kind = 2 ∧ true = true from ⟨ck, rfl⟩)]
        simp -implicitDefEqProofs (disch := omega) [wrap_of, ilt_t, ilt_f, ile_t, ile_f, nlt_t, nlt_f, nle_t, nle_f, ieq_t, ieq_f, imin_l, imin_r, imax_l, imax_r, take_app1, take_map_all, c46, a70, hL, a73, hD, a74, hR, a75, hN, a14, hG, a76, hB, a77, hC, a78, hE, a79, hH, hon, co4, (Ne.symm co4 : i ≠ 0), ck]
      | false =>
        rw [if_neg (show ¬ (q.kind = 2 ∧ false = true) by simp)]
        by_cases co5 : cl = 0
        · rw [if_neg (show ¬ cl ≠ 0 from fun h => h co5)]
          by_cases co7 : to = fr
          · subst co7
            by_cases c5 : 12 ≤ dp
            · rw [if_pos (Or.inr (Or.inl c5))]
              simp -implicitDefEqProofs (disch := omega) [wrap_of, ilt_t, ilt_f, ile_t, ile_f, nlt_t, nlt_f, nle_t, nle_f, ieq_t, ieq_f, imin_l, imin_r, imax_l, imax_r, take_app1, take_map_all, c46, a70, hL, a73, hD, a74, hR, a75, hN, a14, hG, a76, hB, a77, hC, a78, hE, a79, hH, hon, co4, (Ne.symm co4 : i ≠ 0), ck, co5, c5]
            · by_cases c6 : 12 < hi
              · rw [if_pos (Or.inr (Or.inr (Or.inl ⟨ck, c6⟩)))]
                simp -implicitDefEqProofs (disch := omega) [wrap_of, ilt_t, ilt_f, ile_t, ile_f, nlt_t, nlt_f, nle_t, nle_f, ieq_t, ieq_f, imin_l, imin_r, imax_l, imax_r, take_app1, take_map_all, c46, a70, hL, a73, hD, a74, hR, a75, hN, a14, hG, a76, hB, a77, hC, a78, hE, a79, hH, hon, co4, (Ne.symm co4 : i ≠ 0), ck, co5, c5, c6]
              · by_cases c7 : 1099511627776 ≤ t.cookie
                · rw [if_pos (Or.inr (Or.inr (Or.inr c7)))]
                  simp -implicitDefEqProofs (disch := omega) [wrap_of, ilt_t, ilt_f, ile_t, ile_f, nlt_t, nlt_f, nle_t, nle_f, ieq_t, ieq_f, imin_l, imin_r, imax_l, imax_r, take_app1, take_map_all, c46, a70, hL, a73, hD, a74, hR, a75, hN, a14, hG, a76, hB, a77, hC, a78, hE, a79, hH, hon, co4, (Ne.symm co4 : i ≠ 0), ck, co5, c5, c6, c7]
                · rw [if_neg (fun h => Or.elim h (fun h => h.2.1 rfl) (fun h => Or.elim h c5 (fun h => Or.elim h (fun h => c6 h.2) c7)))]
                  rw [if_pos ck]
                  rw [if_pos ck] at hmd
                  have he := s66 (m := 54) (by decide) v4 hmd to nm i hcw
                  generalize entered sLess v4 to nm i = v5 at *
                  simp only [Tv] at he hw ⊢
                  simp -implicitDefEqProofs (disch := omega) [wrap_of, ilt_t, ilt_f, ile_t, ile_f, nlt_t, nlt_f, nle_t, nle_f, ieq_t, ieq_f, imin_l, imin_r, imax_l, imax_r, take_app1, take_map_all, c46, a70, hL, a73, hD, a74, hR, a75, hN, a14, hG, a76, hB, a77, hC, a78, hE, a79, hH, hon, co4, (Ne.symm co4 : i ≠ 0), ck, co5, c5, c6, c7, a72, hlf, a67, hw, a66, he]
          · by_cases c4 : 64 ≤ d.ents.length
            · rw [if_pos (Or.inl ⟨rfl, co7, c4⟩)]
              simp -implicitDefEqProofs (disch := omega) [wrap_of, ilt_t, ilt_f, ile_t, ile_f, nlt_t, nlt_f, nle_t, nle_f, ieq_t, ieq_f, imin_l, imin_r, imax_l, imax_r, take_app1, take_map_all, c46, a70, hL, a73, hD, a74, hR, a75, hN, a14, hG, a76, hB, a77, hC, a78, hE, a79, hH, hon, co4, (Ne.symm co4 : i ≠ 0), ck, co5, co7, c4]
            · skip
              by_cases c5 : 12 ≤ dp
              · rw [if_pos (Or.inr (Or.inl c5))]
                simp -implicitDefEqProofs (disch := omega) [wrap_of, ilt_t, ilt_f, ile_t, ile_f, nlt_t, nlt_f, nle_t, nle_f, ieq_t, ieq_f, imin_l, imin_r, imax_l, imax_r, take_app1, take_map_all, c46, a70, hL, a73, hD, a74, hR, a75, hN, a14, hG, a76, hB, a77, hC, a78, hE, a79, hH, hon, co4, (Ne.symm co4 : i ≠ 0), ck, co5, co7, c4, c5]
              · by_cases c6 : 12 < hi
                · rw [if_pos (Or.inr (Or.inr (Or.inl ⟨ck, c6⟩)))]
                  simp -implicitDefEqProofs (disch := omega) [wrap_of, ilt_t, ilt_f, ile_t, ile_f, nlt_t, nlt_f, nle_t, nle_f, ieq_t, ieq_f, imin_l, imin_r, imax_l, imax_r, take_app1, take_map_all, c46, a70, hL, a73, hD, a74, hR, a75, hN, a14, hG, a76, hB, a77, hC, a78, hE, a79, hH, hon, co4, (Ne.symm co4 : i ≠ 0), ck, co5, co7, c4, c5, c6]
                · by_cases c7 : 1099511627776 ≤ t.cookie
                  · rw [if_pos (Or.inr (Or.inr (Or.inr c7)))]
                    simp -implicitDefEqProofs (disch := omega) [wrap_of, ilt_t, ilt_f, ile_t, ile_f, nlt_t, nlt_f, nle_t, nle_f, ieq_t, ieq_f, imin_l, imin_r, imax_l, imax_r, take_app1, take_map_all, c46, a70, hL, a73, hD, a74, hR, a75, hN, a14, hG, a76, hB, a77, hC, a78, hE, a79, hH, hon, co4, (Ne.symm co4 : i ≠ 0), ck, co5, co7, c4, c5, c6, c7]
                  · rw [if_neg (fun h => Or.elim h (fun h => c4 h.2.2) (fun h => Or.elim h c5 (fun h => Or.elim h (fun h => c6 h.2) c7)))]
                    rw [if_pos ck]
                    rw [if_pos ck] at hmd
                    have he := s66 (m := 54) (by decide) v4 hmd to nm i hcw
                    generalize entered sLess v4 to nm i = v5 at *
                    simp only [Tv] at he hw ⊢
                    simp -implicitDefEqProofs (disch := omega) [wrap_of, ilt_t, ilt_f, ile_t, ile_f, nlt_t, nlt_f, nle_t, nle_f, ieq_t, ieq_f, imin_l, imin_r, imax_l, imax_r, take_app1, take_map_all, c46, a70, hL, a73, hD, a74, hR, a75, hN, a14, hG, a76, hB, a77, hC, a78, hE, a79, hH, hon, co4, (Ne.symm co4 : i ≠ 0), ck, co5, co7, c4, c5, c6, c7, a72, hlf, a67, hw, a66, he]
        · rw [if_pos (show cl ≠ 0 from co5)]
          simp -implicitDefEqProofs (disch := omega) [wrap_of, ilt_t, ilt_f, ile_t, ile_f, nlt_t, nlt_f, nle_t, nle_f, ieq_t, ieq_f, imin_l, imin_r, imax_l, imax_r, take_app1, take_map_all, c46, a70, hL, a73, hD, a74, hR, a75, hN, a14, hG, a76, hB, a77, hC, a78, hE, a79, hH, hon, co4, (Ne.symm co4 : i ≠ 0), ck, co5]
    · rw [if_neg (show ¬ (q.kind = 2 ∧ bl = true) from fun h => ck h.1)]
      by_cases co5 : cl = 0
      · rw [if_neg (show ¬ cl ≠ 0 from fun h => h co5)]
        by_cases co7 : to = fr
        · subst co7
          by_cases c5 : 12 ≤ dp
          · rw [if_pos (Or.inr (Or.inl c5))]
            simp -implicitDefEqProofs (disch := omega) [wrap_of, ilt_t, ilt_f, ile_t, ile_f, nlt_t, nlt_f, nle_t, nle_f, ieq_t, ieq_f, imin_l, imin_r, imax_l, imax_r, take_app1, take_map_all, c46, a70, hL, a73, hD, a74, hR, a75, hN, a14, hG, a76, hB, a77, hC, a78, hE, a79, hH, hon, co4, (Ne.symm co4 : i ≠ 0), ck, co5, c5]
          · by_cases c7 : 1099511627776 ≤ t.cookie
            · rw [if_pos (Or.inr (Or.inr (Or.inr c7)))]
              simp -implicitDefEqProofs (disch := omega) [wrap_of, ilt_t, ilt_f, ile_t, ile_f, nlt_t, nlt_f, nle_t, nle_f, ieq_t, ieq_f, imin_l, imin_r, imax_l, imax_r, take_app1, take_map_all, c46, a70, hL, a73, hD, a74, hR, a75, hN, a14, hG, a76, hB, a77, hC, a78, hE, a79, hH, hon, co4, (Ne.symm co4 : i ≠ 0), ck, co5, c5, c7]
            · rw [if_neg (fun h => Or.elim h (fun h => h.2.1 rfl) (fun h => Or.elim h c5 (fun h => Or.elim h (fun h => ck h.1) c7)))]
              rw [if_neg ck]
              rw [if_neg ck] at hmd
              have he := s66 (m := 54) (by decide) v1 hmd to nm i hcu
              generalize entered sLess v1 to nm i = v5 at *
              simp only [Tv] at he hw ⊢
              simp -implicitDefEqProofs (disch := omega) [wrap_of, ilt_t, ilt_f, ile_t, ile_f, nlt_t, nlt_f, nle_t, nle_f, ieq_t, ieq_f, imin_l, imin_r, imax_l, imax_r, take_app1, take_map_all, c46, a70, hL, a73, hD, a74, hR, a75, hN, a14, hG, a76, hB, a77, hC, a78, hE, a79, hH, hon, co4, (Ne.symm co4 : i ≠ 0), ck, co5, c5, c7, a72, hlf, a66, he]
        · by_cases c4 : 64 ≤ d.ents.length
          · rw [if_pos (Or.inl ⟨rfl, co7, c4⟩)]
            simp -implicitDefEqProofs (disch := omega) [wrap_of, ilt_t, ilt_f, ile_t, ile_f, nlt_t, nlt_f, nle_t, nle_f, ieq_t, ieq_f, imin_l, imin_r, imax_l, imax_r, take_app1, take_map_all, c46, a70, hL, a73, hD, a74, hR, a75, hN, a14, hG, a76, hB, a77, hC, a78, hE, a79, hH, hon, co4, (Ne.symm co4 : i ≠ 0), ck, co5, co7, c4]
          · skip
            by_cases c5 : 12 ≤ dp
            · rw [if_pos (Or.inr (Or.inl c5))]
              simp -implicitDefEqProofs (disch := omega) [wrap_of, ilt_t, ilt_f, ile_t, ile_f, nlt_t, nlt_f, nle_t, nle_f, ieq_t, ieq_f, imin_l, imin_r, imax_l, imax_r, take_app1, take_map_all, c46, a70, hL, a73, hD, a74, hR, a75, hN, a14, hG, a76, hB, a77, hC, a78, hE, a79, hH, hon, co4, (Ne.symm co4 : i ≠ 0), ck, co5, co7, c4, c5]
            · by_cases c7 : 1099511627776 ≤ t.cookie
              · rw [if_pos (Or.inr (Or.inr (Or.inr c7)))]
                simp -implicitDefEqProofs (disch := omega) [wrap_of, ilt_t, ilt_f, ile_t, ile_f, nlt_t, nlt_f, nle_t, nle_f, ieq_t, ieq_f, imin_l, imin_r, imax_l, imax_r, take_app1, take_map_all, c46, a70, hL, a73, hD, a74, hR, a75, hN, a14, hG, a76, hB, a77, hC, a78, hE, a79, hH, hon, co4, (Ne.symm co4 : i ≠ 0), ck, co5, co7, c4, c5, c7]
              · rw [if_neg (fun h => Or.elim h (fun h => c4 h.2.2) (fun h => Or.elim h c5 (fun h => Or.elim h (fun h => ck h.1) c7)))]
                rw [if_neg ck]
                rw [if_neg ck] at hmd
                have he := s66 (m := 54) (by decide) v1 hmd to nm i hcu
                generalize entered sLess v1 to nm i = v5 at *
                simp only [Tv] at he hw ⊢
                simp -implicitDefEqProofs (disch := omega) [wrap_of, ilt_t, ilt_f, ile_t, ile_f, nlt_t, nlt_f, nle_t, nle_f, ieq_t, ieq_f, imin_l, imin_r, imax_l, imax_r, take_app1, take_map_all, c46, a70, hL, a73, hD, a74, hR, a75, hN, a14, hG, a76, hB, a77, hC, a78, hE, a79, hH, hon, co4, (Ne.symm co4 : i ≠ 0), ck, co5, co7, c4, c5, c7, a72, hlf, a66, he]
      · rw [if_pos (show cl ≠ 0 from co5)]
        simp -implicitDefEqProofs (disch := omega) [wrap_of, ilt_t, ilt_f, ile_t, ile_f, nlt_t, nlt_f, nle_t, nle_f, ieq_t, ieq_f, imin_l, imin_r, imax_l, imax_r, take_app1, take_map_all, c46, a70, hL, a73, hD, a74, hR, a75, hN, a14, hG, a76, hB, a77, hC, a78, hE, a79, hH, hon, co4, (Ne.symm co4 : i ≠ 0), ck, co5]
end Go.Proofs.YtfdenmkoampgnaaGreat

namespace Go.Proofs.YtfdenmkoampgnaaGreat
open Go.Am Go.Tr
set_option maxHeartbeats 4000000 in
theorem mvB {n : Nat} (hn : 54 < n) (t : Tr.Tree) (hb : Bt t) (fr to : Int) (s nm : List UInt8) (hs : s.length ≤ 9223372036854775807) (hnm : nm.length ≤ 9223372036854775807) (hck : t.cookie < 4398046511104)
    (hm : Bm t fr s to nm (Tr.look okN t fr s).1 (Tr.onto t to nm)) (hcu : (if Tr.onto t to nm ≠ 0 then unnamed (left (left t fr s) to nm) (Tr.onto t to nm) else left t fr s).cookie < 4398046511104)
    (c1 : (Tr.look okN t fr s).2 = 0) (c2 : dirE t to = 0) (co3 : okN nm = true) (k : Nat) (e : Tr.Ent) (hon : idxE (dirN t to).ents nm = k) (hkl : k < (dirN t to).ents.length) (he : (dirN t to).ents[k]? = some e) (hy : Tr.onto t to nm = e.ino) (co6 : e.ino ≠ 0) :
    (C49.tab n).p 46 [Tv t, I fr, .str s, I to, .str nm] = some (.tup [Tv (Tr.mv okN sLess t fr s to nm).1, I (Tr.mv okN sLess t fr s to nm).2.1, I (Tr.mv okN sLess t fr s to nm).2.2]) := by
  rw [p46 hn, runP_eq, runH_eq]
  have hL := s70 (n := 54) (by decide) t hb fr s hs
  have hD := s73 (n := 54) (by decide) t hb to
  have hR := s74 (n := 54) (by decide) nm hnm
  have hN := s75 (n := 54) (by decide) (dirN t to) (dirN_ents hb to) nm
  have hlf := s72 (m := 54) (by decide) t hb fr s
  have hma := hm.a
  have hmb := hm.b
  have hmk := hm.lk
  have hmc := hm.c
  have hmd := hm.d
  clear hm
  have hE := s78 (n := 54) (by decide) t hb to
  have hdl := depth_le t to
  have hck0 := hb.ck0
  have hdn := dirN_ents hb to
  rw [co3] at hR
  rw [hon] at hN
  rw [hy] at hmb hmk hmc hmd hcu
  rw [mv_eq, hy, co3, if_neg (show ¬ (Tr.look okN t fr s).2 ≠ 0 from fun h => h c1), if_neg (show ¬ dirE t to ≠ 0 from fun h => h c2), if_neg (show ¬ true = false by simp), if_pos co6]
  rw [c1] at hL
  rw [c2] at hD
  generalize (Tr.look okN t fr s).1 = i at *
  clear c1 c2 hy
  generalize dirN t to = d at *
  generalize left t fr s = v1 at *
  have hB := s76 (n := 54) (by decide) t hb to i
  have hC := s77 (n := 54) (by decide) t hb (getZ t i) (e.ino)
  have hH := s79 (n := 54) (by decide) t hb i (depth t to + 1) (by omega) (by omega)
  have hG := s14 (n := 54) (by decide) t hb i
  obtain ⟨b, hv, _⟩ := getZ_V t i
  rw [hv] at hG
  have hqe := getZ_ents hb i
  clear hv
  generalize getZ t i = q at *
  generalize below t to i = bl at *
  generalize clash t q e.ino = cl at *
  generalize high t i (depth t to + 1) = hi at *
  generalize depth t to = dp at *

  have he' : e = d.ents[k] := by rw [List.getElem?_eq_getElem hkl] at he; exact (Option.some.inj he).symm
  have hl2 := s72 (m := 54) (by decide) v1 hma to nm
  rw [if_pos co6] at hmc hmd hcu
  generalize left v1 to nm = v2 at *
  have hun := s71 (m := 54) (by decide) v2 (hmb co6) e.ino (hmk co6)
  generalize unnamed v2 e.ino = v3 at *

  have hw := s67 (m := 54) (by decide) v3 hmc { q with up := to }
  have hcw : (withN v3 { q with up := to }).cookie < 4398046511104 := hcu
  generalize withN v3 { q with up := to } = v4 at *
  simp only [Tv, Nd] at hL hD hN hC hB hE hH hG hlf hw hl2 hun

  by_cases co4 : e.ino = i
  · rw [if_pos co4]
    simp -implicitDefEqProofs (disch := omega) [wrap_of, ilt_t, ilt_f, ile_t, ile_f, nlt_t, nlt_f, nle_t, nle_f, ieq_t, ieq_f, imin_l, imin_r, imax_l, imax_r, take_app1, take_map_all, c46, a70, hL, a73, hD, a74, hR, a75, hN, a14, hG, a76, hB, a77, hC, a78, hE, a79, hH, hon, hkl, ← he', co4]
  · rw [if_neg co4]
    by_cases ck : q.kind = 2
    · rw [ck] at hC hw
      cases bl with
      | true =>
        rw [if_pos (show q.kind = 2 ∧ true = true from ⟨ck, rfl⟩)]
        simp -implicitDefEqProofs (disch := omega) [wrap_of, ilt_t, ilt_f, ile_t, ile_f, nlt_t, nlt_f, nle_t, nle_f, ieq_t, ieq_f, imin_l, imin_r, imax_l, imax_r, take_app1, take_map_all, c46, a70, hL, a73, hD, a74, hR, a75, hN, a14, hG, a76, hB, a77, hC, a78, hE, a79, hH, hon, hkl, ← he', co4, ck]
      | false =>
        rw [if_neg (show ¬ (q.kind = 2 ∧ false = true) by simp)]
        by_cases co5 : cl = 0
        · rw [if_neg (show ¬ cl ≠ 0 from fun h => h co5)]
          by_cases c5 : 12 ≤ dp
          · rw [if_pos (Or.inr (Or.inl c5))]
            simp -implicitDefEqProofs (disch := omega) [wrap_of, ilt_t, ilt_f, ile_t, ile_f, nlt_t, nlt_f, nle_t, nle_f, ieq_t, ieq_f, imin_l, imin_r, imax_l, imax_r, take_app1, take_map_all, c46, a70, hL, a73, hD, a74, hR, a75, hN, a14, hG, a76, hB, a77, hC, a78, hE, a79, hH, hon, hkl, ← he', co4, ck, co5, co6, c5]
          · by_cases c6 : 12 < hi
            · rw [if_pos (Or.inr (Or.inr (Or.inl ⟨ck, c6⟩)))]
              simp -implicitDefEqProofs (disch := omega) [wrap_of, ilt_t, ilt_f, ile_t, ile_f, nlt_t, nlt_f, nle_t, nle_f, ieq_t, ieq_f, imin_l, imin_r, imax_l, imax_r, take_app1, take_map_all, c46, a70, hL, a73, hD, a74, hR, a75, hN, a14, hG, a76, hB, a77, hC, a78, hE, a79, hH, hon, hkl, ← he', co4, ck, co5, co6, c5, c6]
            · by_cases c7 : 1099511627776 ≤ t.cookie
              · rw [if_pos (Or.inr (Or.inr (Or.inr c7)))]
                simp -implicitDefEqProofs (disch := omega) [wrap_of, ilt_t, ilt_f, ile_t, ile_f, nlt_t, nlt_f, nle_t, nle_f, ieq_t, ieq_f, imin_l, imin_r, imax_l, imax_r, take_app1, take_map_all, c46, a70, hL, a73, hD, a74, hR, a75, hN, a14, hG, a76, hB, a77, hC, a78, hE, a79, hH, hon, hkl, ← he', co4, ck, co5, co6, c5, c6, c7]
              · rw [if_neg (fun h => Or.elim h (fun h => co6 h.1) (fun h => Or.elim h c5 (fun h => Or.elim h (fun h => c6 h.2) c7)))]
                rw [if_pos ck]
                rw [if_pos ck] at hmd
                have he := s66 (m := 54) (by decide) v4 hmd to nm i hcw
                generalize entered sLess v4 to nm i = v5 at *
                simp only [Tv] at he hw ⊢
                simp -implicitDefEqProofs (disch := omega) [wrap_of, ilt_t, ilt_f, ile_t, ile_f, nlt_t, nlt_f, nle_t, nle_f, ieq_t, ieq_f, imin_l, imin_r, imax_l, imax_r, take_app1, take_map_all, c46, a70, hL, a73, hD, a74, hR, a75, hN, a14, hG, a76, hB, a77, hC, a78, hE, a79, hH, hon, hkl, ← he', co4, ck, co5, co6, c5, c6, c7, a72, hlf, hl2, a71, hun, a67, hw, a66, he]
        · rw [if_pos (show cl ≠ 0 from co5)]
          simp -implicitDefEqProofs (disch := omega) [wrap_of, ilt_t, ilt_f, ile_t, ile_f, nlt_t, nlt_f, nle_t, nle_f, ieq_t, ieq_f, imin_l, imin_r, imax_l, imax_r, take_app1, take_map_all, c46, a70, hL, a73, hD, a74, hR, a75, hN, a14, hG, a76, hB, a77, hC, a78, hE, a79, hH, hon, hkl, ← he', co4, ck, co5]
    · rw [if_neg (show ¬ (q.kind = 2 ∧ bl = true) from fun h => ck h.1)]
      by_cases co5 : cl = 0
      · rw [if_neg (show ¬ cl ≠ 0 from fun h => h co5)]
        by_cases c5 : 12 ≤ dp
        · rw [if_pos (Or.inr (Or.inl c5))]
          simp -implicitDefEqProofs (disch := omega) [wrap_of, ilt_t, ilt_f, ile_t, ile_f, nlt_t, nlt_f, nle_t, nle_f, ieq_t, ieq_f, imin_l, imin_r, imax_l, imax_r, take_app1, take_map_all, c46, a70, hL, a73, hD, a74, hR, a75, hN, a14, hG, a76, hB, a77, hC, a78, hE, a79, hH, hon, hkl, ← he', co4, ck, co5, co6, c5]
        · by_cases c7 : 1099511627776 ≤ t.cookie
          · rw [if_pos (Or.inr (Or.inr (Or.inr c7)))]
            simp -implicitDefEqProofs (disch := omega) [wrap_of, ilt_t, ilt_f, ile_t, ile_f, nlt_t, nlt_f, nle_t, nle_f, ieq_t, ieq_f, imin_l, imin_r, imax_l, imax_r, take_app1, take_map_all, c46, a70, hL, a73, hD, a74, hR, a75, hN, a14, hG, a76, hB, a77, hC, a78, hE, a79, hH, hon, hkl, ← he', co4, ck, co5, co6, c5, c7]
          · rw [if_neg (fun h => Or.elim h (fun h => co6 h.1) (fun h => Or.elim h c5 (fun h => Or.elim h (fun h => ck h.1) c7)))]
            rw [if_neg ck]
            rw [if_neg ck] at hmd
            have he := s66 (m := 54) (by decide) v3 hmd to nm i hcu
            generalize entered sLess v3 to nm i = v5 at *
            simp only [Tv] at he hw ⊢
            simp -implicitDefEqProofs (disch := omega) [wrap_of, ilt_t, ilt_f, ile_t, ile_f, nlt_t, nlt_f, nle_t, nle_f, ieq_t, ieq_f, imin_l, imin_r, imax_l, imax_r, take_app1, take_map_all, c46, a70, hL, a73, hD, a74, hR, a75, hN, a14, hG, a76, hB, a77, hC, a78, hE, a79, hH, hon, hkl, ← he', co4, ck, co5, co6, c5, c7, a72, hlf, hl2, a71, hun, a66, he]
      · rw [if_pos (show cl ≠ 0 from co5)]
        simp -implicitDefEqProofs (disch := omega) [wrap_of, ilt_t, ilt_f, ile_t, ile_f, nlt_t, nlt_f, nle_t, nle_f, ieq_t, ieq_f, imin_l, imin_r, imax_l, imax_r, take_app1, take_map_all, c46, a70, hL, a73, hD, a74, hR, a75, hN, a14, hG, a76, hB, a77, hC, a78, hE, a79, hH, hon, hkl, ← he', co4, ck, co5]
end Go.Proofs.YtfdenmkoampgnaaGreat

namespace Go.Proofs.YtfdenmkoampgnaaGreat
open Go.Am Go.Tr

theorem s46 {n : Nat} (hn : 54 < n) (t : Tr.Tree) (hb : Bt t) (fr to : Int) (s nm : List UInt8) (hs : s.length ≤ 9223372036854775807) (hnm : nm.length ≤ 9223372036854775807) (hck : t.cookie < 4398046511104)
    (hm : Bm t fr s to nm (Tr.look okN t fr s).1 (Tr.onto t to nm)) (hcu : (if Tr.onto t to nm ≠ 0 then unnamed (left (left t fr s) to nm) (Tr.onto t to nm) else left t fr s).cookie < 4398046511104) :
    (C49.tab n).p 46 [Tv t, I fr, .str s, I to, .str nm] = some (.tup [Tv (Tr.mv okN sLess t fr s to nm).1, I (Tr.mv okN sLess t fr s to nm).2.1, I (Tr.mv okN sLess t fr s to nm).2.2]) := by
  by_cases d1 : (Tr.look okN t fr s).2 = 0 ∧ dirE t to = 0 ∧ okN nm = true
  · obtain ⟨d1, d2, d3⟩ := d1
    rcases onto_ix (t := t) to nm with ⟨hi, hy⟩ | ⟨k, e, hi, hk, hek, hy⟩
    · exact mvA hn t hb fr to s nm hs hnm hck hm hcu d1 d2 d3 hi hy
    · exact mvB hn t hb fr to s nm hs hnm hck hm hcu d1 d2 d3 k e hi hk hek hy (hm.y0 e (List.mem_of_getElem? hek))
  rw [p46 hn, runP_eq, runH_eq]
  have hL := s70 (n := 54) (by decide) t hb fr s hs
  have hD := s73 (n := 54) (by decide) t hb to
  have hR := s74 (n := 54) (by decide) nm hnm
  have hN := s75 (n := 54) (by decide) (dirN t to) (dirN_ents hb to) nm
  unfold Tr.mv
  by_cases c1 : (Tr.look okN t fr s).2 = 0
  · rw [if_neg (show ¬ (Tr.look okN t fr s).2 ≠ 0 from fun h => h c1)]
    by_cases c2 : dirE t to = 0
    · rw [if_neg (show ¬ dirE t to ≠ 0 from fun h => h c2)]
      cases co3 : okN nm with
      | false =>
        rw [if_pos rfl]
        rw [co3] at hR
        generalize Tr.look okN t fr s = r at *
        obtain ⟨i, e⟩ := r
        simp only at c1
        generalize dirN t to = q at *
        generalize dirE t to = d at *
        simp only [Tv, Nd] at hL hD
        simp -implicitDefEqProofs (disch := omega) [wrap_of, ilt_t, ilt_f, ile_t, ile_f, nlt_t, nlt_f, nle_t, nle_f, ieq_t, ieq_f, imin_l, imin_r, imax_l, imax_r, take_app1, take_map_all, c46, a70, hL, c1, a73, hD, c2, a74, hR]
      | true => exact absurd ⟨c1, c2, co3⟩ d1
    · rw [if_pos (show dirE t to ≠ 0 from c2)]
      generalize Tr.look okN t fr s = r at *
      obtain ⟨i, e⟩ := r
      simp only at c1
      generalize dirN t to = q at *
      generalize dirE t to = d at *
      simp only [Tv, Nd] at hL hD
      simp -implicitDefEqProofs (disch := omega) [wrap_of, ilt_t, ilt_f, ile_t, ile_f, nlt_t, nlt_f, nle_t, nle_f, ieq_t, ieq_f, imin_l, imin_r, imax_l, imax_r, take_app1, take_map_all, c46, a70, hL, c1, a73, hD, c2]
  · rw [if_pos (show (Tr.look okN t fr s).2 ≠ 0 from c1)]
    generalize Tr.look okN t fr s = r at *
    obtain ⟨i, e⟩ := r
    simp only [Tv] at hL c1 ⊢
    simp -implicitDefEqProofs (disch := omega) [wrap_of, ilt_t, ilt_f, ile_t, ile_f, nlt_t, nlt_f, nle_t, nle_f, ieq_t, ieq_f, imin_l, imin_r, imax_l, imax_r, take_app1, take_map_all, c46, a70, hL, c1]
end Go.Proofs.YtfdenmkoampgnaaGreat
