import Derived.Test.YtfdenmkoampgnaaU09GG
import Derived.Test.YtfdenmkoampgnaaTrGM
set_option linter.unusedSimpArgs false
set_option linter.unusedVariables false
namespace Go.Proofs.Ytfdenmkoampgnaa
open Go.Am Go.Tr

theorem quo_inv (t : Tr.Tree) (gs : List Gi) : InvQ t (quoL t gs).1 := by
  have key : ∀ (l : List Gi) (s : List Qu × Bool), InvQ t s.1 → InvQ t (l.foldl (quoS t) s).1 := by
    intro l
    induction l with
    | nil => intro s h; exact h
    | cons g l ih =>
      intro s h
      rw [List.foldl_cons]
      exact ih _ (h.set _ _ _)
  exact key _ _ (InvQ.nil t)
/-- QuotaTells -/
theorem lp3 (l : List Sd) (hl : l.length ≤ 9223372036854775807) (hd : ∀ s ∈ l, s.data.length ≤ 9223372036854775807) (f : Bool) (gs : List Gi) (hg : gs.length ≤ 9223372036854775807) (g : Bool) (a b : UInt8) (x y : Int) (r : List Qu) (hr : r.length ≤ 9223372036854775807) (h : Bool) :
    runP (C09.tab 66) c3 [.lst f (l.map Sv), .lst g (gs.map Gv), .int .u8 a.toNat, .int .u8 b.toNat, .agg [I x, I y], .lst h (r.map Qv)] = some (.bool true) := by
  rw [runP_eq, runH_eq]
  have h8 := s8 (n := 66) (by decide)
  have h9 := s9 (n := 66) (by decide) l hl hd f
  cases hgr : greatT l with
  | true =>
    rw [hgr] at h9
    simp -implicitDefEqProofs (disch := omega) [wrap_of, ilt_t, ilt_f, ile_t, ile_f, nlt_t, nlt_f, nle_t, nle_f, ieq_t, ieq_f, imin_l, imin_r, imax_l, imax_r, take_app1, take_map_all, c3, a8, h8, a9, h9]
  | false =>
    rw [hgr] at h9
    have hl' : l.length ≤ 1000000 := by
      unfold greatT at hgr
      simp at hgr
      omega
    by_cases e1 : r.length ≤ 20
    · by_cases e2 : x < -1099511627776
      · simp -implicitDefEqProofs (disch := omega) [wrap_of, ilt_t, ilt_f, ile_t, ile_f, nlt_t, nlt_f, nle_t, nle_f, ieq_t, ieq_f, imin_l, imin_r, imax_l, imax_r, take_app1, take_map_all, c3, a8, h8, a9, h9, e1, e2]
      · by_cases e3 : 1099511627776 < x
        · simp -implicitDefEqProofs (disch := omega) [wrap_of, ilt_t, ilt_f, ile_t, ile_f, nlt_t, nlt_f, nle_t, nle_f, ieq_t, ieq_f, imin_l, imin_r, imax_l, imax_r, take_app1, take_map_all, c3, a8, h8, a9, h9, e1, e2, e3]
        · by_cases e4 : y < -1099511627776
          · simp -implicitDefEqProofs (disch := omega) [wrap_of, ilt_t, ilt_f, ile_t, ile_f, nlt_t, nlt_f, nle_t, nle_f, ieq_t, ieq_f, imin_l, imin_r, imax_l, imax_r, take_app1, take_map_all, c3, a8, h8, a9, h9, e1, e2, e3, e4]
          · by_cases e5 : 1099511627776 < y
            · simp -implicitDefEqProofs (disch := omega) [wrap_of, ilt_t, ilt_f, ile_t, ile_f, nlt_t, nlt_f, nle_t, nle_f, ieq_t, ieq_f, imin_l, imin_r, imax_l, imax_r, take_app1, take_map_all, c3, a8, h8, a9, h9, e1, e2, e3, e4, e5]
            · have h10 := s10 (n := 66) (by decide) l hl' hd f
              have w : WFt (Tr.made okN sLess (l.map Sd.st)) := WF.made ord_sLess _
              generalize Tr.made okN sLess (l.map Sd.st) = t at *
              have h11 := s11 (n := 66) (by decide) t w gs hg g
              have hv := quo_inv t gs
              generalize quoL t gs = q at *
              obtain ⟨q, fq⟩ := q
              simp only at h11 hv
              have hq16 := hv.len
              have hql : q.length ≤ 1000 := by omega
              have h12 := s12 (n := 66) (by decide) t (wbt w) a.toNat (u8lt a)
              have h20a := s20 (n := 66) (by decide) t w a.toNat (u8lt a)
              have h20b := s20 (n := 66) (by decide) t w b.toNat (u8lt b)
              have hda := dirAt_dir w a.toNat
              have hdb := dirAt_dir w b.toNat
              generalize nodeAt t a.toNat = i at *
              generalize dirAt t a.toNat = da at *
              generalize dirAt t b.toNat = db at *
              have h13 := s13 (n := 66) (by decide) t w i
              have h14 := s14 (n := 66) (by decide) t w i
              obtain ⟨gq, h15⟩ := s15 (n := 66) (by decide) t w q hv.srt hql fq i x y
              have h16 := s16 (n := 66) (by decide) t w q hql fq i x y
              have hsl := setP_len t q i x y
              have h17 := fun f g => s17 (n := 66) (by decide) (setP t q i x y).1 (setP t q i x y).1 (by omega) (by omega) f g
              have h18a := s18 (n := 66) (by decide) t w r (by omega) h
              have h19a := s19 (n := 66) (by decide) t w r (by omega) h
              have h18b := s18 (n := 66) (by decide) t w q hql fq
              rw [(rightQ_iff t q).2 hv] at h18b
              have h21a := s21 (n := 66) (by decide) t w q hql fq hda
              have h21b := s21 (n := 66) (by decide) t w q hql fq hdb
              have h22 := s22 (n := 66) (by decide) t w q hv.srt hql fq hda
              have h23 := s23 (n := 66) (by decide) t w q hv.srt hql fq hda hdb
              have h24 := s24 (n := 66) (by decide) t w q hv.srt hql fq x y (by omega) (by omega) (by omega) (by omega) hda
              have h25 := s25 (n := 66) (by decide) t w q hql fq da x y (by omega) (by omega) (by omega) (by omega)
              generalize setP t q i x y = sr at *
              obtain ⟨sr, se⟩ := sr
              simp only [decide_true] at h15 h16 h17 hsl
              generalize usedN t i = u at *
              generalize usedB t i = v at *
              generalize rightQ t r = rr at *
              generalize dom t q da = o1 at *
              generalize dom t q db = o2 at *
              generalize may t q da x y = mm at *
              simp only [Tv, ne_eq] at h10 h11 h12 h13 h14 h15 h16 h17 h18a h18b h19a h20a h20b h21a h21b h22 h23 h24 h25
              by_cases eo : o1 = o2
              · subst eo
                cases rr <;> simp -implicitDefEqProofs (disch := omega) [wrap_of, ilt_t, ilt_f, ile_t, ile_f, nlt_t, nlt_f, nle_t, nle_f, ieq_t, ieq_f, imin_l, imin_r, imax_l, imax_r, take_app1, take_map_all, c3, a8, h8, a9, h9, e1, e2, e3, e4, e5, a10, h10, a11, h11, a12, h12, a13, h13, a14, h14, a15, h15, a16, h16, a17, h17, a18, h18a, h18b, a19, h19a, a20, h20a, h20b, a21, h21a, h21b, a22, h22, a23, h23, a24, h24, a25, h25]
              · cases rr <;> simp -implicitDefEqProofs (disch := omega) [wrap_of, ilt_t, ilt_f, ile_t, ile_f, nlt_t, nlt_f, nle_t, nle_f, ieq_t, ieq_f, imin_l, imin_r, imax_l, imax_r, take_app1, take_map_all, c3, a8, h8, a9, h9, e1, e2, e3, e4, e5, a10, h10, a11, h11, a12, h12, a13, h13, a14, h14, a15, h15, a16, h16, a17, h17, a18, h18a, h18b, a19, h19a, a20, h20a, h20b, a21, h21a, h21b, a22, h22, a23, h23, a24, h24, a25, h25, eo]
    · simp -implicitDefEqProofs (disch := omega) [wrap_of, ilt_t, ilt_f, ile_t, ile_f, nlt_t, nlt_f, nle_t, nle_f, ieq_t, ieq_f, imin_l, imin_r, imax_l, imax_r, take_app1, take_map_all, c3, a8, h8, a9, h9, e1]
end Go.Proofs.Ytfdenmkoampgnaa
