import Derived.Test.YtlooipgkklaijaaV18
import Derived.Test.YtlooipgkklaijaaU18
set_option linter.unusedSimpArgs false
set_option linter.unusedVariables false
namespace Go.Proofs.Ytlooipgkklaijaa
open Go.Am Go.Am.Nm Go.Lib Go.Am.Sh

theorem tmod8 (a : Nat) : (a : Int).tmod 8 = (a : Int) % 8 := rfl
theorem get_at {l : List P} {k : Nat} {x : P} (h : l[k]? = some x) : ∃ h' : k < l.length, l[k] = x := by
  obtain ⟨h1, h2⟩ := List.getElem?_eq_some_iff.1 h
  exact ⟨h1, h2⟩
theorem lp7 (g : Nat) (hg : g < 256) (l : List Stp) (f : Bool) (hl : l.length ≤ 9223372036854775807) (s : Stp) (hs : s.pa.length ≤ 9223372036854775807) (o : List UInt8) (ho : o.length ≤ 9223372036854775807) :
    runP (C18.tab 61) c7 [.int .u8 g, .lst f (l.map T), T s, .str o] = some (.bool true) := by
  rw [runP_eq, runH_eq]
  have h10 := s10 (n := 61) (by decide)
  have h11 := s11 (n := 61) (by decide) l hl f
  obtain ⟨kd, pa, gr⟩ := s
  simp only at hs
  cases hgr : great l with
  | true =>
    rw [hgr] at h11
    simp -implicitDefEqProofs (disch := omega) [wrap_of, ilt_t, ilt_f, ile_t, ile_f, nlt_t, nlt_f, nle_t, nle_f, ieq_t, ieq_f, imin_l, imin_r, imax_l, imax_r, take_app1, take_map_all, c7, a10, h10, a11, h11]
  | false =>
    rw [hgr] at h11
    by_cases hs1 : 1000 < pa.length
    · simp -implicitDefEqProofs (disch := omega) [wrap_of, ilt_t, ilt_f, ile_t, ile_f, nlt_t, nlt_f, nle_t, nle_f, ieq_t, ieq_f, imin_l, imin_r, imax_l, imax_r, take_app1, take_map_all, c7, a10, h10, a11, h11, hs1]
    · by_cases ho1 : 1000 < o.length
      · simp -implicitDefEqProofs (disch := omega) [wrap_of, ilt_t, ilt_f, ile_t, ile_f, nlt_t, nlt_f, nle_t, nle_f, ieq_t, ieq_f, imin_l, imin_r, imax_l, imax_r, take_app1, take_map_all, c7, a10, h10, a11, h11, hs1, ho1]
      · have h17 := s17 (n := 61) (by decide) g hg l hgr f
        obtain ⟨hr, hL⟩ := made_right (g := g) hgr
        generalize (List.foldl madeQ (true, newP ((g : Int) % 8)) l).1 = fl at h17
        generalize made g l = p at *
        have h18 := s18 (n := 61) (by decide) p hr fl ⟨kd, pa, gr⟩ (by simp only; omega)
        have hq := hr.step ⟨kd, pa, gr⟩
        have hnew := fun h => step_newer hr ⟨kd, pa, gr⟩ (o := o) h
        have hple := hr.le
        have hqle := hq.le
        simp only [T] at h18
        generalize (fl && !decide ((stepP p ⟨kd, pa, gr⟩).2 = 0)) = fq at h18
        generalize stepP p ⟨kd, pa, gr⟩ = q at *
        obtain ⟨q, e⟩ := q
        simp only at hq hnew h18 hqle
        have h20 := s20 (n := 61) (by decide) p (by omega) fl o (fun h => hr.abo_ne h)
        have h20' := s20 (n := 61) (by decide) q (by omega) fq o (fun h => hq.abo_ne h)
        cases hio : isP o with
        | false =>
          rw [hio] at h20 h20'
          simp only [Bool.false_eq_true, if_false] at h20 h20'
          simp -implicitDefEqProofs (disch := omega) [wrap_of, ilt_t, ilt_f, ile_t, ile_f, nlt_t, nlt_f, nle_t, nle_f, ieq_t, ieq_f, imin_l, imin_r, imax_l, imax_r, take_app1, take_map_all, c7, a10, h10, a11, h11, hs1, ho1, a17, h17, a18, h18, a20, h20, h20']
        | true =>
          rw [hio] at h20 h20'
          simp only [if_true] at h20 h20'
          obtain ⟨x, y, hx, hy, n1, n2⟩ := hnew hio
          obtain ⟨ia, ex⟩ := get_at hx
          obtain ⟨ib, ey⟩ := get_at hy
          generalize ofI p o = a at *
          generalize ofI q o = b at *
          by_cases hs : x.pa = y.pa ∧ x.gr = y.gr
          · simp -implicitDefEqProofs (disch := omega) [wrap_of, ilt_t, ilt_f, ile_t, ile_f, nlt_t, nlt_f, nle_t, nle_f, ieq_t, ieq_f, imin_l, imin_r, imax_l, imax_r, take_app1, take_map_all, c7, a10, h10, a11, h11, hs1, ho1, a17, h17, a18, h18, a20, h20, h20', ia, ib, ex, ey, n1, hs, strBin]
          · have hlt : x.ep < y.ep := n2.resolve_left hs
            by_cases hp : x.pa = y.pa
            · have hg' : ¬ x.gr = y.gr := fun h => hs ⟨hp, h⟩
              simp -implicitDefEqProofs (disch := omega) [wrap_of, ilt_t, ilt_f, ile_t, ile_f, nlt_t, nlt_f, nle_t, nle_f, ieq_t, ieq_f, imin_l, imin_r, imax_l, imax_r, take_app1, take_map_all, c7, a10, h10, a11, h11, hs1, ho1, a17, h17, a18, h18, a20, h20, h20', ia, ib, ex, ey, n1, hp, hg', hlt, strBin]
            · simp -implicitDefEqProofs (disch := omega) [wrap_of, ilt_t, ilt_f, ile_t, ile_f, nlt_t, nlt_f, nle_t, nle_f, ieq_t, ieq_f, imin_l, imin_r, imax_l, imax_r, take_app1, take_map_all, c7, a10, h10, a11, h11, hs1, ho1, a17, h17, a18, h18, a20, h20, h20', ia, ib, ex, ey, n1, hp, hlt, strBin]
theorem lp6 (g : Nat) (hg : g < 256) (l : List Stp) (f : Bool) (hl : l.length ≤ 9223372036854775807) (s : List UInt8) (hs : s.length ≤ 9223372036854775807) (t : Nat) (ht : t < 256) (o : List UInt8) (ho : o.length ≤ 9223372036854775807) :
    runP (C18.tab 60) c6 [.int .u8 g, .lst f (l.map T), .str s, .int .u8 t, .str o] = some (.bool true) := by
  rw [runP_eq, runH_eq]
  have h10 := s10 (n := 60) (by decide)
  have h11 := s11 (n := 60) (by decide) l hl f
  cases hgr : great l with
  | true =>
    rw [hgr] at h11
    simp -implicitDefEqProofs (disch := omega) [wrap_of, ilt_t, ilt_f, ile_t, ile_f, nlt_t, nlt_f, nle_t, nle_f, ieq_t, ieq_f, imin_l, imin_r, imax_l, imax_r, take_app1, take_map_all, c6, a10, h10, a11, h11]
  | false =>
    rw [hgr] at h11
    by_cases hs1 : 1000 < s.length
    · simp -implicitDefEqProofs (disch := omega) [wrap_of, ilt_t, ilt_f, ile_t, ile_f, nlt_t, nlt_f, nle_t, nle_f, ieq_t, ieq_f, imin_l, imin_r, imax_l, imax_r, take_app1, take_map_all, c6, a10, h10, a11, h11, hs1]
    · by_cases ho1 : 1000 < o.length
      · simp -implicitDefEqProofs (disch := omega) [wrap_of, ilt_t, ilt_f, ile_t, ile_f, nlt_t, nlt_f, nle_t, nle_f, ieq_t, ieq_f, imin_l, imin_r, imax_l, imax_r, take_app1, take_map_all, c6, a10, h10, a11, h11, hs1, ho1]
      · have h17 := s17 (n := 60) (by decide) g hg l hgr f
        obtain ⟨hr, hL⟩ := made_right (g := g) hgr
        generalize (List.foldl madeQ (true, newP ((g : Int) % 8)) l).1 = fl at h17
        generalize made g l = p at *
        have h27 := s27 (n := 60) (by decide) p hr fl s ((t : Int) % 8)
        have hq := hr.cut s ((t : Int) % 8)
        have hlaw := fun h1 h2 => cut_law hr (s := s) (g := (t : Int) % 8) h1 (o := o) h2
        have hisP : (cutP p s ((t : Int) % 8)).2 = 0 → isP s = true := fun h => (cut_fnd hr h).2.2.2
        have hple := hr.le
        have hqle := hq.le
        generalize cutP p s ((t : Int) % 8) = q at *
        obtain ⟨q, e⟩ := q
        simp only at hq hlaw h27 hqle hisP
        by_cases he : e = 0
        · have hip := hisP he
          generalize (fl && !decide (e = 0)) = fq at h27
          subst he
          have h20 := s20 (n := 60) (by decide) p (by omega) fl o (fun h => hr.abo_ne h)
          have h20s := s20 (n := 60) (by decide) p (by omega) fl s (fun h => hr.abo_ne h)
          have h20' := s20 (n := 60) (by decide) q (by omega) fq o (fun h => hq.abo_ne h)
          have h26 := s26 (n := 60) (by decide) s o (by omega) (by omega)
          rw [hip] at h20s
          simp only [if_true] at h20s
          cases hio : isP o with
          | false =>
            rw [hio] at h20 h20'
            simp only [Bool.false_eq_true, if_false] at h20 h20'
            simp -implicitDefEqProofs (disch := omega) [wrap_of, ilt_t, ilt_f, ile_t, ile_f, nlt_t, nlt_f, nle_t, nle_f, ieq_t, ieq_f, imin_l, imin_r, imax_l, imax_r, take_app1, take_map_all, c6, a10, h10, a11, h11, hs1, ho1, a17, h17, tmod8, a27, h27, a20, h20, h20', h20s]
          | true =>
            rw [hio] at h20 h20'
            simp only [if_true] at h20 h20'
            obtain ⟨hlen, x, hx, hy⟩ := hlaw rfl hio
            obtain ⟨ia, ex⟩ := get_at hx
            obtain ⟨ib, ey⟩ := get_at hy
            generalize ofI p o = a at *
            generalize ofI q o = b at *
            generalize ofI p s = w at *
            cases hab : abv s o with
            | true =>
              rw [hab] at h26 ey
              by_cases haw : a = w
              · rw [if_pos ⟨rfl, haw⟩] at ey
                simp -implicitDefEqProofs (disch := omega) [wrap_of, ilt_t, ilt_f, ile_t, ile_f, nlt_t, nlt_f, nle_t, nle_f, ieq_t, ieq_f, imin_l, imin_r, imax_l, imax_r, take_app1, take_map_all, c6, a10, h10, a11, h11, hs1, ho1, a17, h17, tmod8, a27, h27, a20, h20, h20', h20s, ia, ib, ex, ey, hlen, a26, h26, haw, strBin]
              · rw [if_neg (fun h => haw h.2)] at ey
                simp -implicitDefEqProofs (disch := omega) [wrap_of, ilt_t, ilt_f, ile_t, ile_f, nlt_t, nlt_f, nle_t, nle_f, ieq_t, ieq_f, imin_l, imin_r, imax_l, imax_r, take_app1, take_map_all, c6, a10, h10, a11, h11, hs1, ho1, a17, h17, tmod8, a27, h27, a20, h20, h20', h20s, ia, ib, ex, ey, hlen, a26, h26, haw, strBin]
            | false =>
              rw [hab] at h26 ey
              rw [if_neg (fun h => by cases h.1)] at ey
              simp -implicitDefEqProofs (disch := omega) [wrap_of, ilt_t, ilt_f, ile_t, ile_f, nlt_t, nlt_f, nle_t, nle_f, ieq_t, ieq_f, imin_l, imin_r, imax_l, imax_r, take_app1, take_map_all, c6, a10, h10, a11, h11, hs1, ho1, a17, h17, tmod8, a27, h27, a20, h20, h20', h20s, ia, ib, ex, ey, hlen, a26, h26, strBin]
        · simp -implicitDefEqProofs (disch := omega) [wrap_of, ilt_t, ilt_f, ile_t, ile_f, nlt_t, nlt_f, nle_t, nle_f, ieq_t, ieq_f, imin_l, imin_r, imax_l, imax_r, take_app1, take_map_all, c6, a10, h10, a11, h11, hs1, ho1, a17, h17, tmod8, a27, h27, he]
end Go.Proofs.Ytlooipgkklaijaa
