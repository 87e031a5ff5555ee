import Derived.Test.YtgefdmkmobaefaaX19GH
set_option linter.unusedSimpArgs false
set_option linter.unusedVariables false
namespace Go.Proofs.Ytgefdmkmobaefaa
open Go.Am Go.Am.Nm Go.Lib Go.Cr
def OkB (b : Bo) : Prop := b.cases.length ≤ 1000000 ∧ ∀ c ∈ b.cases, OkC c ∧ c.heard.Pairwise (· < ·)
theorem sh3 (a b c d e : AV) : Am.shape 3 true [a, b, c, d, e] = some (.agg [a, b, c]) := by simp [Am.shape]
theorem takeAll {α : Type} {n : Nat} {l : List α} (h : l.length ≤ n) : l.take n = l := List.take_of_length_le h
theorem allP_len (b : Bo) (d : De) (k : Int) : (allP b d k).length = d.grs.length := by simp [allP]
theorem get5 (E : AH) (R a1 a2 a3 a4 a5 : AB) : (a1 :: a2 :: a3 :: a4 :: a5 :: (E ++ [R]))[5 + E.length]? = some R := by
 rw [show 5 + E.length = E.length + 1 + 1 + 1 + 1 + 1 by omega]; simp
theorem caseAt_some {b : Bo} {id : Int} {c : Ca} (h : (b.cases.find? fun c => decide (c.de.id = id)) = some c) : ∃ hi : caseAt b id < b.cases.length, c = b.cases[caseAt b id] ∧ b.cases[caseAt b id]? = some c ∧ placeI b id = caseAt b id := by
 have h1 : b.cases[caseAt b id]? = some c := by unfold caseAt; rw [getElem?_findIdx]; exact h
 obtain ⟨h2, h3⟩ := List.getElem?_eq_some_iff.1 h1
 refine ⟨h2, h3.symm, h1, ?_⟩
 unfold placeI
 rw [h]; rfl
theorem caseAt_none {b : Bo} {id : Int} (h : (b.cases.find? fun c => decide (c.de.id = id)) = none) : b.cases[caseAt b id]? = none ∧ placeI b id = -1 := by
 have h1 : b.cases[caseAt b id]? = none := by unfold caseAt; rw [getElem?_findIdx]; exact h
 refine ⟨h1, ?_⟩
 unfold placeI
 rw [h]; rfl
theorem s37_2 {n : Nat} (hn : 52 < n) (b : Bo) (fr id : Int) (fn fd : Bool) (da : List UInt8) (hb : OkB b) : ∃ fo, (C19.tab n).p 37 [Bv b, Mv ⟨fr, b.id, 2, fn, [id], fd, da⟩] = some (.tup [Bv (tellP b ⟨fr, b.id, 2, fn, [id], fd, da⟩).1, .lst fo ((tellP b ⟨fr, b.id, 2, fn, [id], fd, da⟩).2.map Mv)]) := by
 rw [p37 hn, runP_eq, runH_eq]
 have h63 := s63 (n := 52) (by decide) b id hb.1
 have h42 := fun a h => p42 (n := 52) (by decide) a h
 have hlk : lookM [(2, AV.fn (Fn.func 72) [] []), (3, AV.fn (Fn.func 64) [] []), (5, AV.fn (Fn.func 73) [] []), (7, AV.fn (Fn.func 74) [] [])] 2 .nilf = .fn (.func 72) [] [] := rfl
 simp only [Bv] at h63
 unfold tellP
 simp only [List.length_cons, List.length_nil, true_and, List.headD_cons]
 rw [if_pos (by decide)]
 cases hf : b.cases.find? fun c => decide (c.de.id = id) with
 | none =>
  obtain ⟨q1, q2⟩ := caseAt_none hf
  rw [q2] at h63
  rw [q1]
  have h49 := s49 (n := 52) (by decide) b.id fr 6 id
  simp only [Mv, Bs] at h49
  refine ⟨true, ?_⟩
  simp -implicitDefEqProofs (disch := omega) [c37, Bv, Mv, Bs, putM, hlk, a63, h63, a49, h49]
  done
 | some c =>
  obtain ⟨hi, hc, q1, q2⟩ := caseAt_some hf
  rw [q2] at h63
  rw [q1]
  generalize caseAt b id = i at hi hc q1 h63
  obtain ⟨⟨hg, -, hhl⟩, hh⟩ := hb.2 c (hc ▸ List.getElem_mem hi)
  have hcl := hb.1
  have h48 := s48 (n := 52) (by decide) c.de.grs fr hg c.de.fg
  have etk : ∀ a : AV, List.take b.cases.length ((b.cases.map Cv).set i a) = (b.cases.map Cv).set i a := fun a => takeAll (by simp)
  have eal := fun k => allP_len b c.de k
  have ealt : ∀ k, List.take c.de.grs.length ((allP b c.de k).map Mv) = (allP b c.de k).map Mv := fun k => takeAll (by simp [eal])
  have hg5 := get5
  by_cases hm : fr ∈ c.de.grs
  ·rw [decide_eq_true hm] at h48
   simp only [if_pos hm]
   obtain ⟨X, hXe⟩ : ∃ X : AH, X = [.var [I b.id, I b.next, .own 3 0 0 b.cases.length], .var [.int .i64 0, .int .i64 0, .lst true []], .mp does] := ⟨_, rfl⟩
   have hX : Nm X := hXe ▸ Nm3 b b.cases.length
   have h72 := s72 (n := 52) (by decide) X hX 0 b i fr b.cases [] rfl hi hcl c hc hg hh hhl
   have hl3 : X.length = 3 := by rw [hXe]; rfl
   obtain ⟨E, hE, h72⟩ := h72
   subst hXe
   simp only [Wk, List.cons_append, List.nil_append, List.length_cons, List.length_nil, Nat.reduceAdd, does] at h72
   unfold tellC
   cases hsu : c.sure with
   | true =>
    refine ⟨true, ?_⟩
    rw [hsu] at h72
    simp only [if_true] at h72
    simp only [if_true, withC, show ¬ (2 : Int) = 3 from by decide, show ¬ (2 : Int) = 5 from by decide, if_false]
    simp -implicitDefEqProofs (disch := omega) [c37, Bv, Mv, Bs, putM, hlk, a63, h63, hi, ← hc, Cv, a48, h48, h42, h72, szC, sh3, etk, eal, ealt, hg5]
    done
   | false =>
    rw [hsu] at h72
    simp only [Bool.false_eq_true, if_false] at h72
    simp only [Bool.false_eq_true, withC, show ¬ (2 : Int) = 3 from by decide, if_false, if_true]
    by_cases hq : (hearL c.heard fr).length = c.de.grs.length
    ·refine ⟨false, ?_⟩
     simp only [if_pos hq] at h72 ⊢
     simp -implicitDefEqProofs (disch := omega) [c37, Bv, Mv, Bs, putM, hlk, a63, h63, hi, ← hc, Cv, a48, h48, h42, h72, szC, sh3, etk, eal, ealt, hg5]
     done
    ·refine ⟨true, ?_⟩
     simp only [if_neg hq] at h72 ⊢
     simp -implicitDefEqProofs (disch := omega) [c37, Bv, Mv, Bs, putM, hlk, a63, h63, hi, ← hc, Cv, a48, h48, h42, h72, szC, sh3, etk, eal, ealt, hg5]
     done
  ·rw [decide_eq_false hm] at h48
   simp only [if_neg hm]
   refine ⟨true, ?_⟩
   simp -implicitDefEqProofs (disch := omega) [c37, Bv, Mv, Bs, putM, hlk, a63, h63, hi, ← hc, Cv, a48, h48]
   done
theorem s37_3 {n : Nat} (hn : 52 < n) (b : Bo) (fr id : Int) (fn fd : Bool) (da : List UInt8) (hb : OkB b) : ∃ fo, (C19.tab n).p 37 [Bv b, Mv ⟨fr, b.id, 3, fn, [id], fd, da⟩] = some (.tup [Bv (tellP b ⟨fr, b.id, 3, fn, [id], fd, da⟩).1, .lst fo ((tellP b ⟨fr, b.id, 3, fn, [id], fd, da⟩).2.map Mv)]) := by
 rw [p37 hn, runP_eq, runH_eq]
 have h63 := s63 (n := 52) (by decide) b id hb.1
 have h42 := fun a h => p42 (n := 52) (by decide) a h
 have hlk : lookM [(2, AV.fn (Fn.func 72) [] []), (3, AV.fn (Fn.func 64) [] []), (5, AV.fn (Fn.func 73) [] []), (7, AV.fn (Fn.func 74) [] [])] 3 .nilf = .fn (.func 64) [] [] := rfl
 simp only [Bv] at h63
 unfold tellP
 simp only [List.length_cons, List.length_nil, true_and, List.headD_cons]
 rw [if_pos (by decide)]
 cases hf : b.cases.find? fun c => decide (c.de.id = id) with
 | none =>
  obtain ⟨q1, q2⟩ := caseAt_none hf
  rw [q2] at h63
  rw [q1]
  have h49 := s49 (n := 52) (by decide) b.id fr 6 id
  simp only [Mv, Bs] at h49
  refine ⟨true, ?_⟩
  simp -implicitDefEqProofs (disch := omega) [c37, Bv, Mv, Bs, putM, hlk, a63, h63, a49, h49]
  done
 | some c =>
  obtain ⟨hi, hc, q1, q2⟩ := caseAt_some hf
  rw [q2] at h63
  rw [q1]
  generalize caseAt b id = i at hi hc q1 h63
  obtain ⟨⟨hg, -, hhl⟩, hh⟩ := hb.2 c (hc ▸ List.getElem_mem hi)
  have hcl := hb.1
  have h48 := s48 (n := 52) (by decide) c.de.grs fr hg c.de.fg
  have etk : ∀ a : AV, List.take b.cases.length ((b.cases.map Cv).set i a) = (b.cases.map Cv).set i a := fun a => takeAll (by simp)
  have eal := fun k => allP_len b c.de k
  have ealt : ∀ k, List.take c.de.grs.length ((allP b c.de k).map Mv) = (allP b c.de k).map Mv := fun k => takeAll (by simp [eal])
  have hg5 := get5
  by_cases hm : fr ∈ c.de.grs
  ·rw [decide_eq_true hm] at h48
   simp only [if_pos hm]
   obtain ⟨X, hXe⟩ : ∃ X : AH, X = [.var [I b.id, I b.next, .own 3 0 0 b.cases.length], .var [.int .i64 0, .int .i64 0, .lst true []], .mp does] := ⟨_, rfl⟩
   have hX : Nm X := hXe ▸ Nm3 b b.cases.length
   have h64 := s64 (n := 52) (by decide) X hX 0 b i fr b.cases [] rfl hi hcl c hc hg
   have hl3 : X.length = 3 := by rw [hXe]; rfl
   subst hXe
   simp only [Wk, List.cons_append, List.nil_append, List.length_cons, List.length_nil, Nat.reduceAdd, does] at h64
   cases hsu : c.sure with
   | true =>
    refine ⟨true, ?_⟩
    rw [hsu] at h64
    simp only [if_true] at h64
    unfold tellC
    simp only [hsu, if_true, withC]
    simp -implicitDefEqProofs (disch := omega) [c37, Bv, Mv, Bs, putM, hlk, a63, h63, hi, ← hc, Cv, a48, h48, h42, h64, szC, sh3, etk, eal, ealt, hg5]
    done
   | false =>
    refine ⟨false, ?_⟩
    rw [hsu] at h64
    simp only [Bool.false_eq_true, if_false] at h64
    unfold tellC
    simp only [hsu, Bool.false_eq_true, if_false, if_true, withC]
    simp -implicitDefEqProofs (disch := omega) [c37, Bv, Mv, Bs, putM, hlk, a63, h63, hi, ← hc, Cv, a48, h48, h42, h64, szC, sh3, etk, eal, ealt, hg5]
    done
  ·rw [decide_eq_false hm] at h48
   simp only [if_neg hm]
   refine ⟨true, ?_⟩
   simp -implicitDefEqProofs (disch := omega) [c37, Bv, Mv, Bs, putM, hlk, a63, h63, hi, ← hc, Cv, a48, h48]
   done
theorem s37_5 {n : Nat} (hn : 52 < n) (b : Bo) (fr id : Int) (fn fd : Bool) (da : List UInt8) (hb : OkB b) : ∃ fo, (C19.tab n).p 37 [Bv b, Mv ⟨fr, b.id, 5, fn, [id], fd, da⟩] = some (.tup [Bv (tellP b ⟨fr, b.id, 5, fn, [id], fd, da⟩).1, .lst fo ((tellP b ⟨fr, b.id, 5, fn, [id], fd, da⟩).2.map Mv)]) := by
 rw [p37 hn, runP_eq, runH_eq]
 have h63 := s63 (n := 52) (by decide) b id hb.1
 have h42 := fun a h => p42 (n := 52) (by decide) a h
 have hlk : lookM [(2, AV.fn (Fn.func 72) [] []), (3, AV.fn (Fn.func 64) [] []), (5, AV.fn (Fn.func 73) [] []), (7, AV.fn (Fn.func 74) [] [])] 5 .nilf = .fn (.func 73) [] [] := rfl
 simp only [Bv] at h63
 unfold tellP
 simp only [List.length_cons, List.length_nil, true_and, List.headD_cons]
 rw [if_pos (by decide)]
 cases hf : b.cases.find? fun c => decide (c.de.id = id) with
 | none =>
  obtain ⟨q1, q2⟩ := caseAt_none hf
  rw [q2] at h63
  rw [q1]
  have h49 := s49 (n := 52) (by decide) b.id fr 6 id
  simp only [Mv, Bs] at h49
  refine ⟨true, ?_⟩
  simp -implicitDefEqProofs (disch := omega) [c37, Bv, Mv, Bs, putM, hlk, a63, h63, a49, h49]
  done
 | some c =>
  obtain ⟨hi, hc, q1, q2⟩ := caseAt_some hf
  rw [q2] at h63
  rw [q1]
  generalize caseAt b id = i at hi hc q1 h63
  obtain ⟨⟨hg, -, hhl⟩, hh⟩ := hb.2 c (hc ▸ List.getElem_mem hi)
  have hcl := hb.1
  have h48 := s48 (n := 52) (by decide) c.de.grs fr hg c.de.fg
  have etk : ∀ a : AV, List.take b.cases.length ((b.cases.map Cv).set i a) = (b.cases.map Cv).set i a := fun a => takeAll (by simp)
  have eal := fun k => allP_len b c.de k
  have ealt : ∀ k, List.take c.de.grs.length ((allP b c.de k).map Mv) = (allP b c.de k).map Mv := fun k => takeAll (by simp [eal])
  have hg5 := get5
  by_cases hm : fr ∈ c.de.grs
  ·rw [decide_eq_true hm] at h48
   simp only [if_pos hm]
   obtain ⟨X, hXe⟩ : ∃ X : AH, X = [.var [I b.id, I b.next, .own 3 0 0 b.cases.length], .var [.int .i64 0, .int .i64 0, .lst true []], .mp does] := ⟨_, rfl⟩
   have hX : Nm X := hXe ▸ Nm3 b b.cases.length
   have h73 := s73 (n := 52) (by decide) X 0 b i fr b.cases [] rfl hi hcl c hc hg hh hhl
   have hl3 : X.length = 3 := by rw [hXe]; rfl
   obtain ⟨v', E, hE, h73⟩ := h73
   subst hXe
   simp only [Wk, List.cons_append, List.nil_append, List.length_cons, List.length_nil, Nat.reduceAdd, does] at h73
   refine ⟨true, ?_⟩
   unfold tellC
   cases hsu : c.sure with
   | true =>
    rw [hsu] at h73
    simp only [if_true] at h73
    simp only [if_true, withC, show ¬ (5 : Int) = 3 from by decide, if_false]
    by_cases hq : (hearL c.heard fr).length = c.de.grs.length
    ·simp only [if_pos hq] at h73 ⊢
     simp -implicitDefEqProofs (disch := omega) [c37, Bv, Mv, Bs, putM, hlk, a63, h63, hi, ← hc, Cv, a48, h48, h42, h73, szC, sh3, etk, eal, ealt, hg5]
     done
    ·simp only [if_neg hq] at h73 ⊢
     simp -implicitDefEqProofs (disch := omega) [c37, Bv, Mv, Bs, putM, hlk, a63, h63, hi, ← hc, Cv, a48, h48, h42, h73, szC, sh3, etk, eal, ealt, hg5]
     done
   | false =>
    rw [hsu] at h73
    simp only [Bool.false_eq_true, if_false] at h73
    simp only [Bool.false_eq_true, withC, show ¬ (5 : Int) = 3 from by decide, show ¬ (5 : Int) = 2 from by decide, if_false]
    simp -implicitDefEqProofs (disch := omega) [c37, Bv, Mv, Bs, putM, hlk, a63, h63, hi, ← hc, Cv, a48, h48, h42, h73, szC, sh3, etk, eal, ealt, hg5]
    done
  ·rw [decide_eq_false hm] at h48
   simp only [if_neg hm]
   refine ⟨true, ?_⟩
   simp -implicitDefEqProofs (disch := omega) [c37, Bv, Mv, Bs, putM, hlk, a63, h63, hi, ← hc, Cv, a48, h48]
   done
theorem s37_7 {n : Nat} (hn : 52 < n) (b : Bo) (fr id : Int) (fn fd : Bool) (da : List UInt8) (hb : OkB b) : ∃ fo, (C19.tab n).p 37 [Bv b, Mv ⟨fr, b.id, 7, fn, [id], fd, da⟩] = some (.tup [Bv (tellP b ⟨fr, b.id, 7, fn, [id], fd, da⟩).1, .lst fo ((tellP b ⟨fr, b.id, 7, fn, [id], fd, da⟩).2.map Mv)]) := by
 rw [p37 hn, runP_eq, runH_eq]
 have h63 := s63 (n := 52) (by decide) b id hb.1
 have h42 := fun a h => p42 (n := 52) (by decide) a h
 have hlk : lookM [(2, AV.fn (Fn.func 72) [] []), (3, AV.fn (Fn.func 64) [] []), (5, AV.fn (Fn.func 73) [] []), (7, AV.fn (Fn.func 74) [] [])] 7 .nilf = .fn (.func 74) [] [] := rfl
 simp only [Bv] at h63
 unfold tellP
 simp only [List.length_cons, List.length_nil, true_and, List.headD_cons]
 rw [if_pos (by decide)]
 cases hf : b.cases.find? fun c => decide (c.de.id = id) with
 | none =>
  obtain ⟨q1, q2⟩ := caseAt_none hf
  rw [q2] at h63
  rw [q1]
  have h49 := s49 (n := 52) (by decide) b.id fr 6 id
  simp only [Mv, Bs] at h49
  refine ⟨true, ?_⟩
  simp -implicitDefEqProofs (disch := omega) [c37, Bv, Mv, Bs, putM, hlk, a63, h63, a49, h49]
  done
 | some c =>
  obtain ⟨hi, hc, q1, q2⟩ := caseAt_some hf
  rw [q2] at h63
  rw [q1]
  generalize caseAt b id = i at hi hc q1 h63
  obtain ⟨⟨hg, -, hhl⟩, hh⟩ := hb.2 c (hc ▸ List.getElem_mem hi)
  have hcl := hb.1
  have h48 := s48 (n := 52) (by decide) c.de.grs fr hg c.de.fg
  have etk : ∀ a : AV, List.take b.cases.length ((b.cases.map Cv).set i a) = (b.cases.map Cv).set i a := fun a => takeAll (by simp)
  have eal := fun k => allP_len b c.de k
  have ealt : ∀ k, List.take c.de.grs.length ((allP b c.de k).map Mv) = (allP b c.de k).map Mv := fun k => takeAll (by simp [eal])
  have hg5 := get5
  by_cases hm : fr ∈ c.de.grs
  ·rw [decide_eq_true hm] at h48
   simp only [if_pos hm]
   obtain ⟨X, hXe⟩ : ∃ X : AH, X = [.var [I b.id, I b.next, .own 3 0 0 b.cases.length], .var [.int .i64 0, .int .i64 0, .lst true []], .mp does] := ⟨_, rfl⟩
   have hX : Nm X := hXe ▸ Nm3 b b.cases.length
   have h74 := s74 (n := 52) (by decide) X 0 b i fr b.cases [] hi c hc
   have hl3 : X.length = 3 := by rw [hXe]; rfl
   subst hXe
   simp only [Wk, List.cons_append, List.nil_append, List.length_cons, List.length_nil, Nat.reduceAdd, does] at h74
   refine ⟨true, ?_⟩
   unfold tellC
   cases hsu : c.sure with
   | true =>
    rw [hsu] at h74
    simp only [if_true] at h74
    simp only [if_true, withC, show ¬ (7 : Int) = 3 from by decide, show ¬ (7 : Int) = 5 from by decide, if_false]
    simp -implicitDefEqProofs (disch := omega) [c37, Bv, Mv, Bs, putM, hlk, a63, h63, hi, ← hc, Cv, a48, h48, h42, h74, szC, sh3, etk, eal, ealt, hg5]
    done
   | false =>
    rw [hsu] at h74
    simp only [Bool.false_eq_true, if_false] at h74
    simp only [Bool.false_eq_true, withC, show ¬ (7 : Int) = 3 from by decide, show ¬ (7 : Int) = 2 from by decide, if_false]
    simp -implicitDefEqProofs (disch := omega) [c37, Bv, Mv, Bs, putM, hlk, a63, h63, hi, ← hc, Cv, a48, h48, h42, h74, szC, sh3, etk, eal, ealt, hg5]
    done
  ·rw [decide_eq_false hm] at h48
   simp only [if_neg hm]
   refine ⟨true, ?_⟩
   simp -implicitDefEqProofs (disch := omega) [c37, Bv, Mv, Bs, putM, hlk, a63, h63, hi, ← hc, Cv, a48, h48]
   done
end Go.Proofs.Ytgefdmkmobaefaa

namespace Go.Proofs.Ytgefdmkmobaefaa
open Go.Am Go.Am.Nm Go.Lib Go.Cr
theorem s37 {n : Nat} (hn : 52 < n) (b : Bo) (m : Mg) (hb : OkB b) : ∃ fo, (C19.tab n).p 37 [Bv b, Mv m] = some (.tup [Bv (tellP b m).1, .lst fo ((tellP b m).2.map Mv)]) := by
 obtain ⟨fr, to, k, fn, nu, fd, da⟩ := m
 by_cases h1 : to = b.id ∧ nu.length = 1 ∧ (k = 2 ∨ k = 3 ∨ k = 5 ∨ k = 7)
 ·obtain ⟨rfl, h2, h3⟩ := h1
  obtain ⟨id, rfl⟩ : ∃ x, nu = [x] := by match nu, h2 with | [x], _ => exact ⟨x, rfl⟩
  rcases h3 with rfl | rfl | rfl | rfl
  ·exact s37_2 hn b fr id fn fd da hb
  ·exact s37_3 hn b fr id fn fd da hb
  ·exact s37_5 hn b fr id fn fd da hb
  ·exact s37_7 hn b fr id fn fd da hb
 ·refine ⟨true, ?_⟩
  have ht : tellP b ⟨fr, to, k, fn, nu, fd, da⟩ = (b, []) := by unfold tellP; rw [if_neg h1]
  rw [ht, p37 hn, runP_eq, runH_eq]
  by_cases c1 : to = b.id
  ·by_cases c2 : nu.length = 1
   ·have c3 : ¬ k = 2 ∧ ¬ k = 3 ∧ ¬ k = 5 ∧ ¬ k = 7 := by
     refine ⟨fun e => h1 ⟨c1, c2, by simp [e]⟩, fun e => h1 ⟨c1, c2, by simp [e]⟩, fun e => h1 ⟨c1, c2, by simp [e]⟩, fun e => h1 ⟨c1, c2, by simp [e]⟩⟩
    have hlk : lookM [(2, AV.fn (Fn.func 72) [] []), (3, AV.fn (Fn.func 64) [] []), (5, AV.fn (Fn.func 73) [] []), (7, AV.fn (Fn.func 74) [] [])] k .nilf = .nilf := by
     simp [lookM, List.find?_cons, Ne.symm c3.1, Ne.symm c3.2.1, Ne.symm c3.2.2.1, Ne.symm c3.2.2.2]
    simp -implicitDefEqProofs (disch := omega) [c37, Bv, Mv, Bs, c1, c2, putM, hlk]
    done
   ·simp -implicitDefEqProofs (disch := omega) [c37, Bv, Mv, Bs, c1, c2, putM]
    done
  ·simp -implicitDefEqProofs (disch := omega) [c37, Bv, Mv, Bs, c1, putM]
   done
theorem s32 {n : Nat} (hn : 68 < n) (b : Bo) (id : Int) (hb : OkB b) : ∃ fo, (C19.tab n).p 32 [Bv b, I id] = some (.tup [Bv (giveP b id).1, .lst fo ((giveP b id).2.map Mv)]) := by
 rw [p32 hn, runP_eq, runH_eq]
 have h63 := s63 (n := 68) (by decide) b id hb.1
 have h42 := fun a h => p42 (n := 68) (by decide) a h
 simp only [Bv] at h63
 unfold giveP
 cases hf : b.cases.find? fun c => decide (c.de.id = id) with
 | none =>
  obtain ⟨q1, q2⟩ := caseAt_none hf
  rw [q2] at h63
  rw [q1]
  refine ⟨true, ?_⟩
  simp -implicitDefEqProofs (disch := omega) [c32, Bv, a63, h63]
  done
 | some c =>
  obtain ⟨hi, hc, q1, q2⟩ := caseAt_some hf
  rw [q2] at h63
  rw [q1]
  generalize caseAt b id = i at hi hc q1 h63
  obtain ⟨⟨hg, -, hhl⟩, hh⟩ := hb.2 c (hc ▸ List.getElem_mem hi)
  have hcl := hb.1
  have eal := fun k => allP_len b c.de k
  have ealt : ∀ k, List.take c.de.grs.length ((allP b c.de k).map Mv) = (allP b c.de k).map Mv := fun k => takeAll (by simp [eal])
  have h64 := s64 (n := 68) (by decide) [.var [I b.id, I b.next, .own 2 0 0 b.cases.length], .var [.int .i64 0, .int .i64 0, .lst true []]] (Nm2 b b.cases.length) 0 b i 0 b.cases [] rfl hi hcl c hc hg
  simp only [Wk, List.cons_append, List.nil_append, List.length_cons, List.length_nil, Nat.reduceAdd] at h64
  cases hsu : c.sure with
  | true =>
   refine ⟨true, ?_⟩
   simp only [hsu, if_true]
   simp -implicitDefEqProofs (disch := omega) [c32, Bv, a63, h63, hi, ← hc, Cv, hsu]
   done
  | false =>
   refine ⟨false, ?_⟩
   rw [hsu] at h64
   simp only [Bool.false_eq_true, if_false] at h64
   simp only [hsu, Bool.false_eq_true, if_false, withC]
   simp -implicitDefEqProofs (disch := omega) [c32, Bv, a63, h63, hi, ← hc, Cv, hsu, h42, szC, h64, sh3, eal, ealt]
   done
end Go.Proofs.Ytgefdmkmobaefaa

namespace Go.Proofs.Ytgefdmkmobaefaa
open Go.Am Go.Am.Nm Go.Lib Go.Cr
theorem s66 {n : Nat} (hn : 44 < n) (l : List Rd) (f : Bool) (hl : l.length ≤ 1000000) (g : FuncId) (cap : List AV) (q : Rd → Bool) (h : AH) (hh : h.all plainB = true)
  (hq : ∀ r, callA (C19.tab 44) g ([.agg [I r.id, .str r.path]] ++ cap) h = some (.bool (q r), h)) :
  callA (C19.tab n) 66 [.lst f (l.map Rv), .fn (.func g) [] cap] h = some (I ((l.find? q).elim (-1) fun _ => ((l.findIdx q : Nat) : Int)), h) := by
 rw [p66 hn, runH_eq]
 have hx : ∀ e0 : Env, e0 0 = .lst f (l.map Rv) → e0 1 = .fn (.func g) [] cap → e0 7 = .int .i64 l.length → iter (round (C19.tab 44) [8] [(.exit 0, []), (.ret, [4])] c66_1 e0 h.length []) ([.int .i64 0], h) = some ((l.find? q).elim (.exit 0, [], h) fun _ => (.ret, [.int .i64 (l.findIdx q : Nat)], h)) := fun e0 h0 h1 h7 =>
  for_idx (f := round (C19.tab 44) [8] [(.exit 0, []), (.ret, [4])] c66_1 e0 h.length []) (fun i => ([.int .i64 (i : Int)], h)) l q (fun i _ => (.ret, [.int .i64 (i : Int)], h)) (.exit 0, [], h)
   (fun i hi => by
    obtain ⟨y, hy⟩ : ∃ y, y = l[i] := ⟨_, rfl⟩
    rw [← hy]
    have h89 := hq y
    simp only [List.cons_append, List.nil_append] at h89
    have hnp := normH_plain h.length h h 0 hh
    cases hqy : q y
    ·rw [hqy] at h89
     simp -implicitDefEqProofs (disch := omega) [round_eq, b66_1, h0, h1, h7, hi, ← hy, h89, Rv, hnp]
    ·rw [hqy] at h89
     simp -implicitDefEqProofs (disch := omega) [round_eq, b66_1, h0, h1, h7, hi, ← hy, h89, Rv, hnp])
   (by simp -implicitDefEqProofs (disch := omega) [round_eq, b66_1, h0, h1, h7])
 have hnp := normH_plain h.length h h 0 hh
 simp -implicitDefEqProofs (disch := omega) [c66, hnp]
 rw [hx _ (by simp -implicitDefEqProofs (disch := omega)) (by simp -implicitDefEqProofs (disch := omega)) (by simp -implicitDefEqProofs (disch := omega))]
 cases hf : l.find? q with
 | none => simp -implicitDefEqProofs (disch := omega)
 | some y => simp -implicitDefEqProofs (disch := omega)
theorem s55 {n : Nat} (hn : 6 < n) (r : Rd) (path : List UInt8) : callA (C19.tab n) 55 [.agg [I r.id, .str r.path], .ptr 0 0 0 0] [.var [.str path]] = some (.bool (clsh r.path path), [.var [.str path]]) := by
 rw [p55 hn, runH_eq]
 have h56 := s56 (n := 6) (by decide) r.path path
 simp -implicitDefEqProofs (disch := omega) [c55, a56, h56]
theorem s54 {n : Nat} (hn : 45 < n) (l : List Rd) (f : Bool) (hl : l.length ≤ 1000000) (path : List UInt8) :
  callA (C19.tab n) 54 [.lst f (l.map Rv), .fn (.func 55) [] [.ptr 0 0 0 0]] [.var [.str path]] = some (.bool (l.any fun r => clsh r.path path), [.var [.str path]]) := by
 rw [p54 hn, runH_eq]
 have h66 := s66 (n := 45) (by decide) l f hl 55 [.ptr 0 0 0 0] (fun r => clsh r.path path) [.var [.str path]] rfl (fun r => s55 (by decide) r path)
 rw [← find_any]
 cases hf : l.find? fun r => clsh r.path path with
 | none => rw [hf] at h66; simp only [Option.elim_none] at h66; simp -implicitDefEqProofs (disch := omega) [c54, h66]
 | some y => rw [hf] at h66; simp only [Option.elim_some] at h66; simp -implicitDefEqProofs (disch := omega) [c54, h66]
theorem s26 {n : Nat} (hn : 46 < n) (p : Pt) (path : List UInt8) (hl : p.ready.length ≤ 1000000) : (C19.tab n).p 26 [Pv p, .str path] = some (.bool (lockedP isPth clsh p path)) := by
 rw [p26 hn, runP_eq, runH_eq]
 have h53 := s53 (n := 46) (by decide) path
 have h54 := s54 (n := 46) (by decide) p.ready p.fr hl path
 unfold lockedP
 cases hp : isPth path
 ·rw [hp] at h53
  simp -implicitDefEqProofs (disch := omega) [c26, Pv, a53, h53]
 ·rw [hp] at h53
  simp -implicitDefEqProofs (disch := omega) [c26, Pv, a53, h53, h54]
theorem s67 {n : Nat} (hn : 13 < n) (r : Rd) (id : Int) (a b c : AB) : callA (C19.tab n) 67 [.agg [I r.id, .str r.path], .ptr 3 0 0 0] [a, b, c, .var [I id]] = some (.bool (decide (r.id = id)), [a, b, c, .var [I id]]) := by
 rw [p67 hn, runH_eq]
 simp -implicitDefEqProofs (disch := omega) [c67]
theorem s68 {n : Nat} (hn : 14 < n) (k pid fr id : Int) (pr mr : List AV) (c : AB) (E : AH) :
  callA (C19.tab n) 68 [I k, .ptr 0 0 0 0, .ptr 1 0 0 0, .ptr 3 0 0 0] (.var (I pid :: pr) :: .var (I fr :: mr) :: c :: .var [I id] :: E) = some (.lst true [Mv (msgP pid fr k id)], .var (I pid :: pr) :: .var (I fr :: mr) :: c :: .var [I id] :: E) := by
 rw [p68 hn, runH_eq]
 have h49 := s49 (n := 14) (by decide) pid fr k id
 simp only [Mv] at h49
 simp -implicitDefEqProofs (disch := omega) [c68, a49, h49, Mv]
end Go.Proofs.Ytgefdmkmobaefaa

namespace Go.Proofs.Ytgefdmkmobaefaa
open Go.Am Go.Am.Nm Go.Lib Go.Cr
theorem s69 {n : Nat} (hn : 17 < n) (pid : Int) (f fd : Bool) (l : List Rd) (di : List Int) (b c d : AB) (i : Nat) (hi : i < l.length) (hl : l.length ≤ 1000000) :
  callA (C19.tab n) 69 [.ptr 0 0 0 0, .ptr 4 0 0 0] [.var [I pid, .lst f (l.map Rv), .lst fd (di.map I)], b, c, d, .var [I i]] = some (.own 5 1 0 (l.eraseIdx i).length, [.var [I pid, .lst f (l.map Rv), .lst fd (di.map I)], b, c, d, .var [I i], .row 1 2 ((l.eraseIdx i).map Rv)]) := by
 rw [p69 hn, runH_eq]
 have h71 := fun a h => p71 (n := 17) (by decide) a h
 have h70 := fun a h => p70 (n := 17) (by decide) a h
 have e1 : i + (l.length - (i + 1)) = (l.eraseIdx i).length := by rw [List.length_eraseIdx_of_lt hi]; omega
 simp -implicitDefEqProofs (disch := omega) [c69, h71, h70, deleteH, szR, hi, e1]
 rw [List.eraseIdx_eq_take_drop_succ]
 simp
theorem s35_1di {n : Nat} (hn : 49 < n) (p : Pt) (fr id : Int) (fn fd : Bool) (da : List UInt8) (hl : p.ready.length ≤ 1000000) (hl2 : p.did.length ≤ 1000000) (hd : id ∈ p.did) (y : Rd) (hf : (p.ready.find? fun r => decide (r.id = id)) = some y) :
  (C19.tab n).p 35 [Pv p, Mv ⟨fr, p.id, 1, fn, [id], fd, da⟩] = some (.tup [Pv (hearP isPth clsh p ⟨fr, p.id, 1, fn, [id], fd, da⟩).1, .lst true ((hearP isPth clsh p ⟨fr, p.id, 1, fn, [id], fd, da⟩).2.1.map Mv), I (hearP isPth clsh p ⟨fr, p.id, 1, fn, [id], fd, da⟩).2.2]) := by
 have h48 := s48 (n := 49) (by decide) p.did id hl2 p.fd
 have h66 := s66 (n := 49) (by decide) p.ready p.fr hl 67 [.ptr 3 0 0 0] (fun r => decide (r.id = id)) [.var [I p.id, .lst p.fr (p.ready.map Rv), .lst p.fd (p.did.map I)], .var [I fr, I p.id, I 1, .lst fn [I id], .lst fd (Bs da)], .var [.int .i64 0, .lst true [], .lst true []], .var [I id]] (by simp [plainB]) (fun r => s67 (by decide) r id _ _ _)
 have h68 := fun k pr mr c E => s68 (n := 49) (by decide) k p.id fr id pr mr c E
 simp only [Mv] at h68
 have hany : (p.ready.any fun r => decide (r.id = id)) = true := by rw [← find_any, hf]; rfl
 have ht : hearP isPth clsh p ⟨fr, p.id, 1, fn, [id], fd, da⟩ = (p, [msgP p.id fr 5 id], 0) := by
  unfold hearP; simp [hany, hd]
 rw [ht]
 rw [hf] at h66
 simp only [Option.elim_some] at h66
 rw [decide_eq_true hd] at h48
 have hi : (p.ready.findIdx fun r => decide (r.id = id)) < p.ready.length := by
  have h1 : p.ready[p.ready.findIdx fun r => decide (r.id = id)]? = some y := by rw [getElem?_findIdx]; exact hf
  exact (List.getElem?_eq_some_iff.1 h1).1
 generalize (p.ready.findIdx fun r => decide (r.id = id)) = i at h66 hi ⊢
 have h69 := fun b c d => s69 (n := 49) (by decide) p.id p.fr p.fd p.ready p.did b c d i hi hl
 have h40 := fun a h => p40 (n := 49) (by decide) a h
 rw [p35 hn, runP_eq, runH_eq]
 simp -implicitDefEqProofs (disch := omega) [c35, Pv, Mv, a48, h48, h66, h68, h69, h40, szI]
 done
theorem s35_4di {n : Nat} (hn : 49 < n) (p : Pt) (fr id : Int) (fn fd : Bool) (da : List UInt8) (hl : p.ready.length ≤ 1000000) (hl2 : p.did.length ≤ 1000000) (hd : id ∈ p.did) (y : Rd) (hf : (p.ready.find? fun r => decide (r.id = id)) = some y) :
  (C19.tab n).p 35 [Pv p, Mv ⟨fr, p.id, 4, fn, [id], fd, da⟩] = some (.tup [Pv (hearP isPth clsh p ⟨fr, p.id, 4, fn, [id], fd, da⟩).1, .lst true ((hearP isPth clsh p ⟨fr, p.id, 4, fn, [id], fd, da⟩).2.1.map Mv), I (hearP isPth clsh p ⟨fr, p.id, 4, fn, [id], fd, da⟩).2.2]) := by
 have h48 := s48 (n := 49) (by decide) p.did id hl2 p.fd
 have h66 := s66 (n := 49) (by decide) p.ready p.fr hl 67 [.ptr 3 0 0 0] (fun r => decide (r.id = id)) [.var [I p.id, .lst p.fr (p.ready.map Rv), .lst p.fd (p.did.map I)], .var [I fr, I p.id, I 4, .lst fn [I id], .lst fd (Bs da)], .var [.int .i64 0, .lst true [], .lst true []], .var [I id]] (by simp [plainB]) (fun r => s67 (by decide) r id _ _ _)
 have h68 := fun k pr mr c E => s68 (n := 49) (by decide) k p.id fr id pr mr c E
 simp only [Mv] at h68
 have hany : (p.ready.any fun r => decide (r.id = id)) = true := by rw [← find_any, hf]; rfl
 have ht : hearP isPth clsh p ⟨fr, p.id, 4, fn, [id], fd, da⟩ = (⟨p.id, false, (p.ready.eraseIdx (p.ready.findIdx fun r => decide (r.id = id))), false, p.did ++ [id]⟩, [msgP p.id fr 5 id], id) := by
  unfold hearP; simp [hany, hd]
 rw [ht]
 rw [hf] at h66
 simp only [Option.elim_some] at h66
 rw [decide_eq_true hd] at h48
 have hi : (p.ready.findIdx fun r => decide (r.id = id)) < p.ready.length := by
  have h1 : p.ready[p.ready.findIdx fun r => decide (r.id = id)]? = some y := by rw [getElem?_findIdx]; exact hf
  exact (List.getElem?_eq_some_iff.1 h1).1
 generalize (p.ready.findIdx fun r => decide (r.id = id)) = i at h66 hi ⊢
 have h69 := fun b c d => s69 (n := 49) (by decide) p.id p.fr p.fd p.ready p.did b c d i hi hl
 have h40 := fun a h => p40 (n := 49) (by decide) a h
 rw [p35 hn, runP_eq, runH_eq]
 simp -implicitDefEqProofs (disch := omega) [c35, Pv, Mv, a48, h48, h66, h68, h69, h40, szI]
 done
theorem s35_6di {n : Nat} (hn : 49 < n) (p : Pt) (fr id : Int) (fn fd : Bool) (da : List UInt8) (hl : p.ready.length ≤ 1000000) (hl2 : p.did.length ≤ 1000000) (hd : id ∈ p.did) (y : Rd) (hf : (p.ready.find? fun r => decide (r.id = id)) = some y) :
  (C19.tab n).p 35 [Pv p, Mv ⟨fr, p.id, 6, fn, [id], fd, da⟩] = some (.tup [Pv (hearP isPth clsh p ⟨fr, p.id, 6, fn, [id], fd, da⟩).1, .lst true ((hearP isPth clsh p ⟨fr, p.id, 6, fn, [id], fd, da⟩).2.1.map Mv), I (hearP isPth clsh p ⟨fr, p.id, 6, fn, [id], fd, da⟩).2.2]) := by
 have h48 := s48 (n := 49) (by decide) p.did id hl2 p.fd
 have h66 := s66 (n := 49) (by decide) p.ready p.fr hl 67 [.ptr 3 0 0 0] (fun r => decide (r.id = id)) [.var [I p.id, .lst p.fr (p.ready.map Rv), .lst p.fd (p.did.map I)], .var [I fr, I p.id, I 6, .lst fn [I id], .lst fd (Bs da)], .var [.int .i64 0, .lst true [], .lst true []], .var [I id]] (by simp [plainB]) (fun r => s67 (by decide) r id _ _ _)
 have h68 := fun k pr mr c E => s68 (n := 49) (by decide) k p.id fr id pr mr c E
 simp only [Mv] at h68
 have hany : (p.ready.any fun r => decide (r.id = id)) = true := by rw [← find_any, hf]; rfl
 have ht : hearP isPth clsh p ⟨fr, p.id, 6, fn, [id], fd, da⟩ = (⟨p.id, false, (p.ready.eraseIdx (p.ready.findIdx fun r => decide (r.id = id))), p.fd, p.did⟩, [], 0) := by
  unfold hearP; simp [hany, hd]
 rw [ht]
 rw [hf] at h66
 simp only [Option.elim_some] at h66
 rw [decide_eq_true hd] at h48
 have hi : (p.ready.findIdx fun r => decide (r.id = id)) < p.ready.length := by
  have h1 : p.ready[p.ready.findIdx fun r => decide (r.id = id)]? = some y := by rw [getElem?_findIdx]; exact hf
  exact (List.getElem?_eq_some_iff.1 h1).1
 generalize (p.ready.findIdx fun r => decide (r.id = id)) = i at h66 hi ⊢
 have h69 := fun b c d => s69 (n := 49) (by decide) p.id p.fr p.fd p.ready p.did b c d i hi hl
 have h40 := fun a h => p40 (n := 49) (by decide) a h
 rw [p35 hn, runP_eq, runH_eq]
 simp -implicitDefEqProofs (disch := omega) [c35, Pv, Mv, a48, h48, h66, h68, h69, h40, szI]
 done
theorem s35_0di {n : Nat} (hn : 49 < n) (p : Pt) (fr id : Int) (fn fd : Bool) (da : List UInt8) (k : Int) (hk1 : ¬ k = 1) (hk4 : ¬ k = 4) (hk6 : ¬ k = 6) (hl : p.ready.length ≤ 1000000) (hl2 : p.did.length ≤ 1000000) (hd : id ∈ p.did) (y : Rd) (hf : (p.ready.find? fun r => decide (r.id = id)) = some y) :
  (C19.tab n).p 35 [Pv p, Mv ⟨fr, p.id, k, fn, [id], fd, da⟩] = some (.tup [Pv (hearP isPth clsh p ⟨fr, p.id, k, fn, [id], fd, da⟩).1, .lst true ((hearP isPth clsh p ⟨fr, p.id, k, fn, [id], fd, da⟩).2.1.map Mv), I (hearP isPth clsh p ⟨fr, p.id, k, fn, [id], fd, da⟩).2.2]) := by
 have h48 := s48 (n := 49) (by decide) p.did id hl2 p.fd
 have h66 := s66 (n := 49) (by decide) p.ready p.fr hl 67 [.ptr 3 0 0 0] (fun r => decide (r.id = id)) [.var [I p.id, .lst p.fr (p.ready.map Rv), .lst p.fd (p.did.map I)], .var [I fr, I p.id, I k, .lst fn [I id], .lst fd (Bs da)], .var [.int .i64 0, .lst true [], .lst true []], .var [I id]] (by simp [plainB]) (fun r => s67 (by decide) r id _ _ _)
 have h68 := fun k pr mr c E => s68 (n := 49) (by decide) k p.id fr id pr mr c E
 simp only [Mv] at h68
 have hany : (p.ready.any fun r => decide (r.id = id)) = true := by rw [← find_any, hf]; rfl
 have ht : hearP isPth clsh p ⟨fr, p.id, k, fn, [id], fd, da⟩ = (p, [], 0) := by
  unfold hearP; simp [hk1, hk4, hk6, hany, hd]
 rw [ht]
 rw [hf] at h66
 simp only [Option.elim_some] at h66
 rw [decide_eq_true hd] at h48
 have hi : (p.ready.findIdx fun r => decide (r.id = id)) < p.ready.length := by
  have h1 : p.ready[p.ready.findIdx fun r => decide (r.id = id)]? = some y := by rw [getElem?_findIdx]; exact hf
  exact (List.getElem?_eq_some_iff.1 h1).1
 generalize (p.ready.findIdx fun r => decide (r.id = id)) = i at h66 hi ⊢
 have h69 := fun b c d => s69 (n := 49) (by decide) p.id p.fr p.fd p.ready p.did b c d i hi hl
 have h40 := fun a h => p40 (n := 49) (by decide) a h
 rw [p35 hn, runP_eq, runH_eq]
 simp -implicitDefEqProofs (disch := omega) [c35, Pv, Mv, hk1, hk4, hk6, a48, h48, h66, h68, h69, h40, szI]
 done
theorem s35_1dn {n : Nat} (hn : 49 < n) (p : Pt) (fr id : Int) (fn fd : Bool) (da : List UInt8) (hl : p.ready.length ≤ 1000000) (hl2 : p.did.length ≤ 1000000) (hd : id ∈ p.did) (hf : (p.ready.find? fun r => decide (r.id = id)) = none) :
  (C19.tab n).p 35 [Pv p, Mv ⟨fr, p.id, 1, fn, [id], fd, da⟩] = some (.tup [Pv (hearP isPth clsh p ⟨fr, p.id, 1, fn, [id], fd, da⟩).1, .lst true ((hearP isPth clsh p ⟨fr, p.id, 1, fn, [id], fd, da⟩).2.1.map Mv), I (hearP isPth clsh p ⟨fr, p.id, 1, fn, [id], fd, da⟩).2.2]) := by
 have h48 := s48 (n := 49) (by decide) p.did id hl2 p.fd
 have h66 := s66 (n := 49) (by decide) p.ready p.fr hl 67 [.ptr 3 0 0 0] (fun r => decide (r.id = id)) [.var [I p.id, .lst p.fr (p.ready.map Rv), .lst p.fd (p.did.map I)], .var [I fr, I p.id, I 1, .lst fn [I id], .lst fd (Bs da)], .var [.int .i64 0, .lst true [], .lst true []], .var [I id]] (by simp [plainB]) (fun r => s67 (by decide) r id _ _ _)
 have h68 := fun k pr mr c E => s68 (n := 49) (by decide) k p.id fr id pr mr c E
 simp only [Mv] at h68
 have hany : (p.ready.any fun r => decide (r.id = id)) = false := by rw [← find_any, hf]; rfl
 have ht : hearP isPth clsh p ⟨fr, p.id, 1, fn, [id], fd, da⟩ = (p, [msgP p.id fr 5 id], 0) := by
  unfold hearP; simp [hany, hd]
 rw [ht]
 rw [hf] at h66
 simp only [Option.elim_none] at h66
 rw [decide_eq_true hd] at h48
 rw [p35 hn, runP_eq, runH_eq]
 simp -implicitDefEqProofs (disch := omega) [c35, Pv, Mv, a48, h48, h66, h68]
 done
theorem s35_4dn {n : Nat} (hn : 49 < n) (p : Pt) (fr id : Int) (fn fd : Bool) (da : List UInt8) (hl : p.ready.length ≤ 1000000) (hl2 : p.did.length ≤ 1000000) (hd : id ∈ p.did) (hf : (p.ready.find? fun r => decide (r.id = id)) = none) :
  (C19.tab n).p 35 [Pv p, Mv ⟨fr, p.id, 4, fn, [id], fd, da⟩] = some (.tup [Pv (hearP isPth clsh p ⟨fr, p.id, 4, fn, [id], fd, da⟩).1, .lst true ((hearP isPth clsh p ⟨fr, p.id, 4, fn, [id], fd, da⟩).2.1.map Mv), I (hearP isPth clsh p ⟨fr, p.id, 4, fn, [id], fd, da⟩).2.2]) := by
 have h48 := s48 (n := 49) (by decide) p.did id hl2 p.fd
 have h66 := s66 (n := 49) (by decide) p.ready p.fr hl 67 [.ptr 3 0 0 0] (fun r => decide (r.id = id)) [.var [I p.id, .lst p.fr (p.ready.map Rv), .lst p.fd (p.did.map I)], .var [I fr, I p.id, I 4, .lst fn [I id], .lst fd (Bs da)], .var [.int .i64 0, .lst true [], .lst true []], .var [I id]] (by simp [plainB]) (fun r => s67 (by decide) r id _ _ _)
 have h68 := fun k pr mr c E => s68 (n := 49) (by decide) k p.id fr id pr mr c E
 simp only [Mv] at h68
 have hany : (p.ready.any fun r => decide (r.id = id)) = false := by rw [← find_any, hf]; rfl
 have ht : hearP isPth clsh p ⟨fr, p.id, 4, fn, [id], fd, da⟩ = (p, [msgP p.id fr 5 id], 0) := by
  unfold hearP; simp [hany, hd]
 rw [ht]
 rw [hf] at h66
 simp only [Option.elim_none] at h66
 rw [decide_eq_true hd] at h48
 rw [p35 hn, runP_eq, runH_eq]
 simp -implicitDefEqProofs (disch := omega) [c35, Pv, Mv, a48, h48, h66, h68]
 done
theorem s35_6dn {n : Nat} (hn : 49 < n) (p : Pt) (fr id : Int) (fn fd : Bool) (da : List UInt8) (hl : p.ready.length ≤ 1000000) (hl2 : p.did.length ≤ 1000000) (hd : id ∈ p.did) (hf : (p.ready.find? fun r => decide (r.id = id)) = none) :
  (C19.tab n).p 35 [Pv p, Mv ⟨fr, p.id, 6, fn, [id], fd, da⟩] = some (.tup [Pv (hearP isPth clsh p ⟨fr, p.id, 6, fn, [id], fd, da⟩).1, .lst true ((hearP isPth clsh p ⟨fr, p.id, 6, fn, [id], fd, da⟩).2.1.map Mv), I (hearP isPth clsh p ⟨fr, p.id, 6, fn, [id], fd, da⟩).2.2]) := by
 have h48 := s48 (n := 49) (by decide) p.did id hl2 p.fd
 have h66 := s66 (n := 49) (by decide) p.ready p.fr hl 67 [.ptr 3 0 0 0] (fun r => decide (r.id = id)) [.var [I p.id, .lst p.fr (p.ready.map Rv), .lst p.fd (p.did.map I)], .var [I fr, I p.id, I 6, .lst fn [I id], .lst fd (Bs da)], .var [.int .i64 0, .lst true [], .lst true []], .var [I id]] (by simp [plainB]) (fun r => s67 (by decide) r id _ _ _)
 have h68 := fun k pr mr c E => s68 (n := 49) (by decide) k p.id fr id pr mr c E
 simp only [Mv] at h68
 have hany : (p.ready.any fun r => decide (r.id = id)) = false := by rw [← find_any, hf]; rfl
 have ht : hearP isPth clsh p ⟨fr, p.id, 6, fn, [id], fd, da⟩ = (p, [], 0) := by
  unfold hearP; simp [hany, hd]
 rw [ht]
 rw [hf] at h66
 simp only [Option.elim_none] at h66
 rw [decide_eq_true hd] at h48
 rw [p35 hn, runP_eq, runH_eq]
 simp -implicitDefEqProofs (disch := omega) [c35, Pv, Mv, a48, h48, h66, h68]
 done
theorem s35_0dn {n : Nat} (hn : 49 < n) (p : Pt) (fr id : Int) (fn fd : Bool) (da : List UInt8) (k : Int) (hk1 : ¬ k = 1) (hk4 : ¬ k = 4) (hk6 : ¬ k = 6) (hl : p.ready.length ≤ 1000000) (hl2 : p.did.length ≤ 1000000) (hd : id ∈ p.did) (hf : (p.ready.find? fun r => decide (r.id = id)) = none) :
  (C19.tab n).p 35 [Pv p, Mv ⟨fr, p.id, k, fn, [id], fd, da⟩] = some (.tup [Pv (hearP isPth clsh p ⟨fr, p.id, k, fn, [id], fd, da⟩).1, .lst true ((hearP isPth clsh p ⟨fr, p.id, k, fn, [id], fd, da⟩).2.1.map Mv), I (hearP isPth clsh p ⟨fr, p.id, k, fn, [id], fd, da⟩).2.2]) := by
 have h48 := s48 (n := 49) (by decide) p.did id hl2 p.fd
 have h66 := s66 (n := 49) (by decide) p.ready p.fr hl 67 [.ptr 3 0 0 0] (fun r => decide (r.id = id)) [.var [I p.id, .lst p.fr (p.ready.map Rv), .lst p.fd (p.did.map I)], .var [I fr, I p.id, I k, .lst fn [I id], .lst fd (Bs da)], .var [.int .i64 0, .lst true [], .lst true []], .var [I id]] (by simp [plainB]) (fun r => s67 (by decide) r id _ _ _)
 have h68 := fun k pr mr c E => s68 (n := 49) (by decide) k p.id fr id pr mr c E
 simp only [Mv] at h68
 have hany : (p.ready.any fun r => decide (r.id = id)) = false := by rw [← find_any, hf]; rfl
 have ht : hearP isPth clsh p ⟨fr, p.id, k, fn, [id], fd, da⟩ = (p, [], 0) := by
  unfold hearP; simp [hk1, hk4, hk6, hany, hd]
 rw [ht]
 rw [hf] at h66
 simp only [Option.elim_none] at h66
 rw [decide_eq_true hd] at h48
 rw [p35 hn, runP_eq, runH_eq]
 simp -implicitDefEqProofs (disch := omega) [c35, Pv, Mv, hk1, hk4, hk6, a48, h48, h66, h68]
 done
theorem s35_1ni {n : Nat} (hn : 49 < n) (p : Pt) (fr id : Int) (fn fd : Bool) (da : List UInt8) (hl : p.ready.length ≤ 1000000) (hl2 : p.did.length ≤ 1000000) (hd : ¬ id ∈ p.did) (y : Rd) (hf : (p.ready.find? fun r => decide (r.id = id)) = some y) :
  (C19.tab n).p 35 [Pv p, Mv ⟨fr, p.id, 1, fn, [id], fd, da⟩] = some (.tup [Pv (hearP isPth clsh p ⟨fr, p.id, 1, fn, [id], fd, da⟩).1, .lst true ((hearP isPth clsh p ⟨fr, p.id, 1, fn, [id], fd, da⟩).2.1.map Mv), I (hearP isPth clsh p ⟨fr, p.id, 1, fn, [id], fd, da⟩).2.2]) := by
 have h48 := s48 (n := 49) (by decide) p.did id hl2 p.fd
 have h66 := s66 (n := 49) (by decide) p.ready p.fr hl 67 [.ptr 3 0 0 0] (fun r => decide (r.id = id)) [.var [I p.id, .lst p.fr (p.ready.map Rv), .lst p.fd (p.did.map I)], .var [I fr, I p.id, I 1, .lst fn [I id], .lst fd (Bs da)], .var [.int .i64 0, .lst true [], .lst true []], .var [I id]] (by simp [plainB]) (fun r => s67 (by decide) r id _ _ _)
 have h68 := fun k pr mr c E => s68 (n := 49) (by decide) k p.id fr id pr mr c E
 simp only [Mv] at h68
 have hany : (p.ready.any fun r => decide (r.id = id)) = true := by rw [← find_any, hf]; rfl
 have ht : hearP isPth clsh p ⟨fr, p.id, 1, fn, [id], fd, da⟩ = (p, [msgP p.id fr 2 id], 0) := by
  unfold hearP; simp [hany, hd]
 rw [ht]
 rw [hf] at h66
 simp only [Option.elim_some] at h66
 rw [decide_eq_false hd] at h48
 have hi : (p.ready.findIdx fun r => decide (r.id = id)) < p.ready.length := by
  have h1 : p.ready[p.ready.findIdx fun r => decide (r.id = id)]? = some y := by rw [getElem?_findIdx]; exact hf
  exact (List.getElem?_eq_some_iff.1 h1).1
 generalize (p.ready.findIdx fun r => decide (r.id = id)) = i at h66 hi ⊢
 have h69 := fun b c d => s69 (n := 49) (by decide) p.id p.fr p.fd p.ready p.did b c d i hi hl
 have h40 := fun a h => p40 (n := 49) (by decide) a h
 rw [p35 hn, runP_eq, runH_eq]
 simp -implicitDefEqProofs (disch := omega) [c35, Pv, Mv, a48, h48, h66, h68, h69, h40, szI]
 done
theorem s35_4ni {n : Nat} (hn : 49 < n) (p : Pt) (fr id : Int) (fn fd : Bool) (da : List UInt8) (hl : p.ready.length ≤ 1000000) (hl2 : p.did.length ≤ 1000000) (hd : ¬ id ∈ p.did) (y : Rd) (hf : (p.ready.find? fun r => decide (r.id = id)) = some y) :
  (C19.tab n).p 35 [Pv p, Mv ⟨fr, p.id, 4, fn, [id], fd, da⟩] = some (.tup [Pv (hearP isPth clsh p ⟨fr, p.id, 4, fn, [id], fd, da⟩).1, .lst true ((hearP isPth clsh p ⟨fr, p.id, 4, fn, [id], fd, da⟩).2.1.map Mv), I (hearP isPth clsh p ⟨fr, p.id, 4, fn, [id], fd, da⟩).2.2]) := by
 have h48 := s48 (n := 49) (by decide) p.did id hl2 p.fd
 have h66 := s66 (n := 49) (by decide) p.ready p.fr hl 67 [.ptr 3 0 0 0] (fun r => decide (r.id = id)) [.var [I p.id, .lst p.fr (p.ready.map Rv), .lst p.fd (p.did.map I)], .var [I fr, I p.id, I 4, .lst fn [I id], .lst fd (Bs da)], .var [.int .i64 0, .lst true [], .lst true []], .var [I id]] (by simp [plainB]) (fun r => s67 (by decide) r id _ _ _)
 have h68 := fun k pr mr c E => s68 (n := 49) (by decide) k p.id fr id pr mr c E
 simp only [Mv] at h68
 have hany : (p.ready.any fun r => decide (r.id = id)) = true := by rw [← find_any, hf]; rfl
 have ht : hearP isPth clsh p ⟨fr, p.id, 4, fn, [id], fd, da⟩ = (⟨p.id, false, (p.ready.eraseIdx (p.ready.findIdx fun r => decide (r.id = id))), false, p.did ++ [id]⟩, [msgP p.id fr 5 id], id) := by
  unfold hearP; simp [hany, hd]
 rw [ht]
 rw [hf] at h66
 simp only [Option.elim_some] at h66
 rw [decide_eq_false hd] at h48
 have hi : (p.ready.findIdx fun r => decide (r.id = id)) < p.ready.length := by
  have h1 : p.ready[p.ready.findIdx fun r => decide (r.id = id)]? = some y := by rw [getElem?_findIdx]; exact hf
  exact (List.getElem?_eq_some_iff.1 h1).1
 generalize (p.ready.findIdx fun r => decide (r.id = id)) = i at h66 hi ⊢
 have h69 := fun b c d => s69 (n := 49) (by decide) p.id p.fr p.fd p.ready p.did b c d i hi hl
 have h40 := fun a h => p40 (n := 49) (by decide) a h
 rw [p35 hn, runP_eq, runH_eq]
 simp -implicitDefEqProofs (disch := omega) [c35, Pv, Mv, a48, h48, h66, h68, h69, h40, szI]
 done
theorem s35_6ni {n : Nat} (hn : 49 < n) (p : Pt) (fr id : Int) (fn fd : Bool) (da : List UInt8) (hl : p.ready.length ≤ 1000000) (hl2 : p.did.length ≤ 1000000) (hd : ¬ id ∈ p.did) (y : Rd) (hf : (p.ready.find? fun r => decide (r.id = id)) = some y) :
  (C19.tab n).p 35 [Pv p, Mv ⟨fr, p.id, 6, fn, [id], fd, da⟩] = some (.tup [Pv (hearP isPth clsh p ⟨fr, p.id, 6, fn, [id], fd, da⟩).1, .lst true ((hearP isPth clsh p ⟨fr, p.id, 6, fn, [id], fd, da⟩).2.1.map Mv), I (hearP isPth clsh p ⟨fr, p.id, 6, fn, [id], fd, da⟩).2.2]) := by
 have h48 := s48 (n := 49) (by decide) p.did id hl2 p.fd
 have h66 := s66 (n := 49) (by decide) p.ready p.fr hl 67 [.ptr 3 0 0 0] (fun r => decide (r.id = id)) [.var [I p.id, .lst p.fr (p.ready.map Rv), .lst p.fd (p.did.map I)], .var [I fr, I p.id, I 6, .lst fn [I id], .lst fd (Bs da)], .var [.int .i64 0, .lst true [], .lst true []], .var [I id]] (by simp [plainB]) (fun r => s67 (by decide) r id _ _ _)
 have h68 := fun k pr mr c E => s68 (n := 49) (by decide) k p.id fr id pr mr c E
 simp only [Mv] at h68
 have hany : (p.ready.any fun r => decide (r.id = id)) = true := by rw [← find_any, hf]; rfl
 have ht : hearP isPth clsh p ⟨fr, p.id, 6, fn, [id], fd, da⟩ = (⟨p.id, false, (p.ready.eraseIdx (p.ready.findIdx fun r => decide (r.id = id))), p.fd, p.did⟩, [], 0) := by
  unfold hearP; simp [hany, hd]
 rw [ht]
 rw [hf] at h66
 simp only [Option.elim_some] at h66
 rw [decide_eq_false hd] at h48
 have hi : (p.ready.findIdx fun r => decide (r.id = id)) < p.ready.length := by
  have h1 : p.ready[p.ready.findIdx fun r => decide (r.id = id)]? = some y := by rw [getElem?_findIdx]; exact hf
  exact (List.getElem?_eq_some_iff.1 h1).1
 generalize (p.ready.findIdx fun r => decide (r.id = id)) = i at h66 hi ⊢
 have h69 := fun b c d => s69 (n := 49) (by decide) p.id p.fr p.fd p.ready p.did b c d i hi hl
 have h40 := fun a h => p40 (n := 49) (by decide) a h
 rw [p35 hn, runP_eq, runH_eq]
 simp -implicitDefEqProofs (disch := omega) [c35, Pv, Mv, a48, h48, h66, h68, h69, h40, szI]
 done
theorem s35_0ni {n : Nat} (hn : 49 < n) (p : Pt) (fr id : Int) (fn fd : Bool) (da : List UInt8) (k : Int) (hk1 : ¬ k = 1) (hk4 : ¬ k = 4) (hk6 : ¬ k = 6) (hl : p.ready.length ≤ 1000000) (hl2 : p.did.length ≤ 1000000) (hd : ¬ id ∈ p.did) (y : Rd) (hf : (p.ready.find? fun r => decide (r.id = id)) = some y) :
  (C19.tab n).p 35 [Pv p, Mv ⟨fr, p.id, k, fn, [id], fd, da⟩] = some (.tup [Pv (hearP isPth clsh p ⟨fr, p.id, k, fn, [id], fd, da⟩).1, .lst true ((hearP isPth clsh p ⟨fr, p.id, k, fn, [id], fd, da⟩).2.1.map Mv), I (hearP isPth clsh p ⟨fr, p.id, k, fn, [id], fd, da⟩).2.2]) := by
 have h48 := s48 (n := 49) (by decide) p.did id hl2 p.fd
 have h66 := s66 (n := 49) (by decide) p.ready p.fr hl 67 [.ptr 3 0 0 0] (fun r => decide (r.id = id)) [.var [I p.id, .lst p.fr (p.ready.map Rv), .lst p.fd (p.did.map I)], .var [I fr, I p.id, I k, .lst fn [I id], .lst fd (Bs da)], .var [.int .i64 0, .lst true [], .lst true []], .var [I id]] (by simp [plainB]) (fun r => s67 (by decide) r id _ _ _)
 have h68 := fun k pr mr c E => s68 (n := 49) (by decide) k p.id fr id pr mr c E
 simp only [Mv] at h68
 have hany : (p.ready.any fun r => decide (r.id = id)) = true := by rw [← find_any, hf]; rfl
 have ht : hearP isPth clsh p ⟨fr, p.id, k, fn, [id], fd, da⟩ = (p, [], 0) := by
  unfold hearP; simp [hk1, hk4, hk6, hany, hd]
 rw [ht]
 rw [hf] at h66
 simp only [Option.elim_some] at h66
 rw [decide_eq_false hd] at h48
 have hi : (p.ready.findIdx fun r => decide (r.id = id)) < p.ready.length := by
  have h1 : p.ready[p.ready.findIdx fun r => decide (r.id = id)]? = some y := by rw [getElem?_findIdx]; exact hf
  exact (List.getElem?_eq_some_iff.1 h1).1
 generalize (p.ready.findIdx fun r => decide (r.id = id)) = i at h66 hi ⊢
 have h69 := fun b c d => s69 (n := 49) (by decide) p.id p.fr p.fd p.ready p.did b c d i hi hl
 have h40 := fun a h => p40 (n := 49) (by decide) a h
 rw [p35 hn, runP_eq, runH_eq]
 simp -implicitDefEqProofs (disch := omega) [c35, Pv, Mv, hk1, hk4, hk6, a48, h48, h66, h68, h69, h40, szI]
 done
theorem s35_1nn {n : Nat} (hn : 49 < n) (p : Pt) (fr id : Int) (fn fd : Bool) (da : List UInt8) (hl : p.ready.length ≤ 1000000) (hl2 : p.did.length ≤ 1000000) (hd : ¬ id ∈ p.did) (hf : (p.ready.find? fun r => decide (r.id = id)) = none) :
  (C19.tab n).p 35 [Pv p, Mv ⟨fr, p.id, 1, fn, [id], fd, da⟩] = some (.tup [Pv (hearP isPth clsh p ⟨fr, p.id, 1, fn, [id], fd, da⟩).1, .lst true ((hearP isPth clsh p ⟨fr, p.id, 1, fn, [id], fd, da⟩).2.1.map Mv), I (hearP isPth clsh p ⟨fr, p.id, 1, fn, [id], fd, da⟩).2.2]) := by
 have h48 := s48 (n := 49) (by decide) p.did id hl2 p.fd
 have h66 := s66 (n := 49) (by decide) p.ready p.fr hl 67 [.ptr 3 0 0 0] (fun r => decide (r.id = id)) [.var [I p.id, .lst p.fr (p.ready.map Rv), .lst p.fd (p.did.map I)], .var [I fr, I p.id, I 1, .lst fn [I id], .lst fd (Bs da)], .var [.int .i64 0, .lst true [], .lst true []], .var [I id]] (by simp [plainB]) (fun r => s67 (by decide) r id _ _ _)
 have h68 := fun k pr mr c E => s68 (n := 49) (by decide) k p.id fr id pr mr c E
 simp only [Mv] at h68
 have hany : (p.ready.any fun r => decide (r.id = id)) = false := by rw [← find_any, hf]; rfl
 rw [hf] at h66
 simp only [Option.elim_none] at h66
 rw [decide_eq_false hd] at h48
 have h53 := s53 (n := 49) (by decide) da
 have h26 := s26 (n := 49) (by decide) p da hl
 have h71 := fun a h => p71 (n := 49) (by decide) a h
 simp only [Pv] at h26
 have htb := toBytes_Bs da
 cases hp : isPth da
 ·rw [hp] at h53
  have ht : hearP isPth clsh p ⟨fr, p.id, 1, fn, [id], fd, da⟩ = (p, [msgP p.id fr 3 id], 0) := by
   unfold hearP; simp [hany, hd, hp]
  rw [ht, p35 hn, runP_eq, runH_eq]
  simp -implicitDefEqProofs (disch := omega) [c35, Pv, Mv, a48, h48, h66, h68, a53, h53, htb]
  done
 ·rw [hp] at h53
  cases hq : lockedP isPth clsh p da
  ·rw [hq] at h26
   have ht : hearP isPth clsh p ⟨fr, p.id, 1, fn, [id], fd, da⟩ = (⟨p.id, false, p.ready ++ [⟨id, da⟩], p.fd, p.did⟩, [msgP p.id fr 2 id], 0) := by
    unfold hearP; simp [hany, hd, hp, hq]
   rw [ht, p35 hn, runP_eq, runH_eq]
   simp -implicitDefEqProofs (disch := omega) [c35, Pv, Mv, a48, h48, h66, h68, a53, h53, htb, a26, h26, h71, szR, Rv]
   done
  ·rw [hq] at h26
   have ht : hearP isPth clsh p ⟨fr, p.id, 1, fn, [id], fd, da⟩ = (p, [msgP p.id fr 3 id], 0) := by
    unfold hearP; simp [hany, hd, hp, hq]
   rw [ht, p35 hn, runP_eq, runH_eq]
   simp -implicitDefEqProofs (disch := omega) [c35, Pv, Mv, a48, h48, h66, h68, a53, h53, htb, a26, h26]
   done
theorem s35_4nn {n : Nat} (hn : 49 < n) (p : Pt) (fr id : Int) (fn fd : Bool) (da : List UInt8) (hl : p.ready.length ≤ 1000000) (hl2 : p.did.length ≤ 1000000) (hd : ¬ id ∈ p.did) (hf : (p.ready.find? fun r => decide (r.id = id)) = none) :
  (C19.tab n).p 35 [Pv p, Mv ⟨fr, p.id, 4, fn, [id], fd, da⟩] = some (.tup [Pv (hearP isPth clsh p ⟨fr, p.id, 4, fn, [id], fd, da⟩).1, .lst true ((hearP isPth clsh p ⟨fr, p.id, 4, fn, [id], fd, da⟩).2.1.map Mv), I (hearP isPth clsh p ⟨fr, p.id, 4, fn, [id], fd, da⟩).2.2]) := by
 have h48 := s48 (n := 49) (by decide) p.did id hl2 p.fd
 have h66 := s66 (n := 49) (by decide) p.ready p.fr hl 67 [.ptr 3 0 0 0] (fun r => decide (r.id = id)) [.var [I p.id, .lst p.fr (p.ready.map Rv), .lst p.fd (p.did.map I)], .var [I fr, I p.id, I 4, .lst fn [I id], .lst fd (Bs da)], .var [.int .i64 0, .lst true [], .lst true []], .var [I id]] (by simp [plainB]) (fun r => s67 (by decide) r id _ _ _)
 have h68 := fun k pr mr c E => s68 (n := 49) (by decide) k p.id fr id pr mr c E
 simp only [Mv] at h68
 have hany : (p.ready.any fun r => decide (r.id = id)) = false := by rw [← find_any, hf]; rfl
 have ht : hearP isPth clsh p ⟨fr, p.id, 4, fn, [id], fd, da⟩ = (p, [], 0) := by
  unfold hearP; simp [hany, hd]
 rw [ht]
 rw [hf] at h66
 simp only [Option.elim_none] at h66
 rw [decide_eq_false hd] at h48
 rw [p35 hn, runP_eq, runH_eq]
 simp -implicitDefEqProofs (disch := omega) [c35, Pv, Mv, a48, h48, h66, h68]
 done
theorem s35_6nn {n : Nat} (hn : 49 < n) (p : Pt) (fr id : Int) (fn fd : Bool) (da : List UInt8) (hl : p.ready.length ≤ 1000000) (hl2 : p.did.length ≤ 1000000) (hd : ¬ id ∈ p.did) (hf : (p.ready.find? fun r => decide (r.id = id)) = none) :
  (C19.tab n).p 35 [Pv p, Mv ⟨fr, p.id, 6, fn, [id], fd, da⟩] = some (.tup [Pv (hearP isPth clsh p ⟨fr, p.id, 6, fn, [id], fd, da⟩).1, .lst true ((hearP isPth clsh p ⟨fr, p.id, 6, fn, [id], fd, da⟩).2.1.map Mv), I (hearP isPth clsh p ⟨fr, p.id, 6, fn, [id], fd, da⟩).2.2]) := by
 have h48 := s48 (n := 49) (by decide) p.did id hl2 p.fd
 have h66 := s66 (n := 49) (by decide) p.ready p.fr hl 67 [.ptr 3 0 0 0] (fun r => decide (r.id = id)) [.var [I p.id, .lst p.fr (p.ready.map Rv), .lst p.fd (p.did.map I)], .var [I fr, I p.id, I 6, .lst fn [I id], .lst fd (Bs da)], .var [.int .i64 0, .lst true [], .lst true []], .var [I id]] (by simp [plainB]) (fun r => s67 (by decide) r id _ _ _)
 have h68 := fun k pr mr c E => s68 (n := 49) (by decide) k p.id fr id pr mr c E
 simp only [Mv] at h68
 have hany : (p.ready.any fun r => decide (r.id = id)) = false := by rw [← find_any, hf]; rfl
 have ht : hearP isPth clsh p ⟨fr, p.id, 6, fn, [id], fd, da⟩ = (p, [], 0) := by
  unfold hearP; simp [hany, hd]
 rw [ht]
 rw [hf] at h66
 simp only [Option.elim_none] at h66
 rw [decide_eq_false hd] at h48
 rw [p35 hn, runP_eq, runH_eq]
 simp -implicitDefEqProofs (disch := omega) [c35, Pv, Mv, a48, h48, h66, h68]
 done
theorem s35_0nn {n : Nat} (hn : 49 < n) (p : Pt) (fr id : Int) (fn fd : Bool) (da : List UInt8) (k : Int) (hk1 : ¬ k = 1) (hk4 : ¬ k = 4) (hk6 : ¬ k = 6) (hl : p.ready.length ≤ 1000000) (hl2 : p.did.length ≤ 1000000) (hd : ¬ id ∈ p.did) (hf : (p.ready.find? fun r => decide (r.id = id)) = none) :
  (C19.tab n).p 35 [Pv p, Mv ⟨fr, p.id, k, fn, [id], fd, da⟩] = some (.tup [Pv (hearP isPth clsh p ⟨fr, p.id, k, fn, [id], fd, da⟩).1, .lst true ((hearP isPth clsh p ⟨fr, p.id, k, fn, [id], fd, da⟩).2.1.map Mv), I (hearP isPth clsh p ⟨fr, p.id, k, fn, [id], fd, da⟩).2.2]) := by
 have h48 := s48 (n := 49) (by decide) p.did id hl2 p.fd
 have h66 := s66 (n := 49) (by decide) p.ready p.fr hl 67 [.ptr 3 0 0 0] (fun r => decide (r.id = id)) [.var [I p.id, .lst p.fr (p.ready.map Rv), .lst p.fd (p.did.map I)], .var [I fr, I p.id, I k, .lst fn [I id], .lst fd (Bs da)], .var [.int .i64 0, .lst true [], .lst true []], .var [I id]] (by simp [plainB]) (fun r => s67 (by decide) r id _ _ _)
 have h68 := fun k pr mr c E => s68 (n := 49) (by decide) k p.id fr id pr mr c E
 simp only [Mv] at h68
 have hany : (p.ready.any fun r => decide (r.id = id)) = false := by rw [← find_any, hf]; rfl
 have ht : hearP isPth clsh p ⟨fr, p.id, k, fn, [id], fd, da⟩ = (p, [], 0) := by
  unfold hearP; simp [hk1, hk4, hk6, hany, hd]
 rw [ht]
 rw [hf] at h66
 simp only [Option.elim_none] at h66
 rw [decide_eq_false hd] at h48
 rw [p35 hn, runP_eq, runH_eq]
 simp -implicitDefEqProofs (disch := omega) [c35, Pv, Mv, hk1, hk4, hk6, a48, h48, h66, h68]
 done
end Go.Proofs.Ytgefdmkmobaefaa
