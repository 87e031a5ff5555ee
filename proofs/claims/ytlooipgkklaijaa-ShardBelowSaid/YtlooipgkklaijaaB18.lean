import Derived.Test.YtlooipgkklaijaaA18
import Derived.Test.YtlooipgkklaijaaM18
set_option linter.unusedSimpArgs false
set_option linter.unusedVariables false
namespace Go.Proofs.Ytlooipgkklaijaa
open Go.Am Go.Am.Nm Go.Lib Go.Am.Sh

theorem s15 {n : Nat} (hn : 23 < n) (g : Int) : (C18.tab n).p 15 [.int .i64 g] = some (.lst true [D ⟨[47], g, 1⟩]) := by
  rw [p15 hn, runP_eq, runH_eq]
  simp -implicitDefEqProofs (disch := omega) [wrap_of, ilt_t, ilt_f, ile_t, ile_f, nlt_t, nlt_f, nle_t, nle_f, ieq_t, ieq_f, imin_l, imin_r, imax_l, imax_r, take_app1, take_map_all, c15]
theorem s16 {n : Nat} (hn : 44 < n) (g : Int) : (C18.tab n).p 16 [.int .i64 g] = some (.lst true [D ⟨[47], g, 1⟩]) := by
  rw [p16 hn, runP_eq, runH_eq]
  simp -implicitDefEqProofs (disch := omega) [wrap_of, ilt_t, ilt_f, ile_t, ile_f, nlt_t, nlt_f, nle_t, nle_f, ieq_t, ieq_f, imin_l, imin_r, imax_l, imax_r, take_app1, take_map_all, c16]
theorem s33 {n : Nat} (hn : 4 < n) (s : List UInt8) : (C18.tab n).p 33 [.str s] = some (.int .i64 (if isP s = true then 0 else 60)) := by
  rw [p33 hn, runP_eq, runH_eq]
  have h := s57 (n := 4) (by decide) s
  unfold spV at h
  unfold isP
  cases hs : split s with
  | none => rw [hs] at h; simp -implicitDefEqProofs (disch := omega) [wrap_of, ilt_t, ilt_f, ile_t, ile_f, nlt_t, nlt_f, nle_t, nle_f, ieq_t, ieq_f, imin_l, imin_r, imax_l, imax_r, take_app1, take_map_all, c33, a57, h]
  | some l => rw [hs] at h; simp -implicitDefEqProofs (disch := omega) [wrap_of, ilt_t, ilt_f, ile_t, ile_f, nlt_t, nlt_f, nle_t, nle_f, ieq_t, ieq_f, imin_l, imin_r, imax_l, imax_r, take_app1, take_map_all, c33, a57, h]
theorem s34 {n : Nat} (hn : 5 < n) (g : Int) : (C18.tab n).p 34 [.int .i64 g] = some (.bool (okG g)) := by
  rw [p34 hn, runP_eq, runH_eq]
  unfold okG
  by_cases h1 : 0 ≤ g
  · by_cases h2 : g < 8
    · simp -implicitDefEqProofs (disch := omega) [wrap_of, ilt_t, ilt_f, ile_t, ile_f, nlt_t, nlt_f, nle_t, nle_f, ieq_t, ieq_f, imin_l, imin_r, imax_l, imax_r, take_app1, take_map_all, c34, h1, h2]
    · simp -implicitDefEqProofs (disch := omega) [wrap_of, ilt_t, ilt_f, ile_t, ile_f, nlt_t, nlt_f, nle_t, nle_f, ieq_t, ieq_f, imin_l, imin_r, imax_l, imax_r, take_app1, take_map_all, c34, h1, h2]
  · simp -implicitDefEqProofs (disch := omega) [wrap_of, ilt_t, ilt_f, ile_t, ile_f, nlt_t, nlt_f, nle_t, nle_f, ieq_t, ieq_f, imin_l, imin_r, imax_l, imax_r, take_app1, take_map_all, c34, h1]
theorem s31 {n : Nat} (hn : 1 < n) (a b : List UInt8) : (C18.tab n).p 31 [.str a, .str b] = some (.int .i64 (compareBytes a b)) := by
  rw [p31 hn, runP_eq, runH_eq]
  have h : (C18.tab 1).p 56 [.str a, .str b] = some (.int .i64 (compareBytes a b)) := by rw [p56 (by decide)]; rfl
  simp -implicitDefEqProofs (disch := omega) [wrap_of, ilt_t, ilt_f, ile_t, ile_f, nlt_t, nlt_f, nle_t, nle_f, ieq_t, ieq_f, imin_l, imin_r, imax_l, imax_r, take_app1, take_map_all, c31, a56, h]
theorem s30 {n : Nat} (hn : 2 < n) (p q : P) : (C18.tab n).p 30 [D p, D q] = some (.int .i64 (compareBytes p.pa q.pa)) := by
  rw [p30 hn, runP_eq, runH_eq]
  have h := s31 (n := 2) (by decide) p.pa q.pa
  simp -implicitDefEqProofs (disch := omega) [wrap_of, ilt_t, ilt_f, ile_t, ile_f, nlt_t, nlt_f, nle_t, nle_f, ieq_t, ieq_f, imin_l, imin_r, imax_l, imax_r, take_app1, take_map_all, c30, a31, h]
theorem s63 {n : Nat} (hn : 15 < n) (p : P) (s : List UInt8) : (C18.tab n).p 63 [D p, .str s] = some (.int .i64 (compareBytes p.pa s)) := by
  rw [p63 hn, runP_eq, runH_eq]
  have h := s31 (n := 15) (by decide) p.pa s
  simp -implicitDefEqProofs (disch := omega) [wrap_of, ilt_t, ilt_f, ile_t, ile_f, nlt_t, nlt_f, nle_t, nle_f, ieq_t, ieq_f, imin_l, imin_r, imax_l, imax_r, take_app1, take_map_all, c63, a31, h]
theorem s35 {n : Nat} (hn : 7 < n) (p q : P) : (C18.tab n).p 35 [D p, D q] = some (.bool (decide (p.pa = q.pa))) := by
  rw [p35 hn, runP_eq, runH_eq]
  simp -implicitDefEqProofs (disch := omega) [wrap_of, ilt_t, ilt_f, ile_t, ile_f, nlt_t, nlt_f, nle_t, nle_f, ieq_t, ieq_f, imin_l, imin_r, imax_l, imax_r, take_app1, take_map_all, c35, strBin]
theorem s32 {n : Nat} (hn : 6 < n) (p : P) : (C18.tab n).p 32 [D p] = some (.bool (!okOne p)) := by
  rw [p32 hn, runP_eq, runH_eq]
  have h1 := s33 (n := 6) (by decide) p.pa
  have h2 := s34 (n := 6) (by decide) p.gr
  unfold okOne okE
  cases hp : isP p.pa with
  | false =>
    rw [hp] at h1
    simp -implicitDefEqProofs (disch := omega) [wrap_of, ilt_t, ilt_f, ile_t, ile_f, nlt_t, nlt_f, nle_t, nle_f, ieq_t, ieq_f, imin_l, imin_r, imax_l, imax_r, take_app1, take_map_all, c32, a33, h1]
  | true =>
    rw [hp] at h1
    cases hg : okG p.gr with
    | false =>
      rw [hg] at h2
      simp -implicitDefEqProofs (disch := omega) [wrap_of, ilt_t, ilt_f, ile_t, ile_f, nlt_t, nlt_f, nle_t, nle_f, ieq_t, ieq_f, imin_l, imin_r, imax_l, imax_r, take_app1, take_map_all, c32, a33, h1, a34, h2]
    | true =>
      rw [hg] at h2
      by_cases e1 : 1 ≤ p.ep
      · by_cases e2 : p.ep ≤ 1099511627776
        · simp -implicitDefEqProofs (disch := omega) [wrap_of, ilt_t, ilt_f, ile_t, ile_f, nlt_t, nlt_f, nle_t, nle_f, ieq_t, ieq_f, imin_l, imin_r, imax_l, imax_r, take_app1, take_map_all, c32, a33, h1, a34, h2, e1, e2]
        · simp -implicitDefEqProofs (disch := omega) [wrap_of, ilt_t, ilt_f, ile_t, ile_f, nlt_t, nlt_f, nle_t, nle_f, ieq_t, ieq_f, imin_l, imin_r, imax_l, imax_r, take_app1, take_map_all, c32, a33, h1, a34, h2, e1, e2]
      · simp -implicitDefEqProofs (disch := omega) [wrap_of, ilt_t, ilt_f, ile_t, ile_f, nlt_t, nlt_f, nle_t, nle_f, ieq_t, ieq_f, imin_l, imin_r, imax_l, imax_r, take_app1, take_map_all, c32, a33, h1, a34, h2, e1]
theorem s44 {n : Nat} (hn : 10 < n) (p : P) (s : List UInt8) (h : AH) : callA (C18.tab n) 44 [D p, .ptr 0 0 0 0] (.var [.str s] :: h) = some (.bool (abv p.pa s), .var [.str s] :: (h ++ [.var [.str p.pa, .int .i64 p.gr, .int .i64 p.ep]])) := by
  rw [p44 hn, runH_eq]
  have h1 := s45 (n := 10) (by decide) p.pa s
  simp -implicitDefEqProofs (disch := omega) [wrap_of, ilt_t, ilt_f, ile_t, ile_f, nlt_t, nlt_f, nle_t, nle_f, ieq_t, ieq_f, imin_l, imin_r, imax_l, imax_r, take_app1, take_map_all, c44, a45, h1]
theorem s46 {n : Nat} (hn : 11 < n) (p : P) (s : List UInt8) (h : AH) : callA (C18.tab n) 46 [D p, .ptr 0 0 0 0] (.var [.str s] :: h) = some (.bool (abv s p.pa), .var [.str s] :: (h ++ [.var [.str p.pa, .int .i64 p.gr, .int .i64 p.ep]])) := by
  rw [p46 hn, runH_eq]
  have h1 := s45 (n := 11) (by decide) s p.pa
  simp -implicitDefEqProofs (disch := omega) [wrap_of, ilt_t, ilt_f, ile_t, ile_f, nlt_t, nlt_f, nle_t, nle_f, ieq_t, ieq_f, imin_l, imin_r, imax_l, imax_r, take_app1, take_map_all, c46, a45, h1]
/-- Are they alike? -/
def alike (p q : P) : Bool := decide (p.pa = q.pa ∧ p.gr = q.gr ∧ p.ep = q.ep)
theorem alike_iff {p q : P} : alike p q = true ↔ p = q := by
  cases p; cases q; simp [alike]
theorem l14 {n : Nat} (a b : List P) (hl : a.length = b.length) (ha : a.length ≤ 1000000) (f g : Bool) (e0 : Env) (h0 : e0 0 = .lst f (a.map D)) (h1 : e0 1 = .lst g (b.map D)) :
    iter (round (C18.tab n) [5] [(.exit 0, []), (.ret, [4])] c14_1 e0 0 []) ([.int .i64 0], []) = some (if (a.zip b).all (fun x => alike x.1 x.2) = true then (.exit 0, [], []) else (.ret, [.bool false], [])) :=
  for_cmp (f := round (C18.tab n) [5] [(.exit 0, []), (.ret, [4])] c14_1 e0 0 []) (fun i => ([.int .i64 i], [])) a b hl alike _ _
    (fun i hi hi' => by
      obtain ⟨x, hx⟩ : ∃ x, x = a[i] := ⟨_, rfl⟩
      obtain ⟨y, hy⟩ : ∃ y, y = b[i] := ⟨_, rfl⟩
      rw [← hx, ← hy]
      obtain ⟨xa, xg, xe⟩ := x
      obtain ⟨ya, yg, ye⟩ := y
      by_cases c1 : xa = ya
      · by_cases c2 : xg = yg
        · by_cases c3 : xe = ye
          · simp -implicitDefEqProofs (disch := omega) [wrap_of, ilt_t, ilt_f, ile_t, ile_f, nlt_t, nlt_f, nle_t, nle_f, ieq_t, ieq_f, imin_l, imin_r, imax_l, imax_r, take_app1, take_map_all, round_eq, b14_1, h0, h1, hi, hi', ← hx, ← hy, cellsEq, alike, c1, c2, c3]
          · simp -implicitDefEqProofs (disch := omega) [wrap_of, ilt_t, ilt_f, ile_t, ile_f, nlt_t, nlt_f, nle_t, nle_f, ieq_t, ieq_f, imin_l, imin_r, imax_l, imax_r, take_app1, take_map_all, round_eq, b14_1, h0, h1, hi, hi', ← hx, ← hy, cellsEq, alike, c1, c2, c3]
        · simp -implicitDefEqProofs (disch := omega) [wrap_of, ilt_t, ilt_f, ile_t, ile_f, nlt_t, nlt_f, nle_t, nle_f, ieq_t, ieq_f, imin_l, imin_r, imax_l, imax_r, take_app1, take_map_all, round_eq, b14_1, h0, h1, hi, hi', ← hx, ← hy, cellsEq, alike, c1, c2]
      · simp -implicitDefEqProofs (disch := omega) [wrap_of, ilt_t, ilt_f, ile_t, ile_f, nlt_t, nlt_f, nle_t, nle_f, ieq_t, ieq_f, imin_l, imin_r, imax_l, imax_r, take_app1, take_map_all, round_eq, b14_1, h0, h1, hi, hi', ← hx, ← hy, cellsEq, alike, c1])
    (by simp -implicitDefEqProofs (disch := omega) [wrap_of, ilt_t, ilt_f, ile_t, ile_f, nlt_t, nlt_f, nle_t, nle_f, ieq_t, ieq_f, imin_l, imin_r, imax_l, imax_r, take_app1, take_map_all, round_eq, b14_1, h0, h1])
theorem alike_zip : ∀ {a b : List P}, a.length = b.length → ((a.zip b).all (fun x => alike x.1 x.2) = true ↔ a = b)
  | [], [], _ => by simp
  | x :: a, y :: b, h => by
    have := alike_zip (a := a) (b := b) (by simpa using h)
    simp only [List.zip_cons_cons, List.all_cons, Bool.and_eq_true, this, alike_iff, List.cons.injEq]
/-- catacombref18.Same -/
theorem s14 {n : Nat} (hn : 22 < n) (a b : List P) (f g : Bool) (ha : a.length ≤ 1000000) (hb : b.length ≤ 1000000) [DecidableEq P] :
    (C18.tab n).p 14 [.lst f (a.map D), .lst g (b.map D)] = some (.bool (decide (a = b))) := by
  rw [p14 hn, runP_eq, runH_eq]
  by_cases hl : a.length = b.length
  · have hz := alike_zip hl
    simp -implicitDefEqProofs (disch := omega) [wrap_of, ilt_t, ilt_f, ile_t, ile_f, nlt_t, nlt_f, nle_t, nle_f, ieq_t, ieq_f, imin_l, imin_r, imax_l, imax_r, take_app1, take_map_all, c14, hl]
    rw [l14 a b hl (by omega) f g _ (by simp -implicitDefEqProofs (disch := omega) [wrap_of, ilt_t, ilt_f, ile_t, ile_f, nlt_t, nlt_f, nle_t, nle_f, ieq_t, ieq_f, imin_l, imin_r, imax_l, imax_r, take_app1, take_map_all, ]) (by simp -implicitDefEqProofs (disch := omega) [wrap_of, ilt_t, ilt_f, ile_t, ile_f, nlt_t, nlt_f, nle_t, nle_f, ieq_t, ieq_f, imin_l, imin_r, imax_l, imax_r, take_app1, take_map_all, ])]
    by_cases hab : a = b
    · rw [if_pos (hz.2 hab)]
      simp -implicitDefEqProofs (disch := omega) [wrap_of, ilt_t, ilt_f, ile_t, ile_f, nlt_t, nlt_f, nle_t, nle_f, ieq_t, ieq_f, imin_l, imin_r, imax_l, imax_r, take_app1, take_map_all, hab]
    · rw [if_neg (fun h => hab (hz.1 h))]
      simp -implicitDefEqProofs (disch := omega) [wrap_of, ilt_t, ilt_f, ile_t, ile_f, nlt_t, nlt_f, nle_t, nle_f, ieq_t, ieq_f, imin_l, imin_r, imax_l, imax_r, take_app1, take_map_all, hab]
  · have hab : a ≠ b := fun h => hl (by rw [h])
    simp -implicitDefEqProofs (disch := omega) [wrap_of, ilt_t, ilt_f, ile_t, ile_f, nlt_t, nlt_f, nle_t, nle_f, ieq_t, ieq_f, imin_l, imin_r, imax_l, imax_r, take_app1, take_map_all, c14, hl, hab]
abbrev N (i : Nat) : AV := .int .i64 (i : Int)
theorem l22 {n : Nat} (a b : List Nat) (hl : a.length = b.length) (ha : a.length ≤ 1000000) (f g : Bool) (e0 : Env) (h0 : e0 0 = .lst f (a.map N)) (h1 : e0 1 = .lst g (b.map N)) :
    iter (round (C18.tab n) [5] [(.exit 0, []), (.ret, [4])] c22_1 e0 0 []) ([.int .i64 0], []) = some (if (a.zip b).all (fun x => decide (x.1 = x.2)) = true then (.exit 0, [], []) else (.ret, [.bool false], [])) :=
  for_cmp (f := round (C18.tab n) [5] [(.exit 0, []), (.ret, [4])] c22_1 e0 0 []) (fun i => ([.int .i64 i], [])) a b hl (fun x y => decide (x = y)) _ _
    (fun i hi hi' => by
      obtain ⟨x, hx⟩ : ∃ x, x = a[i] := ⟨_, rfl⟩
      obtain ⟨y, hy⟩ : ∃ y, y = b[i] := ⟨_, rfl⟩
      rw [← hx, ← hy]
      by_cases hxy : x = y
      · simp -implicitDefEqProofs (disch := omega) [wrap_of, ilt_t, ilt_f, ile_t, ile_f, nlt_t, nlt_f, nle_t, nle_f, ieq_t, ieq_f, imin_l, imin_r, imax_l, imax_r, take_app1, take_map_all, round_eq, b22_1, h0, h1, hi, hi', ← hx, ← hy, hxy]
      · simp -implicitDefEqProofs (disch := omega) [wrap_of, ilt_t, ilt_f, ile_t, ile_f, nlt_t, nlt_f, nle_t, nle_f, ieq_t, ieq_f, imin_l, imin_r, imax_l, imax_r, take_app1, take_map_all, round_eq, b22_1, h0, h1, hi, hi', ← hx, ← hy, hxy])
    (by simp -implicitDefEqProofs (disch := omega) [wrap_of, ilt_t, ilt_f, ile_t, ile_f, nlt_t, nlt_f, nle_t, nle_f, ieq_t, ieq_f, imin_l, imin_r, imax_l, imax_r, take_app1, take_map_all, round_eq, b22_1, h0, h1])
/-- catacombref18.SameInts -/
theorem s22 {n : Nat} (hn : 26 < n) (a b : List Nat) (f g : Bool) (ha : a.length ≤ 1000000) (hb : b.length ≤ 1000000) :
    (C18.tab n).p 22 [.lst f (a.map N), .lst g (b.map N)] = some (.bool (decide (a = b))) := by
  rw [p22 hn, runP_eq, runH_eq]
  by_cases hl : a.length = b.length
  · have hz := zip_all hl
    simp -implicitDefEqProofs (disch := omega) [wrap_of, ilt_t, ilt_f, ile_t, ile_f, nlt_t, nlt_f, nle_t, nle_f, ieq_t, ieq_f, imin_l, imin_r, imax_l, imax_r, take_app1, take_map_all, c22, hl]
    rw [l22 a b hl (by omega) f g _ (by simp -implicitDefEqProofs (disch := omega) [wrap_of, ilt_t, ilt_f, ile_t, ile_f, nlt_t, nlt_f, nle_t, nle_f, ieq_t, ieq_f, imin_l, imin_r, imax_l, imax_r, take_app1, take_map_all, ]) (by simp -implicitDefEqProofs (disch := omega) [wrap_of, ilt_t, ilt_f, ile_t, ile_f, nlt_t, nlt_f, nle_t, nle_f, ieq_t, ieq_f, imin_l, imin_r, imax_l, imax_r, take_app1, take_map_all, ])]
    by_cases hab : a = b
    · rw [if_pos (hz.2 hab)]
      simp -implicitDefEqProofs (disch := omega) [wrap_of, ilt_t, ilt_f, ile_t, ile_f, nlt_t, nlt_f, nle_t, nle_f, ieq_t, ieq_f, imin_l, imin_r, imax_l, imax_r, take_app1, take_map_all, hab]
    · rw [if_neg (fun h => hab (hz.1 h))]
      simp -implicitDefEqProofs (disch := omega) [wrap_of, ilt_t, ilt_f, ile_t, ile_f, nlt_t, nlt_f, nle_t, nle_f, ieq_t, ieq_f, imin_l, imin_r, imax_l, imax_r, take_app1, take_map_all, hab]
  · have hab : a ≠ b := fun h => hl (by rw [h])
    simp -implicitDefEqProofs (disch := omega) [wrap_of, ilt_t, ilt_f, ile_t, ile_f, nlt_t, nlt_f, nle_t, nle_f, ieq_t, ieq_f, imin_l, imin_r, imax_l, imax_r, take_app1, take_map_all, c22, hl, hab]
end Go.Proofs.Ytlooipgkklaijaa
