import Derived.Test.YtalckkfoplaeeaaCfg06
import Derived.Test.YtalckkfoplaeeaaL06
import Derived.Test.YtalckkfoplaeeaaAmGS
set_option linter.unusedSimpArgs false
set_option linter.unusedVariables false
namespace Go.Proofs.Ytalckkfoplaeeaa
open Go.Am Go.Am.Nm Go.Lib

/-- What name.Split makes. -/
def spV (p : List UInt8) : AV := match split p with
  | some l => .tup [.lst (decide (p = [47])) (l.map AV.str), .int .i64 0]
  | none => .tup [.lst true [], .int .i64 60]
theorem s12 {n : Nat} (hn : 0 < n) (p : List UInt8) : (C06.tab n).p 12 [.str p] = some (spV p) := by
  rw [p12 hn]
  show some (splitV rightN p) = _
  unfold splitV spV
  rw [split_eq]
  cases split p <;> rfl
theorem s16 {n : Nat} (hn : 4 < n) (s : List UInt8) : (C06.tab n).p 16 [.str s] = some (.bool (rightN s)) := by
  rw [p16 hn]; rfl
/-- A row that can be joined. -/
def Fits (l : List (List UInt8)) : Prop := (joinTail [47] l).length ≤ 1000000
theorem Fits.two {l : List (List UInt8)} (h : Fits l) : l.length ≤ 1000000 ∧ (join l [47]).length ≤ 1000000 := by
  unfold Fits at h
  have h1 := joinTail_length [47] l
  have h2 : ([47] : List UInt8).length = 1 := rfl
  rw [h2, Nat.one_mul] at h1
  refine ⟨by omega, ?_⟩
  cases l with
  | nil => simp [join_nil]
  | cons x r =>
    rw [joinTail_cons] at h
    rw [join_cons]
    simp only [List.length_cons] at h
    omega
theorem s21 {n : Nat} (hn : 2 < n) (l : List (List UInt8)) (f : Bool) (h : Fits l) : (C06.tab n).p 21 [.lst f (l.map AV.str)] = some (.str (jn l)) := by
  rw [p21 hn, runP_eq, runH_eq]
  obtain ⟨h1, h2⟩ := h.two
  have hj : ∀ g, (C06.tab 2).p 26 [.lst g (l.map AV.str), .str [47]] = some (.str (join l [47])) := fun g => by
    rw [p26 (by decide)]
    exact joinY_map g l [47] (by omega) (by omega)
  cases l with
  | nil => simp -implicitDefEqProofs (disch := omega) [wrap_of, ilt_t, ilt_f, ile_t, ile_f, nlt_t, nlt_f, nle_t, nle_f, ieq_t, ieq_f, imin_l, imin_r, imax_l, imax_r, take_app1, take_map_all, c21, jn]
  | cons x r =>
    simp only [List.map_cons] at hj
    simp -implicitDefEqProofs (disch := omega) [wrap_of, ilt_t, ilt_f, ile_t, ile_f, nlt_t, nlt_f, nle_t, nle_f, ieq_t, ieq_f, imin_l, imin_r, imax_l, imax_r, take_app1, take_map_all, c21, a26, hj, jn]
theorem zip_all {α : Type} [DecidableEq α] : ∀ {a b : List α}, a.length = b.length → ((a.zip b).all (fun x => decide (x.1 = x.2)) = true ↔ a = b)
  | [], [], _ => by simp
  | x :: a, y :: b, h => by
    have := zip_all (a := a) (b := b) (by simpa using h)
    simp only [List.zip_cons_cons, List.all_cons, Bool.and_eq_true, this, decide_eq_true_eq, List.cons.injEq]
theorem l18 {n : Nat} (a b : List (List UInt8)) (hl : a.length = b.length) (ha : a.length ≤ 9223372036854775806) (f g : Bool) (e0 : Env) (h0 : e0 0 = .lst f (a.map AV.str)) (h1 : e0 1 = .lst g (b.map AV.str)) :
    iter (round (C06.tab n) [5] [(.exit 0, []), (.ret, [4])] c18_1 e0 0 []) ([.int .i64 0], []) = some (if (a.zip b).all (fun x => decide (x.1 = x.2)) = true then (.exit 0, [], []) else (.ret, [.bool false], [])) :=
  for_cmp (f := round (C06.tab n) [5] [(.exit 0, []), (.ret, [4])] c18_1 e0 0 []) (fun i => ([.int .i64 i], [])) a b hl (fun x y => decide (x = y)) _ _
    (fun i hi hi' => by
      obtain ⟨x, hx⟩ : ∃ x, x = a[i] := ⟨_, rfl⟩
      obtain ⟨y, hy⟩ : ∃ y, y = b[i] := ⟨_, rfl⟩
      rw [← hx, ← hy]
      by_cases hxy : x = y
      · simp -implicitDefEqProofs (disch := omega) [wrap_of, ilt_t, ilt_f, ile_t, ile_f, nlt_t, nlt_f, nle_t, nle_f, ieq_t, ieq_f, imin_l, imin_r, imax_l, imax_r, take_app1, take_map_all, round_eq, b18_1, h0, h1, hi, hi', ← hx, ← hy, strBin, hxy]
      · simp -implicitDefEqProofs (disch := omega) [wrap_of, ilt_t, ilt_f, ile_t, ile_f, nlt_t, nlt_f, nle_t, nle_f, ieq_t, ieq_f, imin_l, imin_r, imax_l, imax_r, take_app1, take_map_all, round_eq, b18_1, h0, h1, hi, hi', ← hx, ← hy, strBin, hxy])
    (by simp -implicitDefEqProofs (disch := omega) [wrap_of, ilt_t, ilt_f, ile_t, ile_f, nlt_t, nlt_f, nle_t, nle_f, ieq_t, ieq_f, imin_l, imin_r, imax_l, imax_r, take_app1, take_map_all, round_eq, b18_1, h0, h1])
theorem s18 {n : Nat} (hn : 5 < n) (a b : List (List UInt8)) (f g : Bool) (ha : a.length ≤ 1000000000) (hb : b.length ≤ 1000000000) :
    (C06.tab n).p 18 [.lst f (a.map AV.str), .lst g (b.map AV.str)] = some (.bool (decide (a = b))) := by
  rw [p18 hn, runP_eq, runH_eq]
  by_cases hl : a.length = b.length
  · have hz := zip_all hl
    simp -implicitDefEqProofs (disch := omega) [wrap_of, ilt_t, ilt_f, ile_t, ile_f, nlt_t, nlt_f, nle_t, nle_f, ieq_t, ieq_f, imin_l, imin_r, imax_l, imax_r, take_app1, take_map_all, c18, hl]
    rw [l18 a b hl (by omega) f g _ (by simp -implicitDefEqProofs (disch := omega) [wrap_of, ilt_t, ilt_f, ile_t, ile_f, nlt_t, nlt_f, nle_t, nle_f, ieq_t, ieq_f, imin_l, imin_r, imax_l, imax_r, take_app1, take_map_all, ]) (by simp -implicitDefEqProofs (disch := omega) [wrap_of, ilt_t, ilt_f, ile_t, ile_f, nlt_t, nlt_f, nle_t, nle_f, ieq_t, ieq_f, imin_l, imin_r, imax_l, imax_r, take_app1, take_map_all, ])]
    by_cases hab : a = b
    · rw [if_pos (hz.2 hab)]
      simp -implicitDefEqProofs (disch := omega) [wrap_of, ilt_t, ilt_f, ile_t, ile_f, nlt_t, nlt_f, nle_t, nle_f, ieq_t, ieq_f, imin_l, imin_r, imax_l, imax_r, take_app1, take_map_all, hab]
    · rw [if_neg (fun h => hab (hz.1 h))]
      simp -implicitDefEqProofs (disch := omega) [wrap_of, ilt_t, ilt_f, ile_t, ile_f, nlt_t, nlt_f, nle_t, nle_f, ieq_t, ieq_f, imin_l, imin_r, imax_l, imax_r, take_app1, take_map_all, hab]
  · have hab : a ≠ b := fun h => hl (by rw [h])
    simp -implicitDefEqProofs (disch := omega) [wrap_of, ilt_t, ilt_f, ile_t, ile_f, nlt_t, nlt_f, nle_t, nle_f, ieq_t, ieq_f, imin_l, imin_r, imax_l, imax_r, take_app1, take_map_all, c18, hl, hab]
theorem l25 {n : Nat} (a b : List (List UInt8)) (hl : a.length = b.length) (ha : a.length ≤ 9223372036854775806) (f g : Bool) (e0 : Env) (h0 : e0 0 = .lst f (a.map AV.str)) (h1 : e0 1 = .lst g (b.map AV.str)) (h12 : e0 12 = .int .i64 a.length) :
    iter (round (C06.tab n) [13] [(.exit 0, []), (.ret, [4])] c25_1 e0 0 []) ([.int .i64 0], []) = some (if (a.zip b).all (fun x => decide (x.1 = x.2)) = true then (.exit 0, [], []) else (.ret, [.bool false], [])) :=
  for_cmp (f := round (C06.tab n) [13] [(.exit 0, []), (.ret, [4])] c25_1 e0 0 []) (fun i => ([.int .i64 i], [])) a b hl (fun x y => decide (x = y)) _ _
    (fun i hi hi' => by
      obtain ⟨x, hx⟩ : ∃ x, x = a[i] := ⟨_, rfl⟩
      obtain ⟨y, hy⟩ : ∃ y, y = b[i] := ⟨_, rfl⟩
      rw [← hx, ← hy]
      by_cases hxy : x = y
      · simp -implicitDefEqProofs (disch := omega) [wrap_of, ilt_t, ilt_f, ile_t, ile_f, nlt_t, nlt_f, nle_t, nle_f, ieq_t, ieq_f, imin_l, imin_r, imax_l, imax_r, take_app1, take_map_all, round_eq, b25_1, h0, h1, h12, hi, hi', ← hx, ← hy, strBin, hxy]
      · simp -implicitDefEqProofs (disch := omega) [wrap_of, ilt_t, ilt_f, ile_t, ile_f, nlt_t, nlt_f, nle_t, nle_f, ieq_t, ieq_f, imin_l, imin_r, imax_l, imax_r, take_app1, take_map_all, round_eq, b25_1, h0, h1, h12, hi, hi', ← hx, ← hy, strBin, hxy])
    (by simp -implicitDefEqProofs (disch := omega) [wrap_of, ilt_t, ilt_f, ile_t, ile_f, nlt_t, nlt_f, nle_t, nle_f, ieq_t, ieq_f, imin_l, imin_r, imax_l, imax_r, take_app1, take_map_all, round_eq, b25_1, h0, h1, h12])
theorem s25 {n : Nat} (hn : 6 < n) (a b : List (List UInt8)) (f g : Bool) (ha : a.length ≤ 1000000000) (hb : b.length ≤ 1000000000) :
    (C06.tab n).p 25 [.lst f (a.map AV.str), .lst g (b.map AV.str)] = some (.bool (decide (a = b))) := by
  rw [p25 hn, runP_eq, runH_eq]
  by_cases hl : a.length = b.length
  · have hz := zip_all hl
    simp -implicitDefEqProofs (disch := omega) [wrap_of, ilt_t, ilt_f, ile_t, ile_f, nlt_t, nlt_f, nle_t, nle_f, ieq_t, ieq_f, imin_l, imin_r, imax_l, imax_r, take_app1, take_map_all, c25, hl]
    rw [l25 a b hl (by omega) f g _ (by simp -implicitDefEqProofs (disch := omega) [wrap_of, ilt_t, ilt_f, ile_t, ile_f, nlt_t, nlt_f, nle_t, nle_f, ieq_t, ieq_f, imin_l, imin_r, imax_l, imax_r, take_app1, take_map_all, ]) (by simp -implicitDefEqProofs (disch := omega) [wrap_of, ilt_t, ilt_f, ile_t, ile_f, nlt_t, nlt_f, nle_t, nle_f, ieq_t, ieq_f, imin_l, imin_r, imax_l, imax_r, take_app1, take_map_all, ]) (by simp -implicitDefEqProofs (disch := omega) [wrap_of, ilt_t, ilt_f, ile_t, ile_f, nlt_t, nlt_f, nle_t, nle_f, ieq_t, ieq_f, imin_l, imin_r, imax_l, imax_r, take_app1, take_map_all, hl])]
    by_cases hab : a = b
    · rw [if_pos (hz.2 hab)]
      simp -implicitDefEqProofs (disch := omega) [wrap_of, ilt_t, ilt_f, ile_t, ile_f, nlt_t, nlt_f, nle_t, nle_f, ieq_t, ieq_f, imin_l, imin_r, imax_l, imax_r, take_app1, take_map_all, hab]
    · rw [if_neg (fun h => hab (hz.1 h))]
      simp -implicitDefEqProofs (disch := omega) [wrap_of, ilt_t, ilt_f, ile_t, ile_f, nlt_t, nlt_f, nle_t, nle_f, ieq_t, ieq_f, imin_l, imin_r, imax_l, imax_r, take_app1, take_map_all, hab]
  · have hab : a ≠ b := fun h => hl (by rw [h])
    simp -implicitDefEqProofs (disch := omega) [wrap_of, ilt_t, ilt_f, ile_t, ile_f, nlt_t, nlt_f, nle_t, nle_f, ieq_t, ieq_f, imin_l, imin_r, imax_l, imax_r, take_app1, take_map_all, c25, hl, hab]
/-- catacombref06.Few -/
def few (l : List (List UInt8)) : List (List UInt8) := (l.take 20).map (·.take 40)
theorem l11 {n : Nat} (l : List (List UInt8)) (f : Bool) (hl : l.length ≤ 9223372036854775807) (e0 : Env) (h0 : e0 0 = .lst f (l.map AV.str)) :
    iter (round (C06.tab n) [3, 4] [(.exit 0, [3])] c11_1 e0 1 [0]) ([.own 0 0 0 0, .int .i64 0], [.row 0 1 []]) = some (.exit 0, [.own 0 0 0 (few l).length], [.row 0 1 ((few l).map AV.str)]) := by
  have := for_list (f := round (C06.tab n) [3, 4] [(.exit 0, [3])] c11_1 e0 1 [0]) (fun i (a : List (List UInt8)) => ([.own 0 0 0 a.length, .int .i64 i], [.row 0 1 (a.map AV.str)])) (l.take 20) (fun a x => a ++ [x.take 40]) (fun a => (.exit 0, [.own 0 0 0 a.length], [.row 0 1 (a.map AV.str)])) (fun i a => a.length = i)
    (fun i hi a ha => by
      have hi1 : i < 20 := by simp at hi; omega
      have hi2 : i < l.length := by simp at hi; omega
      have e : (l.take 20)[i] = l[i] := by simp
      rw [e]
      refine ⟨by simp; omega, ?_⟩
      obtain ⟨x, hx⟩ : ∃ x, x = l[i] := ⟨_, rfl⟩
      rw [← hx]
      rcases Nat.lt_or_ge x.length 40 with h | h
      · have : x.take 40 = x := List.take_of_length_le (by omega)
        simp -implicitDefEqProofs (disch := omega) [wrap_of, ilt_t, ilt_f, ile_t, ile_f, nlt_t, nlt_f, nle_t, nle_f, ieq_t, ieq_f, imin_l, imin_r, imax_l, imax_r, take_app1, take_map_all, round_eq, b11_1, h0, hi1, hi2, ← hx, this]
      · simp -implicitDefEqProofs (disch := omega) [wrap_of, ilt_t, ilt_f, ile_t, ile_f, nlt_t, nlt_f, nle_t, nle_f, ieq_t, ieq_f, imin_l, imin_r, imax_l, imax_r, take_app1, take_map_all, round_eq, b11_1, h0, hi1, hi2, ← hx])
    (fun a ha => by
      by_cases h20 : l.length < 20
      · have : (l.take 20).length = l.length := by simp; omega
        rw [this] at ha ⊢
        simp -implicitDefEqProofs (disch := omega) [wrap_of, ilt_t, ilt_f, ile_t, ile_f, nlt_t, nlt_f, nle_t, nle_f, ieq_t, ieq_f, imin_l, imin_r, imax_l, imax_r, take_app1, take_map_all, round_eq, b11_1, h0]
      · have : (l.take 20).length = 20 := by simp; omega
        rw [this] at ha ⊢
        simp -implicitDefEqProofs (disch := omega) [wrap_of, ilt_t, ilt_f, ile_t, ile_f, nlt_t, nlt_f, nle_t, nle_f, ieq_t, ieq_f, imin_l, imin_r, imax_l, imax_r, take_app1, take_map_all, round_eq, b11_1, h0]) [] rfl
  simp only [List.length_nil, List.map_nil, Int.natCast_zero] at this
  rw [this]
  have e : ∀ (l a : List (List UInt8)), l.foldl (fun a x => a ++ [x.take 40]) a = a ++ l.map (·.take 40) := by
    intro l
    induction l with
    | nil => intro a; simp
    | cons d l ih => intro a; rw [List.foldl_cons, ih]; simp
  rw [e]
  rfl
theorem s11 {n : Nat} (hn : 9 < n) (l : List (List UInt8)) (f : Bool) (hl : l.length ≤ 9223372036854775807) : (C06.tab n).p 11 [.lst f (l.map AV.str)] = some (.lst false ((few l).map AV.str)) := by
  rw [p11 hn, runP_eq, runH_eq]
  simp -implicitDefEqProofs (disch := omega) [wrap_of, ilt_t, ilt_f, ile_t, ile_f, nlt_t, nlt_f, nle_t, nle_f, ieq_t, ieq_f, imin_l, imin_r, imax_l, imax_r, take_app1, take_map_all, c11]
  rw [l11 l f hl _ (by simp -implicitDefEqProofs (disch := omega) [wrap_of, ilt_t, ilt_f, ile_t, ile_f, nlt_t, nlt_f, nle_t, nle_f, ieq_t, ieq_f, imin_l, imin_r, imax_l, imax_r, take_app1, take_map_all, ])]
  simp -implicitDefEqProofs (disch := omega) [wrap_of, ilt_t, ilt_f, ile_t, ile_f, nlt_t, nlt_f, nle_t, nle_f, ieq_t, ieq_f, imin_l, imin_r, imax_l, imax_r, take_app1, take_map_all, ]
end Go.Proofs.Ytalckkfoplaeeaa
