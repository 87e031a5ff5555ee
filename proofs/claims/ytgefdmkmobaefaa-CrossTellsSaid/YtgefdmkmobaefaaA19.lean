import Derived.Test.YtgefdmkmobaefaaCfg19
import Derived.Test.YtgefdmkmobaefaaL06
import Derived.Test.YtgefdmkmobaefaaAmGT
set_option linter.unusedSimpArgs false
set_option linter.unusedVariables false
namespace Go.Proofs.Ytgefdmkmobaefaa
open Go.Am Go.Am.Nm Go.Lib
def spV (p : List UInt8) : AV := match split p with
 | some l => .tup [.lst (decide (p = [47])) (l.map AV.str), .int .i64 0]
 | none => .tup [.lst true [], .int .i64 60]
theorem s80 {n : Nat} (hn : 2 < n) (p : List UInt8) : (C19.tab n).p 80 [.str p] = some (spV p) := by
 rw [p80 hn]
 show some (splitV rightN p) = _
 unfold splitV spV
 rw [split_eq]
 cases split p <;> rfl
def Fits (l : List (List UInt8)) : Prop := (joinTail [47] l).length ≤ 1000000
theorem zip_all {α : Type} [DecidableEq α] : ∀ {a b : List α}, a.length = b.length → ((a.zip b).all (fun x => decide (x.1 = x.2)) = true ↔ a = b)
 | [], [], _ => by simp
 | x :: a, y :: b, h => by
  have := zip_all (a := a) (b := b) (by simpa using h)
  simp only [List.zip_cons_cons, List.all_cons, Bool.and_eq_true, this, decide_eq_true_eq, List.cons.injEq]
theorem l98 {n : Nat} (a b : List (List UInt8)) (hl : a.length = b.length) (ha : a.length ≤ 9223372036854775806) (f g : Bool) (e0 : Env) (h0 : e0 0 = .lst f (a.map AV.str)) (h1 : e0 1 = .lst g (b.map AV.str)) (h12 : e0 12 = .int .i64 a.length) :
  iter (round (C19.tab n) [13] [(.exit 0, []), (.ret, [4])] c98_1 e0 0 []) ([.int .i64 0], []) = some (if (a.zip b).all (fun x => decide (x.1 = x.2)) = true then (.exit 0, [], []) else (.ret, [.bool false], [])) :=
 for_cmp (f := round (C19.tab n) [13] [(.exit 0, []), (.ret, [4])] c98_1 e0 0 []) (fun i => ([.int .i64 i], [])) a b hl (fun x y => decide (x = y)) _ _
  (fun i hi hi' => by
   obtain ⟨x, hx⟩ : ∃ x, x = a[i] := ⟨_, rfl⟩
   obtain ⟨y, hy⟩ : ∃ y, y = b[i] := ⟨_, rfl⟩
   rw [← hx, ← hy]
   by_cases hxy : x = y
   ·simp -implicitDefEqProofs (disch := omega) [round_eq, b98_1, h0, h1, h12, hi, hi', ← hx, ← hy, strBin, hxy]
   ·simp -implicitDefEqProofs (disch := omega) [round_eq, b98_1, h0, h1, h12, hi, hi', ← hx, ← hy, strBin, hxy])
  (by simp -implicitDefEqProofs (disch := omega) [round_eq, b98_1, h0, h1, h12])
theorem s98 {n : Nat} (hn : 3 < n) (a b : List (List UInt8)) (f g : Bool) (ha : a.length ≤ 1000000000) (hb : b.length ≤ 1000000000) :
  (C19.tab n).p 98 [.lst f (a.map AV.str), .lst g (b.map AV.str)] = some (.bool (decide (a = b))) := by
 rw [p98 hn, runP_eq, runH_eq]
 by_cases hl : a.length = b.length
 ·have hz := zip_all hl
  simp -implicitDefEqProofs (disch := omega) [c98, hl]
  rw [l98 a b hl (by omega) f g _ (by simp -implicitDefEqProofs (disch := omega)) (by simp -implicitDefEqProofs (disch := omega)) (by simp -implicitDefEqProofs (disch := omega) [hl])]
  by_cases hab : a = b
  ·rw [if_pos (hz.2 hab)]
   simp -implicitDefEqProofs (disch := omega) [hab]
  ·rw [if_neg (fun h => hab (hz.1 h))]
   simp -implicitDefEqProofs (disch := omega) [hab]
 ·have hab : a ≠ b := fun h => hl (by rw [h])
  simp -implicitDefEqProofs (disch := omega) [c98, hl, hab]
theorem l95 {n : Nat} (s : List UInt8) (hl : s.length ≤ 9223372036854775806) (e0 : Env) (h0 : e0 0 = .str s) :
  iter (round (C19.tab n) [3] [(.exit 0, []), (.ret, [2])] c95_1 e0 0 []) ([.int .i64 0], []) = some (if s.all okb = true then (.exit 0, [], []) else (.ret, [.bool false], [])) :=
 for_all (f := round (C19.tab n) [3] [(.exit 0, []), (.ret, [2])] c95_1 e0 0 []) (fun i => ([.int .i64 i], [])) s okb _ _
  (fun i hi => by
   obtain ⟨x, hx⟩ : ∃ x, x = s[i] := ⟨_, rfl⟩
   rw [← hx]
   by_cases h1 : x.toNat < 32
   ·have : ¬ okb x = true := by simp [okb, h1]
    rw [if_neg this]
    simp -implicitDefEqProofs (disch := omega) [round_eq, b95_1, h0, hi, ← hx, h1]
   ·by_cases h2 : x.toNat = 47
    ·have : ¬ okb x = true := by simp [okb, h2]
     rw [if_neg this]
     simp -implicitDefEqProofs (disch := omega) [round_eq, b95_1, h0, hi, ← hx, h1, h2]
    ·have : okb x = true := by simp [okb, h1, h2]
     rw [if_pos this]
     simp -implicitDefEqProofs (disch := omega) [round_eq, b95_1, h0, hi, ← hx, h1, h2])
  (by simp -implicitDefEqProofs (disch := omega) [round_eq, b95_1, h0])
theorem s95 {n : Nat} (hn : 55 < n) (s : List UInt8) : (C19.tab n).p 95 [.str s] = some (.bool (rightN s)) := by
 rw [p95 hn, runP_eq, runH_eq]
 by_cases h0 : s = []
 ·subst h0
  simp -implicitDefEqProofs (disch := omega) [c95, rightN]
 ·have h0' : 0 < s.length := List.length_pos_iff.2 h0
  by_cases h1 : 32 < s.length
  ·simp -implicitDefEqProofs (disch := omega) [c95, rightN, h0, h1]
  ·by_cases h2 : s = [46]
   ·subst h2
    simp -implicitDefEqProofs (disch := omega) [c95, rightN, strBin]
   ·by_cases h3 : s = [46, 46]
    ·subst h3
     simp -implicitDefEqProofs (disch := omega) [c95, rightN, strBin]
    ·simp -implicitDefEqProofs (disch := omega) [c95, strBin, h1, h2, h3]
     rw [l95 s (by omega) _ (by simp -implicitDefEqProofs (disch := omega))]
     by_cases ha : s.all okb = true
     ·have : rightN s = true := by simp only [rightN, h0, h1, h2, h3, ha]; rfl
      rw [if_pos ha]
      simp -implicitDefEqProofs (disch := omega) [this]
     ·have : rightN s = false := by
       have : s.all okb = false := by simpa using ha
       simp only [rightN, this, Bool.and_false]
      rw [if_neg ha]
      simp -implicitDefEqProofs (disch := omega) [this]
def cutG (s : List (List UInt8) × List UInt8) (b : UInt8) : (List (List UInt8) × List UInt8) ⊕ Unit :=
 if b = 47 then if rightN s.2 = true ∧ s.1.length < 12 then .inl (s.1 ++ [s.2], []) else .inr () else .inl (s.1, s.2 ++ [b])
def cutO : List UInt8 → List (List UInt8) × List UInt8 → List (List UInt8)
 | [], s => s.1
 | b :: l, s => match cutG s b with
  | .inl s' => cutO l s'
  | .inr _ => s.1
theorem cut_all : ∀ (t : List UInt8) (out : List (List UInt8)) (cur : List UInt8) (x : List UInt8) (r : List (List UInt8)), segs t = x :: r → out.length ≤ 12 →
  foldE cutG (t ++ [47]) (out, cur) = if out.length + (r.length + 1) ≤ 12 ∧ ((cur ++ x) :: r).all rightN = true then .inl (out ++ ((cur ++ x) :: r), []) else .inr ()
 | [], out, cur, x, r, h, h12 => by
  cases h
  simp only [List.nil_append, foldE, cutG, if_true]
  by_cases hc : rightN cur = true ∧ out.length < 12
  ·rw [if_pos hc, if_pos]
   ·simp
   ·exact ⟨by simp; omega, by simp [hc.1]⟩
  ·rw [if_neg hc, if_neg]
   rintro ⟨h1, h2⟩
   exact hc ⟨by simpa using h2, by simp at h1; omega⟩
 | b :: t, out, cur, x, r, h, h12 => by
  obtain ⟨y, q, hy⟩ : ∃ y q, segs t = y :: q := by
   cases h : segs t with
   | nil => exact absurd h (segs_ne t)
   | cons x r => exact ⟨x, r, rfl⟩
  simp only [List.cons_append, foldE, cutG]
  by_cases hb : b = 47
  ·subst hb
   rw [segs_slash, hy] at h
   cases h
   rw [if_pos rfl]
   by_cases hc : rightN cur = true ∧ out.length < 12
   ·rw [if_pos hc]
    simp only
    rw [cut_all t _ _ _ _ hy (by simp; omega)]
    simp only [List.nil_append, List.append_nil, List.length_append, List.length_cons, List.length_nil, List.all_cons, hc.1, Bool.true_and, List.append_assoc, List.singleton_append]
    congr 1
    simp only [eq_iff_iff, and_congr_left_iff]
    intro _; omega
   ·rw [if_neg hc]
    simp only
    rw [if_neg]
    rintro ⟨h1, h2⟩
    simp only [List.append_nil, List.all_cons, Bool.and_eq_true] at h2
    exact hc ⟨h2.1, by simp at h1; omega⟩
  ·rw [segs_other hb hy] at h
   cases h
   rw [if_neg hb]
   simp only
   rw [cut_all t _ _ _ _ hy h12]
   simp
theorem getElem_app1 {t : List UInt8} {i : Nat} (h : i < (t ++ [47]).length) : (t ++ [47])[i] = if h : i < t.length then t[i] else 47 := by
 by_cases ht : i < t.length
 ·rw [dif_pos ht, List.getElem_append_left ht]
 ·rw [dif_neg ht, List.getElem_append_right (by omega)]
  simp
theorem l77 {n : Nat} (hn : 55 < n) (t : List UInt8) (hl : t.length ≤ 1000000000) (e0 : Env) (h0 : e0 0 = .str (47 :: t)) :
  (∀ s, foldE cutG (t ++ [47]) ([], []) = .inl s → iter (round (C19.tab n) [4, 5, 6] [(.exit 0, [4]), (.ret, [2, 3])] c77_1 e0 1 [0]) ([.own 0 0 0 0, .int .i64 1, .int .i64 1], [.row 0 1 []]) =
   some (.exit 0, [.own 0 0 0 s.1.length], [.row 0 1 (s.1.map AV.str)])) ∧
  (foldE cutG (t ++ [47]) ([], []) = .inr () → iter (round (C19.tab n) [4, 5, 6] [(.exit 0, [4]), (.ret, [2, 3])] c77_1 e0 1 [0]) ([.own 0 0 0 0, .int .i64 1, .int .i64 1], [.row 0 1 []]) =
   some (.ret, [.lst true [], .int .i64 60], [.row 0 1 ((cutO (t ++ [47]) ([], [])).map AV.str)])) := by
 have := for_listE (f := round (C19.tab n) [4, 5, 6] [(.exit 0, [4]), (.ret, [2, 3])] c77_1 e0 1 [0]) (fun i (s : List (List UInt8) × List UInt8) => ([.own 0 0 0 s.1.length, .int .i64 ((i + 1 - s.2.length : Nat) : Int), .int .i64 ((i + 1 : Nat) : Int)], [.row 0 1 (s.1.map AV.str)])) (t ++ [47])
  (fun s b => (cutG s b).elim .inl fun _ => .inr (.ret, [.lst true [], .int .i64 60], [.row 0 1 (s.1.map AV.str)])) (fun s => (.exit 0, [.own 0 0 0 s.1.length], [.row 0 1 (s.1.map AV.str)])) (fun i s => s.1.length ≤ 12 ∧ s.2.length ≤ i ∧ (t.take i).drop (i - s.2.length) = s.2)
  (fun i hi s hs => by
   obtain ⟨out, cur⟩ := s
   obtain ⟨h12, hci, hcur⟩ := hs
   simp only at h12 hci hcur
   have hi' : i < t.length + 1 := by simpa using hi
   have hc1 : (47 :: t.take i).drop (i + 1 - cur.length) = cur := by
    rw [show i + 1 - cur.length = (i - cur.length) + 1 by omega, List.drop_succ_cons, hcur]
   obtain ⟨fr, hfr⟩ : ∃ fr : Nat, fr = i + 1 - cur.length := ⟨_, rfl⟩
   have hfr0 : (i + 1 - cur.length : Nat) = fr := hfr.symm
   rw [← hfr] at hc1
   have hfr1 : fr ≤ i + 1 := by omega
   have h17 := s95 (n := n) hn cur
   rw [getElem_app1 hi]
   have push : ∀ (hx : (decide (i + 1 < (47 :: t).length) && (((47 :: t)[i + 1]?).elim true fun b => !decide (b.toNat = 47))) = false),
     (rightN cur = true ∧ out.length < 12 → round (C19.tab n) [4, 5, 6] [(.exit 0, [4]), (.ret, [2, 3])] c77_1 e0 1 [0] ([.own 0 0 0 out.length, .int .i64 (fr : Int), .int .i64 ((i + 1 : Nat) : Int)], [.row 0 1 (out.map AV.str)]) =
      some (.inl ([.own 0 0 0 (out.length + 1), .int .i64 ((i + 2 : Nat) : Int), .int .i64 ((i + 2 : Nat) : Int)], [.row 0 1 ((out ++ [cur]).map AV.str)]))) ∧
     (¬ (rightN cur = true ∧ out.length < 12) → round (C19.tab n) [4, 5, 6] [(.exit 0, [4]), (.ret, [2, 3])] c77_1 e0 1 [0] ([.own 0 0 0 out.length, .int .i64 (fr : Int), .int .i64 ((i + 1 : Nat) : Int)], [.row 0 1 (out.map AV.str)]) =
      some (.inr (.ret, [.lst true [], .int .i64 60], [.row 0 1 (out.map AV.str)]))) := by
    intro hx
    have hcs : (i < t.length ∧ ∃ b, (47 :: t)[i + 1]? = some b ∧ b.toNat = 47) ∨ ¬ i < t.length := by
     by_cases hit : i < t.length
     ·left
      refine ⟨hit, t[i], ?_⟩
      have hg : (47 :: t)[i + 1]? = some t[i] := by rw [List.getElem?_cons_succ]; exact List.getElem?_eq_getElem hit
      refine ⟨hg, ?_⟩
      rw [hg] at hx
      simpa [hit] using hx
     ·exact .inr hit
    refine ⟨fun hc => ?_, fun hc => ?_⟩
    ·obtain ⟨hr, hlt⟩ := hc
     rw [hr] at h17
     rcases hcs with ⟨hit, b, hg, hb2⟩ | hit
     ·simp -implicitDefEqProofs (disch := omega) [round_eq, b77_1, h0, hit, hg, hb2, hfr1, hc1, a95, h17, hlt]
     ·simp -implicitDefEqProofs (disch := omega) [round_eq, b77_1, h0, hit, hfr1, hc1, a95, h17, hlt]
    ·cases hr : rightN cur with
     | true =>
      have hlt : out.length = 12 := by
       have : ¬ out.length < 12 := fun h => hc ⟨hr, h⟩
       omega
      rw [hr] at h17
      rcases hcs with ⟨hit, b, hg, hb2⟩ | hit
      ·simp -implicitDefEqProofs (disch := omega) [round_eq, b77_1, h0, hit, hg, hb2, hfr1, hc1, a95, h17, hlt]
      ·simp -implicitDefEqProofs (disch := omega) [round_eq, b77_1, h0, hit, hfr1, hc1, a95, h17, hlt]
     | false =>
      rw [hr] at h17
      rcases hcs with ⟨hit, b, hg, hb2⟩ | hit
      ·simp -implicitDefEqProofs (disch := omega) [round_eq, b77_1, h0, hit, hg, hb2, hfr1, hc1, a95, h17]
      ·simp -implicitDefEqProofs (disch := omega) [round_eq, b77_1, h0, hit, hfr1, hc1, a95, h17]
   by_cases hit : i < t.length
   ·rw [dif_pos hit]
    obtain ⟨b, hb⟩ : ∃ b, b = t[i] := ⟨_, rfl⟩
    rw [← hb]
    have hg : (47 :: t)[i + 1]? = some b := by rw [List.getElem?_cons_succ, hb]; exact List.getElem?_eq_getElem hit
    by_cases hb47 : b = 47
    ·have hb2 : b.toNat = 47 := by rw [hb47]; rfl
     obtain ⟨g1, g2⟩ := push (by rw [hg]; simp [hb2])
     by_cases hc : rightN cur = true ∧ out.length < 12
     ·simp only [cutG, if_pos hb47, if_pos hc, Sum.elim_inl]
      refine ⟨⟨by simp; omega, by simp, by simp⟩, ?_⟩
      rw [hfr0, g1 hc]
      simp
      omega
     ·simp only [cutG, if_pos hb47, if_neg hc, Sum.elim_inr]
      rw [hfr0, g2 hc]
    ·have hb2 : ¬ b.toNat = 47 := fun h => hb47 (UInt8.toNat_inj.1 h)
     simp only [cutG, if_neg hb47, Sum.elim_inl]
     refine ⟨⟨h12, by simp; omega, ?_⟩, ?_⟩
     ·rw [List.take_succ_eq_append_getElem hit, ← hb]
      simp only [List.length_append, List.length_cons, List.length_nil]
      rw [show i + 1 - (cur.length + (0 + 1)) = i - cur.length by omega, List.drop_append_of_le_length (by simp; omega), hcur]
     ·have e2 : (i + 1 + 1 - (cur ++ [b]).length : Nat) = fr := by simp; omega
      rw [hfr0, e2]
      simp -implicitDefEqProofs (disch := omega) [round_eq, b77_1, h0, hit, hg, hb2]
   ·rw [dif_neg hit]
    obtain ⟨g1, g2⟩ := push (by simp [hit])
    by_cases hc : rightN cur = true ∧ out.length < 12
    ·simp only [cutG, if_true, if_pos hc, Sum.elim_inl]
     refine ⟨⟨by simp; omega, by simp, by simp⟩, ?_⟩
     rw [hfr0, g1 hc]
     simp
     omega
    ·simp only [cutG, if_true, if_neg hc, Sum.elim_inr]
     rw [hfr0, g2 hc])
  (fun s hs => by
   simp -implicitDefEqProofs (disch := omega) [round_eq, b77_1, h0]) ([], []) ⟨by simp, by simp, by simp⟩
 simp only [List.length_nil, List.map_nil, Int.natCast_zero, Nat.zero_add, Nat.sub_zero, Int.natCast_one] at this
 rw [this]
 have e : ∀ (l : List UInt8) (s : List (List UInt8) × List UInt8), (∀ t, foldE cutG l s = .inl t → foldE (fun s b => (cutG s b).elim .inl fun _ => .inr ((AX.ret, [AV.lst true [], AV.int .i64 60], [AB.row 0 1 (s.1.map AV.str)]) : AX × List AV × AH)) l s = .inl t) ∧
   (foldE cutG l s = .inr () → foldE (fun s b => (cutG s b).elim .inl fun _ => .inr ((AX.ret, [AV.lst true [], AV.int .i64 60], [AB.row 0 1 (s.1.map AV.str)]) : AX × List AV × AH)) l s = .inr (AX.ret, [AV.lst true [], AV.int .i64 60], [AB.row 0 1 ((cutO l s).map AV.str)])) := by
  intro l
  induction l with
  | nil => intro s; exact ⟨fun t h => (by cases h; rfl), fun h => (by cases h)⟩
  | cons x l ih =>
   intro s
   simp only [foldE, cutO]
   cases cutG s x with
   | inl s' => exact ih s'
   | inr u => exact ⟨fun t h => (by cases h), fun _ => rfl⟩
 refine ⟨fun s hf => ?_, fun hf => ?_⟩
 ·rw [(e _ _).1 s hf]
 ·rw [(e _ _).2 hf]
theorem s77 {n : Nat} (hn : 56 < n) (p : List UInt8) (hl : p.length ≤ 1000000000) : (C19.tab n).p 77 [.str p] = some (spV p) := by
 rw [p77 hn, runP_eq, runH_eq]
 unfold spV
 by_cases h1 : p = [47]
 ·subst h1
  simp -implicitDefEqProofs (disch := omega) [c77, strBin]
  rfl
 ·cases p with
  | nil => simp -implicitDefEqProofs (disch := omega) [c77, strBin, split]
  | cons b t =>
   by_cases hb : b = 47
   ·subst hb
    have ht : t ≠ [] := fun h => h1 (by rw [h])
    obtain ⟨x, r, hx⟩ : ∃ x r, segs t = x :: r := by
     cases h : segs t with
     | nil => exact absurd h (segs_ne t)
     | cons x r => exact ⟨x, r, rfl⟩
    simp -implicitDefEqProofs (disch := omega) [c77, strBin, ht]
    have hl' : t.length ≤ 1000000000 := by simp at hl; omega
    have hcut := cut_all t [] [] x r hx (by simp)
    by_cases hc : (segs t).length ≤ 12 ∧ (segs t).all rightN = true
    ·have hs : split (47 :: t) = some (segs t) := by
      unfold split
      rw [if_neg h1]
      simp only [List.head?_cons, List.tail_cons]
      rw [if_pos ⟨trivial, hc.1, hc.2⟩]
     rw [hs]
     rw [hx] at hc ⊢
     rw [if_pos ⟨by simpa using hc.1, by simpa using hc.2⟩] at hcut
     rw [(l77 (by decide) t hl' _ (by simp -implicitDefEqProofs (disch := omega))).1 _ hcut]
     simp -implicitDefEqProofs (disch := omega) [ht]
    ·have hs : split (47 :: t) = none := by
      unfold split
      rw [if_neg h1]
      simp only [List.head?_cons, List.tail_cons]
      rw [if_neg fun h => hc ⟨h.2.1, h.2.2⟩]
     rw [hs]
     rw [hx] at hc
     rw [if_neg fun h => hc ⟨(by have := h.1; simpa using this), by simpa using h.2⟩] at hcut
     rw [(l77 (by decide) t hl' _ (by simp -implicitDefEqProofs (disch := omega))).2 hcut]
     simp -implicitDefEqProofs (disch := omega)
   ·have hb2 : ¬ b.toNat = 47 := fun h => hb (UInt8.toNat_inj.1 h)
    have hs : split (b :: t) = none := by
     unfold split
     rw [if_neg h1, if_neg]
     simp [hb]
    rw [hs]
    simp -implicitDefEqProofs (disch := omega) [c77, strBin, hb, hb2]
@[simp] theorem szS (l : List (List UInt8)) : szOk 1 (l.map AV.str) = true := by simp [szOk]
@[simp] theorem last_get (m : List (List UInt8)) (x : List UInt8) : (m.map AV.str ++ [AV.str x])[m.length]? = some (.str x) := by simp
@[simp] theorem last_take (m : List (List UInt8)) (x : List UInt8) : (m.map AV.str ++ [AV.str x]).take m.length = m.map AV.str := by
 rw [List.take_append_of_le_length (by simp), List.take_of_length_le (by simp)]
theorem Fits.take {l : List (List UInt8)} (h : Fits l) (k : Nat) : Fits (l.take k) := Nat.le_trans (joinTail_take_le [47] l k) h
theorem split_le {p : List UInt8} {l : List (List UInt8)} (h : split p = some l) : l.length ≤ 12 := (split_some h).2.1
theorem s81 {n : Nat} (hn : 4 < n) (a b : List UInt8) : (C19.tab n).p 81 [.str a, .str b] = some (.bool (abv a b)) := by
 rw [p81 hn, runP_eq, runH_eq]
 have ha := s80 (n := 4) (by decide) a
 have hb := s80 (n := 4) (by decide) b
 unfold abv
 unfold spV at ha hb
 cases hsa : split a with
 | none =>
  rw [hsa] at ha
  cases hsb : split b with
  | none => rw [hsb] at hb; simp -implicitDefEqProofs (disch := omega) [c81, a80, ha, hb]
  | some y => rw [hsb] at hb; simp -implicitDefEqProofs (disch := omega) [c81, a80, ha, hb]
 | some x =>
  rw [hsa] at ha
  have h1 := split_le hsa
  cases hsb : split b with
  | none => rw [hsb] at hb; simp -implicitDefEqProofs (disch := omega) [c81, a80, ha, hb]
  | some y =>
   rw [hsb] at hb
   have h2 := split_le hsb
   by_cases hl : x.length ≤ y.length
   ·have h25 := fun f g => s98 (n := 4) (by decide) x (y.take x.length) f g (by omega) (by simp; omega)
    simp only [List.map_take] at h25
    simp -implicitDefEqProofs (disch := omega) [c81, a80, ha, hb, a98, h25, hl]
   ·simp -implicitDefEqProofs (disch := omega) [c81, a80, ha, hb, hl]
theorem l82 {n : Nat} (x y : List (List UInt8)) (hl : x.length ≤ y.length) (hx : x.length ≤ 1000000) (f g : Bool) (e0 : Env) (h5 : e0 5 = .lst f (x.map AV.str)) (h7 : e0 7 = .lst g (y.map AV.str)) :
  iter (round (C19.tab n) [9] [(.exit 0, []), (.ret, [4])] c82_1 e0 0 []) ([.int .i64 0], []) = some (if (x.zip (y.take x.length)).all (fun x => decide (x.1 = x.2)) = true then (.exit 0, [], []) else (.ret, [.bool false], [])) :=
 for_cmp (f := round (C19.tab n) [9] [(.exit 0, []), (.ret, [4])] c82_1 e0 0 []) (fun i => ([.int .i64 i], [])) x (y.take x.length) (by simp; omega) (fun x y => decide (x = y)) _ _
  (fun i hi hi' => by
   have e : (y.take x.length)[i] = y[i]'(by omega) := by simp
   rw [e]
   have hiy : i < y.length := by omega
   obtain ⟨u, hu⟩ : ∃ u, u = x[i] := ⟨_, rfl⟩
   obtain ⟨v, hv⟩ : ∃ v, v = y[i] := ⟨_, rfl⟩
   rw [← hu, ← hv]
   by_cases huv : u = v
   ·simp -implicitDefEqProofs (disch := omega) [round_eq, b82_1, h5, h7, hi, hiy, ← hu, ← hv, strBin, huv]
   ·simp -implicitDefEqProofs (disch := omega) [round_eq, b82_1, h5, h7, hi, hiy, ← hu, ← hv, strBin, huv])
  (by simp -implicitDefEqProofs (disch := omega) [round_eq, b82_1, h5, h7])
theorem s82 {n : Nat} (hn : 74 < n) (a b : List UInt8) (hla : a.length ≤ 1000000000) (hlb : b.length ≤ 1000000000) : (C19.tab n).p 82 [.str a, .str b] = some (.bool (abv a b)) := by
 rw [p82 hn, runP_eq, runH_eq]
 have ha := s77 (n := 74) (by decide) a hla
 have hb := s77 (n := 74) (by decide) b hlb
 unfold abv
 unfold spV at ha hb
 cases hsa : split a with
 | none =>
  rw [hsa] at ha
  cases hsb : split b with
  | none => rw [hsb] at hb; simp -implicitDefEqProofs (disch := omega) [c82, a77, ha, hb]
  | some y => rw [hsb] at hb; simp -implicitDefEqProofs (disch := omega) [c82, a77, ha, hb]
 | some x =>
  rw [hsa] at ha
  have h1 := split_le hsa
  cases hsb : split b with
  | none => rw [hsb] at hb; simp -implicitDefEqProofs (disch := omega) [c82, a77, ha, hb]
  | some y =>
   rw [hsb] at hb
   have h2 := split_le hsb
   by_cases hl : x.length ≤ y.length
   ·have hz := zip_all (a := x) (b := y.take x.length) (by simp; omega)
    simp -implicitDefEqProofs (disch := omega) [c82, a77, ha, hb, hl]
    rw [l82 x y hl (by omega) (decide (a = [47])) (decide (b = [47])) _ (by simp -implicitDefEqProofs (disch := omega)) (by simp -implicitDefEqProofs (disch := omega))]
    by_cases hxy : x = y.take x.length
    ·rw [if_pos (hz.2 hxy)]
     have : decide (x.length ≤ y.length ∧ x = y.take x.length) = true := decide_eq_true ⟨hl, hxy⟩
     simp -implicitDefEqProofs (disch := omega) [← hxy, hl]
    ·rw [if_neg (fun h => hxy (hz.1 h))]
     simp -implicitDefEqProofs (disch := omega) [hxy, hl]
   ·simp -implicitDefEqProofs (disch := omega) [c82, a77, ha, hb, hl]
end Go.Proofs.Ytgefdmkmobaefaa
