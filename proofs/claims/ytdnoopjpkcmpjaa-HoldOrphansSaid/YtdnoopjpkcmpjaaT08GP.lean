import Derived.Test.YtdnoopjpkcmpjaaT08GA
import Derived.Test.YtdnoopjpkcmpjaaT08o
import Derived.Test.YtdnoopjpkcmpjaaTrGJ
set_option linter.unusedSimpArgs false
set_option linter.unusedVariables false
namespace Go.Proofs.Ytdnoopjpkcmpjaa
open Go.Am Go.Tr

theorem toBytes_B : ∀ l : List UInt8, toBytes (l.map B) = some l
  | [] => rfl
  | b :: l => by simp [toBytes, toBytes_B l]
theorem zip_eqT {α : Type} [DecidableEq α] : ∀ {a b : List α}, a.length = b.length → ((a.zip b).all (fun x => decide (x.1 = x.2)) = true ↔ a = b)
  | [], [], _ => by simp
  | x :: a, y :: b, h => by
    have := zip_eqT (a := a) (b := b) (by simpa using h)
    simp only [List.zip_cons_cons, List.all_cons, Bool.and_eq_true, this, decide_eq_true_eq, List.cons.injEq]
theorem l64 {Γ : Tab} (a b : List Tr.Ent) (hl : a.length = b.length) (ha : a.length ≤ 1000) (f g : Bool) (e0 : Env) (h0 : e0 0 = .lst f (a.map En)) (h1 : e0 1 = .lst g (b.map En)) :
    iter (round Γ [5] [(.exit 0, []), (.ret, [4])] c64_1 e0 0 []) ([.int .i64 0], []) = some (if (a.zip b).all (fun x => decide (x.1 = x.2)) = true then (.exit 0, [], []) else (.ret, [.bool false], [])) :=
  for_cmp (f := round Γ [5] [(.exit 0, []), (.ret, [4])] c64_1 e0 0 []) (fun i => ([.int .i64 i], [])) a b hl (fun x y => decide (x = y)) _ _
    (fun i hi hi' => by
      obtain ⟨x, hx⟩ : ∃ x, x = a[i] := ⟨_, rfl⟩
      obtain ⟨y, hy⟩ : ∃ y, y = b[i] := ⟨_, rfl⟩
      rw [← hx, ← hy]
      obtain ⟨x1, x2, x3⟩ := x
      obtain ⟨y1, y2, y3⟩ := y
      by_cases c1 : x1 = y1
      · by_cases c2 : x2 = y2
        · by_cases c3 : x3 = y3
          · simp -implicitDefEqProofs (disch := omega) [wrap_of, ilt_t, ilt_f, ile_t, ile_f, nlt_t, nlt_f, nle_t, nle_f, ieq_t, ieq_f, imin_l, imin_r, imax_l, imax_r, take_app1, take_map_all, round_eq, b64_1, h0, h1, hi, hi', ← hx, ← hy, cellsEq, strBin, c1, c2, c3]
          · simp -implicitDefEqProofs (disch := omega) [wrap_of, ilt_t, ilt_f, ile_t, ile_f, nlt_t, nlt_f, nle_t, nle_f, ieq_t, ieq_f, imin_l, imin_r, imax_l, imax_r, take_app1, take_map_all, round_eq, b64_1, h0, h1, hi, hi', ← hx, ← hy, cellsEq, strBin, c1, c2, c3]
        · simp -implicitDefEqProofs (disch := omega) [wrap_of, ilt_t, ilt_f, ile_t, ile_f, nlt_t, nlt_f, nle_t, nle_f, ieq_t, ieq_f, imin_l, imin_r, imax_l, imax_r, take_app1, take_map_all, round_eq, b64_1, h0, h1, hi, hi', ← hx, ← hy, cellsEq, strBin, c1, c2]
      · simp -implicitDefEqProofs (disch := omega) [wrap_of, ilt_t, ilt_f, ile_t, ile_f, nlt_t, nlt_f, nle_t, nle_f, ieq_t, ieq_f, imin_l, imin_r, imax_l, imax_r, take_app1, take_map_all, round_eq, b64_1, h0, h1, hi, hi', ← hx, ← hy, cellsEq, strBin, c1])
    (by simp -implicitDefEqProofs (disch := omega) [wrap_of, ilt_t, ilt_f, ile_t, ile_f, nlt_t, nlt_f, nle_t, nle_f, ieq_t, ieq_f, imin_l, imin_r, imax_l, imax_r, take_app1, take_map_all, round_eq, b64_1, h0, h1])
theorem s64 {n : Nat} (hn : 79 < n) (a b : List Tr.Ent) (f g : Bool) (ha : a.length ≤ 1000) (hb : b.length ≤ 1000) :
    (C08.tab n).p 64 [.lst f (a.map En), .lst g (b.map En)] = some (.bool (decide (a = b))) := by
  rw [p64 hn, runP_eq, runH_eq]
  by_cases hl : a.length = b.length
  · have hz := zip_eqT hl
    simp -implicitDefEqProofs (disch := omega) [wrap_of, ilt_t, ilt_f, ile_t, ile_f, nlt_t, nlt_f, nle_t, nle_f, ieq_t, ieq_f, imin_l, imin_r, imax_l, imax_r, take_app1, take_map_all, c64, hl]
    rw [l64 a b hl (by omega) f g _ (by simp -implicitDefEqProofs (disch := omega) [wrap_of, ilt_t, ilt_f, ile_t, ile_f, nlt_t, nlt_f, nle_t, nle_f, ieq_t, ieq_f, imin_l, imin_r, imax_l, imax_r, take_app1, take_map_all, ]) (by simp -implicitDefEqProofs (disch := omega) [wrap_of, ilt_t, ilt_f, ile_t, ile_f, nlt_t, nlt_f, nle_t, nle_f, ieq_t, ieq_f, imin_l, imin_r, imax_l, imax_r, take_app1, take_map_all, ])]
    by_cases hab : a = b
    · rw [if_pos (hz.2 hab)]
      simp -implicitDefEqProofs (disch := omega) [wrap_of, ilt_t, ilt_f, ile_t, ile_f, nlt_t, nlt_f, nle_t, nle_f, ieq_t, ieq_f, imin_l, imin_r, imax_l, imax_r, take_app1, take_map_all, hab]
    · rw [if_neg (fun h => hab (hz.1 h))]
      simp -implicitDefEqProofs (disch := omega) [wrap_of, ilt_t, ilt_f, ile_t, ile_f, nlt_t, nlt_f, nle_t, nle_f, ieq_t, ieq_f, imin_l, imin_r, imax_l, imax_r, take_app1, take_map_all, hab]
  · have hab : a ≠ b := fun h => hl (by rw [h])
    simp -implicitDefEqProofs (disch := omega) [wrap_of, ilt_t, ilt_f, ile_t, ile_f, nlt_t, nlt_f, nle_t, nle_f, ieq_t, ieq_f, imin_l, imin_r, imax_l, imax_r, take_app1, take_map_all, c64, hl, hab]
/-- What counts of a node. -/
def coreN (q : Tr.Node) : Tr.Node := { q with fd := true, fe := true }
theorem s31 {n : Nat} (hn : 80 < n) (x y : Tr.Node) (hx : x.ents.length ≤ 1000) (hy : y.ents.length ≤ 1000) :
    (C08.tab n).p 31 [Nd x, Nd y] = some (.bool (decide (coreN x = coreN y))) := by
  rw [p31 hn, runP_eq, runH_eq]
  have hE := s64 (n := 80) (by decide) x.ents y.ents x.fe y.fe hx hy
  have t1 := toBytes_B x.data
  have t2 := toBytes_B y.data
  have hcq : ∀ x y : Tr.Node, coreN x = coreN y ↔ x.ino = y.ino ∧ x.kind = y.kind ∧ x.links = y.links ∧ x.up = y.up ∧ x.data = y.data ∧ x.ents = y.ents := fun x y => by
    unfold coreN
    rw [Tr.Node.mk.injEq]
    constructor
    · rintro ⟨h1, h2, h3, _, h4, _, h5, h6⟩; exact ⟨h1, h2, h3, h6, h4, h5⟩
    · rintro ⟨h1, h2, h3, h6, h4, h5⟩; exact ⟨h1, h2, h3, rfl, h4, rfl, h5, h6⟩
  have hcd : decide (coreN x = coreN y) = decide (x.ino = y.ino ∧ x.kind = y.kind ∧ x.links = y.links ∧ x.up = y.up ∧ x.data = y.data ∧ x.ents = y.ents) := decide_eq_decide.2 (hcq x y)
  rw [hcd]
  clear hcd hcq
  obtain ⟨x1, x2, x3, x4, x5, x6, x7, x8⟩ := x
  obtain ⟨y1, y2, y3, y4, y5, y6, y7, y8⟩ := y
  simp only at hE t1 t2
  by_cases c1 : x1 = y1
  · by_cases c2 : x2 = y2
    · by_cases c3 : x3 = y3
      · by_cases c4 : x8 = y8
        · by_cases c5 : x5 = y5
          · subst c5
            simp -implicitDefEqProofs (disch := omega) [wrap_of, ilt_t, ilt_f, ile_t, ile_f, nlt_t, nlt_f, nle_t, nle_f, ieq_t, ieq_f, imin_l, imin_r, imax_l, imax_r, take_app1, take_map_all, c31, c1, c2, c3, c4, t1, strBin, a64, hE]
          · simp -implicitDefEqProofs (disch := omega) [wrap_of, ilt_t, ilt_f, ile_t, ile_f, nlt_t, nlt_f, nle_t, nle_f, ieq_t, ieq_f, imin_l, imin_r, imax_l, imax_r, take_app1, take_map_all, c31, c1, c2, c3, c4, t1, t2, strBin, c5]
        · simp -implicitDefEqProofs (disch := omega) [wrap_of, ilt_t, ilt_f, ile_t, ile_f, nlt_t, nlt_f, nle_t, nle_f, ieq_t, ieq_f, imin_l, imin_r, imax_l, imax_r, take_app1, take_map_all, c31, c1, c2, c3, c4]
      · simp -implicitDefEqProofs (disch := omega) [wrap_of, ilt_t, ilt_f, ile_t, ile_f, nlt_t, nlt_f, nle_t, nle_f, ieq_t, ieq_f, imin_l, imin_r, imax_l, imax_r, take_app1, take_map_all, c31, c1, c2, c3]
    · simp -implicitDefEqProofs (disch := omega) [wrap_of, ilt_t, ilt_f, ile_t, ile_f, nlt_t, nlt_f, nle_t, nle_f, ieq_t, ieq_f, imin_l, imin_r, imax_l, imax_r, take_app1, take_map_all, c31, c1, c2]
  · simp -implicitDefEqProofs (disch := omega) [wrap_of, ilt_t, ilt_f, ile_t, ile_f, nlt_t, nlt_f, nle_t, nle_f, ieq_t, ieq_f, imin_l, imin_r, imax_l, imax_r, take_app1, take_map_all, c31, c1]
theorem l50 {n : Nat} (hn : 80 < n) (a b : List Tr.Node) (hl : a.length = b.length) (ha : a.length ≤ 1000) (hae : ∀ q ∈ a, q.ents.length ≤ 1000) (hbe : ∀ q ∈ b, q.ents.length ≤ 1000) (f g : Bool) (e0 : Env) (h0 : e0 0 = .lst f (a.map Nd)) (h1 : e0 1 = .lst g (b.map Nd)) :
    iter (round (C08.tab n) [5] [(.exit 0, []), (.ret, [4])] c50_1 e0 0 []) ([.int .i64 0], []) = some (if (a.zip b).all (fun x => decide (coreN x.1 = coreN x.2)) = true then (.exit 0, [], []) else (.ret, [.bool false], [])) :=
  for_cmp (f := round (C08.tab n) [5] [(.exit 0, []), (.ret, [4])] c50_1 e0 0 []) (fun i => ([.int .i64 i], [])) a b hl (fun x y => decide (coreN x = coreN y)) _ _
    (fun i hi hi' => by
      obtain ⟨x, hx⟩ : ∃ x, x = a[i] := ⟨_, rfl⟩
      obtain ⟨y, hy⟩ : ∃ y, y = b[i] := ⟨_, rfl⟩
      rw [← hx, ← hy]
      have hS := s31 (n := n) (by omega) x y (by rw [hx]; exact hae _ (List.getElem_mem hi)) (by rw [hy]; exact hbe _ (List.getElem_mem hi'))
      simp only [Nd] at hS
      by_cases c : coreN x = coreN y
      · simp -implicitDefEqProofs (disch := omega) [wrap_of, ilt_t, ilt_f, ile_t, ile_f, nlt_t, nlt_f, nle_t, nle_f, ieq_t, ieq_f, imin_l, imin_r, imax_l, imax_r, take_app1, take_map_all, round_eq, b50_1, h0, h1, hi, hi', ← hx, ← hy, hS, c]
      · simp -implicitDefEqProofs (disch := omega) [wrap_of, ilt_t, ilt_f, ile_t, ile_f, nlt_t, nlt_f, nle_t, nle_f, ieq_t, ieq_f, imin_l, imin_r, imax_l, imax_r, take_app1, take_map_all, round_eq, b50_1, h0, h1, hi, hi', ← hx, ← hy, hS, c])
    (by simp -implicitDefEqProofs (disch := omega) [wrap_of, ilt_t, ilt_f, ile_t, ile_f, nlt_t, nlt_f, nle_t, nle_f, ieq_t, ieq_f, imin_l, imin_r, imax_l, imax_r, take_app1, take_map_all, round_eq, b50_1, h0, h1])
theorem zip_coreN : ∀ {a b : List Tr.Node}, a.length = b.length → ((a.zip b).all (fun x => decide (coreN x.1 = coreN x.2)) = true ↔ a.map coreN = b.map coreN)
  | [], [], _ => by simp
  | x :: a, y :: b, h => by
    have := zip_coreN (a := a) (b := b) (by simpa using h)
    simp only [List.zip_cons_cons, List.all_cons, Bool.and_eq_true, this, decide_eq_true_eq, List.map_cons, List.cons.injEq]
theorem s50 {n : Nat} (hn : 81 < n) (a b : List Tr.Node) (ha : a.length ≤ 1000) (hb : b.length ≤ 1000) (hae : ∀ q ∈ a, q.ents.length ≤ 1000) (hbe : ∀ q ∈ b, q.ents.length ≤ 1000) (f g : Bool) :
    (C08.tab n).p 50 [.lst f (a.map Nd), .lst g (b.map Nd)] = some (.bool (decide (a.map coreN = b.map coreN))) := by
  rw [p50 hn, runP_eq, runH_eq]
  by_cases hl : a.length = b.length
  · have hz := zip_coreN hl
    simp -implicitDefEqProofs (disch := omega) [wrap_of, ilt_t, ilt_f, ile_t, ile_f, nlt_t, nlt_f, nle_t, nle_f, ieq_t, ieq_f, imin_l, imin_r, imax_l, imax_r, take_app1, take_map_all, c50, hl]
    rw [l50 (by decide) a b hl (by omega) hae hbe f g _ (by simp -implicitDefEqProofs (disch := omega) [wrap_of, ilt_t, ilt_f, ile_t, ile_f, nlt_t, nlt_f, nle_t, nle_f, ieq_t, ieq_f, imin_l, imin_r, imax_l, imax_r, take_app1, take_map_all, ]) (by simp -implicitDefEqProofs (disch := omega) [wrap_of, ilt_t, ilt_f, ile_t, ile_f, nlt_t, nlt_f, nle_t, nle_f, ieq_t, ieq_f, imin_l, imin_r, imax_l, imax_r, take_app1, take_map_all, ])]
    by_cases hab : a.map coreN = b.map coreN
    · rw [if_pos (hz.2 hab)]
      simp -implicitDefEqProofs (disch := omega) [wrap_of, ilt_t, ilt_f, ile_t, ile_f, nlt_t, nlt_f, nle_t, nle_f, ieq_t, ieq_f, imin_l, imin_r, imax_l, imax_r, take_app1, take_map_all, hab]
    · rw [if_neg (fun h => hab (hz.1 h))]
      simp -implicitDefEqProofs (disch := omega) [wrap_of, ilt_t, ilt_f, ile_t, ile_f, nlt_t, nlt_f, nle_t, nle_f, ieq_t, ieq_f, imin_l, imin_r, imax_l, imax_r, take_app1, take_map_all, hab]
  · have hab : a.map coreN ≠ b.map coreN := fun h => hl (by have := congrArg List.length h; simpa using this)
    simp -implicitDefEqProofs (disch := omega) [wrap_of, ilt_t, ilt_f, ile_t, ile_f, nlt_t, nlt_f, nle_t, nle_f, ieq_t, ieq_f, imin_l, imin_r, imax_l, imax_r, take_app1, take_map_all, c50, hl, hab]
def sameT (a b : Tr.Tree) : Bool := decide (a.next = b.next) && (decide (a.cookie = b.cookie) && decide (a.nodes.map coreN = b.nodes.map coreN))
theorem s19 {n : Nat} (hn : 82 < n) (a b : Tr.Tree) (ha : Bt a) (hb : Bt b) : (C08.tab n).p 19 [Tv a, Tv b] = some (.bool (sameT a b)) := by
  rw [p19 hn, runP_eq, runH_eq]
  have hS := s50 (n := 82) (by decide) a.nodes b.nodes ha.len hb.len ha.ents hb.ents a.fn b.fn
  unfold sameT
  by_cases c1 : a.next = b.next
  · by_cases c2 : a.cookie = b.cookie
    · simp -implicitDefEqProofs (disch := omega) [wrap_of, ilt_t, ilt_f, ile_t, ile_f, nlt_t, nlt_f, nle_t, nle_f, ieq_t, ieq_f, imin_l, imin_r, imax_l, imax_r, take_app1, take_map_all, c19, c1, c2, a50, hS]
    · simp -implicitDefEqProofs (disch := omega) [wrap_of, ilt_t, ilt_f, ile_t, ile_f, nlt_t, nlt_f, nle_t, nle_f, ieq_t, ieq_f, imin_l, imin_r, imax_l, imax_r, take_app1, take_map_all, c19, c1, c2]
  · simp -implicitDefEqProofs (disch := omega) [wrap_of, ilt_t, ilt_f, ile_t, ile_f, nlt_t, nlt_f, nle_t, nle_f, ieq_t, ieq_f, imin_l, imin_r, imax_l, imax_r, take_app1, take_map_all, c19, c1]
end Go.Proofs.Ytdnoopjpkcmpjaa

namespace Go.Proofs.Ytdnoopjpkcmpjaa
open Go.Am Go.Tr

theorem bt_of {k : Nat} {t : Tr.Tree} (h : Bg k t) (hk : k ≤ 700) : Bt t :=
  ⟨by have := h.len; omega, fun n hn => by have := h.ents n hn; omega, h.ck0, by have := h.ck; omega, h.nx0, by have := h.nx; omega⟩
abbrev WFt (t : Tr.Tree) : Prop := WF okN sLess t
theorem nameOf_len (n : Nat) : (nameOf n).length ≤ 9223372036854775807 := by
  have h : n % 6 < 6 := Nat.mod_lt _ (by omega)
  unfold nameOf names
  rcases (by omega : n % 6 = 0 ∨ n % 6 = 1 ∨ n % 6 = 2 ∨ n % 6 = 3 ∨ n % 6 = 4 ∨ n % 6 = 5) with h | h | h | h | h | h <;> rw [h] <;> simp
theorem s81 {n : Nat} (hn : 59 < n) (k : Nat) (hk : k < 256) : (C08.tab n).p 81 [.int .u8 (k : Int)] = some (.str (nameOf k)) := by
  rw [p81 hn, runP_eq, runH_eq]
  unfold nameOf names
  rcases (by omega : k % 6 = 0 ∨ k % 6 = 1 ∨ k % 6 = 2 ∨ k % 6 = 3 ∨ k % 6 = 4 ∨ k % 6 = 5) with h | h | h | h | h | h
  all_goals
    rw [h]
  · have h' : (k : Int).tmod 6 = 0 := show ((k % 6 : Nat) : Int) = 0 by omega
    simp -implicitDefEqProofs (disch := omega) [wrap_of, ilt_t, ilt_f, ile_t, ile_f, nlt_t, nlt_f, nle_t, nle_f, ieq_t, ieq_f, imin_l, imin_r, imax_l, imax_r, take_app1, take_map_all, c81, h']
  · have h' : (k : Int).tmod 6 = 1 := show ((k % 6 : Nat) : Int) = 1 by omega
    simp -implicitDefEqProofs (disch := omega) [wrap_of, ilt_t, ilt_f, ile_t, ile_f, nlt_t, nlt_f, nle_t, nle_f, ieq_t, ieq_f, imin_l, imin_r, imax_l, imax_r, take_app1, take_map_all, c81, h']
  · have h' : (k : Int).tmod 6 = 2 := show ((k % 6 : Nat) : Int) = 2 by omega
    simp -implicitDefEqProofs (disch := omega) [wrap_of, ilt_t, ilt_f, ile_t, ile_f, nlt_t, nlt_f, nle_t, nle_f, ieq_t, ieq_f, imin_l, imin_r, imax_l, imax_r, take_app1, take_map_all, c81, h']
  · have h' : (k : Int).tmod 6 = 3 := show ((k % 6 : Nat) : Int) = 3 by omega
    simp -implicitDefEqProofs (disch := omega) [wrap_of, ilt_t, ilt_f, ile_t, ile_f, nlt_t, nlt_f, nle_t, nle_f, ieq_t, ieq_f, imin_l, imin_r, imax_l, imax_r, take_app1, take_map_all, c81, h']
  · have h' : (k : Int).tmod 6 = 4 := show ((k % 6 : Nat) : Int) = 4 by omega
    simp -implicitDefEqProofs (disch := omega) [wrap_of, ilt_t, ilt_f, ile_t, ile_f, nlt_t, nlt_f, nle_t, nle_f, ieq_t, ieq_f, imin_l, imin_r, imax_l, imax_r, take_app1, take_map_all, c81, h']
  · have h' : (k : Int).tmod 6 = 5 := show ((k % 6 : Nat) : Int) = 5 by omega
    simp -implicitDefEqProofs (disch := omega) [wrap_of, ilt_t, ilt_f, ile_t, ile_f, nlt_t, nlt_f, nle_t, nle_f, ieq_t, ieq_f, imin_l, imin_r, imax_l, imax_r, take_app1, take_map_all, c81, h']
theorem s12 {n : Nat} (hn : 58 < n) (t : Tr.Tree) (hb : Bt t) (k : Nat) (hk : k < 256) : (C08.tab n).p 12 [Tv t, .int .u8 (k : Int)] = some (I (nodeAt t k)) := by
  rw [p12 hn, runP_eq, runH_eq]
  have hl := hb.len
  unfold nodeAt
  obtain ⟨j, hj⟩ : ∃ j, j = k % (t.nodes.length + 1) := ⟨_, rfl⟩
  have hjl : j < t.nodes.length + 1 := by rw [hj]; exact Nat.mod_lt _ (by omega)
  have hj' : (k : Int).tmod ((t.nodes.length : Int) + 1) = (j : Int) := by rw [hj]; rfl
  rw [← hj]
  by_cases c : j < t.nodes.length
  · rw [List.getElem?_eq_getElem c]
    obtain ⟨q, hq⟩ : ∃ q, q = t.nodes[j] := ⟨_, rfl⟩
    rw [← hq]
    simp -implicitDefEqProofs (disch := omega) [wrap_of, ilt_t, ilt_f, ile_t, ile_f, nlt_t, nlt_f, nle_t, nle_f, ieq_t, ieq_f, imin_l, imin_r, imax_l, imax_r, take_app1, take_map_all, c12, hj', c, ← hq]
  · rw [List.getElem?_eq_none (by omega)]
    simp -implicitDefEqProofs (disch := omega) [wrap_of, ilt_t, ilt_f, ile_t, ile_f, nlt_t, nlt_f, nle_t, nle_f, ieq_t, ieq_f, imin_l, imin_r, imax_l, imax_r, take_app1, take_map_all, c12, hj', c]
/-- A step as it is read. -/
structure Sd where
  k : UInt8
  a : UInt8
  b : UInt8
  n : UInt8
  m : UInt8
  f : Bool
  data : List UInt8
def Sd.st (s : Sd) : Step := ⟨s.k.toNat, s.a.toNat, s.b.toNat, s.n.toNat, s.m.toNat, s.data⟩
@[simp] def Sv (s : Sd) : AV := .agg [.int .u8 s.k.toNat, .int .u8 s.a.toNat, .int .u8 s.b.toNat, .int .u8 s.n.toNat, .int .u8 s.m.toNat, .lst s.f (s.data.map B)]
@[simp] theorem szSv (l : List Sd) : szOk 6 (l.map Sv) = true := by simp [szOk]
theorem mv_prem {t : Tr.Tree} (w : WFt t) (fr : Int) (s : List UInt8) (to : Int) (nm : List UInt8) : Bm t fr s to nm (Tr.look okN t fr s).1 (Tr.onto t to nm) ∧ (if Tr.onto t to nm ≠ 0 then unnamed (left (left t fr s) to nm) (Tr.onto t to nm) else left t fr s).cookie < 4398046511104 := by
  have h0 := w.bg
  have h1 := h0.left fr s
  have h2 := h1.left to nm
  have h3 := h2.unnamed (Tr.onto t to nm)
  have h4 : Bg 3 (if Tr.onto t to nm ≠ 0 then unnamed (left (left t fr s) to nm) (Tr.onto t to nm) else left t fr s) := by
    split
    · exact h3
    · exact h1.mono (by omega)
  refine ⟨⟨fun e he => ?_, bt_of h1 (by omega), fun _ => bt_of h2 (by omega), fun _ q hq => ?_, bt_of h4 (by omega), ?_⟩, by have := h4.ck; omega⟩
  · unfold dirN at he
    cases hf : find t.nodes to with
    | none => rw [hf] at he; cases he
    | some p =>
      rw [hf] at he
      simp only at he
      split at he
      · rename_i hd
        have := (w.wf.dir _ _ hf hd).2.to e he
        obtain ⟨q, hq⟩ := Option.isSome_iff_exists.1 this
        have := (w.wf.pos _ _ hq).1
        omega
      · cases he
  · have := h2.lk q (find_mem hq).1
    omega
  · split
    · refine bt_of (h4.withN ?_ ?_) (by omega)
      · have := (h0.getZ (Tr.look okN t fr s).1).1
        show (getZ t (Tr.look okN t fr s).1).ents.length ≤ _
        omega
      · have := (h0.getZ (Tr.look okN t fr s).1).2
        show _ ≤ (getZ t (Tr.look okN t fr s).1).links ∧ (getZ t (Tr.look okN t fr s).1).links ≤ _
        omega
    · exact bt_of h4 (by omega)
theorem un_prem {t : Tr.Tree} (w : WFt t) (i : Int) (s : List UInt8) : ((Tr.look okN t i s).2 = 0 → Bt (left t i s)) ∧ ∀ q, find (left t i s).nodes (Tr.look okN t i s).1 = some q → -4398046511104 ≤ q.links ∧ q.links ≤ 4398046511104 := by
  have h1 := w.bg.left i s
  refine ⟨fun _ => bt_of h1 (by omega), fun q hq => ?_⟩
  have := h1.lk q (find_mem hq).1
  omega
theorem u8lt (b : UInt8) : b.toNat < 256 := b.toNat_lt
theorem s80 {n : Nat} (hn : 66 < n) (t : Tr.Tree) (w : WFt t) (s : Sd) (hd : s.data.length ≤ 9223372036854775807) : ∃ x e : Int, (C08.tab n).p 80 [Tv t, Sv s] = some (.tup [Tv (Tr.step okN sLess t s.st), I x, I e]) := by
  have hb := bt_of w.bg (by omega)
  have hck := w.bg.ck
  rw [p80 hn, runP_eq, runH_eq]
  obtain ⟨k, a, b, c, m, f, d⟩ := s
  have hNa := s12 (n := 66) (by decide) t hb a.toNat (u8lt a)
  have hNb := s12 (n := 66) (by decide) t hb b.toNat (u8lt b)
  have hMc := s81 (n := 66) (by decide) c.toNat (u8lt c)
  have hMm := s81 (n := 66) (by decide) m.toNat (u8lt m)
  have hm2 : (m.toNat : Int).tmod 2 = ((m.toNat % 2 : Nat) : Int) := rfl
  have hkk : (k.toNat : Int).tmod 8 = ((k.toNat % 8 : Nat) : Int) := rfl
  have hk8 : k.toNat % 8 < 8 := Nat.mod_lt _ (by omega)
  have hm8 : m.toNat % 2 < 2 := Nat.mod_lt _ (by omega)
  have hkl := u8lt k
  have hml := u8lt m
  have hA := s34 (n := 66) (by decide) t hb (nodeAt t a.toNat) (nameOf c.toNat) (nameOf_len _) (m.toNat % 2 + 1 : Nat) (by omega) (fun _ _ => bt_of (w.bg.moreT _ _) (by omega))
  have hL := s96 (n := 66) (by decide) t hb (nodeAt t b.toNat) (nodeAt t a.toNat) (nameOf c.toNat) (nameOf_len _) (by omega)
    (fun q hq => bt_of (w.bg.withN (by show q.ents.length ≤ _; have := w.bg.ents q (find_mem hq).1; omega) (by show _ ≤ q.links + 1 ∧ q.links + 1 ≤ _; have := w.bg.lk q (find_mem hq).1; omega)) (by omega))
    (fun q hq => by have := w.bg.lk q (find_mem hq).1; omega)
  have hU := s36 (n := 66) (by decide) t hb (nodeAt t a.toNat) (nameOf c.toNat) (nameOf_len _) (un_prem w _ _).1 (un_prem w _ _).2
  have hM := s97 (n := 66) (by decide) t hb (nodeAt t a.toNat) (nodeAt t b.toNat) (nameOf c.toNat) (nameOf m.toNat) (nameOf_len _) (nameOf_len _) (by omega) (mv_prem w _ _ _ _).1 (mv_prem w _ _ _ _).2
  have hP := s98 (n := 66) (by decide) t hb (nodeAt t a.toNat) f d hd
  have hF := s65 (n := 66) (by decide) t hb (nodeAt t a.toNat)
  unfold Tr.step Sd.st
  simp only
  have hc1 : ∀ x : Nat, ((x + 1 : Nat) : Int) = (x : Int) + 1 := fun _ => rfl
  simp only [hc1] at hA ⊢
  generalize nodeAt t a.toNat = na at *
  generalize nodeAt t b.toNat = nb at *
  generalize nameOf c.toNat = nc at *
  generalize nameOf m.toNat = nm at *
  generalize hkj : k.toNat % 8 = j at *
  generalize hmj : m.toNat % 2 = mj at *
  simp only [Tv] at hNa hNb hA hL hU hM hP hF
  rcases (by omega : j = 0 ∨ j = 1 ∨ j = 2 ∨ j = 3 ∨ j = 4 ∨ j = 5 ∨ j = 6 ∨ j = 7) with h | h | h | h | h | h | h | h
  · subst h
    refine ⟨(Tr.add okN sLess t na nc ((mj : Int) + 1)).2.1, (Tr.add okN sLess t na nc ((mj : Int) + 1)).2.2, ?_⟩
    simp -implicitDefEqProofs (disch := omega) [wrap_of, ilt_t, ilt_f, ile_t, ile_f, nlt_t, nlt_f, nle_t, nle_f, ieq_t, ieq_f, imin_l, imin_r, imax_l, imax_r, take_app1, take_map_all, c80, a12, hNa, hNb, a81, hMc, hMm, hkk, hm2, a34, hA]
  · subst h
    refine ⟨(Tr.add okN sLess t na nc ((mj : Int) + 1)).2.1, (Tr.add okN sLess t na nc ((mj : Int) + 1)).2.2, ?_⟩
    simp -implicitDefEqProofs (disch := omega) [wrap_of, ilt_t, ilt_f, ile_t, ile_f, nlt_t, nlt_f, nle_t, nle_f, ieq_t, ieq_f, imin_l, imin_r, imax_l, imax_r, take_app1, take_map_all, c80, a12, hNa, hNb, a81, hMc, hMm, hkk, hm2, a34, hA]
  · subst h
    refine ⟨0, (Tr.ln okN sLess t nb na nc).2, ?_⟩
    simp -implicitDefEqProofs (disch := omega) [wrap_of, ilt_t, ilt_f, ile_t, ile_f, nlt_t, nlt_f, nle_t, nle_f, ieq_t, ieq_f, imin_l, imin_r, imax_l, imax_r, take_app1, take_map_all, c80, a12, hNa, hNb, a81, hMc, hMm, hkk, hm2, a96, hL]
  · subst h
    refine ⟨(Tr.un okN t na nc).2.1, (Tr.un okN t na nc).2.2, ?_⟩
    simp -implicitDefEqProofs (disch := omega) [wrap_of, ilt_t, ilt_f, ile_t, ile_f, nlt_t, nlt_f, nle_t, nle_f, ieq_t, ieq_f, imin_l, imin_r, imax_l, imax_r, take_app1, take_map_all, c80, a12, hNa, hNb, a81, hMc, hMm, hkk, hm2, a36, hU]
  · subst h
    refine ⟨(Tr.mv okN sLess t na nc nb nm).2.1, (Tr.mv okN sLess t na nc nb nm).2.2, ?_⟩
    simp -implicitDefEqProofs (disch := omega) [wrap_of, ilt_t, ilt_f, ile_t, ile_f, nlt_t, nlt_f, nle_t, nle_f, ieq_t, ieq_f, imin_l, imin_r, imax_l, imax_r, take_app1, take_map_all, c80, a12, hNa, hNb, a81, hMc, hMm, hkk, hm2, a97, hM]
  · subst h
    refine ⟨(Tr.mv okN sLess t na nc nb nm).2.1, (Tr.mv okN sLess t na nc nb nm).2.2, ?_⟩
    simp -implicitDefEqProofs (disch := omega) [wrap_of, ilt_t, ilt_f, ile_t, ile_f, nlt_t, nlt_f, nle_t, nle_f, ieq_t, ieq_f, imin_l, imin_r, imax_l, imax_r, take_app1, take_map_all, c80, a12, hNa, hNb, a81, hMc, hMm, hkk, hm2, a97, hM]
  · subst h
    refine ⟨0, (put t na d).2, ?_⟩
    simp -implicitDefEqProofs (disch := omega) [wrap_of, ilt_t, ilt_f, ile_t, ile_f, nlt_t, nlt_f, nle_t, nle_f, ieq_t, ieq_f, imin_l, imin_r, imax_l, imax_r, take_app1, take_map_all, c80, a12, hNa, hNb, a81, hMc, hMm, hkk, hm2, a98, hP]
  · subst h
    refine ⟨0, (free t na).2, ?_⟩
    simp -implicitDefEqProofs (disch := omega) [wrap_of, ilt_t, ilt_f, ile_t, ile_f, nlt_t, nlt_f, nle_t, nle_f, ieq_t, ieq_f, imin_l, imin_r, imax_l, imax_r, take_app1, take_map_all, c80, a12, hNa, hNb, a81, hMc, hMm, hkk, hm2, a65, hF]
theorem l51 {n : Nat} (hn : 66 < n) (l : List Sd) (hl : l.length ≤ 1000000) (hd : ∀ s ∈ l, s.data.length ≤ 9223372036854775807) (f : Bool) (e0 : Env) (h0 : e0 0 = .lst f (l.map Sv)) (h3 : e0 3 = .ptr 1 0 0 0) (t : Tr.Tree) (w : WFt t) :
    iter (round (C08.tab n) [4] [(.exit 0, [])] c51_1 e0 2 []) ([.int .i64 0], [.var [.lst true [], .int .i64 0, .int .i64 0], .var [.lst t.fn (t.nodes.map Nd), .int .i64 t.next, .int .i64 t.cookie]]) =
      some (.exit 0, [], [.var [.lst true [], .int .i64 0, .int .i64 0], .var [.lst ((l.map Sd.st).foldl (Tr.step okN sLess) t).fn (((l.map Sd.st).foldl (Tr.step okN sLess) t).nodes.map Nd), .int .i64 ((l.map Sd.st).foldl (Tr.step okN sLess) t).next, .int .i64 ((l.map Sd.st).foldl (Tr.step okN sLess) t).cookie]]) := by
  have := for_list (f := round (C08.tab n) [4] [(.exit 0, [])] c51_1 e0 2 []) (fun i (t : Tr.Tree) => ([.int .i64 (i : Int)], [.var [.lst true [], .int .i64 0, .int .i64 0], .var [.lst t.fn (t.nodes.map Nd), .int .i64 t.next, .int .i64 t.cookie]])) l (fun t s => Tr.step okN sLess t s.st)
    (fun t => (.exit 0, [], [.var [.lst true [], .int .i64 0, .int .i64 0], .var [.lst t.fn (t.nodes.map Nd), .int .i64 t.next, .int .i64 t.cookie]])) (fun _ t => WFt t)
    (fun i hi t w => by
      refine ⟨w.step ord_sLess _, ?_⟩
      obtain ⟨s, hs⟩ : ∃ s, s = l[i] := ⟨_, rfl⟩
      obtain ⟨x, e, h⟩ := s80 (n := n) hn t w s (by rw [hs]; exact hd _ (List.getElem_mem hi))
      rw [← hs]
      generalize Tr.step okN sLess t s.st = u at *
      simp only [Tv, Sv] at h
      simp -implicitDefEqProofs (disch := omega) [wrap_of, ilt_t, ilt_f, ile_t, ile_f, nlt_t, nlt_f, nle_t, nle_f, ieq_t, ieq_f, imin_l, imin_r, imax_l, imax_r, take_app1, take_map_all, round_eq, b51_1, h0, h3, hi, ← hs, h])
    (fun t w => by simp -implicitDefEqProofs (disch := omega) [wrap_of, ilt_t, ilt_f, ile_t, ile_f, nlt_t, nlt_f, nle_t, nle_f, ieq_t, ieq_f, imin_l, imin_r, imax_l, imax_r, take_app1, take_map_all, round_eq, b51_1, h0, h3]) t w
  rw [List.foldl_map]
  simpa using this
theorem s51 {n : Nat} (hn : 67 < n) (l : List Sd) (hl : l.length ≤ 1000000) (hd : ∀ s ∈ l, s.data.length ≤ 9223372036854775807) (f : Bool) : (C08.tab n).p 51 [.lst f (l.map Sv)] = some (Tv (Tr.made okN sLess (l.map Sd.st))) := by
  rw [p51 hn, runP_eq, runH_eq]
  have hN := s35 (n := 67) (by decide)
  have h := fun e0 h0 h3 => l51 (n := 67) (by decide) l hl hd f e0 h0 h3 newT WF.new
  unfold Tr.made
  generalize (l.map Sd.st).foldl (Tr.step okN sLess) newT = u at *
  generalize newT = t at *
  simp only [Tv] at hN
  simp -implicitDefEqProofs (disch := omega) [wrap_of, ilt_t, ilt_f, ile_t, ile_f, nlt_t, nlt_f, nle_t, nle_f, ieq_t, ieq_f, imin_l, imin_r, imax_l, imax_r, take_app1, take_map_all, c51, a35, hN]
  rw [h _ (by simp -implicitDefEqProofs (disch := omega) [wrap_of, ilt_t, ilt_f, ile_t, ile_f, nlt_t, nlt_f, nle_t, nle_f, ieq_t, ieq_f, imin_l, imin_r, imax_l, imax_r, take_app1, take_map_all, ]) (by simp -implicitDefEqProofs (disch := omega) [wrap_of, ilt_t, ilt_f, ile_t, ile_f, nlt_t, nlt_f, nle_t, nle_f, ieq_t, ieq_f, imin_l, imin_r, imax_l, imax_r, take_app1, take_map_all, ])]
  simp -implicitDefEqProofs (disch := omega) [wrap_of, ilt_t, ilt_f, ile_t, ile_f, nlt_t, nlt_f, nle_t, nle_f, ieq_t, ieq_f, imin_l, imin_r, imax_l, imax_r, take_app1, take_map_all, ]
def greatT (l : List Sd) : Bool := decide (60 < l.length) || l.any fun s => decide (5000 < s.data.length)
theorem l37 {Γ : Tab} (l : List Sd) (hl : l.length ≤ 60) (hd : ∀ s ∈ l, s.data.length ≤ 9223372036854775807) (f : Bool) (e0 : Env) (h0 : e0 0 = .lst f (l.map Sv)) :
    iter (round Γ [3] [(.exit 0, []), (.ret, [2])] c37_1 e0 0 []) ([.int .i64 0], []) = some (if (l.all fun s => !decide (5000 < s.data.length)) = true then (.exit 0, [], []) else (.ret, [.bool true], [])) :=
  for_all (f := round Γ [3] [(.exit 0, []), (.ret, [2])] c37_1 e0 0 []) (fun i => ([.int .i64 (i : Int)], [])) l _ _ _ (fun i hi => by
      obtain ⟨s, hs⟩ : ∃ s, s = l[i] := ⟨_, rfl⟩
      have hsl : s.data.length ≤ 9223372036854775807 := by rw [hs]; exact hd _ (List.getElem_mem hi)
      rw [← hs]
      by_cases c1 : 5000 < s.data.length
      · simp -implicitDefEqProofs (disch := omega) [wrap_of, ilt_t, ilt_f, ile_t, ile_f, nlt_t, nlt_f, nle_t, nle_f, ieq_t, ieq_f, imin_l, imin_r, imax_l, imax_r, take_app1, take_map_all, round_eq, b37_1, h0, hi, ← hs, c1]
      · simp -implicitDefEqProofs (disch := omega) [wrap_of, ilt_t, ilt_f, ile_t, ile_f, nlt_t, nlt_f, nle_t, nle_f, ieq_t, ieq_f, imin_l, imin_r, imax_l, imax_r, take_app1, take_map_all, round_eq, b37_1, h0, hi, ← hs, c1])
    (by simp -implicitDefEqProofs (disch := omega) [wrap_of, ilt_t, ilt_f, ile_t, ile_f, nlt_t, nlt_f, nle_t, nle_f, ieq_t, ieq_f, imin_l, imin_r, imax_l, imax_r, take_app1, take_map_all, round_eq, b37_1, h0])
theorem s37 {n : Nat} (hn : 52 < n) (l : List Sd) (hl : l.length ≤ 9223372036854775807) (hd : ∀ s ∈ l, s.data.length ≤ 9223372036854775807) (f : Bool) : (C08.tab n).p 37 [.lst f (l.map Sv)] = some (.bool (greatT l)) := by
  rw [p37 hn, runP_eq, runH_eq]
  unfold greatT
  by_cases c1 : 60 < l.length
  · simp -implicitDefEqProofs (disch := omega) [wrap_of, ilt_t, ilt_f, ile_t, ile_f, nlt_t, nlt_f, nle_t, nle_f, ieq_t, ieq_f, imin_l, imin_r, imax_l, imax_r, take_app1, take_map_all, c37, c1]
  · have h := l37 (Γ := C08.tab 52) l (by omega) hd f
    have ha : (l.all fun s => !decide (5000 < s.data.length)) = !(l.any fun s => decide (5000 < s.data.length)) := by rw [List.all_eq_not_any_not]; simp
    rw [ha] at h
    generalize (l.any fun s => decide (5000 < s.data.length)) = q at *
    simp -implicitDefEqProofs (disch := omega) [wrap_of, ilt_t, ilt_f, ile_t, ile_f, nlt_t, nlt_f, nle_t, nle_f, ieq_t, ieq_f, imin_l, imin_r, imax_l, imax_r, take_app1, take_map_all, c37, c1]
    rw [h _ (by simp -implicitDefEqProofs (disch := omega) [wrap_of, ilt_t, ilt_f, ile_t, ile_f, nlt_t, nlt_f, nle_t, nle_f, ieq_t, ieq_f, imin_l, imin_r, imax_l, imax_r, take_app1, take_map_all, ])]
    cases q with
    | true => simp -implicitDefEqProofs (disch := omega) [wrap_of, ilt_t, ilt_f, ile_t, ile_f, nlt_t, nlt_f, nle_t, nle_f, ieq_t, ieq_f, imin_l, imin_r, imax_l, imax_r, take_app1, take_map_all, ]
    | false => simp -implicitDefEqProofs (disch := omega) [wrap_of, ilt_t, ilt_f, ile_t, ile_f, nlt_t, nlt_f, nle_t, nle_f, ieq_t, ieq_f, imin_l, imin_r, imax_l, imax_r, take_app1, take_map_all, ]
end Go.Proofs.Ytdnoopjpkcmpjaa

namespace Go.Proofs.Ytdnoopjpkcmpjaa
open Go.Am Go.Tr

theorem s92 {n : Nat} (hn : 3 < n) (x : Int) : (C08.tab n).p 92 [I x] = some (.bool false) := by
  rw [p92 hn, runP_eq, runH_eq]
  simp -implicitDefEqProofs (disch := omega) [wrap_of, ilt_t, ilt_f, ile_t, ile_f, nlt_t, nlt_f, nle_t, nle_f, ieq_t, ieq_f, imin_l, imin_r, imax_l, imax_r, take_app1, take_map_all, c92]
def cmpI (x y : Int) : Int := if x < y then -1 else if y < x then 1 else 0
theorem s74 {n : Nat} (hn : 4 < n) (x y : Int) : (C08.tab n).p 74 [I x, I y] = some (I (cmpI x y)) := by
  rw [p74 hn, runP_eq, runH_eq]
  have h1 := s92 (n := 4) (by decide) x
  have h2 := s92 (n := 4) (by decide) y
  unfold cmpI
  by_cases c1 : x < y
  · simp -implicitDefEqProofs (disch := omega) [wrap_of, ilt_t, ilt_f, ile_t, ile_f, nlt_t, nlt_f, nle_t, nle_f, ieq_t, ieq_f, imin_l, imin_r, imax_l, imax_r, take_app1, take_map_all, c74, a92, h1, h2, c1]
  · by_cases c2 : y < x
    · simp -implicitDefEqProofs (disch := omega) [wrap_of, ilt_t, ilt_f, ile_t, ile_f, nlt_t, nlt_f, nle_t, nle_f, ieq_t, ieq_f, imin_l, imin_r, imax_l, imax_r, take_app1, take_map_all, c74, a92, h1, h2, c1, c2]
    · simp -implicitDefEqProofs (disch := omega) [wrap_of, ilt_t, ilt_f, ile_t, ile_f, nlt_t, nlt_f, nle_t, nle_f, ieq_t, ieq_f, imin_l, imin_r, imax_l, imax_r, take_app1, take_map_all, c74, a92, h1, h2, c1, c2]
theorem s100 {n : Nat} (hn : 8 < n) (q : Tr.Node) (i : Int) : (C08.tab n).p 100 [Nd q, I i] = some (I (cmpI q.ino i)) := by
  rw [p100 hn, runP_eq, runH_eq]
  have h := s74 (n := 8) (by decide) q.ino i
  simp -implicitDefEqProofs (disch := omega) [wrap_of, ilt_t, ilt_f, ile_t, ile_f, nlt_t, nlt_f, nle_t, nle_f, ieq_t, ieq_f, imin_l, imin_r, imax_l, imax_r, take_app1, take_map_all, c100, a74, h]
theorem cmpI_lt (x y : Int) : cmpI x y < 0 ↔ x < y := by
  unfold cmpI
  split
  · simp_all
  · split <;> simp_all
theorem cmpI_eq (x y : Int) : cmpI x y = 0 ↔ x = y := by
  unfold cmpI
  split
  · constructor <;> intro h <;> omega
  · split
    · constructor <;> intro h <;> omega
    · constructor <;> intro h <;> omega
theorem l99 {n : Nat} (hn : 8 < n) (t : Tr.Tree) (hs : Srt t.nodes) (hl : t.nodes.length ≤ 1000) (i : Int) (e0 : Env) (h0 : e0 0 = .lst t.fn (t.nodes.map Nd)) (h1 : e0 1 = I i) (h2 : e0 2 = .fn (.func 100) [] []) (X : AH) (hX : X.all plainB = true) :
    iter (round (C08.tab n) [9, 10] [(.exit 0, [9])] c99_1 e0 X.length []) ([.int .i64 0, .int .i64 t.nodes.length], X) = some (.exit 0, [.int .i64 (cutN t.nodes i : Nat)], X) :=
  for_half (f := round (C08.tab n) [9, 10] [(.exit 0, [9])] c99_1 e0 X.length []) (fun i j => ([.int .i64 (i : Int), .int .i64 (j : Int)], X)) t.nodes.length (cutN t.nodes i) (cutP_le _ _) (fun c => (.exit 0, [.int .i64 (c : Int)], X))
    (fun a j haj hj => by
      have hh := half2 (i := a) (j := j)
      obtain ⟨m, hmm⟩ : ∃ m, m = (a + j) / 2 := ⟨_, rfl⟩
      rw [← hmm] at hh ⊢
      have hm : m < t.nodes.length := by omega
      have hlt := cutN_iff hs i hm
      obtain ⟨x, hx⟩ : ∃ x, x = t.nodes[m] := ⟨_, rfl⟩
      rw [← hx] at hlt
      have hc := s100 (n := n) hn x i
      have hci := cmpI_lt x.ino i
      simp only [Nd] at hc
      generalize cmpI x.ino i = ci at *
      by_cases h : m < cutN t.nodes i
      · have hc' : ci < 0 := hci.2 (hlt.1 h)
        simp -implicitDefEqProofs (disch := omega) [wrap_of, ilt_t, ilt_f, ile_t, ile_f, nlt_t, nlt_f, nle_t, nle_f, ieq_t, ieq_f, imin_l, imin_r, imax_l, imax_r, take_app1, take_map_all, round_eq, b99_1, h0, h1, h2, wrap_u64, hh, hm, ← hx, a100, hc, h, hc', normH_plain _ _ X _ hX]
      · have hc' : ¬ ci < 0 := fun h' => h (hlt.2 (hci.1 h'))
        simp -implicitDefEqProofs (disch := omega) [wrap_of, ilt_t, ilt_f, ile_t, ile_f, nlt_t, nlt_f, nle_t, nle_f, ieq_t, ieq_f, imin_l, imin_r, imax_l, imax_r, take_app1, take_map_all, round_eq, b99_1, h0, h1, h2, wrap_u64, hh, hm, ← hx, a100, hc, h, hc', normH_plain _ _ X _ hX])
    (fun a ha => by simp -implicitDefEqProofs (disch := omega) [wrap_of, ilt_t, ilt_f, ile_t, ile_f, nlt_t, nlt_f, nle_t, nle_f, ieq_t, ieq_f, imin_l, imin_r, imax_l, imax_r, take_app1, take_map_all, round_eq, b99_1, h0, normH_plain _ _ X _ hX]) _ 0 t.nodes.length rfl (Nat.zero_le _) (cutP_le _ _) (Nat.le_refl _)
theorem s99 {n : Nat} (hn : 13 < n) (t : Tr.Tree) (hs : Srt t.nodes) (hl : t.nodes.length ≤ 1000) (i : Int) (X : AH) (hX : X.all plainB = true) :
    callA (C08.tab n) 99 [.lst t.fn (t.nodes.map Nd), I i, .fn (.func 100) [] []] X = some (.tup [I (cutN t.nodes i : Nat), .bool (find t.nodes i).isSome], X) := by
  rw [p99 hn, runH_eq]
  have h1 := fun e0 h0 h1 h2 => l99 (n := 13) (by decide) t hs hl i e0 h0 h1 h2 X hX
  have hf := cutN_find hs i
  simp -implicitDefEqProofs (disch := omega) [wrap_of, ilt_t, ilt_f, ile_t, ile_f, nlt_t, nlt_f, nle_t, nle_f, ieq_t, ieq_f, imin_l, imin_r, imax_l, imax_r, take_app1, take_map_all, c99, normH_plain _ _ X _ hX]
  rw [h1 _ (by simp -implicitDefEqProofs (disch := omega) [wrap_of, ilt_t, ilt_f, ile_t, ile_f, nlt_t, nlt_f, nle_t, nle_f, ieq_t, ieq_f, imin_l, imin_r, imax_l, imax_r, take_app1, take_map_all, ]) (by simp -implicitDefEqProofs (disch := omega) [wrap_of, ilt_t, ilt_f, ile_t, ile_f, nlt_t, nlt_f, nle_t, nle_f, ieq_t, ieq_f, imin_l, imin_r, imax_l, imax_r, take_app1, take_map_all, ]) (by simp -implicitDefEqProofs (disch := omega) [wrap_of, ilt_t, ilt_f, ile_t, ile_f, nlt_t, nlt_f, nle_t, nle_f, ieq_t, ieq_f, imin_l, imin_r, imax_l, imax_r, take_app1, take_map_all, ])]
  generalize cutN t.nodes i = c at *
  rcases hf with ⟨hc, hi, hf⟩ | ⟨hf, hi⟩
  · rw [hf]
    obtain ⟨x, hx⟩ : ∃ x, x = t.nodes[c] := ⟨_, rfl⟩
    have hg := s100 (n := 13) (by decide) x i
    have hci := (cmpI_eq x.ino i).2 (by rw [hx]; exact hi)
    rw [hci] at hg
    simp only [Nd] at hg
    simp -implicitDefEqProofs (disch := omega) [wrap_of, ilt_t, ilt_f, ile_t, ile_f, nlt_t, nlt_f, nle_t, nle_f, ieq_t, ieq_f, imin_l, imin_r, imax_l, imax_r, take_app1, take_map_all, hc, ← hx, a100, hg]
  · rw [hf]
    by_cases hc : c < t.nodes.length
    · obtain ⟨x, hx⟩ : ∃ x, x = t.nodes[c] := ⟨_, rfl⟩
      have hg := s100 (n := 13) (by decide) x i
      have hci : ¬ cmpI x.ino i = 0 := fun h => hi hc (by rw [← hx]; exact (cmpI_eq x.ino i).1 h)
      generalize cmpI x.ino i = ci at *
      simp only [Nd] at hg
      simp -implicitDefEqProofs (disch := omega) [wrap_of, ilt_t, ilt_f, ile_t, ile_f, nlt_t, nlt_f, nle_t, nle_f, ieq_t, ieq_f, imin_l, imin_r, imax_l, imax_r, take_app1, take_map_all, hc, ← hx, a100, hg, hci]
    · simp -implicitDefEqProofs (disch := omega) [wrap_of, ilt_t, ilt_f, ile_t, ile_f, nlt_t, nlt_f, nle_t, nle_f, ieq_t, ieq_f, imin_l, imin_r, imax_l, imax_r, take_app1, take_map_all, hc]
theorem s91 {n : Nat} (hn : 14 < n) (t : Tr.Tree) (hs : Srt t.nodes) (hl : t.nodes.length ≤ 1000) (i : Int) (X : AH) (hX : X.all plainB = true) (k : Nat) (hk : X[k]? = some (.var [.lst t.fn (t.nodes.map Nd), .int .i64 t.next, .int .i64 t.cookie])) :
    callA (C08.tab n) 91 [.ptr k 0 0 0, I i] X = some (.tup [I (cutN t.nodes i : Nat), .bool (find t.nodes i).isSome], X) := by
  rw [p91 hn, runH_eq]
  have hb := s99 (n := 14) (by decide) t hs hl i X hX
  simp -implicitDefEqProofs (disch := omega) [wrap_of, ilt_t, ilt_f, ile_t, ile_f, nlt_t, nlt_f, nle_t, nle_f, ieq_t, ieq_f, imin_l, imin_r, imax_l, imax_r, take_app1, take_map_all, c91, hk, hb]
theorem at_get {t : Tr.Tree} (hs : Srt t.nodes) (i : Int) : (∃ q, find t.nodes i = some q ∧ cutN t.nodes i < t.nodes.length ∧ t.nodes[cutN t.nodes i]? = some q) ∨ find t.nodes i = none := by
  rcases cutN_find hs i with ⟨h, _, hf⟩ | ⟨hf, _⟩
  · exact .inl ⟨_, hf, h, List.getElem?_eq_getElem h⟩
  · exact .inr hf
theorem s39 {n : Nat} (hn : 16 < n) (t : Tr.Tree) (hs : Srt t.nodes) (hl : t.nodes.length ≤ 1000) (i : Int) : (C08.tab n).p 39 [Tv t, I i] = some (getV (find t.nodes i)) := by
  rw [p39 hn, runP_eq, runH_eq]
  have hA := s91 (n := 15) (by decide) t hs hl i [.var [.int .i64 0, .int .i64 0, .int .i64 0, .lst true [], .lst true [], .int .i64 0], .var [.lst t.fn (t.nodes.map Nd), .int .i64 t.next, .int .i64 t.cookie], .var [.int .i64 0, .int .i64 0, .int .i64 0, .lst true [], .lst true [], .int .i64 0]] rfl 1 rfl
  have hb := p72 (n := 16) (by decide)
  unfold getV
  rcases at_get hs i with ⟨q, hf, hc, hq⟩ | hf
  · rw [hf] at hA ⊢
    generalize cutN t.nodes i = c at *
    have hq' : q = t.nodes[c] := by rw [List.getElem?_eq_getElem hc] at hq; exact (Option.some.inj hq).symm
    simp -implicitDefEqProofs (disch := omega) [wrap_of, ilt_t, ilt_f, ile_t, ile_f, nlt_t, nlt_f, nle_t, nle_f, ieq_t, ieq_f, imin_l, imin_r, imax_l, imax_r, take_app1, take_map_all, c39, hb, runH_eq, c72, hA, hc, ← hq']
  · rw [hf] at hA ⊢
    generalize cutN t.nodes i = c at *
    simp -implicitDefEqProofs (disch := omega) [wrap_of, ilt_t, ilt_f, ile_t, ile_f, nlt_t, nlt_f, nle_t, nle_f, ieq_t, ieq_f, imin_l, imin_r, imax_l, imax_r, take_app1, take_map_all, c39, hb, runH_eq, c72, hA, nodeZ]
theorem s49 {n : Nat} (hn : 28 < n) (t : Tr.Tree) (hs : Srt t.nodes) (hl : t.nodes.length ≤ 1000) (i : Int) : (C08.tab n).p 49 [Tv t, I i] = some (.tup [Tv (free t i).1, I (free t i).2]) := by
  rw [p49 hn, runP_eq, runH_eq]
  have hA := s91 (n := 15) (by decide) t hs hl i [.var [.lst true [], .int .i64 0, .int .i64 0], .var [.lst t.fn (t.nodes.map Nd), .int .i64 t.next, .int .i64 t.cookie], .var [.int .i64 0, .int .i64 0, .int .i64 0, .lst true [], .lst true [], .int .i64 0]] rfl 1 rfl
  have hb := p72 (n := 28) (by decide)
  have hd := p79 (n := 28) (by decide)
  unfold free
  rcases at_get hs i with ⟨q, hf, hc, hq⟩ | hf
  · rw [hf] at hA ⊢
    have hq' : q = t.nodes[cutN t.nodes i] := by rw [List.getElem?_eq_getElem hc] at hq; exact (Option.some.inj hq).symm
    by_cases c1 : q.kind = 2
    · generalize cutN t.nodes i = c at *
      simp -implicitDefEqProofs (disch := omega) [wrap_of, ilt_t, ilt_f, ile_t, ile_f, nlt_t, nlt_f, nle_t, nle_f, ieq_t, ieq_f, imin_l, imin_r, imax_l, imax_r, take_app1, take_map_all, c49, hb, runH_eq, c72, hA, hc, ← hq', c1]
    · by_cases c2 : 0 < q.links
      · generalize cutN t.nodes i = c at *
        simp -implicitDefEqProofs (disch := omega) [wrap_of, ilt_t, ilt_f, ile_t, ile_f, nlt_t, nlt_f, nle_t, nle_f, ieq_t, ieq_f, imin_l, imin_r, imax_l, imax_r, take_app1, take_map_all, c49, hb, runH_eq, c72, hA, hc, ← hq', c1, c2]
      · have hA2 := s91 (n := 27) (by decide) t hs hl i [.var [.lst true [], .int .i64 0, .int .i64 0], .var [.lst t.fn (t.nodes.map Nd), .int .i64 t.next, .int .i64 t.cookie], .var [.int .i64 q.ino, .int .i64 q.kind, .int .i64 q.links, .lst q.fd (q.data.map B), .lst q.fe (q.ents.map En), .int .i64 q.up], .var [.int .i64 q.ino, .int .i64 q.kind, .int .i64 q.links, .lst q.fd (q.data.map B), .lst q.fe (q.ents.map En), .int .i64 q.up]] rfl 1 rfl
        rw [hf] at hA2
        have hfl := cutN_filter hs hc (by rw [← hq']; exact (find_mem hf).2)
        have hcl := p95 (n := 27) (by decide)
        have hdl := p94 (n := 27) (by decide)
        unfold without
        rw [hfl]
        generalize cutN t.nodes i = c at *
        simp -implicitDefEqProofs (disch := omega) [wrap_of, ilt_t, ilt_f, ile_t, ile_f, nlt_t, nlt_f, nle_t, nle_f, ieq_t, ieq_f, imin_l, imin_r, imax_l, imax_r, take_app1, take_map_all, c49, hb, hd, runH_eq, c72, c79, hA, hA2, hc, ← hq', c1, c2, hcl, hdl, deleteH, cloneH]
        rw [List.take_of_length_le (by simp; omega)]
  · rw [hf] at hA ⊢
    generalize cutN t.nodes i = c at *
    simp -implicitDefEqProofs (disch := omega) [wrap_of, ilt_t, ilt_f, ile_t, ile_f, nlt_t, nlt_f, nle_t, nle_f, ieq_t, ieq_f, imin_l, imin_r, imax_l, imax_r, take_app1, take_map_all, c49, hb, runH_eq, c72, hA]
end Go.Proofs.Ytdnoopjpkcmpjaa

namespace Go.Proofs.Ytdnoopjpkcmpjaa
open Go.Am Go.Tr

def nmG (i : Int) (b : Bool) (s : Nat × Nat) (e : Tr.Ent) : Nat × Nat := if e.ino = i then (s.1 + 1, if b = true then s.2 + 1 else s.2) else s
theorem nmG_fold (i : Int) (b : Bool) (l : List Tr.Ent) : ∀ s : Nat × Nat, l.foldl (nmG i b) s = (s.1 + (l.filter fun e => decide (e.ino = i)).length, s.2 + if b = true then (l.filter fun e => decide (e.ino = i)).length else 0) := by
  induction l with
  | nil => intro s; cases b <;> rfl
  | cons e l ih =>
    intro s
    rw [List.foldl_cons, ih, List.filter_cons]
    unfold nmG
    by_cases h : e.ino = i
    · cases b with
      | true => simp [h]; omega
      | false => simp [h]; omega
    · simp [h]
theorem l84a {Γ : Tab} (t : Tr.Tree) (hb : Bt t) (i up : Int) (k : Nat) (hk : k < t.nodes.length) (q : Tr.Node) (hq : q = t.nodes[k]) (a o : Nat) (ha : a ≤ 10000000) (ho : o ≤ 10000000) (e0 : Env) (h3 : e0 3 = .rptr [.lst t.fn (t.nodes.map Nd), .int .i64 t.next, .int .i64 t.cookie]) (h1 : e0 1 = I i) (h2 : e0 2 = I up) (h10 : e0 10 = .int .i64 (k : Int)) :
    iter (round Γ [8, 9, 11] [(.exit 2, [8, 9])] c84_1 e0 0 []) ([.int .i64 (a : Int), .int .i64 (o : Int), .int .i64 0], []) = some (.exit 2, [.int .i64 ((a + cN q i : Nat) : Int), .int .i64 ((o + if q.ino = up then cN q i else 0 : Nat) : Int)], []) := by
  have hl := hb.len
  have hqe : q.ents.length ≤ 1000 := by rw [hq]; exact hb.ents _ (List.getElem_mem hk)
  have := for_list (f := round Γ [8, 9, 11] [(.exit 2, [8, 9])] c84_1 e0 0 []) (fun j (s : Nat × Nat) => ([.int .i64 (s.1 : Int), .int .i64 (s.2 : Int), .int .i64 (j : Int)], [])) q.ents (nmG i (decide (q.ino = up)))
    (fun s => (.exit 2, [.int .i64 (s.1 : Int), .int .i64 (s.2 : Int)], [])) (fun j s => s.1 ≤ a + j ∧ s.2 ≤ o + j)
    (fun j hj s hs => by
      obtain ⟨s1, s2⟩ := s
      simp only at hs
      obtain ⟨e, he⟩ : ∃ e, e = q.ents[j] := ⟨_, rfl⟩
      rw [← he]
      unfold nmG
      by_cases c1 : e.ino = i
      · by_cases c2 : q.ino = up
        · refine ⟨by simp [c1, c2]; omega, ?_⟩
          simp -implicitDefEqProofs (disch := omega) [wrap_of, ilt_t, ilt_f, ile_t, ile_f, nlt_t, nlt_f, nle_t, nle_f, ieq_t, ieq_f, imin_l, imin_r, imax_l, imax_r, take_app1, take_map_all, round_eq, b84_1, h3, h1, h2, h10, hk, ← hq, hj, ← he, c1, c2]
        · refine ⟨by simp [c1, c2]; omega, ?_⟩
          simp -implicitDefEqProofs (disch := omega) [wrap_of, ilt_t, ilt_f, ile_t, ile_f, nlt_t, nlt_f, nle_t, nle_f, ieq_t, ieq_f, imin_l, imin_r, imax_l, imax_r, take_app1, take_map_all, round_eq, b84_1, h3, h1, h2, h10, hk, ← hq, hj, ← he, c1, c2]
      · refine ⟨by simp [c1]; omega, ?_⟩
        simp -implicitDefEqProofs (disch := omega) [wrap_of, ilt_t, ilt_f, ile_t, ile_f, nlt_t, nlt_f, nle_t, nle_f, ieq_t, ieq_f, imin_l, imin_r, imax_l, imax_r, take_app1, take_map_all, round_eq, b84_1, h3, h1, h2, h10, hk, ← hq, hj, ← he, c1])
    (fun s hs => by simp -implicitDefEqProofs (disch := omega) [wrap_of, ilt_t, ilt_f, ile_t, ile_f, nlt_t, nlt_f, nle_t, nle_f, ieq_t, ieq_f, imin_l, imin_r, imax_l, imax_r, take_app1, take_map_all, round_eq, b84_1, h3, h1, h2, h10, hk, ← hq]) (a, o) ⟨Nat.le_refl _, Nat.le_refl _⟩
  rw [nmG_fold] at this
  simp only [decide_eq_true_eq] at this
  simpa [cN] using this
def nmO (i up : Int) (s : Nat × Nat) (q : Tr.Node) : Nat × Nat := (s.1 + cN q i, s.2 + if q.ino = up then cN q i else 0)
theorem nmO_fold (i up : Int) (l : List Tr.Node) : ∀ s : Nat × Nat, l.foldl (nmO i up) s = (s.1 + cnt l i, s.2 + ownC l i up) := by
  induction l with
  | nil => intro s; rfl
  | cons q l ih =>
    intro s
    rw [List.foldl_cons, ih]
    unfold nmO cnt ownC
    rw [List.map_cons, List.sum_cons, List.filter_cons]
    by_cases h : q.ino = up
    · simp [h]; omega
    · simp [h]; omega
theorem l84 {Γ : Tab} (t : Tr.Tree) (hb : Bt t) (i up : Int) (e0 : Env) (h3 : e0 3 = .rptr [.lst t.fn (t.nodes.map Nd), .int .i64 t.next, .int .i64 t.cookie]) (h1 : e0 1 = I i) (h2 : e0 2 = I up) :
    iter (round Γ [8, 9, 10] [(.exit 0, [8, 9])] c84_2 e0 0 []) ([.int .i64 0, .int .i64 0, .int .i64 0], []) = some (.exit 0, [.int .i64 (cnt t.nodes i : Nat), .int .i64 (ownC t.nodes i up : Nat)], []) := by
  have hl := hb.len
  have := for_list (f := round Γ [8, 9, 10] [(.exit 0, [8, 9])] c84_2 e0 0 []) (fun j (s : Nat × Nat) => ([.int .i64 (s.1 : Int), .int .i64 (s.2 : Int), .int .i64 (j : Int)], [])) t.nodes (nmO i up)
    (fun s => (.exit 0, [.int .i64 (s.1 : Int), .int .i64 (s.2 : Int)], [])) (fun j s => s.1 ≤ j * 1000 ∧ s.2 ≤ j * 1000)
    (fun j hj s hs => by
      obtain ⟨s1, s2⟩ := s
      simp only at hs
      obtain ⟨q, hq⟩ : ∃ q, q = t.nodes[j] := ⟨_, rfl⟩
      have hqe : q.ents.length ≤ 1000 := by rw [hq]; exact hb.ents _ (List.getElem_mem hj)
      have hcn := cN_len q i
      have hin := l84a (Γ := Γ) t hb i up j hj q hq s1 s2 (by omega) (by omega)
      rw [← hq]
      unfold nmO
      refine ⟨by simp only; split <;> omega, ?_⟩
      simp only
      generalize s1 + cN q i = u at *
      generalize (s2 + if q.ino = up then cN q i else 0) = v at *
      simp -implicitDefEqProofs (disch := omega) [wrap_of, ilt_t, ilt_f, ile_t, ile_f, nlt_t, nlt_f, nle_t, nle_f, ieq_t, ieq_f, imin_l, imin_r, imax_l, imax_r, take_app1, take_map_all, round_eq, b84_2, h3, hj]
      rw [hin _ (by simp -implicitDefEqProofs (disch := omega) [wrap_of, ilt_t, ilt_f, ile_t, ile_f, nlt_t, nlt_f, nle_t, nle_f, ieq_t, ieq_f, imin_l, imin_r, imax_l, imax_r, take_app1, take_map_all, h3]) (by simp -implicitDefEqProofs (disch := omega) [wrap_of, ilt_t, ilt_f, ile_t, ile_f, nlt_t, nlt_f, nle_t, nle_f, ieq_t, ieq_f, imin_l, imin_r, imax_l, imax_r, take_app1, take_map_all, h1]) (by simp -implicitDefEqProofs (disch := omega) [wrap_of, ilt_t, ilt_f, ile_t, ile_f, nlt_t, nlt_f, nle_t, nle_f, ieq_t, ieq_f, imin_l, imin_r, imax_l, imax_r, take_app1, take_map_all, h2]) (by simp -implicitDefEqProofs (disch := omega) [wrap_of, ilt_t, ilt_f, ile_t, ile_f, nlt_t, nlt_f, nle_t, nle_f, ieq_t, ieq_f, imin_l, imin_r, imax_l, imax_r, take_app1, take_map_all, ])]
      simp -implicitDefEqProofs (disch := omega) [wrap_of, ilt_t, ilt_f, ile_t, ile_f, nlt_t, nlt_f, nle_t, nle_f, ieq_t, ieq_f, imin_l, imin_r, imax_l, imax_r, take_app1, take_map_all, ])
    (fun s hs => by simp -implicitDefEqProofs (disch := omega) [wrap_of, ilt_t, ilt_f, ile_t, ile_f, nlt_t, nlt_f, nle_t, nle_f, ieq_t, ieq_f, imin_l, imin_r, imax_l, imax_r, take_app1, take_map_all, round_eq, b84_2, h3]) (0, 0) (by simp)
  rw [nmO_fold] at this
  simpa using this
theorem s84 {n : Nat} (hn : 89 < n) (t : Tr.Tree) (hb : Bt t) (i up : Int) : (C08.tab n).p 84 [Tv t, I i, I up] = some (.tup [I (cnt t.nodes i : Nat), I (ownC t.nodes i up : Nat)]) := by
  rw [p84 hn, runP_eq, runH_eq]
  have h := l84 (Γ := C08.tab 89) t hb i up
  generalize cnt t.nodes i = a at *
  generalize ownC t.nodes i up = b at *
  simp -implicitDefEqProofs (disch := omega) [wrap_of, ilt_t, ilt_f, ile_t, ile_f, nlt_t, nlt_f, nle_t, nle_f, ieq_t, ieq_f, imin_l, imin_r, imax_l, imax_r, take_app1, take_map_all, c84]
  rw [h _ (by simp -implicitDefEqProofs (disch := omega) [wrap_of, ilt_t, ilt_f, ile_t, ile_f, nlt_t, nlt_f, nle_t, nle_f, ieq_t, ieq_f, imin_l, imin_r, imax_l, imax_r, take_app1, take_map_all, ]) (by simp -implicitDefEqProofs (disch := omega) [wrap_of, ilt_t, ilt_f, ile_t, ile_f, nlt_t, nlt_f, nle_t, nle_f, ieq_t, ieq_f, imin_l, imin_r, imax_l, imax_r, take_app1, take_map_all, ]) (by simp -implicitDefEqProofs (disch := omega) [wrap_of, ilt_t, ilt_f, ile_t, ile_f, nlt_t, nlt_f, nle_t, nle_f, ieq_t, ieq_f, imin_l, imin_r, imax_l, imax_r, take_app1, take_map_all, ])]
  simp -implicitDefEqProofs (disch := omega) [wrap_of, ilt_t, ilt_f, ile_t, ile_f, nlt_t, nlt_f, nle_t, nle_f, ieq_t, ieq_f, imin_l, imin_r, imax_l, imax_r, take_app1, take_map_all, ]
theorem l85a {Γ : Tab} (q : Tr.Node) (hq : q.ents.length ≤ 1000) (i : Nat) (hi : i < q.ents.length) (x : Tr.Ent) (hx : ∀ k (hk : k < i), (q.ents[k]'(by omega)).cookie ≠ x.cookie) (e0 : Env) (h3 : e0 3 = .rptr [.int .i64 q.ino, .int .i64 q.kind, .int .i64 q.links, .lst q.fd (q.data.map B), .lst q.fe (q.ents.map En), .int .i64 q.up]) (h5 : e0 5 = .int .i64 (i : Int)) (h6 : e0 6 = .ptr 0 0 0 0) :
    iter (round Γ [7] [(.exit 2, []), (.ret, [4])] c85_1 e0 1 []) ([.int .i64 0], [.var [.str x.name, .int .i64 x.ino, .int .i64 x.cookie]]) = some (.exit 2, [], [.var [.str x.name, .int .i64 x.ino, .int .i64 x.cookie]]) := by
  have := for_list (f := round Γ [7] [(.exit 2, []), (.ret, [4])] c85_1 e0 1 []) (fun j (_ : Unit) => ([.int .i64 (j : Int)], [.var [.str x.name, .int .i64 x.ino, .int .i64 x.cookie]])) (q.ents.take i) (fun _ _ => ()) (fun _ => (.exit 2, [], [.var [.str x.name, .int .i64 x.ino, .int .i64 x.cookie]])) (fun _ _ => True)
    (fun j hj s _ => by
      rw [List.length_take] at hj
      have hji : j < i := by omega
      have hjl : j < q.ents.length := by omega
      have hne := hx j hji
      obtain ⟨y, hy⟩ : ∃ y, y = q.ents[j] := ⟨_, rfl⟩
      rw [← hy] at hne
      refine ⟨trivial, ?_⟩
      simp -implicitDefEqProofs (disch := omega) [wrap_of, ilt_t, ilt_f, ile_t, ile_f, nlt_t, nlt_f, nle_t, nle_f, ieq_t, ieq_f, imin_l, imin_r, imax_l, imax_r, take_app1, take_map_all, round_eq, b85_1, h3, h5, h6, hji, hjl, ← hy, hne])
    (fun s _ => by
      have e : (q.ents.take i).length = i := by rw [List.length_take]; omega
      rw [e]
      simp -implicitDefEqProofs (disch := omega) [wrap_of, ilt_t, ilt_f, ile_t, ile_f, nlt_t, nlt_f, nle_t, nle_f, ieq_t, ieq_f, imin_l, imin_r, imax_l, imax_r, take_app1, take_map_all, round_eq, b85_1, h5]) () trivial
  simpa using this
theorem ok_len {s : List UInt8} (h : okN s = true) : s.length ≤ 32 := by
  unfold okN at h
  rw [Bool.and_eq_true, decide_eq_true_eq] at h
  omega
theorem l85 {n : Nat} (hn : 90 ≤ n) (t : Tr.Tree) (hb : Bt t) (q : Tr.Node) (he : EntsOK okN sLess t q.ents) (e0 : Env) (h2 : e0 2 = .rptr [.lst t.fn (t.nodes.map Nd), .int .i64 t.next, .int .i64 t.cookie]) (h3 : e0 3 = .rptr [.int .i64 q.ino, .int .i64 q.kind, .int .i64 q.links, .lst q.fd (q.data.map B), .lst q.fe (q.ents.map En), .int .i64 q.up]) :
    iter (round (C08.tab n) [5] [(.exit 0, []), (.ret, [4])] c85_2 e0 0 []) ([.int .i64 0], []) = some (.exit 0, [], []) := by
  have hlen := he.len
  have := for_list (f := round (C08.tab n) [5] [(.exit 0, []), (.ret, [4])] c85_2 e0 0 []) (fun j (_ : Unit) => ([.int .i64 (j : Int)], [])) q.ents (fun _ _ => ()) (fun _ => (.exit 0, [], [])) (fun _ _ => True)
    (fun i hi s _ => by
      obtain ⟨x, hx⟩ : ∃ x, x = q.ents[i] := ⟨_, rfl⟩
      have hxm : x ∈ q.ents := by rw [hx]; exact List.getElem_mem hi
      have h1 := he.nm x hxm
      have hk := he.ck x hxm
      have hto := he.to x hxm
      have hR := s88 (n := n) (by have : 37 < 90 := (by decide); omega) x.name (by have := ok_len h1; omega)
      rw [h1] at hR
      have hP := s63 (n := n) (by have : 34 < 90 := (by decide); omega) t hb x.ino
      obtain ⟨p, hp⟩ := Option.isSome_iff_exists.1 hto
      obtain ⟨kp, hkp, _, _⟩ := find_at hp
      rw [hkp] at hP
      have hin := l85a (Γ := C08.tab n) q (by omega) i hi x (fun k hk => by
        have := (List.pairwise_iff_getElem.1 he.dis) k i (by omega) hi hk
        rw [← hx] at this
        exact this)
      simp only [Tv] at hP
      refine ⟨trivial, ?_⟩
      rcases Nat.eq_zero_or_pos i with c2 | c2
      · subst c2
        simp -implicitDefEqProofs (disch := omega) [wrap_of, ilt_t, ilt_f, ile_t, ile_f, nlt_t, nlt_f, nle_t, nle_f, ieq_t, ieq_f, imin_l, imin_r, imax_l, imax_r, take_app1, take_map_all, round_eq, b85_2, h2, h3, hi, ← hx, hR, hk, hP]
        rw [hin _ (by simp -implicitDefEqProofs (disch := omega) [wrap_of, ilt_t, ilt_f, ile_t, ile_f, nlt_t, nlt_f, nle_t, nle_f, ieq_t, ieq_f, imin_l, imin_r, imax_l, imax_r, take_app1, take_map_all, h3]) (by simp -implicitDefEqProofs (disch := omega) [wrap_of, ilt_t, ilt_f, ile_t, ile_f, nlt_t, nlt_f, nle_t, nle_f, ieq_t, ieq_f, imin_l, imin_r, imax_l, imax_r, take_app1, take_map_all, ]) (by simp -implicitDefEqProofs (disch := omega) [wrap_of, ilt_t, ilt_f, ile_t, ile_f, nlt_t, nlt_f, nle_t, nle_f, ieq_t, ieq_f, imin_l, imin_r, imax_l, imax_r, take_app1, take_map_all, ])]
        simp -implicitDefEqProofs (disch := omega) [wrap_of, ilt_t, ilt_f, ile_t, ile_f, nlt_t, nlt_f, nle_t, nle_f, ieq_t, ieq_f, imin_l, imin_r, imax_l, imax_r, take_app1, take_map_all, ]
      · obtain ⟨j, rfl⟩ : ∃ j, i = j + 1 := ⟨i - 1, by omega⟩
        have hj : j < q.ents.length := by omega
        have hlt := (List.pairwise_iff_getElem.1 he.srt) j (j + 1) hj hi (by omega)
        obtain ⟨y, hy⟩ : ∃ y, y = q.ents[j] := ⟨_, rfl⟩
        rw [← hx, ← hy] at hlt
        simp -implicitDefEqProofs (disch := omega) [wrap_of, ilt_t, ilt_f, ile_t, ile_f, nlt_t, nlt_f, nle_t, nle_f, ieq_t, ieq_f, imin_l, imin_r, imax_l, imax_r, take_app1, take_map_all, round_eq, b85_2, h2, h3, hi, ← hx, hR, hk, hP, hj, ← hy, strBin, hlt]
        rw [hin _ (by simp -implicitDefEqProofs (disch := omega) [wrap_of, ilt_t, ilt_f, ile_t, ile_f, nlt_t, nlt_f, nle_t, nle_f, ieq_t, ieq_f, imin_l, imin_r, imax_l, imax_r, take_app1, take_map_all, h3]) (by simp -implicitDefEqProofs (disch := omega) [wrap_of, ilt_t, ilt_f, ile_t, ile_f, nlt_t, nlt_f, nle_t, nle_f, ieq_t, ieq_f, imin_l, imin_r, imax_l, imax_r, take_app1, take_map_all, ]) (by simp -implicitDefEqProofs (disch := omega) [wrap_of, ilt_t, ilt_f, ile_t, ile_f, nlt_t, nlt_f, nle_t, nle_f, ieq_t, ieq_f, imin_l, imin_r, imax_l, imax_r, take_app1, take_map_all, ])]
        simp -implicitDefEqProofs (disch := omega) [wrap_of, ilt_t, ilt_f, ile_t, ile_f, nlt_t, nlt_f, nle_t, nle_f, ieq_t, ieq_f, imin_l, imin_r, imax_l, imax_r, take_app1, take_map_all, ])
    (fun s _ => by simp -implicitDefEqProofs (disch := omega) [wrap_of, ilt_t, ilt_f, ile_t, ile_f, nlt_t, nlt_f, nle_t, nle_f, ieq_t, ieq_f, imin_l, imin_r, imax_l, imax_r, take_app1, take_map_all, round_eq, b85_2, h3]) () trivial
  simpa using this
theorem s85 {n : Nat} (hn : 90 < n) (t : Tr.Tree) (hb : Bt t) (q : Tr.Node) (he : EntsOK okN sLess t q.ents) : (C08.tab n).p 85 [Tv t, Nd q] = some (.bool true) := by
  rw [p85 hn, runP_eq, runH_eq]
  have h := l85 (n := 90) (by decide) t hb q he
  have hlen := he.len
  simp -implicitDefEqProofs (disch := omega) [wrap_of, ilt_t, ilt_f, ile_t, ile_f, nlt_t, nlt_f, nle_t, nle_f, ieq_t, ieq_f, imin_l, imin_r, imax_l, imax_r, take_app1, take_map_all, c85]
  rw [h _ (by simp -implicitDefEqProofs (disch := omega) [wrap_of, ilt_t, ilt_f, ile_t, ile_f, nlt_t, nlt_f, nle_t, nle_f, ieq_t, ieq_f, imin_l, imin_r, imax_l, imax_r, take_app1, take_map_all, ]) (by simp -implicitDefEqProofs (disch := omega) [wrap_of, ilt_t, ilt_f, ile_t, ile_f, nlt_t, nlt_f, nle_t, nle_f, ieq_t, ieq_f, imin_l, imin_r, imax_l, imax_r, take_app1, take_map_all, ])]
  simp -implicitDefEqProofs (disch := omega) [wrap_of, ilt_t, ilt_f, ile_t, ile_f, nlt_t, nlt_f, nle_t, nle_f, ieq_t, ieq_f, imin_l, imin_r, imax_l, imax_r, take_app1, take_map_all, ]
theorem s60 {n : Nat} (hn : 91 < n) (t : Tr.Tree) (w : WFt t) (q : Tr.Node) (hq : q ∈ t.nodes) : (C08.tab n).p 60 [Tv t, Nd q] = some (.bool true) := by
  rw [p60 hn, runP_eq, runH_eq]
  have hb := bt_of w.bg (by omega)
  have hN := s84 (n := 91) (by decide) t hb q.ino q.up
  rcases w.node_is hq with ⟨h1, h2, h3, h4, h5⟩ | ⟨h1, h2, h3, h4, h5⟩
  · rw [h3] at hN
    have h5' : ((cnt t.nodes q.ino : Nat) : Int) = q.links := h5.symm
    rw [h5'] at hN
    generalize ownC t.nodes q.ino 0 = z at *
    simp only [Tv] at hN
    simp -implicitDefEqProofs (disch := omega) [wrap_of, ilt_t, ilt_f, ile_t, ile_f, nlt_t, nlt_f, nle_t, nle_f, ieq_t, ieq_f, imin_l, imin_r, imax_l, imax_r, take_app1, take_map_all, c60, a84, hN, h1, h2, h3, h4]
  · have hE := s85 (n := 91) (by decide) t hb q h3
    rw [show Nd q = .agg [.int .i64 q.ino, .int .i64 q.kind, .int .i64 q.links, .lst q.fd (q.data.map B), .lst q.fe (q.ents.map En), .int .i64 q.up] from rfl, h1, h2] at hE
    by_cases c1 : q.ino = 1
    · obtain ⟨d1, d2, d3⟩ := h4 c1
      rw [d3] at hN
      rw [d1, c1] at hN
      rw [d1, d2, c1] at hE
      generalize ownC t.nodes 1 1 = z at *
      simp only [Tv, List.map_nil] at hN hE
      simp -implicitDefEqProofs (disch := omega) [wrap_of, ilt_t, ilt_f, ile_t, ile_f, nlt_t, nlt_f, nle_t, nle_f, ieq_t, ieq_f, imin_l, imin_r, imax_l, imax_r, take_app1, take_map_all, c60, a84, hN, h1, h2, a85, hE, c1, d1, d2]
    · obtain ⟨d1, d2, d3⟩ := h5 c1
      rw [d1, d2] at hN
      rw [d3] at hE
      simp only [Tv, List.map_nil] at hN hE
      simp -implicitDefEqProofs (disch := omega) [wrap_of, ilt_t, ilt_f, ile_t, ile_f, nlt_t, nlt_f, nle_t, nle_f, ieq_t, ieq_f, imin_l, imin_r, imax_l, imax_r, take_app1, take_map_all, c60, a84, hN, h1, h2, a85, hE, c1, d3]
end Go.Proofs.Ytdnoopjpkcmpjaa

namespace Go.Proofs.Ytdnoopjpkcmpjaa
open Go.Am Go.Tr

theorem l28a {n : Nat} (hn : 92 ≤ n) (t : Tr.Tree) (w : WFt t) (e0 : Env) (h1 : e0 1 = .rptr [.lst t.fn (t.nodes.map Nd), .int .i64 t.next, .int .i64 t.cookie]) :
    iter (round (C08.tab n) [3] [(.exit 0, []), (.ret, [2])] c28_1 e0 0 []) ([.int .i64 0], []) = some (.exit 0, [], []) := by
  have hl := w.wf.len
  have := for_list (f := round (C08.tab n) [3] [(.exit 0, []), (.ret, [2])] c28_1 e0 0 []) (fun i (_ : Unit) => ([.int .i64 (i : Int)], [])) t.nodes (fun _ _ => ()) (fun _ => (.exit 0, [], [])) (fun _ _ => True)
    (fun i hi s _ => by
      obtain ⟨q, hq⟩ : ∃ q, q = t.nodes[i] := ⟨_, rfl⟩
      have hqm : q ∈ t.nodes := by rw [hq]; exact List.getElem_mem hi
      have hpos := (w.wf.pos _ _ (find_of w.wf.srt hqm)).2
      have hqe := w.bg.ents q hqm
      have h60 := s60 (n := n) (by have : 91 < 92 := (by decide); omega) t w q hqm
      simp only [Tv, Nd] at h60
      refine ⟨trivial, ?_⟩
      rcases Nat.eq_zero_or_pos i with c2 | c2
      · subst c2
        simp -implicitDefEqProofs (disch := omega) [wrap_of, ilt_t, ilt_f, ile_t, ile_f, nlt_t, nlt_f, nle_t, nle_f, ieq_t, ieq_f, imin_l, imin_r, imax_l, imax_r, take_app1, take_map_all, round_eq, b28_1, h1, hi, ← hq, hpos, hqe, h60]
      · obtain ⟨j, rfl⟩ : ∃ j, i = j + 1 := ⟨i - 1, by omega⟩
        have hj : j < t.nodes.length := by omega
        have hlt := (List.pairwise_iff_getElem.1 w.wf.srt) j (j + 1) hj hi (by omega)
        obtain ⟨y, hy⟩ : ∃ y, y = t.nodes[j] := ⟨_, rfl⟩
        rw [← hq, ← hy] at hlt
        have hle : ¬ q.ino ≤ y.ino := by omega
        simp -implicitDefEqProofs (disch := omega) [wrap_of, ilt_t, ilt_f, ile_t, ile_f, nlt_t, nlt_f, nle_t, nle_f, ieq_t, ieq_f, imin_l, imin_r, imax_l, imax_r, take_app1, take_map_all, round_eq, b28_1, h1, hi, ← hq, hpos, hqe, h60, hj, ← hy, hle])
    (fun s _ => by simp -implicitDefEqProofs (disch := omega) [wrap_of, ilt_t, ilt_f, ile_t, ile_f, nlt_t, nlt_f, nle_t, nle_f, ieq_t, ieq_f, imin_l, imin_r, imax_l, imax_r, take_app1, take_map_all, round_eq, b28_1, h1]) () trivial
  simpa using this
theorem l28b {n : Nat} (hn : 92 ≤ n) (t : Tr.Tree) (w : WFt t) (e0 : Env) (h1 : e0 1 = .rptr [.lst t.fn (t.nodes.map Nd), .int .i64 t.next, .int .i64 t.cookie]) :
    iter (round (C08.tab n) [5] [(.exit 2, []), (.ret, [2])] c28_2 e0 0 []) ([.int .i64 0], []) = some (.exit 2, [], []) := by
  have hl := w.wf.len
  have hb := bt_of w.bg (by omega)
  have := for_list (f := round (C08.tab n) [5] [(.exit 2, []), (.ret, [2])] c28_2 e0 0 []) (fun i (_ : Unit) => ([.int .i64 (i : Int)], [])) t.nodes (fun _ _ => ()) (fun _ => (.exit 2, [], [])) (fun _ _ => True)
    (fun i hi s _ => by
      obtain ⟨q, hq⟩ : ∃ q, q = t.nodes[i] := ⟨_, rfl⟩
      have hqm : q ∈ t.nodes := by rw [hq]; exact List.getElem_mem hi
      have hD := s61 (n := n) (by have : 39 < 92 := (by decide); omega) t hb q.ino
      have hB := s62 (n := n) (by have : 61 < 92 := (by decide); omega) t hb q.ino 1
      refine ⟨trivial, ?_⟩
      by_cases c1 : q.kind = 2
      · obtain ⟨d1, d2, d3⟩ := w.dep_is hqm c1
        rw [d1] at hB
        generalize depth t q.ino = d at *
        simp only [Tv] at hD hB
        by_cases c2 : d = 12
        · have d3 := d3 c2
          simp -implicitDefEqProofs (disch := omega) [wrap_of, ilt_t, ilt_f, ile_t, ile_f, nlt_t, nlt_f, nle_t, nle_f, ieq_t, ieq_f, imin_l, imin_r, imax_l, imax_r, take_app1, take_map_all, round_eq, b28_2, h1, hi, ← hq, c1, a61, hD, a62, hB, c2, d3]
        · simp -implicitDefEqProofs (disch := omega) [wrap_of, ilt_t, ilt_f, ile_t, ile_f, nlt_t, nlt_f, nle_t, nle_f, ieq_t, ieq_f, imin_l, imin_r, imax_l, imax_r, take_app1, take_map_all, round_eq, b28_2, h1, hi, ← hq, c1, a61, hD, a62, hB, d2, c2]
      · simp -implicitDefEqProofs (disch := omega) [wrap_of, ilt_t, ilt_f, ile_t, ile_f, nlt_t, nlt_f, nle_t, nle_f, ieq_t, ieq_f, imin_l, imin_r, imax_l, imax_r, take_app1, take_map_all, round_eq, b28_2, h1, hi, ← hq, c1])
    (fun s _ => by simp -implicitDefEqProofs (disch := omega) [wrap_of, ilt_t, ilt_f, ile_t, ile_f, nlt_t, nlt_f, nle_t, nle_f, ieq_t, ieq_f, imin_l, imin_r, imax_l, imax_r, take_app1, take_map_all, round_eq, b28_2, h1]) () trivial
  simpa using this
theorem s28 {n : Nat} (hn : 92 < n) (t : Tr.Tree) (w : WFt t) : (C08.tab n).p 28 [Tv t] = some (.bool true) := by
  rw [p28 hn, runP_eq, runH_eq]
  have hl := w.wf.len
  have hnx := w.wf.nxt
  have hc1 := w.wf.ck1
  have hc2 := w.wf.ck2
  obtain ⟨h0, f1, f2⟩ := w.first
  have ha := l28a (n := 92) (by decide) t w
  have hbb := l28b (n := 92) (by decide) t w
  obtain ⟨r, hr⟩ : ∃ r, r = t.nodes[0] := ⟨_, rfl⟩
  rw [← hr] at f1 f2
  simp -implicitDefEqProofs (disch := omega) [wrap_of, ilt_t, ilt_f, ile_t, ile_f, nlt_t, nlt_f, nle_t, nle_f, ieq_t, ieq_f, imin_l, imin_r, imax_l, imax_r, take_app1, take_map_all, c28, h0, ← hr, f1, f2, hnx, hc1, hc2]
  rw [ha _ (by simp -implicitDefEqProofs (disch := omega) [wrap_of, ilt_t, ilt_f, ile_t, ile_f, nlt_t, nlt_f, nle_t, nle_f, ieq_t, ieq_f, imin_l, imin_r, imax_l, imax_r, take_app1, take_map_all, ])]
  simp -implicitDefEqProofs (disch := omega) [wrap_of, ilt_t, ilt_f, ile_t, ile_f, nlt_t, nlt_f, nle_t, nle_f, ieq_t, ieq_f, imin_l, imin_r, imax_l, imax_r, take_app1, take_map_all, ]
  rw [hbb _ (by simp -implicitDefEqProofs (disch := omega) [wrap_of, ilt_t, ilt_f, ile_t, ile_f, nlt_t, nlt_f, nle_t, nle_f, ieq_t, ieq_f, imin_l, imin_r, imax_l, imax_r, take_app1, take_map_all, ])]
  simp -implicitDefEqProofs (disch := omega) [wrap_of, ilt_t, ilt_f, ile_t, ile_f, nlt_t, nlt_f, nle_t, nle_f, ieq_t, ieq_f, imin_l, imin_r, imax_l, imax_r, take_app1, take_map_all, ]
end Go.Proofs.Ytdnoopjpkcmpjaa
