import Derived.Test.YtgefdmkmobaefaaU19
import Derived.Test.YtgefdmkmobaefaaCrGA
set_option linter.unusedSimpArgs false
set_option linter.unusedVariables false
namespace Go.Proofs.Ytgefdmkmobaefaa
open Go.Am Go.Am.Nm Go.Lib Go.Cr
def cel (n : Nat) : AV → Bool
 | .own b _ _ _ => decide (b < n)
 | .ptr b _ _ _ => decide (b < n)
 | v => v.isE && v.isS
def clB (n : Nat) : AB → Bool
 | .var cs => cs.all (cel n)
 | .mp _ => false
 | _ => true
def Cl (n : Nat) (h : AH) : Prop := h.all (clB n) = true
theorem normS_cel {L : Nat} {R : List Nat} {h : AH} {n : Nat} (hn : n ≤ L) (hR : ∀ r ∈ R, n ≤ r) {x : AV} (hx : cel n x = true) : normS L R h x = x := by
 unfold cel at hx
 split at hx
 ·rename_i b v o k
  have hb : b < n := by simpa using hx
  have hnr : R.contains b = false := by
   rw [Bool.eq_false_iff]
   intro hc
   have := hR b (by simpa using hc)
   omega
  simp only [normS, if_pos (show b < L by omega), hnr, Bool.false_eq_true, if_false]
 ·rename_i b v i o
  have hb : b < n := by simpa using hx
  have hnr : ¬ R.contains b = true := by
   intro hc
   have := hR b (by simpa using hc)
   omega
  simp only [normS, if_pos (show b < L ∧ ¬ R.contains b = true from ⟨by omega, hnr⟩)]
 ·simp only [Bool.and_eq_true] at hx
  cases x <;> simp_all [normS, AV.isS, AV.isE]
theorem normH_cl (L : Nat) (R : List Nat) (h0 : AH) {n : Nat} (hn : n ≤ L) : ∀ (h : AH) (i : Nat), Cl n h → (∀ r ∈ R, n ≤ r ∧ i + h.length ≤ r) → normH L R h0 i h = h
 | [], _, _, _ => rfl
 | b :: h, i, hc, hR => by
  simp only [Cl, List.all_cons, Bool.and_eq_true] at hc
  simp only [normH]
  rw [normH_cl L R h0 hn h (i + 1) hc.2 fun r hr => ⟨(hR r hr).1, by have := (hR r hr).2; simp only [List.length_cons] at this; omega⟩]
  congr 1
  have hi : R.contains i = false := by
   rw [Bool.eq_false_iff]
   intro hcc
   have := (hR i (by simpa using hcc)).2
   simp only [List.length_cons] at this
   omega
  cases b with
  | var cs =>
   simp only [normB]
   congr 1
   have h1 := hc.1
   simp only [clB, List.all_eq_true] at h1
   conv => rhs; rw [← List.map_id cs]
   exact List.map_congr_left fun x hx => normS_cel hn (fun r hr => (hR r hr).1) (h1 x hx)
  | row v sz es => simp only [normB, hi, Bool.false_eq_true, if_false]
  | fro v sz es => simp only [normB, hi, Bool.false_eq_true, if_false]
  | gone => rfl
  | mp es => simp [clB] at hc
end Go.Proofs.Ytgefdmkmobaefaa

namespace Go.Proofs.Ytgefdmkmobaefaa
open Go.Am Go.Am.Nm Go.Lib Go.Cr
theorem cel_mono {n m : Nat} (h : n ≤ m) {x : AV} (hx : cel n x = true) : cel m x = true := by
 unfold cel at hx ⊢
 split
 ·simp only [decide_eq_true_eq] at hx ⊢; omega
 ·simp only [decide_eq_true_eq] at hx ⊢; omega
 ·rename_i h1 h2
  split at hx
  ·exact absurd rfl (h1 _ _ _ _)
  ·exact absurd rfl (h2 _ _ _ _)
  ·exact hx
theorem Cl.mono {n m : Nat} {h : AH} (hc : Cl n h) (hnm : n ≤ m) : Cl m h := by
 unfold Cl at hc ⊢
 rw [List.all_eq_true] at hc ⊢
 intro B hB
 have := hc B hB
 cases B with
 | var cs =>
  simp only [clB, List.all_eq_true] at this ⊢
  exact fun x hx => cel_mono hnm (this x hx)
 | mp es => simp [clB] at this
 | row v sz es => rfl
 | fro v sz es => rfl
 | gone => rfl
theorem Cl.set {n : Nat} {h : AH} (hc : Cl n h) (k : Nat) {B : AB} (hB : clB n B = true) : Cl n (h.set k B) := by
 unfold Cl at hc ⊢
 rw [List.all_eq_true] at hc ⊢
 intro C hC
 rcases List.mem_or_eq_of_mem_set hC with h1 | h1
 ·exact hc C h1
 ·rw [h1]; exact hB
theorem Cl.app {n : Nat} {A B : AH} (hA : Cl n A) (hB : Cl n B) : Cl n (A ++ B) := by
 unfold Cl at hA hB ⊢
 rw [List.all_append, hA, hB]
 rfl
def dv (p : Bool × List Int) : AV := .lst p.1 (p.2.map I)
structure WH (h : AH) (b u : Nat → Nat) (w : Wd) : Prop where
 r0 : h[b 0]? = some (.row (u 0) 3 (w.bs.map Bv))
 r1 : h[b 1]? = some (.row (u 1) 3 (w.ps.map Pv))
 r2 : h[b 2]? = some (.row (u 2) 5 (w.wire.map Mv))
 r3 : h[b 3]? = some (.row (u 3) 3 (w.deeds.map Dv))
 r4 : h[b 4]? = some (.row (u 4) 1 (w.did.map dv))
 ne : ∀ i j, i < 5 → j < 5 → i ≠ j → b i ≠ b j
 cl : Cl h.length h
def WC (b u : Nat → Nat) (w : Wd) : List AV := [.own (b 0) (u 0) 0 w.bs.length, .own (b 1) (u 1) 0 w.ps.length, .own (b 2) (u 2) 0 w.wire.length, .own (b 3) (u 3) 0 w.deeds.length, .own (b 4) (u 4) 0 w.did.length]
def isRowB : AB → Bool
 | .row _ _ _ => true
 | _ => false
def RowAt (h : AH) (i : Nat) : Prop := ∃ B, h[i]? = some B ∧ isRowB B = true
theorem RowAt.set {h : AH} {i k : Nat} {B : AB} (H : RowAt h i) (hB : isRowB B = true) : RowAt (h.set k B) i := by
 obtain ⟨C, h1, h2⟩ := H
 by_cases e : k = i
 ·subst e
  exact ⟨B, List.getElem?_set_self (List.getElem?_eq_some_iff.1 h1).1, hB⟩
 ·exact ⟨C, by rw [List.getElem?_set_ne e]; exact h1, h2⟩
theorem RowAt.app {h : AH} {i : Nat} (H : RowAt h i) (Y : AH) : RowAt (h ++ Y) i := by
 obtain ⟨C, h1, h2⟩ := H
 exact ⟨C, by rw [List.getElem?_append_left (List.getElem?_eq_some_iff.1 h1).1]; exact h1, h2⟩
structure Fw (h : AH) (b : Nat → Nat) (h' : AH) (b' : Nat → Nat) : Prop where
 le : h.length ≤ h'.length
 old : ∀ i, i < h.length → (∀ j, j < 5 → i ≠ b j) → h'[i]? = h[i]?
 new : ∀ j, j < 5 → b' j = b j ∨ h.length ≤ b' j
 row : ∀ i, i < h.length → RowAt h i → RowAt h' i
theorem cl_tail {G : AH} {m : Nat} (hm : G.length = m) (cl : Cl m G) (L : Nat) (R : List Nat) (hL : m ≤ L) (hR : ∀ r ∈ R, m ≤ r) (h0 Y : AH) : normH L R h0 0 (G ++ Y) = G ++ normH L R h0 m Y := by
 rw [normH_app, normH_cl L R h0 hL G 0 cl fun r hr => ⟨hR r hr, by have := hR r hr; omega⟩, hm, Nat.zero_add]
theorem l47 {n : Nat} (G : AH) (cl : Cl G.length G) (a0 a1 a3 a4 : AV) (c0 : cel G.length a0 = true) (c1 : cel G.length a1 = true) (c3 : cel G.length a3 = true) (c4 : cel G.length a4 = true) (wi l : List Mg) (fl : Bool) (hw : wi.length ≤ 200) (hl : l.length ≤ 1000000) (e0 : Env) (q1 : e0 1 = .lst fl (l.map Mv)) (q2 : e0 2 = .ptr G.length 0 0 0) :
  iter (roundA (C19.tab n) (G.length + 2) [(2, 2, 5)] [5] [(.exit 0, [])] c47_1 e0 (G.length + 3) [G.length + 2]) ([.int .i64 0], G ++ [.var [a0, a1, .own (G.length + 2) 0 0 wi.length, a3, a4], .var [.lst true [], .lst true [], .lst true [], .lst true [], .lst true []], .row 0 5 (wi.map Mv)]) =
   some (.exit 0, [], G ++ [.var [a0, a1, .own (G.length + 2) 0 0 (sendL wi l).length, a3, a4], .var [.lst true [], .lst true [], .lst true [], .lst true [], .lst true []], .row 0 5 ((sendL wi l).map Mv)]) := by
 have hnt := fun h0 Y => cl_tail (G := G) rfl cl (G.length + 3) [G.length + 2] (by omega) (fun r hr => by simp only [List.mem_singleton] at hr; omega) h0 Y
 have hns : ∀ {x : AV}, cel G.length x = true → ∀ h0, normS (G.length + 3) [G.length + 2] h0 x = x := fun hx h0 => normS_cel (n := G.length) (by omega) (fun r hr => by simp only [List.mem_singleton] at hr; omega) hx
 have n0 := hns c0
 have n1 := hns c1
 have n3 := hns c3
 have n4 := hns c4
 have htk := take_tail G
 have := for_list (f := roundA (C19.tab n) (G.length + 2) [(2, 2, 5)] [5] [(.exit 0, [])] c47_1 e0 (G.length + 3) [G.length + 2]) (fun i (s : List Mg) => ([.int .i64 (i : Int)], G ++ [.var [a0, a1, .own (G.length + 2) 0 0 s.length, a3, a4], .var [.lst true [], .lst true [], .lst true [], .lst true [], .lst true []], .row 0 5 (s.map Mv)])) (l.take (200 - wi.length))
  (fun s x => s ++ [x]) (fun s => (.exit 0, [], G ++ [.var [a0, a1, .own (G.length + 2) 0 0 s.length, a3, a4], .var [.lst true [], .lst true [], .lst true [], .lst true [], .lst true []], .row 0 5 (s.map Mv)])) (fun i s => s.length = wi.length + i)
  (fun i hi s hs => by
   rw [List.length_take] at hi
   have hi1 : i < l.length := by omega
   have hs2 : s.length < 200 := by omega
   refine ⟨by simp [hs]; omega, ?_⟩
   rw [List.getElem_take]
   obtain ⟨x, hx⟩ : ∃ x, x = l[i] := ⟨_, rfl⟩
   rw [← hx]
   simp -implicitDefEqProofs (disch := omega) [roundA_eq, b47_1, q1, q2, hi1, hs2, ← hx, Mv, szM, gap_l, gap_r, sap_l, sap_r, hnt, htk, n0, n1, n3, n4]
   done)
  (fun s hs => by
   rw [List.length_take] at hs ⊢
   by_cases h1 : l.length ≤ 200 - wi.length
   ·rw [Nat.min_eq_right h1]
    simp -implicitDefEqProofs (disch := omega) [roundA_eq, b47_1, q1, q2, gap_l, gap_r]
    done
   ·rw [Nat.min_eq_left (by omega)] at hs ⊢
    have h2 : 200 - wi.length < l.length := by omega
    have h3 : ¬ s.length < 200 := by omega
    simp -implicitDefEqProofs (disch := omega) [roundA_eq, b47_1, q1, q2, gap_l, gap_r, h2, h3]
    done) wi rfl
 rw [foldl_snoc (fun x => x)] at this
 simpa [sendL] using this
theorem s47 {n : Nat} (hn : 63 < n) (w : Wd) (l : List Mg) (fl : Bool) (h : AH) (b u : Nat → Nat) (H : WH h b u w) (hw : w.wire.length ≤ 200) (hl : l.length ≤ 1000000) :
  ∃ h' b' u', callA (C19.tab n) 47 [.agg (WC b u w), .lst fl (l.map Mv)] h = some (.agg (WC b' u' (sendW w l)), h') ∧ WH h' b' u' (sendW w l) ∧ Fw h b h' b' := by
 rw [p47 hn, runH_eq]
 obtain ⟨r0, r1, r2, r3, r4, ne, cl⟩ := H
 have hb2 : b 2 < h.length := (List.getElem?_eq_some_iff.1 r2).1
 have hb0 : b 0 < h.length := (List.getElem?_eq_some_iff.1 r0).1
 have hb1 : b 1 < h.length := (List.getElem?_eq_some_iff.1 r1).1
 have hb3 : b 3 < h.length := (List.getElem?_eq_some_iff.1 r3).1
 have hb4 : b 4 < h.length := (List.getElem?_eq_some_iff.1 r4).1
 refine ⟨h.set (b 2) (.row (u 2 + 1) 5 []) ++ [.var [.own (b 0) (u 0) 0 w.bs.length, .own (b 1) (u 1) 0 w.ps.length, .own (h.length + 2) 0 0 (sendL w.wire l).length, .own (b 3) (u 3) 0 w.deeds.length, .own (b 4) (u 4) 0 w.did.length],
   .var [.own (b 0) (u 0) 0 w.bs.length, .own (b 1) (u 1) 0 w.ps.length, .own (h.length + 2) 0 0 (sendL w.wire l).length, .own (b 3) (u 3) 0 w.deeds.length, .own (b 4) (u 4) 0 w.did.length], .row 0 5 ((sendL w.wire l).map Mv)],
  fun j => if j = 2 then h.length + 2 else b j, fun j => if j = 2 then 0 else u j, ?_, ?_, ?_⟩
 ·simp only [WC, sendW, if_true, show ¬ (0 : Nat) = 2 from by decide, show ¬ (1 : Nat) = 2 from by decide, show ¬ (3 : Nat) = 2 from by decide, show ¬ (4 : Nat) = 2 from by decide, if_false]
  have r2' := (List.getElem?_eq_some_iff.1 r2).2
  simp -implicitDefEqProofs (disch := omega) [c47, r2', hb2, gsa_at, gsa_ne, gsa_ge, ssa_at, ssa_ge, gap_l, gap_r, sap_l, sap_r]
  obtain ⟨G, hG⟩ : ∃ G, G = h.set (b 2) (.row (u 2 + 1) 5 []) := ⟨_, rfl⟩
  have hlen : h.length = G.length := by rw [hG]; simp
  have clG : Cl G.length G := by rw [← hlen, hG]; exact cl.set _ rfl
  have hnt := fun h0 Y => cl_tail (G := G) rfl clG (G.length + 3) [G.length + 2] (by omega) (fun r hr => by simp only [List.mem_singleton] at hr; omega) h0 Y
  have htk := take_tail G
  rw [← hG, hlen]
  rw [hlen] at hb0 hb1 hb3 hb4
  have hq : ∀ i, i < G.length → ¬ i = G.length + 2 ∧ i < G.length + 3 := fun i hi => ⟨by omega, by omega⟩
  simp -implicitDefEqProofs (disch := omega) [hnt, htk, hq _ hb0, hq _ hb1, hq _ hb3, hq _ hb4]
  rw [l47 G clG _ _ _ _ (by simp [cel, hb0]) (by simp [cel, hb1]) (by simp [cel, hb3]) (by simp [cel, hb4]) w.wire l fl hw hl _ (by simp -implicitDefEqProofs (disch := omega)) (by simp -implicitDefEqProofs (disch := omega))]
  have hG' := hG.symm
  simp -implicitDefEqProofs (disch := omega) [r2', hG', hlen, gap_l, gap_r, sap_l, sap_r]
  done
 ·have hg : ∀ i, i < h.length → i ≠ b 2 → ∀ Y : AH, (h.set (b 2) (.row (u 2 + 1) 5 []) ++ Y)[i]? = h[i]? := fun i hi hne Y => by
   rw [List.getElem?_append_left (by simpa using hi), List.getElem?_set_ne (Ne.symm hne)]
  have n0 := ne 0 2 (by decide) (by decide) (by decide)
  have n1 := ne 1 2 (by decide) (by decide) (by decide)
  have n3 := ne 3 2 (by decide) (by decide) (by decide)
  have n4 := ne 4 2 (by decide) (by decide) (by decide)
  refine ⟨?_, ?_, ?_, ?_, ?_, fun i j hi hj hij => ?_, ?_⟩
  ·simp only [show ¬ (0 : Nat) = 2 from by decide, if_false]; rw [hg _ hb0 n0]; exact r0
  ·simp only [show ¬ (1 : Nat) = 2 from by decide, if_false]; rw [hg _ hb1 n1]; exact r1
  ·simp only [if_true]; rw [List.getElem?_append_right (by simp)]; simp [sendW]
  ·simp only [show ¬ (3 : Nat) = 2 from by decide, if_false]; rw [hg _ hb3 n3]; exact r3
  ·simp only [show ¬ (4 : Nat) = 2 from by decide, if_false]; rw [hg _ hb4 n4]; exact r4
  ·have hlt : ∀ j, j < 5 → b j < h.length := fun j hj => by
    match j, hj with
    | 0, _ => exact hb0
    | 1, _ => exact hb1
    | 2, _ => exact hb2
    | 3, _ => exact hb3
    | 4, _ => exact hb4
   by_cases hi2 : i = 2
   ·subst hi2
    rw [if_pos rfl, if_neg (Ne.symm hij)]
    have := hlt j hj
    omega
   ·rw [if_neg hi2]
    by_cases hj2 : j = 2
    ·rw [if_pos hj2]
     have := hlt i hi
     omega
    ·rw [if_neg hj2]
     exact ne i j hi hj hij
  ·have hn : h.length ≤ (h.set (b 2) (.row (u 2 + 1) 5 []) ++ [AB.var [.own (b 0) (u 0) 0 w.bs.length, .own (b 1) (u 1) 0 w.ps.length, .own (h.length + 2) 0 0 (sendL w.wire l).length, .own (b 3) (u 3) 0 w.deeds.length, .own (b 4) (u 4) 0 w.did.length],
     AB.var [.own (b 0) (u 0) 0 w.bs.length, .own (b 1) (u 1) 0 w.ps.length, .own (h.length + 2) 0 0 (sendL w.wire l).length, .own (b 3) (u 3) 0 w.deeds.length, .own (b 4) (u 4) 0 w.did.length], AB.row 0 5 ((sendL w.wire l).map Mv)]).length := by simp
   refine ((cl.set _ rfl).mono hn).app ?_
   simp only [List.length_append, List.length_set, List.length_cons, List.length_nil]
   have e0 : b 0 < h.length + (0 + 1 + 1 + 1) := by omega
   have e1 : b 1 < h.length + (0 + 1 + 1 + 1) := by omega
   have e3 : b 3 < h.length + (0 + 1 + 1 + 1) := by omega
   have e4 : b 4 < h.length + (0 + 1 + 1 + 1) := by omega
   simp only [Cl, List.all_cons, List.all_nil, clB, cel, decide_eq_true e0, decide_eq_true e1, decide_eq_true e3, decide_eq_true e4, decide_eq_true (show h.length + 2 < h.length + (0 + 1 + 1 + 1) by omega), Bool.and_self]
 ·refine ⟨by simp, fun i hi hne => ?_, fun j hj => ?_, fun i _ hr => (hr.set rfl).app _⟩
  ·rw [List.getElem?_append_left (by simpa using hi), List.getElem?_set_ne (Ne.symm (hne 2 (by decide)))]
  ·by_cases hj2 : j = 2
   ·exact .inr (by rw [if_pos hj2]; omega)
   ·exact .inl (by rw [if_neg hj2])
end Go.Proofs.Ytgefdmkmobaefaa

namespace Go.Proofs.Ytgefdmkmobaefaa
open Go.Am Go.Am.Nm Go.Lib Go.Cr
theorem WH.lt {h : AH} {b u : Nat → Nat} {w : Wd} (H : WH h b u w) : ∀ j, j < 5 → b j < h.length := fun j hj => by
 match j, hj with
 | 0, _ => exact (List.getElem?_eq_some_iff.1 H.r0).1
 | 1, _ => exact (List.getElem?_eq_some_iff.1 H.r1).1
 | 2, _ => exact (List.getElem?_eq_some_iff.1 H.r2).1
 | 3, _ => exact (List.getElem?_eq_some_iff.1 H.r3).1
 | 4, _ => exact (List.getElem?_eq_some_iff.1 H.r4).1
theorem cel_WC {b u : Nat → Nat} {w : Wd} {n : Nat} (h : ∀ j, j < 5 → b j < n) : clB n (.var (WC b u w)) = true := by
 simp only [clB, WC, List.all_cons, List.all_nil, cel, decide_eq_true (h 0 (by decide)), decide_eq_true (h 1 (by decide)), decide_eq_true (h 2 (by decide)), decide_eq_true (h 3 (by decide)), decide_eq_true (h 4 (by decide)), Bool.and_self]
theorem WH.app {h : AH} {b u : Nat → Nat} {w : Wd} (H : WH h b u w) {Y : AH} (hY : Cl (h ++ Y).length Y) : WH (h ++ Y) b u w := by
 have hl := H.lt
 have hg : ∀ j, j < 5 → (h ++ Y)[b j]? = h[b j]? := fun j hj => List.getElem?_append_left (hl j hj)
 exact ⟨(hg 0 (by decide)).trans H.r0, (hg 1 (by decide)).trans H.r1, (hg 2 (by decide)).trans H.r2, (hg 3 (by decide)).trans H.r3, (hg 4 (by decide)).trans H.r4, H.ne, (H.cl.mono (by simp)).app hY⟩
theorem WH.other {h : AH} {b u : Nat → Nat} {w : Wd} (H : WH h b u w) (k : Nat) (B : AB) (hk : ∀ j, j < 5 → k ≠ b j) (hB : clB h.length B = true) : WH (h.set k B) b u w := by
 have hg : ∀ j, j < 5 → (h.set k B)[b j]? = h[b j]? := fun j hj => List.getElem?_set_ne (hk j hj)
 exact ⟨(hg 0 (by decide)).trans H.r0, (hg 1 (by decide)).trans H.r1, (hg 2 (by decide)).trans H.r2, (hg 3 (by decide)).trans H.r3, (hg 4 (by decide)).trans H.r4, H.ne, by
  have := H.cl.set k hB
  rwa [List.length_set]⟩
theorem WH.bs {h : AH} {b u : Nat → Nat} {w : Wd} (H : WH h b u w) (l : List Bo) : WH (h.set (b 0) (.row (u 0) 3 (l.map Bv))) b u { w with bs := l } := by
 have hl := H.lt 0 (by decide)
 have hg : ∀ j, j < 5 → j ≠ 0 → (h.set (b 0) (.row (u 0) 3 (l.map Bv)))[b j]? = h[b j]? := fun j hj hne => List.getElem?_set_ne (H.ne 0 j (by decide) hj (Ne.symm hne))
 exact ⟨by rw [List.getElem?_set_self hl], (hg 1 (by decide) (by decide)).trans H.r1, (hg 2 (by decide) (by decide)).trans H.r2, (hg 3 (by decide) (by decide)).trans H.r3, (hg 4 (by decide) (by decide)).trans H.r4, H.ne, by
  have := H.cl.set (b 0) (B := .row (u 0) 3 (l.map Bv)) rfl
  rwa [List.length_set]⟩
theorem WH.ps {h : AH} {b u : Nat → Nat} {w : Wd} (H : WH h b u w) (l : List Pt) : WH (h.set (b 1) (.row (u 1) 3 (l.map Pv))) b u { w with ps := l } := by
 have hl := H.lt 1 (by decide)
 have hg : ∀ j, j < 5 → j ≠ 1 → (h.set (b 1) (.row (u 1) 3 (l.map Pv)))[b j]? = h[b j]? := fun j hj hne => List.getElem?_set_ne (H.ne 1 j (by decide) hj (Ne.symm hne))
 exact ⟨(hg 0 (by decide) (by decide)).trans H.r0, by rw [List.getElem?_set_self hl], (hg 2 (by decide) (by decide)).trans H.r2, (hg 3 (by decide) (by decide)).trans H.r3, (hg 4 (by decide) (by decide)).trans H.r4, H.ne, by
  have := H.cl.set (b 1) (B := .row (u 1) 3 (l.map Pv)) rfl
  rwa [List.length_set]⟩
theorem WH.did {h : AH} {b u : Nat → Nat} {w : Wd} (H : WH h b u w) (l : List (Bool × List Int)) : WH (h.set (b 4) (.row (u 4) 1 (l.map dv))) b u { w with did := l } := by
 have hl := H.lt 4 (by decide)
 have hg : ∀ j, j < 5 → j ≠ 4 → (h.set (b 4) (.row (u 4) 1 (l.map dv)))[b j]? = h[b j]? := fun j hj hne => List.getElem?_set_ne (H.ne 4 j (by decide) hj (Ne.symm hne))
 exact ⟨(hg 0 (by decide) (by decide)).trans H.r0, (hg 1 (by decide) (by decide)).trans H.r1, (hg 2 (by decide) (by decide)).trans H.r2, (hg 3 (by decide) (by decide)).trans H.r3, by rw [List.getElem?_set_self hl], H.ne, by
  have := H.cl.set (b 4) (B := .row (u 4) 1 (l.map dv)) rfl
  rwa [List.length_set]⟩
theorem WH.wire {h : AH} {b u : Nat → Nat} {w : Wd} (H : WH h b u w) (k v : Nat) (l : List Mg) (hk : h[k]? = some (.row v 5 (l.map Mv))) (hne : ∀ j, j < 5 → j ≠ 2 → b j ≠ k) : WH h (fun j => if j = 2 then k else b j) (fun j => if j = 2 then v else u j) { w with wire := l } := by
 refine ⟨H.r0, H.r1, hk, H.r3, H.r4, fun i j hi hj hij => ?_, H.cl⟩
 by_cases h1 : i = 2
 ·subst h1
  rw [if_pos rfl, if_neg (Ne.symm hij)]
  exact Ne.symm (hne j hj (Ne.symm hij))
 ·rw [if_neg h1]
  by_cases h2 : j = 2
  ·rw [if_pos h2]; exact hne i hi h1
  ·rw [if_neg h2]; exact H.ne i j hi hj hij
theorem WH.deeds {h : AH} {b u : Nat → Nat} {w : Wd} (H : WH h b u w) (k v : Nat) (l : List De) (hk : h[k]? = some (.row v 3 (l.map Dv))) (hne : ∀ j, j < 5 → j ≠ 3 → b j ≠ k) : WH h (fun j => if j = 3 then k else b j) (fun j => if j = 3 then v else u j) { w with deeds := l } := by
 refine ⟨H.r0, H.r1, H.r2, hk, H.r4, fun i j hi hj hij => ?_, H.cl⟩
 by_cases h1 : i = 3
 ·subst h1
  rw [if_pos rfl, if_neg (Ne.symm hij)]
  exact Ne.symm (hne j hj (Ne.symm hij))
 ·rw [if_neg h1]
  by_cases h2 : j = 3
  ·rw [if_pos h2]; exact hne i hi h1
  ·rw [if_neg h2]; exact H.ne i j hi hj hij
end Go.Proofs.Ytgefdmkmobaefaa

namespace Go.Proofs.Ytgefdmkmobaefaa
open Go.Am Go.Am.Nm Go.Lib Go.Cr
section
variable {X Y : AH} {a c d i : Nat} {A B C D : AB}
theorem dsp (h : i < X.length) : (X.set a A ++ Y).set i B = (X.set a A).set i B ++ Y := List.set_append_left _ _ (by simpa using h)
theorem dsp2 (h : i < X.length) : ((X.set a A).set c C ++ Y).set i B = ((X.set a A).set c C).set i B ++ Y := List.set_append_left _ _ (by simpa using h)
theorem dgp (h : i < X.length) : ((X.set a A).set c C ++ Y)[i]? = ((X.set a A).set c C)[i]? := List.getElem?_append_left (by simpa using h)
theorem dgp3 (h : i < X.length) : (((X.set a A).set c C).set d D ++ Y)[i]? = (((X.set a A).set c C).set d D)[i]? := List.getElem?_append_left (by simpa using h)
theorem dgg (h : X.length ≤ i) : ((X.set a A).set c C ++ Y)[i]? = Y[i - X.length]? := by rw [List.getElem?_append_right (by simpa using h)]; simp
theorem dgg3 (h : X.length ≤ i) : (((X.set a A).set c C).set d D ++ Y)[i]? = Y[i - X.length]? := by rw [List.getElem?_append_right (by simpa using h)]; simp
theorem dsg2 (h : X.length ≤ i) : ((X.set a A).set c C ++ Y).set i B = (X.set a A).set c C ++ Y.set (i - X.length) B := by rw [List.set_append_right _ _ (by simpa using h)]; simp
theorem dsg3 (h : X.length ≤ i) : (((X.set a A).set c C).set d D ++ Y).set i B = ((X.set a A).set c C).set d D ++ Y.set (i - X.length) B := by rw [List.set_append_right _ _ (by simpa using h)]; simp
theorem ds1 (h : ¬ c = i) : (X.set c C)[i]? = X[i]? := List.getElem?_set_ne h
end
structure Fz (N : Nat) (h : AH) (b : Nat → Nat) (h' : AH) (b' : Nat → Nat) : Prop where
 le : h.length ≤ h'.length
 old : ∀ i, i < N → (∀ j, j < 5 → i ≠ b j) → h'[i]? = h[i]?
 new : ∀ j, j < 5 → b' j = b j ∨ N ≤ b' j
 row : ∀ i, i < N → RowAt h i → RowAt h' i
theorem Fz.trans {N : Nat} {h h' h'' : AH} {b b' b'' : Nat → Nat} (F : Fz N h b h' b') (G : Fz N h' b' h'' b'') : Fz N h b h'' b'' :=
 ⟨Nat.le_trans F.le G.le, fun i hi hne => (G.old i hi fun j hj => by
  rcases F.new j hj with e | e
  ·rw [e]; exact hne j hj
  ·omega).trans (F.old i hi hne), fun j hj => by
  rcases G.new j hj with e | e
  ·rcases F.new j hj with e' | e'
   ·exact .inl (e.trans e')
   ·exact .inr (by rw [e]; exact e')
  ·exact .inr e, fun i hi hr => G.row i hi (F.row i hi hr)⟩
theorem Fw.z {h h' : AH} {b b' : Nat → Nat} (F : Fw h b h' b') {N : Nat} (hN : N ≤ h.length) : Fz N h b h' b' :=
 ⟨F.le, fun i hi hne => F.old i (by omega) hne, fun j hj => (F.new j hj).imp id fun e => by omega, fun i hi => F.row i (by omega)⟩
theorem Fz.w {h h' : AH} {b b' : Nat → Nat} (F : Fz h.length h b h' b') : Fw h b h' b' := ⟨F.le, F.old, F.new, F.row⟩
theorem Fz.setb (N : Nat) (h : AH) (b : Nat → Nat) (j : Nat) (hj : j < 5) (B : AB) (hB : isRowB B = true := by rfl) : Fz N h b (h.set (b j) B) b :=
 ⟨by simp, fun i _ hne => List.getElem?_set_ne (Ne.symm (hne j hj)), fun _ _ => .inl rfl, fun _ _ hr => hr.set hB⟩
theorem Fz.setk (N : Nat) (h : AH) (b : Nat → Nat) (k : Nat) (hk : N ≤ k) (B : AB) : Fz N h b (h.set k B) b :=
 ⟨by simp, fun i hi _ => List.getElem?_set_ne (by omega), fun _ _ => .inl rfl, fun i hi ⟨C, h1, h2⟩ => ⟨C, by rw [List.getElem?_set_ne (by omega)]; exact h1, h2⟩⟩
theorem Fz.app {N : Nat} {h : AH} (b : Nat → Nat) (hN : N ≤ h.length) (Y : AH) : Fz N h b (h ++ Y) b :=
 ⟨by simp, fun i hi _ => List.getElem?_append_left (by omega), fun _ _ => .inl rfl, fun _ _ hr => hr.app _⟩
theorem Fz.mv (N : Nat) (h : AH) (b : Nat → Nat) (q k : Nat) (hk : N ≤ k) : Fz N h b h (fun j => if j = q then k else b j) :=
 ⟨Nat.le_refl _, fun _ _ _ => rfl, fun j _ => by
  by_cases e : j = q
  ·exact .inr (by rw [if_pos e]; exact hk)
  ·exact .inl (by rw [if_neg e]), fun _ _ hr => hr⟩
theorem askl {p : Pt} {m : Mg} : (hearP isPth clsh p m).2.1.length ≤ 1 := by
 unfold hearP
 simp only
 repeat' split
 all_goals simp
theorem tell_len {b : Bo} {m : Mg} (hb : ∀ c ∈ b.cases, c.de.grs.length ≤ 1000000) : (tellP b m).2.length ≤ 1000000 := by
 unfold tellP
 split
 ·split
  ·split <;> simp
  ·rename_i c hc
   have := hb c (List.mem_of_getElem? hc)
   split
   ·unfold tellC
    repeat' split
    all_goals simp [allP, withC] <;> omega
   ·simp
 ·simp
set_option maxHeartbeats 2000000 in
theorem s18_f {n : Nat} (hn : 65 < n) (w : Wd) (i : Nat) (h : AH) (b u : Nat → Nat) (H : WH h b u w) (hi : i < w.wire.length) (hw : w.wire.length ≤ 200) (m : Mg) (hm : m = w.wire[i]) (k : Nat) (hk : m.to = (k : Int)) (hk4 : k < 4) (bo : Bo) (hbl : k < w.bs.length) (hbo : bo = w.bs[k]) (pt : Pt) (hpl : k < w.ps.length) (hpt : pt = w.ps[k]) (hob : OkB bo) (hpr : pt.ready.length ≤ 1000000) (hpd : pt.did.length ≤ 1000000) (dd : Bool × List Int) (hdl : k < w.did.length) (hdd : dd = w.did[k]) (hdn : dd.2.length ≤ 1000000) :
  ∃ h' b' u', callA (C19.tab n) 18 [.agg (WC b u w), .int .i64 i, .bool false] h = some (.agg (WC b' u' (hearW isPth clsh (tellW (lossW w i) k bo m) k pt dd m)), h') ∧ WH h' b' u' (hearW isPth clsh (tellW (lossW w i) k bo m) k pt dd m) ∧ Fw h b h' b' := by
 rw [p18 hn, runH_eq]
 have hl := H.lt
 have hb0 := hl 0 (by decide)
 have hb1 := hl 1 (by decide)
 have hb2 := hl 2 (by decide)
 have hb3 := hl 3 (by decide)
 have hb4 := hl 4 (by decide)
 have r0 := (List.getElem?_eq_some_iff.1 H.r0).2
 have r1 := (List.getElem?_eq_some_iff.1 H.r1).2
 have r2 := (List.getElem?_eq_some_iff.1 H.r2).2
 have r4 := (List.getElem?_eq_some_iff.1 H.r4).2
 have h35 := s35 (n := 65) (by decide) pt m hpr hpd
 obtain ⟨fo, h37⟩ := s37 (n := 65) (by decide) bo m hob
 have htl := tell_len (b := bo) (m := m) fun c hc => (hob.2 c hc).1.1
 have hal := askl (p := pt) (m := m)
 have hto0 : ¬ (k : Int) < 0 := by omega
 have hto4 : ¬ (4 : Int) ≤ (k : Int) := by omega
 unfold hearW tellW lossW
 obtain ⟨fr, to, kind, fn, nu, fd, da⟩ := m
 simp only at hk
 subst hk
 simp only [Mv, Bv] at h37
 obtain ⟨th, hth⟩ : ∃ th, th = hearP isPth clsh pt ⟨fr, (k : Int), kind, fn, nu, fd, da⟩ := ⟨_, rfl⟩
 rw [← hth] at h35 hal ⊢
 simp only [Mv, Pv] at h35
 obtain ⟨rest, hrest⟩ : ∃ rest, rest = w.wire.take i ++ w.wire.drop (i + 1) := ⟨_, rfl⟩
 have t3 : List.take i (List.take i (w.wire.map Mv)) = List.take i (w.wire.map Mv) := by rw [List.take_take, Nat.min_self]
 have t4 : List.take (w.wire.length - (i + 1)) (List.drop (i + 1) (w.wire.map Mv)) = List.drop (i + 1) (w.wire.map Mv) := List.take_of_length_le (by simp)
 have t5 : List.take i (w.wire.map Mv) ++ List.drop (i + 1) (w.wire.map Mv) = rest.map Mv := by rw [hrest, List.map_append, List.map_take, List.map_drop]
 have t6 : i + (w.wire.length - (i + 1)) = rest.length := by rw [hrest]; simp; omega
 have z1 : szOk 5 (List.take i (w.wire.map Mv)) = true := by rw [← List.map_take]; exact szM _
 have z2 : szOk 5 (List.drop (i + 1) (w.wire.map Mv)) = true := by rw [← List.map_drop]; exact szM _
 rw [← hrest]
 obtain ⟨tb, htb⟩ : ∃ tb, tb = tellP bo ⟨fr, (k : Int), kind, fn, nu, fd, da⟩ := ⟨_, rfl⟩
 rw [← htb] at h37 htl ⊢
 have hnb : ∀ j, j < 5 → ¬ h.length = b j := fun j hj => by have := hl j hj; omega
 have HA : WH (h.set (b 0) (.row (u 0) 3 ((w.bs.set k tb.1).map Bv)) ++ [.var [.own (b 0) (u 0) 0 w.bs.length, .own (b 1) (u 1) 0 w.ps.length, .own (h.length + 3) 1 0 rest.length, .own (b 3) (u 3) 0 w.deeds.length, .own (b 4) (u 4) 0 w.did.length], .var [.lst true [], .lst true [], .lst true [], .lst true [], .lst true []], .var [I fr, I k, I kind, .lst fn (nu.map I), .lst fd (Bs da)], .row 1 5 (rest.map Mv), .var [I tb.1.id, I tb.1.next, .lst tb.1.fc (tb.1.cases.map Cv)]]) (fun j => if j = 2 then h.length + 3 else b j) (fun j => if j = 2 then 1 else u j) { w with bs := w.bs.set k tb.1, wire := rest } := by
  refine ((H.bs (w.bs.set k tb.1)).app (Y := _) ?_).wire (h.length + 3) 1 rest ?_ ?_
  ·simp only [List.length_append, List.length_set, List.length_cons, List.length_nil, Cl, List.all_cons, List.all_nil, clB, cel, Bool.and_true, Bool.and_eq_true, decide_eq_true_eq]
   refine ⟨⟨?_, ?_, ?_, ?_, ?_⟩, ?_⟩
   all_goals first | omega | simp [AV.isE, AV.isS]
  ·rw [List.getElem?_append_right (by simp)]
   simp
  ·intro j hj _
   have := hl j hj
   omega
 have FA : Fz h.length h b (h.set (b 0) (.row (u 0) 3 ((w.bs.set k tb.1).map Bv)) ++ [.var [.own (b 0) (u 0) 0 w.bs.length, .own (b 1) (u 1) 0 w.ps.length, .own (h.length + 3) 1 0 rest.length, .own (b 3) (u 3) 0 w.deeds.length, .own (b 4) (u 4) 0 w.did.length], .var [.lst true [], .lst true [], .lst true [], .lst true [], .lst true []], .var [I fr, I k, I kind, .lst fn (nu.map I), .lst fd (Bs da)], .row 1 5 (rest.map Mv), .var [I tb.1.id, I tb.1.next, .lst tb.1.fc (tb.1.cases.map Cv)]]) (fun j => if j = 2 then h.length + 3 else b j) := (((Fz.setb h.length h b 0 (by decide) _).trans (Fz.app b (by simp) _)).trans (Fz.mv h.length _ b 2 (h.length + 3) (by omega)))
 obtain ⟨h2, b2, u2, e47, H2, F2⟩ := s47 (n := 65) (by decide) _ tb.2 fo _ _ _ HA (by simp only; rw [← t6]; omega) htl
 have FB := FA.trans (F2.z (N := h.length) (by simp only [List.length_append, List.length_set]; omega))
 obtain ⟨f1, f2, f3, _⟩ := F2
 simp only [List.length_append, List.length_set, List.length_cons, List.length_nil] at f1 f2 f3
 have hold : ∀ a B, h.length ≤ a → a < h.length + 5 → a ≠ h.length + 3 → ([.var [.own (b 0) (u 0) 0 w.bs.length, .own (b 1) (u 1) 0 w.ps.length, .own (h.length + 3) 1 0 rest.length, .own (b 3) (u 3) 0 w.deeds.length, .own (b 4) (u 4) 0 w.did.length], .var [.lst true [], .lst true [], .lst true [], .lst true [], .lst true []], .var [I fr, I k, I kind, .lst fn (nu.map I), .lst fd (Bs da)], .row 1 5 (rest.map Mv), .var [I tb.1.id, I tb.1.next, .lst tb.1.fc (tb.1.cases.map Cv)]] : AH)[a - h.length]? = some B → ∃ hlt : a < h2.length, h2[a] = B := fun a B h1 h3 h4 hB => by
  have := f2 a (by omega) (fun j hj => by
   by_cases hj2 : j = 2
   ·rw [if_pos hj2]; exact h4
   ·rw [if_neg hj2]; have := hl j hj; omega)
  rw [List.getElem?_append_right (by simpa using h1), List.length_set, hB] at this
  exact List.getElem?_eq_some_iff.1 this
 obtain ⟨p0, hp0⟩ := hold h.length _ (by omega) (by omega) (by omega) (by simp; rfl)
 obtain ⟨p1, hp1⟩ := hold (h.length + 1) _ (by omega) (by omega) (by omega) (by simp; rfl)
 obtain ⟨p2, hp2⟩ := hold (h.length + 2) _ (by omega) (by omega) (by omega) (by simp; rfl)
 have hl2 := H2.lt
 have hb2' : ∀ j, j < 5 → ¬ b2 j = h.length ∧ ¬ b2 j = h.length + 1 ∧ ¬ b2 j = h.length + 2 := fun j hj => by
  rcases f3 j hj with e | e
  ·rw [e]
   by_cases hj2 : j = 2
   ·rw [if_pos hj2]; omega
   ·rw [if_neg hj2]; have := hl j hj; omega
  ·omega
 have g1 := (List.getElem?_eq_some_iff.1 H2.r1).2
 have g4 := (List.getElem?_eq_some_iff.1 H2.r4).2
 have k1 := hl2 1 (by decide)
 have k4 := hl2 4 (by decide)
 have m1 := hb2' 1 (by decide)
 have m4 := hb2' 4 (by decide)
 have hw2 : (sendL rest tb.2).length ≤ 200 := by unfold sendL; simp only [List.length_append, List.length_take]; rw [← t6]; omega
 simp only [sendW] at g1 g4 H2 e47
 simp only [WC, Bv, List.map_set, List.length_set, if_true, show ¬ (0 : Nat) = 2 from by decide, show ¬ (1 : Nat) = 2 from by decide, show ¬ (3 : Nat) = 2 from by decide, show ¬ (4 : Nat) = 2 from by decide, if_false] at e47
 have m14 : ¬ b2 1 = b2 4 := H2.ne 1 4 (by decide) (by decide) (by decide)
 have m14' : ¬ b2 4 = b2 1 := fun e => m14 e.symm
 obtain ⟨df, dl⟩ := dd
 simp only at hdn
 by_cases hid : th.2.2 = 0
 ·have HB : WH (((h2.set h.length (.var [.own (b2 0) (u2 0) 0 w.bs.length, .own (b2 1) (u2 1) 0 w.ps.length, .own (b2 2) (u2 2) 0 (sendL rest tb.2).length, .own (b2 3) (u2 3) 0 w.deeds.length, .own (b2 4) (u2 4) 0 w.did.length])).set (b2 1) (.row (u2 1) 3 ((w.ps.set k th.1).map Pv))) ++ [.var [I th.1.id, .lst th.1.fr (th.1.ready.map Rv), .lst th.1.fd (th.1.did.map I)]]) b2 u2 { w with bs := w.bs.set k tb.1, wire := sendL rest tb.2, ps := w.ps.set k th.1 } := by
   refine ((H2.other h.length (.var [.own (b2 0) (u2 0) 0 w.bs.length, .own (b2 1) (u2 1) 0 w.ps.length, .own (b2 2) (u2 2) 0 (sendL rest tb.2).length, .own (b2 3) (u2 3) 0 w.deeds.length, .own (b2 4) (u2 4) 0 w.did.length]) (fun j hj => Ne.symm (hb2' j hj).1) ?_).ps (w.ps.set k th.1)).app (Y := _) ?_
   ·exact cel_WC (w := { w with bs := w.bs.set k tb.1, wire := sendL rest tb.2, ps := w.ps.set k th.1 }) hl2 |> fun e => by simpa [WC] using e
   ·simp only [List.length_append, List.length_set, List.length_cons, List.length_nil, Cl, List.all_cons, List.all_nil, clB, cel, Bool.and_true]
    simp [AV.isE, AV.isS]
  obtain ⟨h3, b3, u3, e47', H3, F3⟩ := s47 (n := 65) (by decide) _ th.2.1 true _ _ _ HB hw2 (by omega)
  have FC : Fz h.length h b h3 b3 := FB.trans (((Fz.setk h.length h2 b2 h.length (Nat.le_refl _) _).trans (Fz.setb h.length _ b2 1 (by decide) _)).trans ((Fz.app (h := ((h2.set h.length (.var [.own (b2 0) (u2 0) 0 w.bs.length, .own (b2 1) (u2 1) 0 w.ps.length, .own (b2 2) (u2 2) 0 (sendL rest tb.2).length, .own (b2 3) (u2 3) 0 w.deeds.length, .own (b2 4) (u2 4) 0 w.did.length])).set (b2 1) (.row (u2 1) 3 ((w.ps.set k th.1).map Pv)))) b2 (by simp only [List.length_set]; omega) ([.var [I th.1.id, .lst th.1.fr (th.1.ready.map Rv), .lst th.1.fd (th.1.did.map I)]])).trans (F3.z (N := h.length) (by simp only [List.length_append, List.length_set]; omega))))
  have hres : ∃ hlt : h.length + 1 < h3.length, h3[h.length + 1] = .var [.lst true [], .lst true [], .lst true [], .lst true [], .lst true []] := by
   have := F3.old (h.length + 1) (by simp only [List.length_append, List.length_set]; omega) fun j hj => Ne.symm (hb2' j hj).2.1
   rw [List.getElem?_append_left (by simp only [List.length_set]; omega), List.getElem?_set_ne m1.2.1, List.getElem?_set_ne (by omega), List.getElem?_eq_getElem p1, hp1] at this
   exact List.getElem?_eq_some_iff.1 this
  obtain ⟨p3, hp3⟩ := hres
  have hb3 : ∀ j, j < 5 → h.length + 1 ≠ b3 j := fun j hj => by
   rcases F3.new j hj with e | e
   ·rw [e]; exact Ne.symm (hb2' j hj).2.1
   ·simp only [List.length_append, List.length_set] at e; omega
  simp only [sendW, doneW, if_pos hid] at H3 e47' ⊢
  refine ⟨h3.set (h.length + 1) (.var (WC b3 u3 { w with bs := w.bs.set k tb.1, wire := sendL (sendL rest tb.2) th.2.1, ps := w.ps.set k th.1 })), b3, u3, ?_, ?_, ?_⟩
  ·simp only [WC, Pv, List.map_set, List.length_set, dv, List.map_append, List.map_cons, List.map_nil] at e47'
   simp -implicitDefEqProofs (disch := omega) [c18, WC, r0, r1, r2, r4, hb0, hb1, hb2, hb3, hb4, hi, ← hm, Mv, gsa_at, gsa_ne, gsa_ge, ssa_at, ssa_ge, gap_l, gap_r, sap_l, sap_r, t3, t4, t5, t6, z1, z2, szM, hto0, hto4, hbl, ← hbo, Bv, a37, h37, hk4, e47, hp0, hp1, hp2, p0, p1, p2, g1, g4, k1, k4, m1, m4, hpl, ← hpt, Pv, a35, h35, hid, hdl, ← hdd, dv, m14, m14', dsp, dsp2, dgp, dgp3, dgg, dgg3, dsg2, dsg3, ds1, e47', hp3, p3]
   done
  ·exact H3.other _ _ hb3 (cel_WC H3.lt)
  ·exact (FC.trans (Fz.setk h.length h3 b3 (h.length + 1) (by omega) _)).w
 ·have HB : WH ((((h2.set h.length (.var [.own (b2 0) (u2 0) 0 w.bs.length, .own (b2 1) (u2 1) 0 w.ps.length, .own (b2 2) (u2 2) 0 (sendL rest tb.2).length, .own (b2 3) (u2 3) 0 w.deeds.length, .own (b2 4) (u2 4) 0 w.did.length])).set (b2 1) (.row (u2 1) 3 ((w.ps.set k th.1).map Pv))).set (b2 4) (.row (u2 4) 1 ((w.did.set k (false, dl ++ [th.2.2])).map dv))) ++ [.var [I th.1.id, .lst th.1.fr (th.1.ready.map Rv), .lst th.1.fd (th.1.did.map I)], .fro 1 1 (dl.map I ++ [I th.2.2])]) b2 u2 { w with bs := w.bs.set k tb.1, wire := sendL rest tb.2, ps := w.ps.set k th.1, did := w.did.set k (false, dl ++ [th.2.2]) } := by
   refine (((H2.other h.length (.var [.own (b2 0) (u2 0) 0 w.bs.length, .own (b2 1) (u2 1) 0 w.ps.length, .own (b2 2) (u2 2) 0 (sendL rest tb.2).length, .own (b2 3) (u2 3) 0 w.deeds.length, .own (b2 4) (u2 4) 0 w.did.length]) (fun j hj => Ne.symm (hb2' j hj).1) ?_).ps (w.ps.set k th.1)).did (w.did.set k (false, dl ++ [th.2.2]))).app (Y := _) ?_
   ·exact cel_WC (w := { w with bs := w.bs.set k tb.1, wire := sendL rest tb.2, ps := w.ps.set k th.1, did := w.did.set k (false, dl ++ [th.2.2]) }) hl2 |> fun e => by simpa [WC] using e
   ·simp only [List.length_append, List.length_set, List.length_cons, List.length_nil, Cl, List.all_cons, List.all_nil, clB, cel, Bool.and_true]
    simp [AV.isE, AV.isS]
  obtain ⟨h3, b3, u3, e47', H3, F3⟩ := s47 (n := 65) (by decide) _ th.2.1 true _ _ _ HB hw2 (by omega)
  have FC : Fz h.length h b h3 b3 := FB.trans ((((Fz.setk h.length h2 b2 h.length (Nat.le_refl _) _).trans (Fz.setb h.length _ b2 1 (by decide) _)).trans (Fz.setb h.length _ b2 4 (by decide) _)).trans ((Fz.app (h := (((h2.set h.length (.var [.own (b2 0) (u2 0) 0 w.bs.length, .own (b2 1) (u2 1) 0 w.ps.length, .own (b2 2) (u2 2) 0 (sendL rest tb.2).length, .own (b2 3) (u2 3) 0 w.deeds.length, .own (b2 4) (u2 4) 0 w.did.length])).set (b2 1) (.row (u2 1) 3 ((w.ps.set k th.1).map Pv))).set (b2 4) (.row (u2 4) 1 ((w.did.set k (false, dl ++ [th.2.2])).map dv)))) b2 (by simp only [List.length_set]; omega) ([.var [I th.1.id, .lst th.1.fr (th.1.ready.map Rv), .lst th.1.fd (th.1.did.map I)], .fro 1 1 (dl.map I ++ [I th.2.2])])).trans (F3.z (N := h.length) (by simp only [List.length_append, List.length_set]; omega))))
  have hres : ∃ hlt : h.length + 1 < h3.length, h3[h.length + 1] = .var [.lst true [], .lst true [], .lst true [], .lst true [], .lst true []] := by
   have := F3.old (h.length + 1) (by simp only [List.length_append, List.length_set]; omega) fun j hj => Ne.symm (hb2' j hj).2.1
   rw [List.getElem?_append_left (by simp only [List.length_set]; omega), List.getElem?_set_ne m4.2.1, List.getElem?_set_ne m1.2.1, List.getElem?_set_ne (by omega), List.getElem?_eq_getElem p1, hp1] at this
   exact List.getElem?_eq_some_iff.1 this
  obtain ⟨p3, hp3⟩ := hres
  have hb3 : ∀ j, j < 5 → h.length + 1 ≠ b3 j := fun j hj => by
   rcases F3.new j hj with e | e
   ·rw [e]; exact Ne.symm (hb2' j hj).2.1
   ·simp only [List.length_append, List.length_set] at e; omega
  simp only [sendW, doneW, if_neg hid] at H3 e47' ⊢
  refine ⟨h3.set (h.length + 1) (.var (WC b3 u3 { w with bs := w.bs.set k tb.1, wire := sendL (sendL rest tb.2) th.2.1, ps := w.ps.set k th.1, did := w.did.set k (false, dl ++ [th.2.2]) })), b3, u3, ?_, ?_, ?_⟩
  ·simp only [WC, Pv, List.map_set, List.length_set, dv, List.map_append, List.map_cons, List.map_nil] at e47'
   simp -implicitDefEqProofs (disch := omega) [c18, WC, r0, r1, r2, r4, hb0, hb1, hb2, hb3, hb4, hi, ← hm, Mv, gsa_at, gsa_ne, gsa_ge, ssa_at, ssa_ge, gap_l, gap_r, sap_l, sap_r, t3, t4, t5, t6, z1, z2, szM, hto0, hto4, hbl, ← hbo, Bv, a37, h37, hk4, e47, hp0, hp1, hp2, p0, p1, p2, g1, g4, k1, k4, m1, m4, hpl, ← hpt, Pv, a35, h35, hid, hdl, ← hdd, dv, m14, m14', dsp, dsp2, dgp, dgp3, dgg, dgg3, dsg2, dsg3, ds1, e47', hp3, p3]
   done
  ·exact H3.other _ _ hb3 (cel_WC H3.lt)
  ·exact (FC.trans (Fz.setk h.length h3 b3 (h.length + 1) (by omega) _)).w
set_option maxHeartbeats 2000000 in
theorem s18_t {n : Nat} (hn : 65 < n) (w : Wd) (i : Nat) (h : AH) (b u : Nat → Nat) (H : WH h b u w) (hi : i < w.wire.length) (hw : w.wire.length ≤ 200) (m : Mg) (hm : m = w.wire[i]) (k : Nat) (hk : m.to = (k : Int)) (hk4 : k < 4) (bo : Bo) (hbl : k < w.bs.length) (hbo : bo = w.bs[k]) (pt : Pt) (hpl : k < w.ps.length) (hpt : pt = w.ps[k]) (hob : OkB bo) (hpr : pt.ready.length ≤ 1000000) (hpd : pt.did.length ≤ 1000000) (dd : Bool × List Int) (hdl : k < w.did.length) (hdd : dd = w.did[k]) (hdn : dd.2.length ≤ 1000000) :
  ∃ h' b' u', callA (C19.tab n) 18 [.agg (WC b u w), .int .i64 i, .bool true] h = some (.agg (WC b' u' (hearW isPth clsh (tellW w k bo m) k pt dd m)), h') ∧ WH h' b' u' (hearW isPth clsh (tellW w k bo m) k pt dd m) ∧ Fw h b h' b' := by
 rw [p18 hn, runH_eq]
 have hl := H.lt
 have hb0 := hl 0 (by decide)
 have hb1 := hl 1 (by decide)
 have hb2 := hl 2 (by decide)
 have hb3 := hl 3 (by decide)
 have hb4 := hl 4 (by decide)
 have r0 := (List.getElem?_eq_some_iff.1 H.r0).2
 have r1 := (List.getElem?_eq_some_iff.1 H.r1).2
 have r2 := (List.getElem?_eq_some_iff.1 H.r2).2
 have r4 := (List.getElem?_eq_some_iff.1 H.r4).2
 have h35 := s35 (n := 65) (by decide) pt m hpr hpd
 obtain ⟨fo, h37⟩ := s37 (n := 65) (by decide) bo m hob
 have htl := tell_len (b := bo) (m := m) fun c hc => (hob.2 c hc).1.1
 have hal := askl (p := pt) (m := m)
 have hto0 : ¬ (k : Int) < 0 := by omega
 have hto4 : ¬ (4 : Int) ≤ (k : Int) := by omega
 unfold hearW tellW
 obtain ⟨fr, to, kind, fn, nu, fd, da⟩ := m
 simp only at hk
 subst hk
 simp only [Mv, Bv] at h37
 obtain ⟨th, hth⟩ : ∃ th, th = hearP isPth clsh pt ⟨fr, (k : Int), kind, fn, nu, fd, da⟩ := ⟨_, rfl⟩
 rw [← hth] at h35 hal ⊢
 simp only [Mv, Pv] at h35
 obtain ⟨tb, htb⟩ : ∃ tb, tb = tellP bo ⟨fr, (k : Int), kind, fn, nu, fd, da⟩ := ⟨_, rfl⟩
 rw [← htb] at h37 htl ⊢
 have hnb : ∀ j, j < 5 → ¬ h.length = b j := fun j hj => by have := hl j hj; omega
 have HA : WH (h.set (b 0) (.row (u 0) 3 ((w.bs.set k tb.1).map Bv)) ++ [.var [.own (b 0) (u 0) 0 w.bs.length, .own (b 1) (u 1) 0 w.ps.length, .own (b 2) (u 2) 0 w.wire.length, .own (b 3) (u 3) 0 w.deeds.length, .own (b 4) (u 4) 0 w.did.length], .var [.lst true [], .lst true [], .lst true [], .lst true [], .lst true []], .var [I fr, I k, I kind, .lst fn (nu.map I), .lst fd (Bs da)], .var [I tb.1.id, I tb.1.next, .lst tb.1.fc (tb.1.cases.map Cv)]]) b u { w with bs := w.bs.set k tb.1 } := by
  refine (H.bs (w.bs.set k tb.1)).app (Y := _) ?_
  ·simp only [List.length_append, List.length_set, List.length_cons, List.length_nil, Cl, List.all_cons, List.all_nil, clB, cel, Bool.and_true, Bool.and_eq_true, decide_eq_true_eq]
   refine ⟨⟨?_, ?_, ?_, ?_, ?_⟩, ?_⟩
   all_goals first | omega | simp [AV.isE, AV.isS]
 have FA : Fz h.length h b (h.set (b 0) (.row (u 0) 3 ((w.bs.set k tb.1).map Bv)) ++ [.var [.own (b 0) (u 0) 0 w.bs.length, .own (b 1) (u 1) 0 w.ps.length, .own (b 2) (u 2) 0 w.wire.length, .own (b 3) (u 3) 0 w.deeds.length, .own (b 4) (u 4) 0 w.did.length], .var [.lst true [], .lst true [], .lst true [], .lst true [], .lst true []], .var [I fr, I k, I kind, .lst fn (nu.map I), .lst fd (Bs da)], .var [I tb.1.id, I tb.1.next, .lst tb.1.fc (tb.1.cases.map Cv)]]) b := ((Fz.setb h.length h b 0 (by decide) _).trans (Fz.app b (by simp) _))
 obtain ⟨h2, b2, u2, e47, H2, F2⟩ := s47 (n := 65) (by decide) _ tb.2 fo _ _ _ HA (by simp only; exact hw) htl
 have FB := FA.trans (F2.z (N := h.length) (by simp only [List.length_append, List.length_set]; omega))
 obtain ⟨f1, f2, f3, _⟩ := F2
 simp only [List.length_append, List.length_set, List.length_cons, List.length_nil] at f1 f2 f3
 have hold : ∀ a B, h.length ≤ a → a < h.length + 4 → True → ([.var [.own (b 0) (u 0) 0 w.bs.length, .own (b 1) (u 1) 0 w.ps.length, .own (b 2) (u 2) 0 w.wire.length, .own (b 3) (u 3) 0 w.deeds.length, .own (b 4) (u 4) 0 w.did.length], .var [.lst true [], .lst true [], .lst true [], .lst true [], .lst true []], .var [I fr, I k, I kind, .lst fn (nu.map I), .lst fd (Bs da)], .var [I tb.1.id, I tb.1.next, .lst tb.1.fc (tb.1.cases.map Cv)]] : AH)[a - h.length]? = some B → ∃ hlt : a < h2.length, h2[a] = B := fun a B h1 h3 h4 hB => by
  have := f2 a (by omega) (fun j hj => by
   have := hl j hj; omega)
  rw [List.getElem?_append_right (by simpa using h1), List.length_set, hB] at this
  exact List.getElem?_eq_some_iff.1 this
 obtain ⟨p0, hp0⟩ := hold h.length _ (by omega) (by omega) (by trivial) (by simp; rfl)
 obtain ⟨p1, hp1⟩ := hold (h.length + 1) _ (by omega) (by omega) (by trivial) (by simp; rfl)
 obtain ⟨p2, hp2⟩ := hold (h.length + 2) _ (by omega) (by omega) (by trivial) (by simp; rfl)
 have hl2 := H2.lt
 have hb2' : ∀ j, j < 5 → ¬ b2 j = h.length ∧ ¬ b2 j = h.length + 1 ∧ ¬ b2 j = h.length + 2 := fun j hj => by
  rcases f3 j hj with e | e
  ·rw [e]
   have := hl j hj; omega
  ·omega
 have g1 := (List.getElem?_eq_some_iff.1 H2.r1).2
 have g4 := (List.getElem?_eq_some_iff.1 H2.r4).2
 have k1 := hl2 1 (by decide)
 have k4 := hl2 4 (by decide)
 have m1 := hb2' 1 (by decide)
 have m4 := hb2' 4 (by decide)
 have hw2 : (sendL w.wire tb.2).length ≤ 200 := by unfold sendL; simp only [List.length_append, List.length_take]; omega
 simp only [sendW] at g1 g4 H2 e47
 simp only [WC, Bv, List.map_set, List.length_set, if_true, show ¬ (0 : Nat) = 2 from by decide, show ¬ (1 : Nat) = 2 from by decide, show ¬ (3 : Nat) = 2 from by decide, show ¬ (4 : Nat) = 2 from by decide, if_false] at e47
 have m14 : ¬ b2 1 = b2 4 := H2.ne 1 4 (by decide) (by decide) (by decide)
 have m14' : ¬ b2 4 = b2 1 := fun e => m14 e.symm
 obtain ⟨df, dl⟩ := dd
 simp only at hdn
 by_cases hid : th.2.2 = 0
 ·have HB : WH (((h2.set h.length (.var [.own (b2 0) (u2 0) 0 w.bs.length, .own (b2 1) (u2 1) 0 w.ps.length, .own (b2 2) (u2 2) 0 (sendL w.wire tb.2).length, .own (b2 3) (u2 3) 0 w.deeds.length, .own (b2 4) (u2 4) 0 w.did.length])).set (b2 1) (.row (u2 1) 3 ((w.ps.set k th.1).map Pv))) ++ [.var [I th.1.id, .lst th.1.fr (th.1.ready.map Rv), .lst th.1.fd (th.1.did.map I)]]) b2 u2 { w with bs := w.bs.set k tb.1, wire := sendL w.wire tb.2, ps := w.ps.set k th.1 } := by
   refine ((H2.other h.length (.var [.own (b2 0) (u2 0) 0 w.bs.length, .own (b2 1) (u2 1) 0 w.ps.length, .own (b2 2) (u2 2) 0 (sendL w.wire tb.2).length, .own (b2 3) (u2 3) 0 w.deeds.length, .own (b2 4) (u2 4) 0 w.did.length]) (fun j hj => Ne.symm (hb2' j hj).1) ?_).ps (w.ps.set k th.1)).app (Y := _) ?_
   ·exact cel_WC (w := { w with bs := w.bs.set k tb.1, wire := sendL w.wire tb.2, ps := w.ps.set k th.1 }) hl2 |> fun e => by simpa [WC] using e
   ·simp only [List.length_append, List.length_set, List.length_cons, List.length_nil, Cl, List.all_cons, List.all_nil, clB, cel, Bool.and_true]
    simp [AV.isE, AV.isS]
  obtain ⟨h3, b3, u3, e47', H3, F3⟩ := s47 (n := 65) (by decide) _ th.2.1 true _ _ _ HB hw2 (by omega)
  have FC : Fz h.length h b h3 b3 := FB.trans (((Fz.setk h.length h2 b2 h.length (Nat.le_refl _) _).trans (Fz.setb h.length _ b2 1 (by decide) _)).trans ((Fz.app (h := ((h2.set h.length (.var [.own (b2 0) (u2 0) 0 w.bs.length, .own (b2 1) (u2 1) 0 w.ps.length, .own (b2 2) (u2 2) 0 (sendL w.wire tb.2).length, .own (b2 3) (u2 3) 0 w.deeds.length, .own (b2 4) (u2 4) 0 w.did.length])).set (b2 1) (.row (u2 1) 3 ((w.ps.set k th.1).map Pv)))) b2 (by simp only [List.length_set]; omega) ([.var [I th.1.id, .lst th.1.fr (th.1.ready.map Rv), .lst th.1.fd (th.1.did.map I)]])).trans (F3.z (N := h.length) (by simp only [List.length_append, List.length_set]; omega))))
  have hres : ∃ hlt : h.length + 1 < h3.length, h3[h.length + 1] = .var [.lst true [], .lst true [], .lst true [], .lst true [], .lst true []] := by
   have := F3.old (h.length + 1) (by simp only [List.length_append, List.length_set]; omega) fun j hj => Ne.symm (hb2' j hj).2.1
   rw [List.getElem?_append_left (by simp only [List.length_set]; omega), List.getElem?_set_ne m1.2.1, List.getElem?_set_ne (by omega), List.getElem?_eq_getElem p1, hp1] at this
   exact List.getElem?_eq_some_iff.1 this
  obtain ⟨p3, hp3⟩ := hres
  have hb3 : ∀ j, j < 5 → h.length + 1 ≠ b3 j := fun j hj => by
   rcases F3.new j hj with e | e
   ·rw [e]; exact Ne.symm (hb2' j hj).2.1
   ·simp only [List.length_append, List.length_set] at e; omega
  simp only [sendW, doneW, if_pos hid] at H3 e47' ⊢
  refine ⟨h3.set (h.length + 1) (.var (WC b3 u3 { w with bs := w.bs.set k tb.1, wire := sendL (sendL w.wire tb.2) th.2.1, ps := w.ps.set k th.1 })), b3, u3, ?_, ?_, ?_⟩
  ·simp only [WC, Pv, List.map_set, List.length_set, dv, List.map_append, List.map_cons, List.map_nil] at e47'
   simp -implicitDefEqProofs (disch := omega) [c18, WC, r0, r1, r2, r4, hb0, hb1, hb2, hb3, hb4, hi, ← hm, Mv, gsa_at, gsa_ne, gsa_ge, ssa_at, ssa_ge, gap_l, gap_r, sap_l, sap_r, szM, hto0, hto4, hbl, ← hbo, Bv, a37, h37, hk4, e47, hp0, hp1, hp2, p0, p1, p2, g1, g4, k1, k4, m1, m4, hpl, ← hpt, Pv, a35, h35, hid, hdl, ← hdd, dv, m14, m14', dsp, dsp2, dgp, dgp3, dgg, dgg3, dsg2, dsg3, ds1, e47', hp3, p3]
   done
  ·exact H3.other _ _ hb3 (cel_WC H3.lt)
  ·exact (FC.trans (Fz.setk h.length h3 b3 (h.length + 1) (by omega) _)).w
 ·have HB : WH ((((h2.set h.length (.var [.own (b2 0) (u2 0) 0 w.bs.length, .own (b2 1) (u2 1) 0 w.ps.length, .own (b2 2) (u2 2) 0 (sendL w.wire tb.2).length, .own (b2 3) (u2 3) 0 w.deeds.length, .own (b2 4) (u2 4) 0 w.did.length])).set (b2 1) (.row (u2 1) 3 ((w.ps.set k th.1).map Pv))).set (b2 4) (.row (u2 4) 1 ((w.did.set k (false, dl ++ [th.2.2])).map dv))) ++ [.var [I th.1.id, .lst th.1.fr (th.1.ready.map Rv), .lst th.1.fd (th.1.did.map I)], .fro 1 1 (dl.map I ++ [I th.2.2])]) b2 u2 { w with bs := w.bs.set k tb.1, wire := sendL w.wire tb.2, ps := w.ps.set k th.1, did := w.did.set k (false, dl ++ [th.2.2]) } := by
   refine (((H2.other h.length (.var [.own (b2 0) (u2 0) 0 w.bs.length, .own (b2 1) (u2 1) 0 w.ps.length, .own (b2 2) (u2 2) 0 (sendL w.wire tb.2).length, .own (b2 3) (u2 3) 0 w.deeds.length, .own (b2 4) (u2 4) 0 w.did.length]) (fun j hj => Ne.symm (hb2' j hj).1) ?_).ps (w.ps.set k th.1)).did (w.did.set k (false, dl ++ [th.2.2]))).app (Y := _) ?_
   ·exact cel_WC (w := { w with bs := w.bs.set k tb.1, wire := sendL w.wire tb.2, ps := w.ps.set k th.1, did := w.did.set k (false, dl ++ [th.2.2]) }) hl2 |> fun e => by simpa [WC] using e
   ·simp only [List.length_append, List.length_set, List.length_cons, List.length_nil, Cl, List.all_cons, List.all_nil, clB, cel, Bool.and_true]
    simp [AV.isE, AV.isS]
  obtain ⟨h3, b3, u3, e47', H3, F3⟩ := s47 (n := 65) (by decide) _ th.2.1 true _ _ _ HB hw2 (by omega)
  have FC : Fz h.length h b h3 b3 := FB.trans ((((Fz.setk h.length h2 b2 h.length (Nat.le_refl _) _).trans (Fz.setb h.length _ b2 1 (by decide) _)).trans (Fz.setb h.length _ b2 4 (by decide) _)).trans ((Fz.app (h := (((h2.set h.length (.var [.own (b2 0) (u2 0) 0 w.bs.length, .own (b2 1) (u2 1) 0 w.ps.length, .own (b2 2) (u2 2) 0 (sendL w.wire tb.2).length, .own (b2 3) (u2 3) 0 w.deeds.length, .own (b2 4) (u2 4) 0 w.did.length])).set (b2 1) (.row (u2 1) 3 ((w.ps.set k th.1).map Pv))).set (b2 4) (.row (u2 4) 1 ((w.did.set k (false, dl ++ [th.2.2])).map dv)))) b2 (by simp only [List.length_set]; omega) ([.var [I th.1.id, .lst th.1.fr (th.1.ready.map Rv), .lst th.1.fd (th.1.did.map I)], .fro 1 1 (dl.map I ++ [I th.2.2])])).trans (F3.z (N := h.length) (by simp only [List.length_append, List.length_set]; omega))))
  have hres : ∃ hlt : h.length + 1 < h3.length, h3[h.length + 1] = .var [.lst true [], .lst true [], .lst true [], .lst true [], .lst true []] := by
   have := F3.old (h.length + 1) (by simp only [List.length_append, List.length_set]; omega) fun j hj => Ne.symm (hb2' j hj).2.1
   rw [List.getElem?_append_left (by simp only [List.length_set]; omega), List.getElem?_set_ne m4.2.1, List.getElem?_set_ne m1.2.1, List.getElem?_set_ne (by omega), List.getElem?_eq_getElem p1, hp1] at this
   exact List.getElem?_eq_some_iff.1 this
  obtain ⟨p3, hp3⟩ := hres
  have hb3 : ∀ j, j < 5 → h.length + 1 ≠ b3 j := fun j hj => by
   rcases F3.new j hj with e | e
   ·rw [e]; exact Ne.symm (hb2' j hj).2.1
   ·simp only [List.length_append, List.length_set] at e; omega
  simp only [sendW, doneW, if_neg hid] at H3 e47' ⊢
  refine ⟨h3.set (h.length + 1) (.var (WC b3 u3 { w with bs := w.bs.set k tb.1, wire := sendL (sendL w.wire tb.2) th.2.1, ps := w.ps.set k th.1, did := w.did.set k (false, dl ++ [th.2.2]) })), b3, u3, ?_, ?_, ?_⟩
  ·simp only [WC, Pv, List.map_set, List.length_set, dv, List.map_append, List.map_cons, List.map_nil] at e47'
   simp -implicitDefEqProofs (disch := omega) [c18, WC, r0, r1, r2, r4, hb0, hb1, hb2, hb3, hb4, hi, ← hm, Mv, gsa_at, gsa_ne, gsa_ge, ssa_at, ssa_ge, gap_l, gap_r, sap_l, sap_r, szM, hto0, hto4, hbl, ← hbo, Bv, a37, h37, hk4, e47, hp0, hp1, hp2, p0, p1, p2, g1, g4, k1, k4, m1, m4, hpl, ← hpt, Pv, a35, h35, hid, hdl, ← hdd, dv, m14, m14', dsp, dsp2, dgp, dgp3, dgg, dgg3, dsg2, dsg3, ds1, e47', hp3, p3]
   done
  ·exact H3.other _ _ hb3 (cel_WC H3.lt)
  ·exact (FC.trans (Fz.setk h.length h3 b3 (h.length + 1) (by omega) _)).w
end Go.Proofs.Ytgefdmkmobaefaa

namespace Go.Proofs.Ytgefdmkmobaefaa
open Go.Am Go.Am.Nm Go.Lib Go.Cr
theorem s46 {n : Nat} (hn : 62 < n) (k : Nat) (hk : k < 256) : (C19.tab n).p 46 [.int .u8 k] = some (.str (pathN k)) := by
 rw [p46 hn, runP_eq, runH_eq]
 have e8 : ((k : Int).tmod 8) = ((k % 8 : Nat) : Int) := by rw [Int.tmod_eq_emod_of_nonneg (by omega)]; omega
 have h8 : k % 8 < 8 := Nat.mod_lt _ (by decide)
 unfold pathN
 generalize k % 8 = q at e8 h8
 match q, h8 with
 | 0, _ => simp -implicitDefEqProofs (disch := omega) [c46, e8]
 | 1, _ => simp -implicitDefEqProofs (disch := omega) [c46, e8]
 | 2, _ => simp -implicitDefEqProofs (disch := omega) [c46, e8]
 | 3, _ => simp -implicitDefEqProofs (disch := omega) [c46, e8]
 | 4, _ => simp -implicitDefEqProofs (disch := omega) [c46, e8]
 | 5, _ => simp -implicitDefEqProofs (disch := omega) [c46, e8]
 | 6, _ => simp -implicitDefEqProofs (disch := omega) [c46, e8]
 | 7, _ => simp -implicitDefEqProofs (disch := omega) [c46, e8]
end Go.Proofs.Ytgefdmkmobaefaa
