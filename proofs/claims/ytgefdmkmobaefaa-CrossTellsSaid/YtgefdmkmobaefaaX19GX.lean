import Derived.Test.YtgefdmkmobaefaaX19GW
import Derived.Test.YtgefdmkmobaefaaCrGA
set_option linter.unusedSimpArgs false
set_option linter.unusedVariables false
namespace Go.Proofs.Ytgefdmkmobaefaa
open Go.Am Go.Am.Nm Go.Lib Go.Cr
def szW (j : Nat) : Nat := ([3, 3, 5, 3, 1][j]?).getD 0
def esW (w : Wd) : Nat → List AV
 | 0 => w.bs.map Bv
 | 1 => w.ps.map Pv
 | 2 => w.wire.map Mv
 | 3 => w.deeds.map Dv
 | _ => w.did.map dv
theorem WH.r {h : AH} {b u : Nat → Nat} {w : Wd} (H : WH h b u w) : ∀ j, j < 5 → h[b j]? = some (.row (u j) (szW j) (esW w j)) := fun j hj => by
 match j, hj with
 | 0, _ => exact H.r0
 | 1, _ => exact H.r1
 | 2, _ => exact H.r2
 | 3, _ => exact H.r3
 | 4, _ => exact H.r4
theorem WH.of {h : AH} {b u : Nat → Nat} {w : Wd} (r : ∀ j, j < 5 → h[b j]? = some (.row (u j) (szW j) (esW w j))) (ne : ∀ i j, i < 5 → j < 5 → i ≠ j → b i ≠ b j) (cl : Cl h.length h) : WH h b u w :=
 ⟨r 0 (by decide), r 1 (by decide), r 2 (by decide), r 3 (by decide), r 4 (by decide), ne, cl⟩
theorem WC_eq (b u : Nat → Nat) (w : Wd) : WC b u w = (List.range 5).map fun j => .own (b j) (u j) 0 (esW w j).length := by
 simp [WC, List.range, List.range.loop, esW]
theorem WC_get {b u : Nat → Nat} {w : Wd} {j : Nat} (hj : j < 5) : (WC b u w)[j]? = some (.own (b j) (u j) 0 (esW w j).length) := by
 rw [WC_eq, List.getElem?_map, List.getElem?_range hj]; rfl
theorem WC_set {b u : Nat → Nat} {w : Wd} {j : Nat} (hj : j < 5) (k v : Nat) : (WC b u w).set j (.own k v 0 (esW w j).length) = WC (fun i => if i = j then k else b i) (fun i => if i = j then v else u i) w := by
 apply List.ext_getElem?
 intro i
 by_cases hi : i < 5
 ·rw [WC_get hi]
  by_cases e : i = j
  ·subst e
   rw [List.getElem?_set_self (by rw [WC_eq]; simpa using hi), if_pos rfl, if_pos rfl]
  ·rw [List.getElem?_set_ne (Ne.symm e), WC_get hi, if_neg e, if_neg e]
 ·rw [List.getElem?_eq_none (by simp [WC_eq]; omega), List.getElem?_eq_none (by simp [WC_eq]; omega)]
theorem reb1W (e : Env) (t k τ : Nat) (he : e t = .ptr k 0 0 0) (hk : k < τ) (j : Nat) (hj : j < 5) (h : AH) (b u : Nat → Nat) (w : Wd) (H : WH h b u w) (hc : h[k]? = some (.var (WC b u w))) (hr : RowAt h (τ + j)) (hnb : ∀ i, i < 5 → i ≠ j → b i ≠ τ + j) (hkb : ∀ i, i < 5 → b i ≠ k) (hτb : b j = τ + j ∨ τ + 5 ≤ b j) :
  ∃ u' h', reb1 (τ + j) ⟨e, h⟩ (t, j, szW j) = ⟨e, h'⟩ ∧ h'.length = h.length ∧ WH h' (fun i => if i = j then τ + j else b i) u' w ∧ h'[k]? = some (.var (WC (fun i => if i = j then τ + j else b i) u' w)) ∧
   (∀ i, RowAt h i → RowAt h' i) ∧ (∀ i, i < τ → i ≠ k → h'[i]? = h[i]?) := by
 have hkl : k < h.length := (List.getElem?_eq_some_iff.1 hc).1
 have hbl := H.lt j hj
 obtain ⟨B, hB, hB2⟩ := hr
 have hτl : τ + j < h.length := (List.getElem?_eq_some_iff.1 hB).1
 have hg : getC ⟨e, h⟩ t j = some (.own (b j) (u j) 0 (esW w j).length) := by
  simp only [getC, he, hc, WC_get hj]
 by_cases e1 : b j = τ + j
 ·have eb : (fun i => if i = j then τ + j else b i) = b := by funext i; by_cases e : i = j <;> simp [e, e1]
  refine ⟨u, h, ?_, rfl, by rw [eb]; exact H, by rw [eb]; exact hc, fun _ h => h, fun _ _ _ => rfl⟩
  simp only [reb1, hg, if_pos e1]
 ·have hx : τ + 5 ≤ b j := by rcases hτb with h | h; exact absurd h e1; exact h
  cases B with
  | row v sz es =>
   refine ⟨fun i => if i = j then v + 1 else u i, ((h.set (b j) (.row (u j + 1) (szW j) [])).set (τ + j) (.row (v + 1) (szW j) (esW w j))).set k (.var (WC (fun i => if i = j then τ + j else b i) (fun i => if i = j then v + 1 else u i) w)), ?_, by simp, ?_, ?_, fun i hi => ?_, fun i hi hne => ?_⟩
   ·simp only [reb1, hg, if_neg e1, H.r j hj, hB, and_self, if_true]
    have h1 : ((h.set (b j) (.row (u j + 1) (szW j) [])).set (τ + j) (.row (v + 1) (szW j) (esW w j)))[k]? = some (.var (WC b u w)) := by
     rw [List.getElem?_set_ne (by omega), List.getElem?_set_ne (by omega), hc]
    simp only [setC, he, h1, WC_set hj]
   ·refine WH.of (fun i hi => ?_) (fun i i' hi hi' hne => ?_) ?_
    ·by_cases e2 : i = j
     ·subst e2
      simp only [if_true]
      rw [List.getElem?_set_ne (by omega), List.getElem?_set_self (by simpa using hτl)]
     ·simp only [if_neg e2]
      rw [List.getElem?_set_ne (Ne.symm (hkb i hi)), List.getElem?_set_ne (Ne.symm (hnb i hi e2)), List.getElem?_set_ne (H.ne j i hj hi (Ne.symm e2)), H.r i hi]
    ·by_cases e2 : i = j
     ·subst e2
      simp only [if_true, if_neg (Ne.symm hne)]
      exact Ne.symm (hnb i' hi' (Ne.symm hne))
     ·simp only [if_neg e2]
      by_cases e3 : i' = j
      ·simp only [if_pos e3]; exact hnb i hi e2
      ·simp only [if_neg e3]; exact H.ne i i' hi hi' hne
    ·simp only [List.length_set]
     refine ((H.cl.set _ (B := .row (u j + 1) (szW j) []) rfl).set _ (B := .row (v + 1) (szW j) (esW w j)) rfl).set _ (cel_WC fun i hi => ?_)
     by_cases e2 : i = j
     ·simp only [if_pos e2]; omega
     ·simp only [if_neg e2]; exact H.lt i hi
   ·rw [List.getElem?_set_self (by simpa using hkl)]
   ·by_cases e2 : i = k
    ·subst e2
     obtain ⟨C, q1, q2⟩ := hi
     rw [hc] at q1
     cases q1
     cases q2
    ·obtain ⟨C, q1, q2⟩ := (hi.set (k := b j) (B := .row (u j + 1) (szW j) []) rfl).set (k := τ + j) (B := .row (v + 1) (szW j) (esW w j)) rfl
     exact ⟨C, by rw [List.getElem?_set_ne (Ne.symm e2)]; exact q1, q2⟩
   ·rw [List.getElem?_set_ne (Ne.symm hne), List.getElem?_set_ne (by omega), List.getElem?_set_ne (by omega)]
  | _ => cases hB2
theorem rebAW (e : Env) (t k τ : Nat) (he : e t = .ptr k 0 0 0) (hk : k < τ) (h : AH) (b u : Nat → Nat) (w : Wd) (H : WH h b u w) (hc : h[k]? = some (.var (WC b u w))) (hr : ∀ j, j < 5 → RowAt h (τ + j)) (hb : ∀ j, j < 5 → b j = τ + j ∨ τ + 5 ≤ b j) :
  ∃ v h', rebA τ [(t, 0, 3), (t, 1, 3), (t, 2, 5), (t, 3, 3), (t, 4, 1)] ⟨e, h⟩ = ⟨e, h'⟩ ∧ h'.length = h.length ∧ WH h' (fun j => τ + j) v w ∧ h'[k]? = some (.var (WC (fun j => τ + j) v w)) ∧ ∀ i, i < τ → i ≠ k → h'[i]? = h[i]? := by
 obtain ⟨u0, h0, a0, l0, H0, c0, r0, o0⟩ := reb1W e t k τ he hk 0 (by decide) h b u w H hc (hr 0 (by decide)) (fun i hi hne => by rcases hb i hi with e | e <;> omega) (fun i hi => by rcases hb i hi with e | e <;> omega) (hb 0 (by decide))
 have hb0 : ∀ j, j < 5 → (if j = 0 then τ + 0 else b j) = τ + j ∨ τ + 5 ≤ (if j = 0 then τ + 0 else b j) := fun j hj => by
  by_cases e : j = 0
  ·subst e; exact .inl rfl
  ·rw [if_neg e]; exact hb j hj
 obtain ⟨u1, h1, a1, l1, H1, c1, r1, o1⟩ := reb1W e t k τ he hk 1 (by decide) h0 _ u0 w H0 c0 (r0 _ (hr 1 (by decide))) (fun i hi hne => by rcases hb0 i hi with e | e <;> omega) (fun i hi => by rcases hb0 i hi with e | e <;> omega) (hb0 1 (by decide))
 have hb1 : ∀ j, j < 5 → (if j = 1 then τ + 1 else if j = 0 then τ + 0 else b j) = τ + j ∨ τ + 5 ≤ (if j = 1 then τ + 1 else if j = 0 then τ + 0 else b j) := fun j hj => by
  by_cases e : j = 1
  ·subst e; exact .inl rfl
  ·rw [if_neg e]; exact hb0 j hj
 obtain ⟨u2, h2, a2, l2, H2, c2, r2, o2⟩ := reb1W e t k τ he hk 2 (by decide) h1 _ u1 w H1 c1 (r1 _ (r0 _ (hr 2 (by decide)))) (fun i hi hne => by rcases hb1 i hi with e | e <;> omega) (fun i hi => by rcases hb1 i hi with e | e <;> omega) (hb1 2 (by decide))
 have hb2 : ∀ j, j < 5 → (if j = 2 then τ + 2 else if j = 1 then τ + 1 else if j = 0 then τ + 0 else b j) = τ + j ∨ τ + 5 ≤ (if j = 2 then τ + 2 else if j = 1 then τ + 1 else if j = 0 then τ + 0 else b j) := fun j hj => by
  by_cases e : j = 2
  ·subst e; exact .inl rfl
  ·rw [if_neg e]; exact hb1 j hj
 obtain ⟨u3, h3, a3, l3, H3, c3, r3, o3⟩ := reb1W e t k τ he hk 3 (by decide) h2 _ u2 w H2 c2 (r2 _ (r1 _ (r0 _ (hr 3 (by decide))))) (fun i hi hne => by rcases hb2 i hi with e | e <;> omega) (fun i hi => by rcases hb2 i hi with e | e <;> omega) (hb2 3 (by decide))
 have hb3 : ∀ j, j < 5 → (if j = 3 then τ + 3 else if j = 2 then τ + 2 else if j = 1 then τ + 1 else if j = 0 then τ + 0 else b j) = τ + j ∨ τ + 5 ≤ (if j = 3 then τ + 3 else if j = 2 then τ + 2 else if j = 1 then τ + 1 else if j = 0 then τ + 0 else b j) := fun j hj => by
  by_cases e : j = 3
  ·subst e; exact .inl rfl
  ·rw [if_neg e]; exact hb2 j hj
 obtain ⟨u4, h4, a4, l4, H4, c4, r4, o4⟩ := reb1W e t k τ he hk 4 (by decide) h3 _ u3 w H3 c3 (r3 _ (r2 _ (r1 _ (r0 _ (hr 4 (by decide)))))) (fun i hi hne => by rcases hb3 i hi with e | e <;> omega) (fun i hi => by rcases hb3 i hi with e | e <;> omega) (hb3 4 (by decide))
 have eq : ∀ j, j < 5 → (if j = 4 then τ + 4 else if j = 3 then τ + 3 else if j = 2 then τ + 2 else if j = 1 then τ + 1 else if j = 0 then τ + 0 else b j) = τ + j := fun j hj => by
  match j, hj with
  | 0, _ => rfl
  | 1, _ => rfl
  | 2, _ => rfl
  | 3, _ => rfl
  | 4, _ => rfl
 refine ⟨u4, h4, ?_, by rw [l4, l3, l2, l1, l0], ?_, ?_, fun i hi hne => by rw [o4 i hi hne, o3 i hi hne, o2 i hi hne, o1 i hi hne, o0 i hi hne]⟩
 ·simp only [rebA]
  rw [show reb1 τ ⟨e, h⟩ (t, 0, 3) = ⟨e, h0⟩ from a0, show reb1 (τ + 1) ⟨e, h0⟩ (t, 1, 3) = ⟨e, h1⟩ from a1, show reb1 (τ + 1 + 1) ⟨e, h1⟩ (t, 2, 5) = ⟨e, h2⟩ from a2, show reb1 (τ + 1 + 1 + 1) ⟨e, h2⟩ (t, 3, 3) = ⟨e, h3⟩ from a3, show reb1 (τ + 1 + 1 + 1 + 1) ⟨e, h3⟩ (t, 4, 1) = ⟨e, h4⟩ from a4]
 ·exact WH.of (fun j hj => by
   have := H4.r j hj
   rwa [eq j hj] at this) (fun i j hi hj hne => by omega) H4.cl
 ·rw [c4]
  rfl
def rowsW (w : Wd) : AH := [.row 0 3 (w.bs.map Bv), .row 0 3 (w.ps.map Pv), .row 0 5 (w.wire.map Mv), .row 0 3 (w.deeds.map Dv), .row 0 1 (w.did.map dv)]
def Hd (P : AH) (k : Nat) (w : Wd) : AH := P.set k (.var (WC (fun j => P.length + j) (fun _ => 0) w)) ++ rowsW w
theorem rowsW_get (w : Wd) (j : Nat) (hj : j < 5) : (rowsW w)[j]? = some (.row 0 (szW j) (esW w j)) := by
 match j, hj with
 | 0, _ => rfl
 | 1, _ => rfl
 | 2, _ => rfl
 | 3, _ => rfl
 | 4, _ => rfl
theorem Hd_len (P : AH) (k : Nat) (w : Wd) : (Hd P k w).length = P.length + 5 := by simp [Hd, rowsW]
theorem Hd_row (P : AH) (k : Nat) (w : Wd) (j : Nat) (hj : j < 5) : (Hd P k w)[P.length + j]? = some (.row 0 (szW j) (esW w j)) := by
 unfold Hd
 rw [List.getElem?_append_right (by simp), List.length_set, Nat.add_sub_cancel_left, rowsW_get w j hj]
theorem Hd_box (P : AH) (k : Nat) (w : Wd) (hk : k < P.length) : (Hd P k w)[k]? = some (.var (WC (fun j => P.length + j) (fun _ => 0) w)) := gsa_at hk
theorem Hd_old (P : AH) (k : Nat) (w : Wd) (i : Nat) (hi : i < P.length) (hne : i ≠ k) : (Hd P k w)[i]? = P[i]? := gsa_ne hi (Ne.symm hne)
theorem Hd_WH {P : AH} {k : Nat} (w : Wd) (hk : k < P.length) (hcl : Cl P.length P) : WH (Hd P k w) (fun j => P.length + j) (fun _ => 0) w := by
 refine WH.of (fun j hj => Hd_row P k w j hj) (fun i j _ _ h => by omega) ?_
 rw [Hd_len]
 unfold Hd
 refine ((hcl.mono (by omega)).set _ (cel_WC fun j hj => by omega)).app ?_
 rfl
theorem normH_get (L : Nat) (R : List Nat) (h0 : AH) : ∀ (h : AH) (i k : Nat), (normH L R h0 i h)[k]? = (h[k]?).map (normB L R h0 (i + k))
 | [], _, _ => rfl
 | B :: h, i, 0 => rfl
 | B :: h, i, k + 1 => by
  simp only [normH, List.getElem?_cons_succ, normH_get L R h0 h (i + 1) k]
  rw [show i + 1 + k = i + (k + 1) by omega]
theorem normB_cl {L n : Nat} {R : List Nat} {h0 : AH} {i : Nat} {B : AB} (hn : n ≤ L) (hR : ∀ r ∈ R, n ≤ r) (hB : clB n B = true) (hi : R.contains i = false) : normB L R h0 i B = B := by
 cases B with
 | var cs =>
  simp only [normB]
  congr 1
  simp only [clB, List.all_eq_true] at hB
  conv => rhs; rw [← List.map_id cs]
  exact List.map_congr_left fun x hx => normS_cel hn hR (hB x hx)
 | row v sz es => simp only [normB, hi]; rfl
 | fro v sz es => simp only [normB, hi]; rfl
 | gone => rfl
 | mp es => simp [clB] at hB
theorem headW (e : Env) (t k τ : Nat) (he : e t = .ptr k 0 0 0) (P : AH) (hτ : τ = P.length) (hk : k < τ) (hP : Cl τ P) (h : AH) (b u : Nat → Nat) (w : Wd) (H : WH h b u w) (hc : h[k]? = some (.var (WC b u w))) (hr : ∀ j, j < 5 → RowAt h (τ + j)) (hb : ∀ j, j < 5 → b j = τ + j ∨ τ + 5 ≤ b j)
  (ho : ∀ i, i < τ → i ≠ k → h[i]? = P[i]?) (keep : List Nat) :
  ∃ h', head (τ + 5) [τ, τ + 1, τ + 2, τ + 3, τ + 4] keep (rebA τ [(t, 0, 3), (t, 1, 3), (t, 2, 5), (t, 3, 3), (t, 4, 1)] ⟨e, h⟩) = (headK (τ + 5) [τ, τ + 1, τ + 2, τ + 3, τ + 4] h' e keep, Hd P k w) := by
 obtain ⟨v, h', a, l, H', c, o⟩ := rebAW e t k τ he hk h b u w H hc hr hb
 refine ⟨h', ?_⟩
 rw [a, head_eq]
 congr 1
 have hl : τ + 5 ≤ h'.length := by
  have := H'.lt 4 (by decide)
  omega
 apply List.ext_getElem?
 intro i
 rw [normH_get, Nat.zero_add]
 by_cases hi : i < τ + 5
 ·rw [List.getElem?_take_of_lt hi]
  by_cases h1 : i < τ
  ·have hni : [τ, τ + 1, τ + 2, τ + 3, τ + 4].contains i = false := by
    rw [Bool.eq_false_iff]
    intro hh
    simp at hh
    omega
   by_cases h2 : i = k
   ·subst h2
    rw [c, Hd_box P i w (by omega)]
    simp only [Option.map_some, normB, Option.some.injEq, AB.var.injEq]
    subst hτ
    have r0 := H'.r0
    simp only [Nat.add_zero] at r0
    simp [WC, normS, r0, H'.r1, H'.r2, H'.r3, H'.r4]
   ·rw [o i h1 h2, ho i h1 h2, Hd_old P k w i (by omega) h2]
    cases hB : P[i]? with
    | none => rfl
    | some B => rw [Option.map_some, normB_cl (n := τ) (by omega) (fun r hr => by simp at hr; omega) (List.all_eq_true.1 hP B (List.mem_of_getElem? hB)) hni]
  ·obtain ⟨j, rfl⟩ : ∃ j, i = τ + j := ⟨i - τ, by omega⟩
   have hj : j < 5 := by omega
   rw [H'.r j hj]
   have := Hd_row P k w j hj
   rw [← hτ] at this
   rw [this]
   have hcn : [τ, τ + 1, τ + 2, τ + 3, τ + 4].contains (τ + j) = true := by
    simp; omega
   simp only [Option.map_some, normB, hcn, if_true]
 ·rw [List.getElem?_eq_none (by simp; omega), List.getElem?_eq_none (by rw [Hd_len]; omega)]
  rfl
end Go.Proofs.Ytgefdmkmobaefaa

namespace Go.Proofs.Ytgefdmkmobaefaa
open Go.Am Go.Am.Nm Go.Lib Go.Cr
theorem wrap_u8 (k : Nat) : IntKind.u8.wrap (k : Int) = ((k % 256 : Nat) : Int) := by
 unfold IntKind.wrap
 simp [IntKind.bits, IntKind.signed]
def X8 (k : Nat) : AV := .int .u8 (k : Int)
def Xc (x : Ac) : List AV := [X8 x.op, X8 x.who, X8 x.to, X8 x.a0, X8 x.a1, X8 x.a2]
def Xv (x : Ac) : AV := .agg (Xc x)
structure XOK (x : Ac) : Prop where
 op : x.op < 256
 who : x.who < 256
 to : x.to < 256
 a0 : x.a0 < 256
 a1 : x.a1 < 256
 a2 : x.a2 < 256
theorem tmodn (a b : Nat) : ((a : Int)).tmod (b : Int) = ((a % b : Nat) : Int) := by
 rw [Int.tmod_eq_emod_of_nonneg (by omega)]; omega
theorem tdivn (a b : Nat) : ((a : Int)).tdiv (b : Int) = ((a / b : Nat) : Int) := by
 rw [Int.tdiv_eq_ediv_of_nonneg (by omega)]; omega
theorem at3_eq (x : Ac) (k : Nat) : (k % 3 = 0 ∧ x.at3 k = x.a0) ∨ (k % 3 = 1 ∧ x.at3 k = x.a1) ∨ (k % 3 = 2 ∧ x.at3 k = x.a2) := by
 have : k % 3 = 0 ∨ k % 3 = 1 ∨ k % 3 = 2 := by omega
 unfold Ac.at3
 rcases this with h | h | h <;> rw [h] <;> simp
set_option maxHeartbeats 1000000 in
set_option maxRecDepth 20000 in
theorem l17 {n : Nat} (hn : 62 < n) (x : Ac) (hx : XOK x) (P : AH) (cl : Cl P.length P) (k : Nat) (hk : k < P.length) (hP : P[k] = .var [.int .u8 x.op, .int .u8 x.who, .int .u8 x.to, .int .u8 x.a0, .int .u8 x.a1, .int .u8 x.a2]) (e0 : Env) (q3 : e0 3 = .ptr k 0 0 0) :
  iter (round (C19.tab n) [5, 6, 7, 8] [(.exit 0, [5, 6])] c17_1 e0 (P.length + 2) [P.length, P.length + 1]) ([.own P.length 0 0 0, .own (P.length + 1) 0 0 0, .int .i64 ((x.to % 15 + 1 : Nat) : Int), .int .i64 0], P ++ [.row 0 1 [], .row 0 1 []]) =
   some (.exit 0, [.own P.length 0 0 (begL x).1.length, .own (P.length + 1) 0 0 (begL x).2.1.length], P ++ [.row 0 1 ((begL x).1.map I), .row 0 1 ((begL x).2.1.map AV.str)]) := by
 have hnt := fun h0 Y => cl_tail (G := P) rfl cl (P.length + 2) [P.length, P.length + 1] (by omega) (fun r hr => by simp at hr; omega) h0 Y
 have htk := take_tail P
 have hk1 : ¬ k = P.length := by omega
 have hk2 : ¬ k = P.length + 1 := by omega
 have := for_list (f := round (C19.tab n) [5, 6, 7, 8] [(.exit 0, [5, 6])] c17_1 e0 (P.length + 2) [P.length, P.length + 1])
  (fun i (s : List Int × List (List UInt8) × Nat) => ([.own P.length 0 0 s.1.length, .own (P.length + 1) 0 0 s.2.1.length, .int .i64 (s.2.2 : Int), .int .i64 (i : Int)], P ++ [.row 0 1 (s.1.map I), .row 0 1 (s.2.1.map AV.str)])) [0, 1, 2, 3]
  (begS x) (fun s => (.exit 0, [.own P.length 0 0 s.1.length, .own (P.length + 1) 0 0 s.2.1.length], P ++ [.row 0 1 (s.1.map I), .row 0 1 (s.2.1.map AV.str)])) (fun i s => s.2.2 ≤ 15 ∧ s.1.length ≤ i ∧ s.2.1.length ≤ i)
  (fun i hi s hs => by
   obtain ⟨l, ps, bits⟩ := s
   obtain ⟨h1, h2, h3⟩ := hs
   simp only at h1 h2 h3
   have hi4 : i < 4 := hi
   have hgi : ([0, 1, 2, 3] : List Nat)[i] = i := by
    match i, hi4 with
    | 0, _ => rfl
    | 1, _ => rfl
    | 2, _ => rfl
    | 3, _ => rfl
   rw [hgi]
   have b1 : ((bits : Int)).tmod 2 = ((bits % 2 : Nat) : Int) := tmodn bits 2
   have b2 : ((bits : Int)).tdiv 2 = ((bits / 2 : Nat) : Int) := tdivn bits 2
   unfold begS
   by_cases c : bits % 2 = 1
   ·rw [if_pos c]
    refine ⟨⟨by simp only; omega, by simp; omega, by simp; omega⟩, ?_⟩
    have b3 : ((l.length : Int) + 1).tmod 3 = (((l.length + 1) % 3 : Nat) : Int) := tmodn (l.length + 1) 3
    have u1 : ∀ a : Nat, IntKind.u8.wrap ((a : Int) + IntKind.u8.wrap (i : Int)) = (((a + i) % 256 : Nat) : Int) := fun a => by
     rw [wrap_u8, show (a : Int) + ((i % 256 : Nat) : Int) = ((a + i % 256 : Nat) : Int) by omega, wrap_u8]
     congr 1
     omega
    rcases at3_eq x (l.length + 1) with ⟨m1, m2⟩ | ⟨m1, m2⟩ | ⟨m1, m2⟩
    ·rw [m1] at b3
     have h46 := s46 (n := n) hn ((x.a0 + i) % 256) (Nat.mod_lt _ (by decide))
     push_cast at h46
     simp -implicitDefEqProofs (disch := omega) [round_eq, b17_1, q3, hi4, b1, b2, c, b3, gap_l, gap_r, sap_l, sap_r, hk, hP, hnt, htk, a46, h46, u1, m2, hk1, hk2]
     done
    ·rw [m1] at b3
     have h46 := s46 (n := n) hn ((x.a1 + i) % 256) (Nat.mod_lt _ (by decide))
     push_cast at h46
     simp -implicitDefEqProofs (disch := omega) [round_eq, b17_1, q3, hi4, b1, b2, c, b3, gap_l, gap_r, sap_l, sap_r, hk, hP, hnt, htk, a46, h46, u1, m2, hk1, hk2]
     done
    ·rw [m1] at b3
     have h46 := s46 (n := n) hn ((x.a2 + i) % 256) (Nat.mod_lt _ (by decide))
     push_cast at h46
     simp -implicitDefEqProofs (disch := omega) [round_eq, b17_1, q3, hi4, b1, b2, c, b3, gap_l, gap_r, sap_l, sap_r, hk, hP, hnt, htk, a46, h46, u1, m2, hk1, hk2]
     done
   ·rw [if_neg c]
    refine ⟨⟨by simp only; omega, by simp only; omega, by simp only; omega⟩, ?_⟩
    have c' : bits % 2 = 0 := by omega
    simp -implicitDefEqProofs (disch := omega) [round_eq, b17_1, q3, hi4, b1, b2, c', gap_l, gap_r, sap_l, sap_r, hk, hP, hnt, htk, hk1, hk2]
    done)
  (fun s hs => by
   simp -implicitDefEqProofs (disch := omega) [round_eq, b17_1, gap_l, gap_r]
   done) ([], [], x.to % 15 + 1) ⟨by simp only; omega, Nat.le_refl _, Nat.le_refl _⟩
 exact this
end Go.Proofs.Ytgefdmkmobaefaa

namespace Go.Proofs.Ytgefdmkmobaefaa
open Go.Am Go.Am.Nm Go.Lib Go.Cr
theorem szD (l : List De) : szOk 3 (l.map Dv) = true := by simp [szOk, Dv]
theorem WH.upd {h : AH} {b u : Nat → Nat} {w : Wd} (H : WH h b u w) (j v : Nat) (hj : j < 5) (w' : Wd) (hs : ∀ i, i < 5 → i ≠ j → esW w' i = esW w i) : WH (h.set (b j) (.row v (szW j) (esW w' j))) b (fun i => if i = j then v else u i) w' := by
 refine WH.of (fun i hi => ?_) H.ne ?_
 ·by_cases e : i = j
  ·subst e
   rw [List.getElem?_set_self (H.lt i hi), if_pos rfl]
  ·rw [List.getElem?_set_ne (H.ne j i hj hi (Ne.symm e)), if_neg e, hs i hi e]
   exact H.r i hi
 ·rw [List.length_set]
  exact H.cl.set _ rfl
theorem begS_len (x : Ac) : ∀ (l : List Nat) (s : List Int × List (List UInt8) × Nat), (l.foldl (begS x) s).1.length ≤ s.1.length + l.length ∧ (l.foldl (begS x) s).2.1.length ≤ s.2.1.length + l.length
 | [], s => ⟨Nat.le_refl _, Nat.le_refl _⟩
 | g :: l, s => by
  rw [List.foldl_cons]
  have := begS_len x l (begS x s g)
  have h1 : (begS x s g).1.length ≤ s.1.length + 1 ∧ (begS x s g).2.1.length ≤ s.2.1.length + 1 := by
   unfold begS
   split <;> simp
  simp only [List.length_cons]
  omega
theorem begL_len (x : Ac) : (begL x).1.length ≤ 4 ∧ (begL x).2.1.length ≤ 4 := by
 have := begS_len x [0, 1, 2, 3] ([], [], x.to % 15 + 1)
 simpa [begL] using this
set_option maxHeartbeats 2000000 in
theorem s17 {n : Nat} (hn : 64 < n) (w : Wd) (x : Ac) (hx : XOK x) (h : AH) (b u : Nat → Nat) (H : WH h b u w) (hw : w.wire.length ≤ 200) (bo : Bo) (hbl : x.who % 4 < w.bs.length) (hbo : bo = w.bs[x.who % 4]) (hbc : bo.cases.length ≤ 1000000) (hbi : 0 ≤ bo.id ∧ bo.id < 8) (hbn : 0 ≤ bo.next) (hdl : w.deeds.length ≤ 1000000) :
  ∃ h' b' u', callA (C19.tab n) 17 [.agg (WC b u w), Xv x] h = some (.agg (WC b' u' (beginW isPth w x)), h') ∧ WH h' b' u' (beginW isPth w x) ∧ Fw h b h' b' := by
 rw [p17 hn, runH_eq]
 have hl := H.lt
 have hb0 := hl 0 (by decide)
 have hb1 := hl 1 (by decide)
 have hb2 := hl 2 (by decide)
 have hb3 := hl 3 (by decide)
 have hb4 := hl 4 (by decide)
 have r0 := (List.getElem?_eq_some_iff.1 H.r0).2
 have r3 := (List.getElem?_eq_some_iff.1 H.r3).2
 have e4 : ((x.who : Int)).tmod 4 = ((x.who % 4 : Nat) : Int) := tmodn _ 4
 have e15 : ((x.to : Int)).tmod 15 = ((x.to % 15 : Nat) : Int) := tmodn _ 15
 have h15 : x.to % 15 < 15 := Nat.mod_lt _ (by decide)
 have hbeg : beginW isPth w x = startW isPth w (x.who % 4) bo (begL x).1 (begL x).2.1 := by
  unfold beginW
  rw [List.getElem?_eq_getElem hbl, ← hbo]
 rw [hbeg]
 have hwho := hx.who
 have hto := hx.to
 have cl3 : Cl (h ++ [AB.var (WC b u w), .var [.int .u8 x.op, .int .u8 x.who, .int .u8 x.to, .int .u8 x.a0, .int .u8 x.a1, .int .u8 x.a2], .var [.lst true [], .lst true [], .lst true [], .lst true [], .lst true []]]).length (h ++ [AB.var (WC b u w), .var [.int .u8 x.op, .int .u8 x.who, .int .u8 x.to, .int .u8 x.a0, .int .u8 x.a1, .int .u8 x.a2], .var [.lst true [], .lst true [], .lst true [], .lst true [], .lst true []]]) := by
  refine (H.cl.mono (by simp)).app ?_
  simp only [Cl, List.all_cons, List.all_nil, Bool.and_true, Bool.and_eq_true]
  refine ⟨cel_WC fun j hj => by have := hl j hj; simp; omega, ?_, ?_⟩ <;> simp [clB, cel, AV.isE, AV.isS]
 have h17 := l17 (n := 64) (by decide) x hx _ cl3 (h.length + 1) (by simp) (by simp)
 rw [show (h ++ [AB.var (WC b u w), .var [.int .u8 x.op, .int .u8 x.who, .int .u8 x.to, .int .u8 x.a0, .int .u8 x.a1, .int .u8 x.a2], .var [.lst true [], .lst true [], .lst true [], .lst true [], .lst true []]]).length = h.length + 3 by simp] at h17
 simp only [List.append_assoc, List.cons_append, List.nil_append, Nat.add_assoc, Nat.reduceAdd, WC] at h17
 obtain ⟨k, hk⟩ : ∃ k, k = x.who % 4 := ⟨_, rfl⟩
 simp only [← hk] at hbl hbo e4 ⊢
 obtain ⟨q, hq⟩ : ∃ q, q = x.to % 15 := ⟨_, rfl⟩
 rw [← hq] at e15 h15 h17
 obtain ⟨gl, hgl⟩ : ∃ gl, gl = (begL x).1 := ⟨_, rfl⟩
 obtain ⟨gp, hgp⟩ : ∃ gp, gp = (begL x).2.1 := ⟨_, rfl⟩
 rw [← hgl, ← hgp] at h17 ⊢
 have hgll : gl.length ≤ 4 := by rw [hgl]; exact (begL_len x).1
 have hgpl : gp.length ≤ 4 := by rw [hgp]; exact (begL_len x).2
 have h12 := s12 (n := 64) (by decide) bo gl gp false false (by omega) (by omega) hbc hbi hbn
 obtain ⟨st, hst⟩ : ∃ st, st = startP isPth bo gl gp := ⟨_, rfl⟩
 rw [← hst] at h12
 obtain ⟨fo, hfo⟩ : ∃ fo, fo = decide (mayP isPth bo gl gp ≠ 0) := ⟨_, rfl⟩
 rw [← hfo] at h12
 have hnt := fun h0 Y => cl_tail (G := h) rfl H.cl (h.length + 5) [h.length + 3, h.length + 4] (by omega) (fun r hr => by simp at hr; omega) h0 Y
 have htk := take_tail h
 have hq : ∀ i, i < h.length → ¬ i = h.length + 3 ∧ ¬ i = h.length + 4 ∧ i < h.length + 5 := fun i hi => ⟨by omega, by omega, by omega⟩
 push_cast at h17
 simp only [Bv] at h12
 have n03 : ¬ b 0 = b 3 := H.ne 0 3 (by decide) (by decide) (by decide)
 have hst4 : st.2.2.2 = mayP isPth bo gl gp := by
  rw [hst]; unfold startP
  by_cases c : mayP isPth bo gl gp = 0
  ·rw [if_pos c, c]
  ·rw [if_neg c]
 have hml : st.2.2.1.length ≤ 1000000 := by
  rw [hst]; unfold startP
  by_cases c : mayP isPth bo gl gp = 0
  ·rw [if_pos c]; simp; omega
  ·rw [if_neg c]; simp
 obtain ⟨Z, hZ⟩ : ∃ Z : AB, Z = .var [AV.lst true [], AV.lst true [], AV.lst true [], AV.lst true [], AV.lst true []] := ⟨_, rfl⟩
 by_cases c0 : st.2.2.2 = 0
 ·obtain ⟨d, hd⟩ : ∃ d, d = (⟨st.2.1, false, gl, false, gp⟩ : De) := ⟨_, rfl⟩
  obtain ⟨W, hW⟩ : ∃ W : Wd, W = { w with bs := w.bs.set k st.1, deeds := w.deeds ++ [d] } := ⟨_, rfl⟩
  have hsw : startW isPth w k bo gl gp = sendW W st.2.2.1 := by
   unfold startW
   rw [← hst, if_pos (by rw [← hst4]; exact c0), hW, hd]
  rw [hsw]
  obtain ⟨T, hT⟩ : ∃ T : AH, T = [AB.var [AV.own (b 0) (u 0) 0 w.bs.length, AV.own (b 1) (u 1) 0 w.ps.length, AV.own (b 2) (u 2) 0 w.wire.length, AV.own (b 3) (u 3 + 1) 0 (w.deeds.length + 1), AV.own (b 4) (u 4) 0 w.did.length],
   AB.var [.int .u8 x.op, .int .u8 x.who, .int .u8 x.to, .int .u8 x.a0, .int .u8 x.a1, .int .u8 x.a2], Z, AB.fro 0 1 (gl.map I), AB.fro 0 1 (gp.map AV.str), AB.var [I st.1.id, I st.1.next, AV.lst st.1.fc (st.1.cases.map Cv)]] := ⟨_, rfl⟩
  have HA : WH ((h.set (b 0) (.row (u 0) 3 ((w.bs.map Bv).set k (Bv st.1)))).set (b 3) (.row (u 3 + 1) 3 (w.deeds.map Dv ++ [Dv d])) ++ T) b (fun j => if j = 3 then u 3 + 1 else u j) W := by
   have h1 := (H.upd 0 (u 0) (by decide) { w with bs := w.bs.set k st.1 } (fun i hi hne => by
    match i, hi with
    | 0, _ => exact absurd rfl hne
    | 1, _ => rfl
    | 2, _ => rfl
    | 3, _ => rfl
    | 4, _ => rfl)).upd 3 (u 3 + 1) (by decide) W (fun i hi hne => by
    rw [hW]
    match i, hi with
    | 0, _ => rfl
    | 1, _ => rfl
    | 2, _ => rfl
    | 3, _ => exact absurd rfl hne
    | 4, _ => rfl)
   have e : (fun i => if i = 3 then u 3 + 1 else if i = 0 then u 0 else u i) = (fun j => if j = 3 then u 3 + 1 else u j) := by
    funext i
    by_cases e : i = 0
    ·subst e; rfl
    ·simp [e]
   rw [e] at h1
   have e2 : (esW W 3) = w.deeds.map Dv ++ [Dv d] := by rw [hW]; simp [esW]
   have e3 : esW { w with bs := w.bs.set k st.1 } 0 = (w.bs.map Bv).set k (Bv st.1) := by simp [esW, List.map_set]
   rw [e2, e3] at h1
   refine h1.app ?_
   have hlen : ∀ j, j < 5 → b j < (((h.set (b 0) (.row (u 0) 3 ((w.bs.map Bv).set k (Bv st.1)))).set (b 3) (.row (u 3 + 1) 3 (w.deeds.map Dv ++ [Dv d]))) ++ T).length := fun j hj => by
    have := hl j hj
    simp; omega
   rw [hT, hZ]
   rw [hT, hZ] at hlen
   simp only [Cl, List.all_cons, List.all_nil, Bool.and_true, Bool.and_eq_true]
   refine ⟨?_, ?_, ?_, rfl, rfl, ?_⟩
   ·simp only [clB, List.all_cons, List.all_nil, cel, Bool.and_true, Bool.and_eq_true, decide_eq_true_eq]
    exact ⟨hlen 0 (by decide), hlen 1 (by decide), hlen 2 (by decide), hlen 3 (by decide), hlen 4 (by decide)⟩
   all_goals simp [clB, cel, AV.isE, AV.isS]
  obtain ⟨h2, b2, u2, e47, H2, F2⟩ := s47 (n := 64) (by decide) W st.2.2.1 fo _ _ _ HA (by rw [hW]; exact hw) hml
  have hres : ∃ hlt : h.length + 2 < h2.length, h2[h.length + 2] = Z := by
   have := F2.old (h.length + 2) (by simp [hT]) fun j hj => by have := hl j hj; omega
   rw [List.getElem?_append_right (by simp)] at this
   simp only [List.length_set, hT, Nat.add_sub_cancel_left, List.getElem?_cons_succ, List.getElem?_cons_zero] at this
   exact List.getElem?_eq_some_iff.1 this
  obtain ⟨p2, hp2⟩ := hres
  rw [hZ] at hp2
  refine ⟨h2.set (h.length + 2) (.var (WC b2 u2 (sendW W st.2.2.1))), b2, u2, ?_, ?_, ?_⟩
  ·have hWl : W.bs.length = w.bs.length ∧ W.ps.length = w.ps.length ∧ W.wire.length = w.wire.length ∧ W.deeds.length = w.deeds.length + 1 ∧ W.did.length = w.did.length := by rw [hW]; simp
   simp only [WC, hWl, if_true, show ¬ (0 : Nat) = 3 from by decide, show ¬ (1 : Nat) = 3 from by decide, show ¬ (2 : Nat) = 3 from by decide, show ¬ (4 : Nat) = 3 from by decide, if_false, hT, hZ, Bv, hd, Dv] at e47
   simp -implicitDefEqProofs (disch := omega) [c17, WC, Xv, Xc, X8, e4, e15, gap_l, gap_r, sap_l, sap_r, hnt, htk, hq _ hb0, hq _ hb1, hq _ hb2, hq _ hb3, hq _ hb4]
   rw [h17 _ (by simp -implicitDefEqProofs (disch := omega))]
   simp -implicitDefEqProofs (disch := omega) [e4, gsa_at, gsa_ne, gsa_ge, ssa_at, ssa_ge, r0, hb0, hb3, r3, gap_l, gap_r, sap_l, sap_r, hbl, ← hbo, Bv, a12, h12, n03, c0, e47, Dv, szD, dsp, dsp2, dgp, dgp3, dgg, dgg3, dsg2, dsg3, ds1, p2, hp2]
   done
  ·exact H2.other _ _ (fun j hj => by
    rcases F2.new j hj with e | e
    ·rw [e]; have := hl j hj; omega
    ·simp [hT] at e; omega) (cel_WC H2.lt)
  ·have F1 : Fz h.length h b ((h.set (b 0) (.row (u 0) 3 ((w.bs.map Bv).set k (Bv st.1)))).set (b 3) (.row (u 3 + 1) 3 (w.deeds.map Dv ++ [Dv d])) ++ T) b := ((Fz.setb h.length h b 0 (by decide) _).trans (Fz.setb h.length _ b 3 (by decide) _)).trans (Fz.app b (by simp) T)
   exact ((F1.trans (F2.z (N := h.length) (by simp))).trans (Fz.setk h.length h2 b2 (h.length + 2) (by omega) _)).w
 ·obtain ⟨W, hW⟩ : ∃ W : Wd, W = { w with bs := w.bs.set k st.1 } := ⟨_, rfl⟩
  have hsw : startW isPth w k bo gl gp = sendW W st.2.2.1 := by
   unfold startW
   rw [← hst, if_neg (by rw [← hst4]; exact c0), hW]
  rw [hsw]
  obtain ⟨T, hT⟩ : ∃ T : AH, T = [AB.var [AV.own (b 0) (u 0) 0 w.bs.length, AV.own (b 1) (u 1) 0 w.ps.length, AV.own (b 2) (u 2) 0 w.wire.length, AV.own (b 3) (u 3) 0 w.deeds.length, AV.own (b 4) (u 4) 0 w.did.length],
   AB.var [.int .u8 x.op, .int .u8 x.who, .int .u8 x.to, .int .u8 x.a0, .int .u8 x.a1, .int .u8 x.a2], Z, AB.fro 0 1 (gl.map I), AB.fro 0 1 (gp.map AV.str), AB.var [I st.1.id, I st.1.next, AV.lst st.1.fc (st.1.cases.map Cv)]] := ⟨_, rfl⟩
  have HA : WH (h.set (b 0) (.row (u 0) 3 ((w.bs.map Bv).set k (Bv st.1))) ++ T) b u W := by
   have h1 := H.upd 0 (u 0) (by decide) W (fun i hi hne => by
    rw [hW]
    match i, hi with
    | 0, _ => exact absurd rfl hne
    | 1, _ => rfl
    | 2, _ => rfl
    | 3, _ => rfl
    | 4, _ => rfl)
   have e : (fun i => if i = 0 then u 0 else u i) = u := by
    funext i
    by_cases e : i = 0
    ·subst e; rfl
    ·simp [e]
   rw [e] at h1
   have e3 : esW W 0 = (w.bs.map Bv).set k (Bv st.1) := by rw [hW]; simp [esW, List.map_set]
   rw [e3] at h1
   refine h1.app ?_
   have hlen : ∀ j, j < 5 → b j < ((h.set (b 0) (.row (u 0) 3 ((w.bs.map Bv).set k (Bv st.1)))) ++ T).length := fun j hj => by
    have := hl j hj
    simp; omega
   rw [hT, hZ]
   rw [hT, hZ] at hlen
   simp only [Cl, List.all_cons, List.all_nil, Bool.and_true, Bool.and_eq_true]
   refine ⟨?_, ?_, ?_, rfl, rfl, ?_⟩
   ·simp only [clB, List.all_cons, List.all_nil, cel, Bool.and_true, Bool.and_eq_true, decide_eq_true_eq]
    exact ⟨hlen 0 (by decide), hlen 1 (by decide), hlen 2 (by decide), hlen 3 (by decide), hlen 4 (by decide)⟩
   all_goals simp [clB, cel, AV.isE, AV.isS]
  obtain ⟨h2, b2, u2, e47, H2, F2⟩ := s47 (n := 64) (by decide) W st.2.2.1 fo _ _ _ HA (by rw [hW]; exact hw) hml
  have hres : ∃ hlt : h.length + 2 < h2.length, h2[h.length + 2] = Z := by
   have := F2.old (h.length + 2) (by simp [hT]) fun j hj => by have := hl j hj; omega
   rw [List.getElem?_append_right (by simp)] at this
   simp only [List.length_set, hT, Nat.add_sub_cancel_left, List.getElem?_cons_succ, List.getElem?_cons_zero] at this
   exact List.getElem?_eq_some_iff.1 this
  obtain ⟨p2, hp2⟩ := hres
  rw [hZ] at hp2
  refine ⟨h2.set (h.length + 2) (.var (WC b2 u2 (sendW W st.2.2.1))), b2, u2, ?_, ?_, ?_⟩
  ·have hWl : W.bs.length = w.bs.length ∧ W.ps.length = w.ps.length ∧ W.wire.length = w.wire.length ∧ W.deeds.length = w.deeds.length ∧ W.did.length = w.did.length := by rw [hW]; simp
   simp only [WC, hWl, hT, hZ, Bv] at e47
   simp -implicitDefEqProofs (disch := omega) [c17, WC, Xv, Xc, X8, e4, e15, gap_l, gap_r, sap_l, sap_r, hnt, htk, hq _ hb0, hq _ hb1, hq _ hb2, hq _ hb3, hq _ hb4]
   rw [h17 _ (by simp -implicitDefEqProofs (disch := omega))]
   simp -implicitDefEqProofs (disch := omega) [e4, gsa_at, gsa_ne, gsa_ge, ssa_at, ssa_ge, r0, hb0, hb3, r3, gap_l, gap_r, sap_l, sap_r, hbl, ← hbo, Bv, a12, h12, n03, c0, e47, Dv, szD, dsp, dsp2, dgp, dgp3, dgg, dgg3, dsg2, dsg3, ds1, p2, hp2]
   done
  ·exact H2.other _ _ (fun j hj => by
    rcases F2.new j hj with e | e
    ·rw [e]; have := hl j hj; omega
    ·simp [hT] at e; omega) (cel_WC H2.lt)
  ·have F1 : Fz h.length h b (h.set (b 0) (.row (u 0) 3 ((w.bs.map Bv).set k (Bv st.1))) ++ T) b := (Fz.setb h.length h b 0 (by decide) _).trans (Fz.app b (by simp) T)
   exact ((F1.trans (F2.z (N := h.length) (by simp))).trans (Fz.setk h.length h2 b2 (h.length + 2) (by omega) _)).w
end Go.Proofs.Ytgefdmkmobaefaa

namespace Go.Proofs.Ytgefdmkmobaefaa
open Go.Am Go.Am.Nm Go.Lib Go.Cr
section
variable {PS : List (List UInt8)} {w : Wd}
theorem grs_le {d : De} (h : DeOK isPth PS d) : d.grs.length ≤ 4 := by
 have := sub_len (A := d.grs) (B := [0, 1, 2, 3]) (up_nodup h.up) fun x hx => by
  have := h.le x hx
  have h4 : x = 0 ∨ x = 1 ∨ x = 2 ∨ x = 3 := by omega
  rcases h4 with e | e | e | e <;> simp [e]
 simpa using this
theorem inv_okC (H : Inv isPth clsh PS w) {k : Nat} {b : Bo} (hb : w.bs[k]? = some b) : ∀ c ∈ b.cases, c.de.grs.length = c.de.pas.length ∧ c.de.grs.length ≤ 4 ∧ c.heard.length ≤ 4 ∧ c.heard.Pairwise (· < ·) := fun c hc => by
 have C := H.ca k c (by rw [cs_of hb]; exact hc)
 have D := H.de c.de C.de
 have := grs_le D
 have := C.lt
 exact ⟨D.len, by omega, by omega, C.up⟩
theorem inv_okB (H : Inv isPth clsh PS w) {k : Nat} {b : Bo} (hb : w.bs[k]? = some b) : OkB b := by
 have := (H.bi k b hb).2.2
 refine ⟨by omega, fun c hc => ?_⟩
 obtain ⟨h1, h2, h3, h4⟩ := inv_okC H hb c hc
 exact ⟨⟨by omega, by omega, by omega⟩, h4⟩
theorem inv_okA (H : Inv isPth clsh PS w) {k : Nat} {b : Bo} (hb : w.bs[k]? = some b) : OkA b := by
 have := (H.bi k b hb).2.2
 refine ⟨by omega, fun c hc => ?_⟩
 obtain ⟨h1, h2, h3, h4⟩ := inv_okC H hb c hc
 exact ⟨h1, by omega, by omega⟩
theorem inv_rd (H : Inv isPth clsh PS w) (k : Nat) : (rd w k).length ≤ w.deeds.length ∧ (dn w k).length ≤ w.deeds.length := by
 have P := H.pt k
 have h1 := sub_len P.nd (B := w.deeds.map fun d => d.id) fun x hx => by
  obtain ⟨r, hr, rfl⟩ := List.mem_map.1 hx
  obtain ⟨d, hd, e, _⟩ := P.re r hr
  exact List.mem_map.2 ⟨d, hd, e⟩
 have h2 := sub_len P.dd (B := w.deeds.map fun d => d.id) fun x hx => by
  obtain ⟨⟨d, hd, e, _⟩, _⟩ := P.di x hx
  exact List.mem_map.2 ⟨d, hd, e⟩
 simp only [List.length_map] at h1 h2
 exact ⟨h1, h2⟩
theorem good_to (H : Inv isPth clsh PS w) {m : Mg} (hm : GoodM w m) : 0 ≤ m.to ∧ m.to < 4 := by
 obtain ⟨d, hd, _, hm⟩ := hm
 have hb := (H.id d hd).2.1
 have hg := (H.de d hd).le
 rcases hm with hm | hm | hm | hm | hm | hm | hm
 ·exact hg _ (List.of_mem_zip hm.2.2).1
 ·have := hm.2.1; omega
 ·have := hm.2.1; omega
 ·exact hg _ hm.2.2.1
 ·have := hm.2.1; omega
 ·exact hg _ hm.2.2.1
 ·have := hm.2.1; omega
theorem s18 {n : Nat} (hn : 65 < n) (Hi : Inv isPth clsh PS w) (hdl : w.deeds.length ≤ 1000000) (i : Nat) (hi : i < w.wire.length) (t : Bool) (h : AH) (b u : Nat → Nat) (H : WH h b u w) :
  ∃ h' b' u', callA (C19.tab n) 18 [.agg (WC b u w), .int .i64 i, .bool t] h = some (.agg (WC b' u' (takeW isPth clsh w i t)), h') ∧ WH h' b' u' (takeW isPth clsh w i t) ∧ Fw h b h' b' := by
 have hg := Hi.ms _ (List.getElem_mem hi)
 obtain ⟨m, hm⟩ : ∃ m, m = w.wire[i] := ⟨_, rfl⟩
 rw [← hm] at hg
 have ht := good_to Hi hg
 obtain ⟨k, hk⟩ : ∃ k : Nat, m.to = (k : Int) := ⟨m.to.toNat, by omega⟩
 have hk4 : k < 4 := by omega
 have hkb : k < w.bs.length := by rw [Hi.lb]; exact hk4
 have hkp : k < w.ps.length := by rw [Hi.lp]; exact hk4
 have hkd : k < w.did.length := by rw [Hi.ld]; exact hk4
 have gb := List.getElem?_eq_getElem hkb
 have gp := List.getElem?_eq_getElem hkp
 have gd := List.getElem?_eq_getElem hkd
 have hr := inv_rd Hi k
 rw [rd_of gp, dn_of gp] at hr
 have hdd := Hi.dq k _ gd
 rw [dn_of gp] at hdd
 have hne : ¬ (m.to < 0 ∨ 4 ≤ m.to) := by omega
 have hto : m.to.toNat = k := by rw [hk]; simp
 have hw := Hi.wi
 have eq : takeW isPth clsh w i t = hearW isPth clsh (tellW (if t = true then w else lossW w i) k w.bs[k] m) k w.ps[k] w.did[k] m := by
  unfold takeW
  rw [List.getElem?_eq_getElem hi, ← hm]
  cases t <;> simp only [comeW, if_neg hne, hto, Bool.false_eq_true, if_false, if_true, lossW, gb, gp, gd]
 rw [eq]
 cases t with
 | false =>
  simp only [Bool.false_eq_true, if_false]
  exact s18_f hn w i h b u H hi hw m hm k hk hk4 _ hkb rfl _ hkp rfl (inv_okB Hi gb) (by omega) (by omega) _ hkd rfl (by rw [hdd]; omega)
 | true =>
  simp only [if_true]
  exact s18_t hn w i h b u H hi hw m hm k hk hk4 _ hkb rfl _ hkp rfl (inv_okB Hi gb) (by omega) (by omega) _ hkd rfl (by rw [hdd]; omega)
end
theorem finW {h : AH} {b : Nat → Nat} {h1 : AH} {b1 : Nat → Nat} (F1 : Fz h.length h b h1 b1) {h2 : AH} {b2 u2 : Nat → Nat} {W : Wd} (H2 : WH h2 b2 u2 W) (F2 : Fw h1 b1 h2 b2) (q : Nat) (hq : h.length ≤ q) (hq1 : q < h1.length) (hqb : ∀ j, j < 5 → q ≠ b1 j) :
  WH (h2.set q (.var (WC b2 u2 W))) b2 u2 W ∧ Fw h b (h2.set q (.var (WC b2 u2 W))) b2 :=
 ⟨H2.other _ _ (fun j hj => by
  rcases F2.new j hj with e | e
  ·rw [e]; exact hqb j hj
  ·omega) (cel_WC H2.lt), ((F1.trans (F2.z (N := h.length) F1.le)).trans (Fz.setk h.length h2 b2 q hq _)).w⟩
theorem Fw.keep {h1 h2 : AH} {b1 b2 : Nat → Nat} (F2 : Fw h1 b1 h2 b2) {q : Nat} {B : AB} (hB : h1[q]? = some B) (hqb : ∀ j, j < 5 → q ≠ b1 j) : ∃ hlt : q < h2.length, h2[q] = B := by
 have := F2.old q (List.getElem?_eq_some_iff.1 hB).1 hqb
 rw [hB] at this
 exact List.getElem?_eq_some_iff.1 this
end Go.Proofs.Ytgefdmkmobaefaa

namespace Go.Proofs.Ytgefdmkmobaefaa
open Go.Am Go.Am.Nm Go.Lib Go.Cr
theorem startW_dl (w : Wd) (k : Nat) (b : Bo) (g : List Int) (p : List (List UInt8)) : (startW isPth w k b g p).deeds.length ≤ w.deeds.length + 1 := by
 unfold startW sendW
 simp only
 split <;> simp
set_option maxHeartbeats 4000000 in
theorem s19 {n : Nat} (hn : 69 < n) {PS : List (List UInt8)} {w : Wd} (Hi : Inv isPth clsh PS w) (hdl : w.deeds.length ≤ 1000000) (x : Ac) (hx : XOK x) (h : AH) (b u : Nat → Nat) (H : WH h b u w) :
  ∃ h' b' u', callA (C19.tab n) 19 [.agg (WC b u w), Xv x] h = some (.agg (WC b' u' (doW isPth clsh w x)), h') ∧ WH h' b' u' (doW isPth clsh w x) ∧ Fw h b h' b' := by
 rw [p19 hn, runH_eq]
 have hl := H.lt
 have hb0 := hl 0 (by decide)
 have hb1 := hl 1 (by decide)
 have hb2 := hl 2 (by decide)
 have hb3 := hl 3 (by decide)
 have hb4 := hl 4 (by decide)
 have r0 := (List.getElem?_eq_some_iff.1 H.r0).2
 have r1 := (List.getElem?_eq_some_iff.1 H.r1).2
 have r2 := (List.getElem?_eq_some_iff.1 H.r2).2
 have hwho := hx.who
 have hto := hx.to
 have hop := hx.op
 have e4 : ((x.who : Int)).tmod 4 = ((x.who % 4 : Nat) : Int) := tmodn _ 4
 have e16 : ((x.op : Int)).tmod 16 = ((x.op % 16 : Nat) : Int) := tmodn _ 16
 have hk4 : x.who % 4 < 4 := Nat.mod_lt _ (by decide)
 have hbl : x.who % 4 < w.bs.length := by rw [Hi.lb]; exact hk4
 have hpl : x.who % 4 < w.ps.length := by rw [Hi.lp]; exact hk4
 have gb := List.getElem?_eq_getElem hbl
 have gp := List.getElem?_eq_getElem hpl
 obtain ⟨bo, hbo⟩ : ∃ bo, bo = w.bs[x.who % 4] := ⟨_, rfl⟩
 obtain ⟨pt, hpt⟩ : ∃ pt, pt = w.ps[x.who % 4] := ⟨_, rfl⟩
 rw [← hbo] at gb
 rw [← hpt] at gp
 have hbi := Hi.bi _ _ gb
 have hr := inv_rd Hi (x.who % 4)
 rw [rd_of gp, dn_of gp] at hr
 have hw := Hi.wi
 have nq : ∀ j, j < 5 → h.length ≠ b j ∧ h.length + 1 ≠ b j := fun j hj => by have := hl j hj; omega
 obtain ⟨Z, hZ⟩ : ∃ Z : AB, Z = .var [AV.lst true [], AV.lst true [], AV.lst true [], AV.lst true [], AV.lst true []] := ⟨_, rfl⟩
 have clZ : ∀ n, clB n Z = true := fun n => by rw [hZ]; simp [clB, cel, AV.isE, AV.isS]
 have app2 : ∀ (V : List AV), clB (h.length + 2) (.var V) = true → WH (h ++ [.var V, Z]) b u w := fun V hV => H.app (by
  simp only [List.length_append, List.length_cons, List.length_nil, Cl, List.all_cons, List.all_nil, hV, clZ, Bool.and_self])
 have hWC : clB (h.length + 2) (.var (WC b u w)) = true := cel_WC fun j hj => by have := hl j hj; omega
 have H2 := app2 _ hWC
 have fz2 : ∀ V : List AV, Fz h.length h b (h ++ [.var V, Z]) b := fun V => Fz.app b (Nat.le_refl _) _
 unfold doW
 rw [gb, gp]
 simp only
 -- a deed begins
 have beginC : x.op % 16 ≤ 2 → ∃ h2 b2 u2, ∃ hlt : h.length + 1 < h2.length, callA (C19.tab 69) 17 [.agg (WC b u w), Xv x] (h ++ [.var (WC b u w), Z]) = some (.agg (WC b2 u2 (beginW isPth w x)), h2) ∧ h2[h.length + 1] = Z ∧ WH (h2.set (h.length + 1) (.var (WC b2 u2 (beginW isPth w x)))) b2 u2 (beginW isPth w x) ∧ Fw h b (h2.set (h.length + 1) (.var (WC b2 u2 (beginW isPth w x)))) b2 := fun _ => by
  obtain ⟨h2, b2, u2, e, Hb, Fb⟩ := s17 (n := 69) (by decide) w x hx _ b u H2 hw bo hbl hbo (by have := hbi.2.2; omega) (by rw [hbi.1]; omega) hbi.2.1 hdl
  obtain ⟨p, hp⟩ := Fb.keep (q := h.length + 1) (B := Z) (by simp) fun j hj => (nq j hj).2
  obtain ⟨f1, f2⟩ := finW (fz2 _) Hb Fb (h.length + 1) (by omega) (by simp) fun j hj => (nq j hj).2
  exact ⟨h2, b2, u2, p, e, hp, f1, f2⟩
 -- messages are sent
 have sendC : ∀ (W : Wd) (V : List AV) (G T : AH) (b1 u1 : Nat → Nat) (l : List Mg) (f : Bool), W.wire.length ≤ 200 → l.length ≤ 1000000 → WH (G ++ (.var V :: Z :: T)) b1 u1 W → G.length = h.length → Fz h.length h b (G ++ (.var V :: Z :: T)) b1 → (∀ j, j < 5 → h.length + 1 ≠ b1 j) → ∃ h2 b2 u2, ∃ hlt : h.length + 1 < h2.length, callA (C19.tab 69) 47 [.agg (WC b1 u1 W), .lst f (l.map Mv)] (G ++ (.var V :: Z :: T)) = some (.agg (WC b2 u2 (sendW W l)), h2) ∧ h2[h.length + 1] = Z ∧ WH (h2.set (h.length + 1) (.var (WC b2 u2 (sendW W l)))) b2 u2 (sendW W l) ∧ Fw h b (h2.set (h.length + 1) (.var (WC b2 u2 (sendW W l)))) b2 := fun W V G T b1 u1 l f hW hl2 HW hG FW hne => by
  obtain ⟨h2, b2, u2, e, Hb, Fb⟩ := s47 (n := 69) (by decide) W l f _ b1 u1 HW hW hl2
  obtain ⟨p, hp⟩ := Fb.keep (q := h.length + 1) (B := Z) (by rw [← hG]; simp) hne
  obtain ⟨f1, f2⟩ := finW FW Hb Fb (h.length + 1) (by omega) (by simp; omega) hne
  exact ⟨h2, b2, u2, p, e, hp, f1, f2⟩
 obtain ⟨o, ho⟩ : ∃ o, o = x.op % 16 := ⟨_, rfl⟩
 obtain ⟨k, hk⟩ : ∃ k, k = x.who % 4 := ⟨_, rfl⟩
 have ho16 : o < 16 := by omega
 simp only [← ho] at beginC e16 ⊢
 simp only [← hk] at e4 hbl hpl hbo hpt gb gp ⊢
 subst hZ
 by_cases c2 : o ≤ 2
 ·rw [if_pos c2]
  obtain ⟨h2, b2, u2, p, e, hp, f1, f2⟩ := beginC c2
  refine ⟨_, b2, u2, ?_, f1, f2⟩
  simp only [WC, Xv, Xc, X8] at e
  have c3 : o = 0 ∨ o = 1 ∨ o = 2 := by omega
  rcases c3 with rfl | rfl | rfl
  ·simp -implicitDefEqProofs (disch := omega) [c19, WC, Xv, Xc, X8, e4, e16, gap_l, gap_r, sap_l, sap_r, e, p, hp]
   done
  ·simp -implicitDefEqProofs (disch := omega) [c19, WC, Xv, Xc, X8, e4, e16, gap_l, gap_r, sap_l, sap_r, e, p, hp]
   done
  ·simp -implicitDefEqProofs (disch := omega) [c19, WC, Xv, Xc, X8, e4, e16, gap_l, gap_r, sap_l, sap_r, e, p, hp]
   done
 ·rw [if_neg c2]
  by_cases c3 : o = 3
  ·rw [if_pos c3]
   have h20 := s20 (n := 69) (by decide) bo (inv_okA Hi gb)
   have hal : (againP bo).length ≤ 1000000 := by
    obtain ⟨q1, q2⟩ := inv_okA Hi gb
    have := flat_len (againC bo) 1000 bo.cases fun c h => againC_len bo c (q2 c h).2.1
    unfold againP
    omega
   obtain ⟨h2, b2, u2, p, e, hp, f1, f2⟩ := sendC w (WC b u w) h [] b u (againP bo) false hw hal H2 rfl (fz2 _) fun j hj => (nq j hj).2
   refine ⟨_, b2, u2, ?_, f1, f2⟩
   simp only [WC] at e
   subst c3
   simp only [Bv] at h20
   simp -implicitDefEqProofs (disch := omega) [c19, WC, Xv, Xc, X8, e4, e16, gap_l, gap_r, sap_l, sap_r, r0, hb0, hbl, ← hbo, Bv, h20, e, p, hp]
   done
  ·rw [if_neg c3]
   by_cases c4 : o = 4
   ·rw [if_pos c4]
    have h22 := s22 (n := 69) (by decide) pt (by omega)
    obtain ⟨h2, b2, u2, p, e, hp, f1, f2⟩ := sendC w (WC b u w) h [] b u (askP pt) false hw (by unfold askP; simp; omega) H2 rfl (fz2 _) fun j hj => (nq j hj).2
    refine ⟨_, b2, u2, ?_, f1, f2⟩
    simp only [WC] at e
    subst c4
    simp only [Pv] at h22
    simp -implicitDefEqProofs (disch := omega) [c19, WC, Xv, Xc, X8, e4, e16, gap_l, gap_r, sap_l, sap_r, r1, hb1, hpl, ← hpt, Pv, h22, e, p, hp]
    done
   ·rw [if_neg c4]
    by_cases c5 : o = 5
    ·rw [if_pos c5]
     subst c5
     cases hcs : bo.cases with
     | nil =>
      refine ⟨_, b, u, ?_, app2 _ hWC |>.other (h.length + 1) (.var (WC b u w)) (fun j hj => (nq j hj).2) (by rw [List.length_append]; exact cel_WC fun j hj => by have := hl j hj; simp; omega), ((fz2 (WC b u w)).trans (Fz.setk h.length _ b (h.length + 1) (by omega) _)).w⟩
      simp -implicitDefEqProofs (disch := omega) [c19, WC, Xv, Xc, X8, e4, e16, gap_l, gap_r, sap_l, sap_r, r0, hb0, hbl, ← hbo, Bv, hcs]
      done
     | cons c l =>
      simp only
      unfold giveW
      obtain ⟨fo, h32⟩ := s32 (n := 69) (by decide) bo c.de.id (inv_okB Hi gb)
      obtain ⟨gv, hgv⟩ : ∃ gv, gv = giveP bo c.de.id := ⟨_, rfl⟩
      have hgl : gv.2.length ≤ 1000000 := by
       rw [hgv]; unfold giveP
       split
       ·simp
       ·rename_i y hy
        have := (inv_okC Hi gb y (List.mem_of_getElem? hy)).2.1
        split <;> simp [allP] <;> omega
      rw [← hgv] at h32 ⊢
      have H0 := H.upd 0 (u 0) (by decide) { w with bs := w.bs.set k gv.1 } (fun i hi hne => by
       match i, hi with
       | 0, _ => exact absurd rfl hne
       | 1, _ => rfl
       | 2, _ => rfl
       | 3, _ => rfl
       | 4, _ => rfl)
      have eu : (fun i => if i = 0 then u 0 else u i) = u := by
       funext i
       by_cases e : i = 0
       ·subst e; rfl
       ·simp [e]
      have eb : esW { w with bs := w.bs.set k gv.1 } 0 = (w.bs.map Bv).set k (Bv gv.1) := by simp [esW, List.map_set]
      rw [eu, eb, show szW 0 = 3 from rfl] at H0
      have H3 := H0.app (Y := (.var (WC b u w) :: .var [AV.lst true [], AV.lst true [], AV.lst true [], AV.lst true [], AV.lst true []] :: [.var [I gv.1.id, I gv.1.next, .lst gv.1.fc (gv.1.cases.map Cv)]])) (by
       simp only [List.length_append, List.length_set, List.length_cons, List.length_nil, Cl, List.all_cons, List.all_nil, Bool.and_true, Bool.and_eq_true]
       exact ⟨cel_WC fun j hj => by have := hl j hj; omega, clZ _, by simp [clB, cel, AV.isE, AV.isS]⟩)
      obtain ⟨h2, b2, u2, p, e, hp, f1, f2⟩ := sendC { w with bs := w.bs.set k gv.1 } (WC b u w) _ [.var [I gv.1.id, I gv.1.next, .lst gv.1.fc (gv.1.cases.map Cv)]] b u gv.2 fo hw hgl H3 (by simp) ((Fz.setb h.length h b 0 (by decide) _).trans (Fz.app b (by simp) _)) fun j hj => (nq j hj).2
      refine ⟨_, b2, u2, ?_, f1, f2⟩
      simp only [WC, Bv, List.length_set] at e
      simp only [Bv, hcs, List.map_cons, Cv] at h32
      have hcl : 0 < bo.cases.length := by rw [hcs]; simp
      simp -implicitDefEqProofs (disch := omega) [c19, WC, Xv, Xc, X8, e4, e16, gsa_at, gsa_ne, gsa_ge, ssa_at, ssa_ge, gap_l, gap_r, sap_l, sap_r, r0, hb0, hbl, ← hbo, Bv, hcs, Cv, h32, szC, dsp, dsp2, dgp, dgp3, dgg, dgg3, dsg2, dsg3, ds1, e, p, hp]
      done
    ·rw [if_neg c5]
     by_cases c6 : o = 6
     ·rw [if_pos c6]
      subst c6
      have h24 := s24 (n := 69) (by decide) bo (by have := hbi.2.2; omega)
      have H0 := H.upd 0 (u 0) (by decide) { w with bs := w.bs.set k (backP bo) } (fun i hi hne => by
       match i, hi with
       | 0, _ => exact absurd rfl hne
       | 1, _ => rfl
       | 2, _ => rfl
       | 3, _ => rfl
       | 4, _ => rfl)
      have eu : (fun i => if i = 0 then u 0 else u i) = u := by
       funext i
       by_cases e : i = 0
       ·subst e; rfl
       ·simp [e]
      have eb : esW { w with bs := w.bs.set k (backP bo) } 0 = (w.bs.map Bv).set k (Bv (backP bo)) := by simp [esW, List.map_set]
      rw [eu, eb, show szW 0 = 3 from rfl] at H0
      have H3 := H0.app (Y := [.var (WC b u w), .var (WC b u w)]) (by
       simp only [List.length_append, List.length_set, List.length_cons, List.length_nil, Cl, List.all_cons, List.all_nil, hWC, Bool.and_self])
      refine ⟨_, b, u, ?_, H3, ((Fz.setb h.length h b 0 (by decide) _).trans (Fz.app b (by simp) _)).w⟩
      simp only [Bv] at h24
      simp -implicitDefEqProofs (disch := omega) [c19, WC, Xv, Xc, X8, e4, e16, gsa_at, gsa_ne, gsa_ge, ssa_at, ssa_ge, gap_l, gap_r, sap_l, sap_r, r0, hb0, hbl, ← hbo, Bv, h24, dsp, dsp2, dgp, dgp3, dgg, dgg3, dsg2, dsg3, ds1]
      done
     ·rw [if_neg c6]
      have n0 : ¬ o = 0 := by omega
      have n1 : ¬ o = 1 := by omega
      have n2 : ¬ o = 2 := by omega
      by_cases cw : w.wire.length = 0
      ·rw [if_pos cw]
       refine ⟨_, b, u, ?_, app2 _ hWC |>.other (h.length + 1) (.var (WC b u w)) (fun j hj => (nq j hj).2) (by rw [List.length_append]; exact cel_WC fun j hj => by have := hl j hj; simp; omega), ((fz2 (WC b u w)).trans (Fz.setk h.length _ b (h.length + 1) (by omega) _)).w⟩
       simp -implicitDefEqProofs (disch := omega) [c19, WC, Xv, Xc, X8, e4, e16, gap_l, gap_r, sap_l, sap_r, n0, n1, n2, c3, c4, c5, c6, r2, hb2, cw]
       done
      ·rw [if_neg cw]
       have ei : ((x.to : Int) + 256 * (x.who : Int)).tmod (w.wire.length : Int) = (((x.to + 256 * x.who) % w.wire.length : Nat) : Int) := tmodn (x.to + 256 * x.who) w.wire.length
       have hil : (x.to + 256 * x.who) % w.wire.length < w.wire.length := Nat.mod_lt _ (by omega)
       obtain ⟨i, hi⟩ : ∃ i, i = (x.to + 256 * x.who) % w.wire.length := ⟨_, rfl⟩
       rw [← hi] at ei hil ⊢
       by_cases c7 : o = 7
       ·rw [if_pos c7]
        subst c7
        obtain ⟨rest, hrest⟩ : ∃ rest, rest = w.wire.take i ++ w.wire.drop (i + 1) := ⟨_, rfl⟩
        have t3 : List.take i (List.take i (w.wire.map Mv)) = List.take i (w.wire.map Mv) := by rw [List.take_take, Nat.min_self]
        have t4 : List.take (w.wire.length - (i + 1)) (List.drop (i + 1) (w.wire.map Mv)) = List.drop (i + 1) (w.wire.map Mv) := List.take_of_length_le (by simp)
        have t5 : List.take i (w.wire.map Mv) ++ List.drop (i + 1) (w.wire.map Mv) = rest.map Mv := by rw [hrest, List.map_append, List.map_take, List.map_drop]
        have t6 : i + (w.wire.length - (i + 1)) = rest.length := by rw [hrest]; simp; omega
        have z1 : szOk 5 (List.take i (w.wire.map Mv)) = true := by rw [← List.map_take]; exact szM _
        have z2 : szOk 5 (List.drop (i + 1) (w.wire.map Mv)) = true := by rw [← List.map_drop]; exact szM _
        unfold lossW
        rw [← hrest]
        have hWC' : clB (h.length + 3) (.var [.own (b 0) (u 0) 0 w.bs.length, .own (b 1) (u 1) 0 w.ps.length, .own (h.length + 2) 1 0 rest.length, .own (b 3) (u 3) 0 w.deeds.length, .own (b 4) (u 4) 0 w.did.length]) = true := by
         simp only [clB, List.all_cons, List.all_nil, cel, Bool.and_true, Bool.and_eq_true, decide_eq_true_eq]
         refine ⟨?_, ?_, ?_, ?_, ?_⟩ <;> omega
        have H3 := (H.app (Y := [.var [.own (b 0) (u 0) 0 w.bs.length, .own (b 1) (u 1) 0 w.ps.length, .own (h.length + 2) 1 0 rest.length, .own (b 3) (u 3) 0 w.deeds.length, .own (b 4) (u 4) 0 w.did.length], .var [.own (b 0) (u 0) 0 w.bs.length, .own (b 1) (u 1) 0 w.ps.length, .own (h.length + 2) 1 0 rest.length, .own (b 3) (u 3) 0 w.deeds.length, .own (b 4) (u 4) 0 w.did.length], .row 1 5 (rest.map Mv)]) (by
         simp only [List.length_append, List.length_cons, List.length_nil, Cl, List.all_cons, List.all_nil, Bool.and_true, Bool.and_eq_true]
         exact ⟨hWC', hWC', rfl⟩)).wire (h.length + 2) 1 rest (by rw [List.getElem?_append_right (by omega)]; simp) fun j hj _ => by have := hl j hj; omega
        refine ⟨_, _, _, ?_, H3, ((Fz.app (N := h.length) b (Nat.le_refl _) _).trans (Fz.mv h.length _ b 2 (h.length + 2) (by omega))).w⟩
        simp only [WC, if_true, show ¬ (0 : Nat) = 2 from by decide, show ¬ (1 : Nat) = 2 from by decide, show ¬ (3 : Nat) = 2 from by decide, show ¬ (4 : Nat) = 2 from by decide, if_false]
        simp -implicitDefEqProofs (disch := omega) [c19, WC, Xv, Xc, X8, e4, e16, ei, gap_l, gap_r, sap_l, sap_r, r2, hb2, cw, t3, t4, t5, t6, z1, z2, szM, hil]
        done
       ·rw [if_neg c7]
        obtain ⟨h2, b2, u2, e, Hb, Fb⟩ := s18 (n := 69) (by decide) Hi hdl i hil (decide (o = 8)) _ b u H2
        obtain ⟨p, hp⟩ := Fb.keep (q := h.length + 1) (B := .var [AV.lst true [], AV.lst true [], AV.lst true [], AV.lst true [], AV.lst true []]) (by simp) fun j hj => (nq j hj).2
        obtain ⟨f1, f2⟩ := finW (fz2 _) Hb Fb (h.length + 1) (by omega) (by simp) fun j hj => (nq j hj).2
        refine ⟨_, b2, u2, ?_, f1, f2⟩
        have d8 : decide ((o : Int) = 8) = decide (o = 8) := by rw [decide_eq_decide]; omega
        simp only [WC] at e
        simp -implicitDefEqProofs (disch := omega) [c19, WC, Xv, Xc, X8, e4, e16, ei, gap_l, gap_r, sap_l, sap_r, d8, n0, n1, n2, c3, c4, c5, c6, c7, r2, hb2, cw, e, p, hp]
        done
end Go.Proofs.Ytgefdmkmobaefaa
