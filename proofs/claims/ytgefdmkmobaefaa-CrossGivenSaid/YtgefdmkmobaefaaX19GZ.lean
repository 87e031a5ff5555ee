import Derived.Test.YtgefdmkmobaefaaWo19
import Derived.Test.YtgefdmkmobaefaaCrGG
import Derived.Test.YtgefdmkmobaefaaWp19
set_option linter.unusedSimpArgs false
set_option linter.unusedVariables false
namespace Go.Proofs.Ytgefdmkmobaefaa
open Go.Am Go.Am.Nm Go.Lib Go.Cr
theorem fresh1W (t k j : Nat) (hj : j < 5) (h : AH) (b u : Nat → Nat) (w : Wd) (H : WH h b u w) (hc : h[k]? = some (.var (WC b u w))) :
  ∃ h' : AH, (∀ e : Env, e t = .ptr k 0 0 0 → fresh1 ⟨e, h⟩ (t, j, szW j) = ⟨e, h'⟩) ∧ WH h' (fun i => if i = j then h.length else b i) (fun i => if i = j then 0 else u i) w ∧ h'[k]? = some (.var (WC (fun i => if i = j then h.length else b i) (fun i => if i = j then 0 else u i) w)) ∧ h'.length = h.length + 1 ∧
   (∀ i, i < h.length → i ≠ k → i ≠ b j → h'[i]? = h[i]?) ∧ ∀ i, RowAt h i → RowAt h' i := by
 have hkl : k < h.length := (List.getElem?_eq_some_iff.1 hc).1
 have hbl := H.lt j hj
 have hkb : ∀ i, i < 5 → b i ≠ k := fun i hi e => by
  have := H.r i hi
  rw [e, hc] at this
  cases this
 refine ⟨(h.set (b j) (AB.row (u j + 1) (szW j) []) ++ [AB.row 0 (szW j) (esW w j)]).set k (AB.var (WC (fun i => if i = j then h.length else b i) (fun i => if i = j then 0 else u i) w)), fun e he => ?_, WH.of (fun i hi => ?_) (fun i i' hi hi' hne => ?_) ?_, ?_, by simp, fun i hi hne hnb => ?_, fun i hr => ?_⟩
 ·have hg : getC ⟨e, h⟩ t j = some (.own (b j) (u j) 0 (esW w j).length) := by
   simp only [getC, he, hc, WC_get hj]
  simp only [fresh1, hg, H.r j hj, and_self, if_true]
  have h1 : (h.set (b j) (AB.row (u j + 1) (szW j) []) ++ [AB.row 0 (szW j) (esW w j)])[k]? = some (.var (WC b u w)) := by
   rw [List.getElem?_append_left (by simpa using hkl), List.getElem?_set_ne (hkb j hj), hc]
  simp only [setC, he, h1, WC_set hj]
 ·by_cases e2 : i = j
  ·subst e2
   simp only [if_true]
   rw [List.getElem?_set_ne (by omega), List.getElem?_append_right (by simp)]
   simp
  ·simp only [if_neg e2]
   have := H.lt i hi
   rw [List.getElem?_set_ne (Ne.symm (hkb i hi)), List.getElem?_append_left (by simpa using this), List.getElem?_set_ne (H.ne j i hj hi (Ne.symm e2)), H.r i hi]
 ·by_cases e2 : i = j
  ·subst e2
   simp only [if_true, if_neg (Ne.symm hne)]
   have := H.lt i' hi'
   omega
  ·simp only [if_neg e2]
   by_cases e3 : i' = j
   ·simp only [if_pos e3]
    have := H.lt i hi
    omega
   ·simp only [if_neg e3]; exact H.ne i i' hi hi' hne
 ·simp only [List.length_set, List.length_append, List.length_cons, List.length_nil, Nat.zero_add]
  have hn : h.length ≤ h.length + 1 := by omega
  refine ((((H.cl.set _ (B := .row (u j + 1) (szW j) []) rfl).mono hn).app (B := [AB.row 0 (szW j) (esW w j)]) rfl)).set _ (cel_WC fun i hi => ?_)
  by_cases e2 : i = j
  ·simp only [if_pos e2]; omega
  ·simp only [if_neg e2]; have := H.lt i hi; omega
 ·rw [List.getElem?_set_self (by simp; omega)]
 ·rw [List.getElem?_set_ne (Ne.symm hne), List.getElem?_append_left (by simpa using hi), List.getElem?_set_ne (Ne.symm hnb)]
 ·have hik : i ≠ k := fun e => by
   obtain ⟨C, q1, q2⟩ := hr
   rw [e, hc] at q1
   cases q1
   cases q2
  obtain ⟨C, q1, q2⟩ := (hr.set (k := b j) (B := .row (u j + 1) (szW j) []) rfl).app [AB.row 0 (szW j) (esW w j)]
  exact ⟨C, by rw [List.getElem?_set_ne (Ne.symm hik)]; exact q1, q2⟩
theorem WC_congr {b b' u u' : Nat → Nat} {w : Wd} (hb : ∀ j, j < 5 → b j = b' j) (hu : ∀ j, j < 5 → u j = u' j) : WC b u w = WC b' u' w := by
 unfold WC
 rw [hb 0 (by decide), hb 1 (by decide), hb 2 (by decide), hb 3 (by decide), hb 4 (by decide), hu 0 (by decide), hu 1 (by decide), hu 2 (by decide), hu 3 (by decide), hu 4 (by decide)]
theorem Hd_of {h : AH} {L k : Nat} {w : Wd} (hl : h.length = L + 5) (hk : k < L) (H : WH h (fun j => L + j) (fun _ => 0) w) (hc : h[k]? = some (.var (WC (fun j => L + j) (fun _ => 0) w))) : h = Hd (h.take L) k w := by
 have hP : (h.take L).length = L := by simp; omega
 apply List.ext_getElem?
 intro i
 by_cases hi : i < L
 ·by_cases e : i = k
  ·subst e
   rw [hc, Hd_box _ _ _ (by omega), hP]
  ·rw [Hd_old _ _ _ i (by omega) e, List.getElem?_take_of_lt hi]
 ·by_cases h5 : i < L + 5
  ·obtain ⟨j, rfl⟩ : ∃ j, i = L + j := ⟨i - L, by omega⟩
   have := Hd_row (h.take L) k w j (by omega)
   rw [hP] at this
   rw [this, H.r j (by omega)]
  ·rw [List.getElem?_eq_none (by omega), List.getElem?_eq_none (by rw [Hd_len, hP]; omega)]
theorem Cl.take {n : Nat} {h : AH} (H : Cl n h) (k : Nat) : Cl n (h.take k) := by
 unfold Cl at H ⊢
 rw [List.all_eq_true] at H ⊢
 exact fun B hB => H B (List.mem_of_mem_take hB)
theorem freshAW (t k : Nat) (h : AH) (b u : Nat → Nat) (w : Wd) (H : WH h b u w) (hc : h[k]? = some (.var (WC b u w))) :
  ∃ P : AH, P.length = h.length ∧ Cl P.length P ∧ (∀ e : Env, e t = .ptr k 0 0 0 → freshA [(t, 0, 3), (t, 1, 3), (t, 2, 5), (t, 3, 3), (t, 4, 1)] ⟨e, h⟩ = ⟨e, Hd P k w⟩) ∧ (∀ i, i < h.length → i ≠ k → (∀ j, j < 5 → i ≠ b j) → P[i]? = h[i]?) ∧ (∀ i, i < h.length → RowAt h i → RowAt P i) := by
 have hkl : k < h.length := (List.getElem?_eq_some_iff.1 hc).1
 have hl := H.lt
 obtain ⟨h0, a0, H0, c0, l0, o0, r0⟩ := fresh1W t k 0 (by decide) h b u w H hc
 obtain ⟨h1, a1, H1, c1, l1, o1, r1⟩ := fresh1W t k 1 (by decide) _ _ _ w H0 c0
 obtain ⟨h2, a2, H2, c2, l2, o2, r2⟩ := fresh1W t k 2 (by decide) _ _ _ w H1 c1
 obtain ⟨h3, a3, H3, c3, l3, o3, r3⟩ := fresh1W t k 3 (by decide) _ _ _ w H2 c2
 obtain ⟨h4, a4, H4, c4, l4, o4, r4⟩ := fresh1W t k 4 (by decide) _ _ _ w H3 c3
 have eb : ∀ j, j < 5 → (if j = 4 then h3.length else if j = 3 then h2.length else if j = 2 then h1.length else if j = 1 then h0.length else if j = 0 then h.length else b j) = h.length + j := fun j hj => by
  match j, hj with
  | 0, _ => rfl
  | 1, _ => exact l0
  | 2, _ => show h1.length = _; omega
  | 3, _ => show h2.length = _; omega
  | 4, _ => show h3.length = _; omega
 have eu : ∀ j, j < 5 → (if j = 4 then 0 else if j = 3 then 0 else if j = 2 then 0 else if j = 1 then 0 else if j = 0 then 0 else u j) = 0 := fun j hj => by
  match j, hj with
  | 0, _ => rfl
  | 1, _ => rfl
  | 2, _ => rfl
  | 3, _ => rfl
  | 4, _ => rfl
 have H5 : WH h4 (fun j => h.length + j) (fun _ => 0) w := WH.of (fun j hj => by
  have := H4.r j hj
  simp only [eb j hj, eu j hj] at this
  exact this) (fun i j _ _ h => by omega) H4.cl
 have c5 : h4[k]? = some (.var (WC (fun j => h.length + j) (fun _ => 0) w)) := by
  rw [c4, WC_congr eb eu]
 have hd := Hd_of (L := h.length) (by omega) hkl H5 c5
 have hset : ∀ i, i ≠ k → ((h4.take h.length).set k .gone)[i]? = (h4.take h.length)[i]? := fun i hi => List.getElem?_set_ne (Ne.symm hi)
 have old : ∀ i, i < h.length → i ≠ k → (∀ j, j < 5 → i ≠ b j) → ((h4.take h.length).set k .gone)[i]? = h[i]? := fun i hi hne hnb => by
  rw [hset i hne, List.getElem?_take_of_lt hi, o4 i (by omega) hne (hnb 4 (by decide)), o3 i (by omega) hne (hnb 3 (by decide)), o2 i (by omega) hne (hnb 2 (by decide)), o1 i (by omega) hne (hnb 1 (by decide)), o0 i (by omega) hne (hnb 0 (by decide))]
 have row : ∀ i, i < h.length → RowAt h i → RowAt ((h4.take h.length).set k .gone) i := fun i hi hr => by
  have hik : i ≠ k := fun e => by
   obtain ⟨C, q1, q2⟩ := hr
   rw [e, hc] at q1
   cases q1
   cases q2
  obtain ⟨C, q1, q2⟩ := r4 _ (r3 _ (r2 _ (r1 _ (r0 _ hr))))
  exact ⟨C, by rw [hset i hik, List.getElem?_take_of_lt hi]; exact q1, q2⟩
 have hlen : ((h4.take h.length).set k .gone).length = h.length := by simp; omega
 refine ⟨(h4.take h.length).set k .gone, hlen, ?_, fun e he => ?_, old, row⟩
 ·rw [hlen]
  unfold Cl
  rw [List.all_eq_true]
  intro B hB
  obtain ⟨i, hi, e⟩ := List.getElem_of_mem hB
  rw [hlen] at hi
  have eB : ((h4.take h.length).set k .gone)[i]? = some B := by rw [List.getElem?_eq_getElem (by omega), e]
  by_cases hik : i = k
  ·subst hik
   rw [List.getElem?_set_self (by simp; omega)] at eB
   cases eB
   rfl
  ·by_cases hib : ∃ j, j < 5 ∧ i = b j
   ·obtain ⟨j, hj, rfl⟩ := hib
    obtain ⟨C, q1, q2⟩ := row _ hi ⟨_, H.r j hj, rfl⟩
    rw [q1] at eB
    cases eB
    cases B with
    | row v sz es => rfl
    | _ => cases q2
   ·rw [old i hi hik fun j hj e => hib ⟨j, hj, e⟩] at eB
    exact List.all_eq_true.1 H.cl B (List.mem_of_getElem? eB)
 ·have : Hd ((h4.take h.length).set k .gone) k w = Hd (h4.take h.length) k w := by
   unfold Hd
   rw [List.set_set, List.length_set]
  rw [this, ← hd]
  simp only [freshA]
  rw [show fresh1 ⟨e, h⟩ (t, 0, 3) = ⟨e, h0⟩ from a0 e he, show fresh1 ⟨e, h0⟩ (t, 1, 3) = ⟨e, h1⟩ from a1 e he, show fresh1 ⟨e, h1⟩ (t, 2, 5) = ⟨e, h2⟩ from a2 e he, show fresh1 ⟨e, h2⟩ (t, 3, 3) = ⟨e, h3⟩ from a3 e he, show fresh1 ⟨e, h3⟩ (t, 4, 1) = ⟨e, h4⟩ from a4 e he]
theorem Hd_norm {P : AH} {k : Nat} (w : Wd) (hk : k < P.length) (hcl : Cl P.length P) : normH (P.length + 5) [P.length, P.length + 1, P.length + 2, P.length + 3, P.length + 4] (Hd P k w) 0 (Hd P k w) = Hd P k w := by
 apply List.ext_getElem?
 intro i
 rw [normH_get, Nat.zero_add]
 by_cases h1 : i < P.length
 ·have hni : [P.length, P.length + 1, P.length + 2, P.length + 3, P.length + 4].contains i = false := by
   rw [Bool.eq_false_iff]
   intro hh
   simp at hh
   omega
  by_cases h2 : i = k
  ·subst h2
   rw [Hd_box P i w hk]
   simp only [Option.map_some, normB, Option.some.injEq, AB.var.injEq]
   have r : ∀ j, j < 5 → (Hd P i w)[P.length + j]? = some (.row 0 (szW j) (esW w j)) := fun j hj => Hd_row P i w j hj
   have r0 := r 0 (by decide)
   simp only [Nat.add_zero] at r0
   simp [WC, normS, r0, r 1 (by decide), r 2 (by decide), r 3 (by decide), r 4 (by decide)]
  ·rw [Hd_old P k w i h1 h2]
   cases hB : P[i]? with
   | none => rfl
   | some B => rw [Option.map_some, normB_cl (n := P.length) (by omega) (fun r hr => by simp at hr; omega) (List.all_eq_true.1 hcl B (List.mem_of_getElem? hB)) hni]
 ·by_cases h5 : i < P.length + 5
  ·obtain ⟨j, rfl⟩ : ∃ j, i = P.length + j := ⟨i - P.length, by omega⟩
   rw [Hd_row P k w j (by omega)]
   have hcn : [P.length, P.length + 1, P.length + 2, P.length + 3, P.length + 4].contains (P.length + j) = true := by
    simp; omega
   simp only [Option.map_some, normB, hcn, if_true]
  ·rw [List.getElem?_eq_none (by rw [Hd_len]; omega)]
   rfl
structure Fk (P : AH) (k : Nat) (h : AH) (b : Nat → Nat) : Prop where
 le : P.length + 5 ≤ h.length
 old : ∀ i, i < P.length → i ≠ k → h[i]? = P[i]?
 row : ∀ j, j < 5 → RowAt h (P.length + j)
 new : ∀ j, j < 5 → b j = P.length + j ∨ P.length + 5 ≤ b j
theorem Fk.start (P : AH) (k : Nat) (w : Wd) : Fk P k (Hd P k w) (fun j => P.length + j) :=
 ⟨by rw [Hd_len]; exact Nat.le_refl _, fun i hi hne => Hd_old P k w i hi hne, fun j hj => ⟨_, Hd_row P k w j hj, rfl⟩, fun _ _ => .inl rfl⟩
theorem Fk.call {P : AH} {k : Nat} {h h2 : AH} {b b2 : Nat → Nat} (F : Fk P k h b) (G : Fw h b h2 b2) : Fk P k h2 b2 :=
 ⟨Nat.le_trans F.le G.le, fun i hi hne => (G.old i (by have := F.le; omega) fun j hj => by
  rcases F.new j hj with e | e <;> omega).trans (F.old i hi hne), fun j hj => G.row _ (by have := F.le; omega) (F.row j hj), fun j hj => by
  rcases G.new j hj with e | e
  ·rw [e]; exact F.new j hj
  ·exact .inr (Nat.le_trans F.le e)⟩
theorem Fk.setk {P : AH} {k : Nat} {h : AH} {b : Nat → Nat} (F : Fk P k h b) (hk : k < P.length) (B : AB) : Fk P k (h.set k B) b :=
 ⟨by rw [List.length_set]; exact F.le, fun i hi hne => by rw [List.getElem?_set_ne (Ne.symm hne)]; exact F.old i hi hne, fun j hj => by
  obtain ⟨C, q1, q2⟩ := F.row j hj
  exact ⟨C, by rw [List.getElem?_set_ne (by omega)]; exact q1, q2⟩, F.new⟩
theorem Fk.app {P : AH} {k : Nat} {h : AH} {b : Nat → Nat} (F : Fk P k h b) (T : AH) : Fk P k (h ++ T) b :=
 ⟨by rw [List.length_append]; have := F.le; omega, fun i hi hne => by rw [List.getElem?_append_left (by have := F.le; omega)]; exact F.old i hi hne, fun j hj => (F.row j hj).app T, F.new⟩
theorem Fk.ne {P : AH} {k : Nat} {h : AH} {b : Nat → Nat} (F : Fk P k h b) (hk : k < P.length) : ∀ j, j < 5 → k ≠ b j := fun j hj => by
 rcases F.new j hj with e | e <;> omega
theorem Fk.head {P : AH} {k : Nat} {h : AH} {b u : Nat → Nat} {w : Wd} (F : Fk P k h b) (hk : k < P.length) (hP : Cl P.length P) (H : WH h b u w) (hc : h[k]? = some (.var (WC b u w))) (e : Env) (t : Nat) (he : e t = .ptr k 0 0 0) (keep : List Nat) (ks : List AV) (hks : ∀ h', headK (P.length + 5) [P.length, P.length + 1, P.length + 2, P.length + 3, P.length + 4] h' e keep = ks) :
  head (P.length + 5) [P.length, P.length + 1, P.length + 2, P.length + 3, P.length + 4] keep (rebA P.length [(t, 0, 3), (t, 1, 3), (t, 2, 5), (t, 3, 3), (t, 4, 1)] ⟨e, h⟩) = (ks, Hd P k w) :=
 headEq (headW e t k P.length he P rfl hk hP h b u w H hc F.row F.new F.old keep) hks
end Go.Proofs.Ytgefdmkmobaefaa

namespace Go.Proofs.Ytgefdmkmobaefaa
open Go.Am Go.Am.Nm Go.Lib Go.Cr
theorem agp_len {PS : List (List UInt8)} {w : Wd} (H : Inv isPth clsh PS w) {k : Nat} {b : Bo} (hb : w.bs[k]? = some b) : (againP b).length ≤ 64 := by
 have h1 := again_len H k
 have h2 := cs_len H k
 unfold agL at h1
 rw [hb] at h1
 simp only [Option.map_some, Option.getD_some] at h1
 omega
set_option maxHeartbeats 1000000 in
theorem l30_1 {n : Nat} (hn : 93 ≤ n) {PS : List (List UInt8)} {w : Wd} (Hi : Inv isPth clsh PS w) (hdl : w.deeds.length ≤ 1000000) (P : AH) (k : Nat) (hk : k < P.length) (cl : Cl P.length P) (e0 : Env) (q2 : e0 2 = .ptr k 0 0 0) :
  iter (roundA (C19.tab n) P.length [(2, 0, 3), (2, 1, 3), (2, 2, 5), (2, 3, 3), (2, 4, 1)] [6] [(.exit 2, [])] c30_1 e0 (P.length + 5) [P.length, P.length + 1, P.length + 2, P.length + 3, P.length + 4]) ([.int .i64 0], Hd P k w) = some (.exit 2, [], Hd P k ([0, 1, 2, 3].foldl sayW w)) := by
 refine for_list (f := roundA (C19.tab n) P.length [(2, 0, 3), (2, 1, 3), (2, 2, 5), (2, 3, 3), (2, 4, 1)] [6] [(.exit 2, [])] c30_1 e0 (P.length + 5) [P.length, P.length + 1, P.length + 2, P.length + 3, P.length + 4]) (fun i (s : Wd) => ([.int .i64 (i : Int)], Hd P k s)) [0, 1, 2, 3] sayW (fun s => (.exit 2, [], Hd P k s)) (fun _ s => Inv isPth clsh PS s ∧ s.deeds.length ≤ 1000000)
  (fun g hg s hs => ?_) (fun s hs => by
   simp -implicitDefEqProofs (disch := omega) [-rebA, -head_eq, roundA_eq, b30_1]
   done) w ⟨Hi, hdl⟩
 obtain ⟨Hs, hd⟩ := hs
 have hg : g < 4 := hg
 have eg : ([0, 1, 2, 3] : List Nat)[g] = g := by
  match g, hg with
  | 0, _ => rfl
  | 1, _ => rfl
  | 2, _ => rfl
  | 3, _ => rfl
 rw [eg]
 have hgb : g < s.bs.length := by rw [Hs.lb]; exact hg
 have hgp : g < s.ps.length := by rw [Hs.lp]; exact hg
 have gb := List.getElem?_eq_getElem hgb
 have gp := List.getElem?_eq_getElem hgp
 obtain ⟨bo, hbo⟩ : ∃ bo, bo = s.bs[g] := ⟨_, rfl⟩
 obtain ⟨pt, hpt⟩ : ∃ pt, pt = s.ps[g] := ⟨_, rfl⟩
 rw [← hbo] at gb
 rw [← hpt] at gp
 have esay : sayW s g = sendW (sendW s (againP bo)) (askP pt) := by
  unfold sayW
  rw [gb]
  simp only [gp]
 have Hs1 := Hs.send (again_good Hs gb)
 have hr := inv_rd Hs g
 rw [rd_of gp] at hr
 refine ⟨⟨Hs.say g, by rw [esay]; exact hd⟩, ?_⟩
 rw [esay]
 have h20 := s20 (n := n) (by omega) bo (inv_okA Hs gb)
 have h22 := s22 (n := n) (by omega) pt (by omega)
 have hw := Hs.wi
 -- the first send
 obtain ⟨h2, b2, u2, e47, H2, F2⟩ := s47 (n := n) (by omega) s (againP bo) false (Hd P k s) _ _ (Hd_WH s hk cl) hw (by have := agp_len Hs gb; omega)
 obtain ⟨k1, k2⟩ := boxW hk F2
 have hkb : ∀ j, j < 5 → k ≠ b2 j := fun j hj => by
  have := F2.new j hj
  rw [Hd_len] at this
  omega
 have H2' := H2.other k (.var (WC b2 u2 (sendW s (againP bo)))) hkb (cel_WC H2.lt)
 -- the second one
 obtain ⟨h3, b3, u3, e47', H3, F3⟩ := s47 (n := n) (by omega) (sendW s (againP bo)) (askP pt) false _ b2 u2 H2' Hs1.wi (by unfold askP; simp; omega)
 obtain ⟨k3, k4⟩ := F3.keep (q := k) (B := .var (WC b2 u2 (sendW s (againP bo)))) (List.getElem?_set_self k1) hkb
 have H3' := H3.other k (.var (WC b3 u3 (sendW (sendW s (againP bo)) (askP pt)))) (fun j hj => by
  rcases F3.new j hj with e | e
  ·rw [e]; exact hkb j hj
  ·have := F2.le
   rw [Hd_len] at this
   simp at e
   omega) (cel_WC H3.lt)
 have FK := ((((Fk.start P k s).call F2).setk hk (.var (WC b2 u2 (sendW s (againP bo))))).call F3).setk hk (.var (WC b3 u3 (sendW (sendW s (againP bo)) (askP pt))))
 have hst := fun e he => FK.head hk cl H3' (List.getElem?_set_self k3) e 2 he [6] [.int .i64 (g + 1 : Int)]
 have g5 := Hd_box P k s hk
 obtain ⟨g1, g2⟩ := List.getElem?_eq_some_iff.1 g5
 have gr0 := Hd_row P k s 0 (by decide)
 obtain ⟨x1, x2⟩ := List.getElem?_eq_some_iff.1 gr0
 have m1 : h2[b2 1]'(H2.lt 1 (by decide)) = .row (u2 1) 3 (s.ps.map Pv) := (List.getElem?_eq_some_iff.1 H2.r1).2
 have m2 := H2.lt 1 (by decide)
 have m3 := hkb 1 (by decide)
 obtain ⟨G, hG⟩ : ∃ G, G = Hd P k s := ⟨_, rfl⟩
 rw [← hG] at e47
 simp only [← hG] at g1 g2 x1 x2 ⊢
 simp only [Nat.add_zero, szW, esW, List.getElem?_cons_zero, Option.getD_some] at x1 x2
 simp only [WC, Nat.add_zero] at e47 e47' g2 k2 k4 hst
 simp only [Bv] at h20
 simp only [Pv] at h22
 simp -implicitDefEqProofs (disch := omega) [-rebA, -head_eq, roundA_eq, b30_1, q2, hg, g1, g2, x1, x2, hgb, ← hbo, Bv, h20, e47, k1, k2]
 have hgp' : g < (sendW s (againP bo)).ps.length := hgp
 simp -implicitDefEqProofs (disch := omega) [-rebA, -head_eq, m1, hgp', hgp, ← hpt, Pv, h22, e47', k3, k4, q2]
 refine hst _ (by simp -implicitDefEqProofs (disch := omega) [q2]) fun h' => ?_
 simp -implicitDefEqProofs (disch := omega)
end Go.Proofs.Ytgefdmkmobaefaa

namespace Go.Proofs.Ytgefdmkmobaefaa
open Go.Am Go.Am.Nm Go.Lib Go.Cr
theorem takeW_deeds {PS : List (List UInt8)} {w : Wd} (Hi : Inv isPth clsh PS w) (i : Nat) (t : Bool) : (takeW isPth clsh w i t).deeds = w.deeds := by
 cases hm : w.wire[i]? with
 | none => unfold takeW; rw [hm]
 | some m =>
  obtain ⟨w0, e0, H0, d, hd, hn, x, y, l, T, E⟩ := take_tr Hi hm t
  rw [E.deeds, e0]
  cases t <;> rfl
set_option maxHeartbeats 1000000 in
theorem l30_2 {n : Nat} (hn : 93 ≤ n) {PS : List (List UInt8)} (P : AH) (k : Nat) (hk : k < P.length) (cl : Cl P.length P) (e0 : Env) (q2 : e0 2 = .ptr k 0 0 0) : ∀ (m : Nat) {w : Wd}, m ≤ 2000 → Inv isPth clsh PS w → w.deeds.length ≤ 1000000 →
  iter (roundA (C19.tab n) P.length [(2, 0, 3), (2, 1, 3), (2, 2, 5), (2, 3, 3), (2, 4, 1)] [7] [(.exit 4, [])] c30_2 e0 (P.length + 5) [P.length, P.length + 1, P.length + 2, P.length + 3, P.length + 4]) ([.int .i64 ((2000 - m : Nat) : Int)], Hd P k w) = some (.exit 4, [], Hd P k (drainW isPth clsh m w))
 | 0, w, _, Hi, hdl => by
  rw [iter_eq]
  unfold drainW
  simp -implicitDefEqProofs (disch := omega) [-rebA, -head_eq, roundA_eq, b30_2]
 | m + 1, w, hm, Hi, hdl => by
  rw [iter_eq]
  obtain ⟨g1, g2⟩ := List.getElem?_eq_some_iff.1 (Hd_box P k w hk)
  by_cases hw : w.wire.length = 0
  ·unfold drainW
   rw [if_pos hw]
   obtain ⟨G, hG⟩ : ∃ G, G = Hd P k w := ⟨_, rfl⟩
   simp only [← hG] at g1 g2 ⊢
   simp only [WC, Nat.add_zero] at g2
   have h1 : (2000 - (m + 1) : Nat) < 2000 := by omega
   obtain ⟨z, hz⟩ : ∃ z, z = 2000 - (m + 1) := ⟨_, rfl⟩
   rw [← hz] at h1 ⊢
   simp -implicitDefEqProofs (disch := omega) [-rebA, -head_eq, roundA_eq, b30_2, q2, g1, g2, hw, h1]
   done
  ·have hw0 : 0 < w.wire.length := by omega
   obtain ⟨h2, b2, u2, e18, H2, F2⟩ := s18 (n := n) (by omega) Hi hdl 0 hw0 false (Hd P k w) _ _ (Hd_WH w hk cl)
   obtain ⟨k1, k2⟩ := boxW hk F2
   have FK := ((Fk.start P k w).call F2).setk hk (.var (WC b2 u2 (takeW isPth clsh w 0 false)))
   have hkb := ((Fk.start P k w).call F2).ne hk
   have H2' := H2.other k (.var (WC b2 u2 (takeW isPth clsh w 0 false))) hkb (cel_WC H2.lt)
   have hst := fun e he => FK.head hk cl H2' (List.getElem?_set_self k1) e 2 he [7] [.int .i64 ((2000 - m : Nat) : Int)]
   have ih := l30_2 hn P k hk cl e0 q2 m (by omega) (Hi.take 0 false) (by rw [takeW_deeds Hi]; exact hdl)
   have ed : drainW isPth clsh (m + 1) w = drainW isPth clsh m (takeW isPth clsh w 0 false) := by
    conv => lhs; unfold drainW
    rw [if_neg hw]
   rw [ed, ← ih]
   obtain ⟨G, hG⟩ : ∃ G, G = Hd P k w := ⟨_, rfl⟩
   rw [← hG] at e18
   simp only [← hG] at g1 g2 ⊢
   simp only [WC, Nat.add_zero] at g2 e18 k2 hst
   have h1 : (2000 - (m + 1) : Nat) < 2000 := by omega
   have h3 : 2000 - m = (2000 - (m + 1)) + 1 := by omega
   rw [h3] at hst ih ⊢
   obtain ⟨z, hz⟩ : ∃ z, z = 2000 - (m + 1) := ⟨_, rfl⟩
   rw [← hz] at h1 hst ih ⊢
   push_cast at e18 hst
   have key : roundA (C19.tab n) P.length [(2, 0, 3), (2, 1, 3), (2, 2, 5), (2, 3, 3), (2, 4, 1)] [7] [(.exit 4, [])] c30_2 e0 (P.length + 5) [P.length, P.length + 1, P.length + 2, P.length + 3, P.length + 4] ([.int .i64 (z : Int)], G) = some (.inl ([.int .i64 ((z + 1 : Nat) : Int)], Hd P k (takeW isPth clsh w 0 false))) := by
    simp -implicitDefEqProofs (disch := omega) [-rebA, -head_eq, roundA_eq, b30_2, q2, g1, g2, hw0, h1, e18, k1, k2]
    refine hst _ (by simp -implicitDefEqProofs (disch := omega) [q2]) fun h' => ?_
    simp -implicitDefEqProofs (disch := omega)
   rw [key]
end Go.Proofs.Ytgefdmkmobaefaa

namespace Go.Proofs.Ytgefdmkmobaefaa
open Go.Am Go.Am.Nm Go.Lib Go.Cr
theorem Fk.fresh {P : AH} {k : Nat} {h : AH} {b : Nat → Nat} (F : Fk P k h b) {P' : AH} (hl : P'.length = h.length) (ho : ∀ i, i < h.length → i ≠ k → (∀ j, j < 5 → i ≠ b j) → P'[i]? = h[i]?) (hr : ∀ i, i < h.length → RowAt h i → RowAt P' i) (w : Wd) (hk : k < P.length) : Fk P k (Hd P' k w) (fun j => P'.length + j) := by
 have hle := F.le
 refine ⟨by rw [Hd_len]; omega, fun i hi hne => ?_, fun j hj => ?_, fun j hj => .inr (by omega)⟩
 ·rw [Hd_old P' k w i (by omega) hne, ho i (by omega) hne fun j hj => by rcases F.new j hj with e | e <;> omega, F.old i hi hne]
 ·obtain ⟨C, q1, q2⟩ := hr _ (by omega) (F.row j hj)
  exact ⟨C, by rw [Hd_old P' k w _ (by omega) (by omega)]; exact q1, q2⟩
theorem tgt5 (τ : Nat) (a b c d e : Nat × Nat × Nat) : tgt τ [a, b, c, d, e] = [τ, τ + 1, τ + 2, τ + 3, τ + 4] := rfl
theorem Hd_take (P : AH) (k : Nat) (w : Wd) : (Hd P k w).take (P.length + 5) = Hd P k w := List.take_of_length_le (by rw [Hd_len]; exact Nat.le_refl _)
theorem sayL_inv {PS : List (List UInt8)} {w : Wd} (Hi : Inv isPth clsh PS w) : Inv isPth clsh PS ([0, 1, 2, 3].foldl sayW w) := Hi.sayL _
set_option maxHeartbeats 2000000 in
theorem l30_3 {n : Nat} (hn : 93 ≤ n) {PS : List (List UInt8)} (P : AH) (k : Nat) (hk : k < P.length) (cl : Cl P.length P) (N : Nat) (hN : N ≤ 1000) (e0 : Env) (q1 : e0 1 = .int .i64 N) (q2 : e0 2 = .ptr k 0 0 0) : ∀ (m : Nat) {w : Wd}, m ≤ N → Inv isPth clsh PS w → w.deeds.length ≤ 1000000 →
  iter (roundA (C19.tab n) P.length [(2, 0, 3), (2, 1, 3), (2, 2, 5), (2, 3, 3), (2, 4, 1)] [5] [(.exit 0, [])] c30_3 e0 (P.length + 5) [P.length, P.length + 1, P.length + 2, P.length + 3, P.length + 4]) ([.int .i64 ((N - m : Nat) : Int)], Hd P k w) = some (.exit 0, [], Hd P k (calmW isPth clsh m w))
 | 0, w, _, Hi, hdl => by
  rw [iter_eq]
  unfold calmW
  simp -implicitDefEqProofs (disch := omega) [-rebA, -freshA, -head_eq, roundA_eq, b30_3, q1]
 | m + 1, w, hm, Hi, hdl => by
  rw [iter_eq]
  have H0 := Hd_WH w hk cl
  obtain ⟨P1, l1, cl1, f1, o1, r1⟩ := freshAW 2 k (Hd P k w) _ _ w H0 (Hd_box P k w hk)
  rw [Hd_len] at l1
  have hk1 : k < P1.length := by omega
  obtain ⟨w1, hw1⟩ : ∃ w1, w1 = [0, 1, 2, 3].foldl sayW w := ⟨_, rfl⟩
  have Hi1 : Inv isPth clsh PS w1 := by rw [hw1]; exact sayL_inv Hi
  have hd1 : w1.deeds.length ≤ 1000000 := by rw [hw1, sayL_deeds]; exact hdl
  have x1 := l30_1 hn Hi hdl P1 k hk1 cl1
  rw [← hw1] at x1
  have n1 := Hd_norm (P := P1) (k := k) w hk1 cl1
  have H1 := Hd_WH w1 hk1 cl1
  obtain ⟨P2, l2, cl2, f2, o2, r2⟩ := freshAW 2 k (Hd P1 k w1) _ _ w1 H1 (Hd_box P1 k w1 hk1)
  rw [Hd_len] at l2
  have hk2 : k < P2.length := by omega
  have x2 := fun e0 q2 => l30_2 (w := w1) hn P2 k hk2 cl2 e0 q2 2000 (Nat.le_refl _) Hi1 hd1
  obtain ⟨w2, hw2⟩ : ∃ w2, w2 = drainW isPth clsh 2000 w1 := ⟨_, rfl⟩
  rw [← hw2, Nat.sub_self] at x2
  have hround : roundW isPth clsh w = w2 := by rw [hw2, hw1]; rfl
  have n2 := Hd_norm (P := P2) (k := k) w1 hk2 cl2
  have FK : Fk P k (Hd P2 k w2) (fun j => P2.length + j) := ((Fk.start P k w).fresh (P' := P1) (by rw [Hd_len]; exact l1) o1 r1 w1 hk).fresh (P' := P2) (by rw [Hd_len]; exact l2) o2 r2 w2 hk
  have Hi2 : Inv isPth clsh PS w2 := by rw [hw2]; exact Hi1.drain 2000
  have hd2 : w2.deeds.length ≤ 1000000 := by rw [hw2, deeds_drain 2000 Hi1]; exact hd1
  have hst := fun e he => FK.head hk cl (Hd_WH w2 hk2 cl2) (Hd_box P2 k w2 hk2) e 2 he [5] [.int .i64 ((N - m : Nat) : Int)]
  have ih := l30_3 hn P k hk cl N hN e0 q1 q2 m (by omega) Hi2 hd2
  have ec : calmW isPth clsh (m + 1) w = calmW isPth clsh m w2 := by rw [← hround]; rfl
  rw [ec, ← ih]
  have h3 : N - m = (N - (m + 1)) + 1 := by omega
  have h1 : N - (m + 1) < N := by omega
  rw [h3] at hst ih ⊢
  obtain ⟨z, hz⟩ : ∃ z, z = N - (m + 1) := ⟨_, rfl⟩
  rw [← hz] at h1 hst ih ⊢
  push_cast at hst x2
  have a1 : P.length + 5 = P1.length := l1.symm
  have a2 : P1.length + 5 = P2.length := l2.symm
  have t1 := Hd_take P1 k w
  have t2 := Hd_take P2 k w1
  have key : roundA (C19.tab n) P.length [(2, 0, 3), (2, 1, 3), (2, 2, 5), (2, 3, 3), (2, 4, 1)] [5] [(.exit 0, [])] c30_3 e0 (P.length + 5) [P.length, P.length + 1, P.length + 2, P.length + 3, P.length + 4] ([.int .i64 (z : Int)], Hd P k w) = some (.inl ([.int .i64 ((z + 1 : Nat) : Int)], Hd P k w2)) := by
   rw [a2] at x1 n1 t1
   simp -implicitDefEqProofs (disch := omega) [-rebA, -freshA, -tgt, -head_eq, roundA_eq, b30_3, q1, q2, h1]
   rw [f1 _ (by simp -implicitDefEqProofs (disch := omega) [q2])]
   simp -implicitDefEqProofs (disch := omega) [-rebA, -freshA, -tgt, tgt5, Hd_len, a1, a2, n1, t1]
   have nk1 : ¬ k = P1.length ∧ ¬ k = P1.length + 1 ∧ ¬ k = P1.length + 2 ∧ ¬ k = P1.length + 3 ∧ ¬ k = P1.length + 4 := by omega
   have nk2 : ¬ k = P2.length ∧ ¬ k = P2.length + 1 ∧ ¬ k = P2.length + 2 ∧ ¬ k = P2.length + 3 ∧ ¬ k = P2.length + 4 := by omega
   rw [x1 _ (by simp -implicitDefEqProofs (disch := omega) [q2, nk1])]
   simp -implicitDefEqProofs (disch := omega) [-rebA, -freshA, -tgt, -head_eq]
   rw [f1 _ (by simp -implicitDefEqProofs (disch := omega) [q2])]
   simp -implicitDefEqProofs (disch := omega) [-rebA, -freshA, -tgt, -head_eq, tgt5, Hd_len, a1, a2]
   rw [f2 _ (by simp -implicitDefEqProofs (disch := omega) [q2, nk1])]
   simp -implicitDefEqProofs (disch := omega) [-rebA, -freshA, -tgt, tgt5, Hd_len, a1, a2, n2, t2]
   rw [x2 _ (by simp -implicitDefEqProofs (disch := omega) [q2, nk1, nk2])]
   simp -implicitDefEqProofs (disch := omega) [-rebA, -freshA, -tgt, -head_eq]
   rw [f2 _ (by simp -implicitDefEqProofs (disch := omega) [-tgt, tgt5, Hd_len, a1, a2, q2, nk1])]
   simp -implicitDefEqProofs (disch := omega) [-rebA, -freshA, -tgt, -head_eq, tgt5, Hd_len, a1, a2]
   rw [f2 _ (by simp -implicitDefEqProofs (disch := omega) [q2, nk1])]
   rw [a1] at hst
   refine hst _ (by simp -implicitDefEqProofs (disch := omega) [q2, nk1, nk2]) fun h' => ?_
   simp -implicitDefEqProofs (disch := omega)
  rw [key]
set_option maxHeartbeats 1000000 in
theorem s30 {n : Nat} (hn : 93 < n) {PS : List (List UInt8)} {w : Wd} (Hi : Inv isPth clsh PS w) (hdl : w.deeds.length ≤ 1000000) (N : Nat) (hN : N ≤ 1000) (h : AH) (b u : Nat → Nat) (H : WH h b u w) :
  ∃ h' b' u', callA (C19.tab n) 30 [.agg (WC b u w), .int .i64 N] h = some (.agg (WC b' u' (calmW isPth clsh N w)), h') ∧ WH h' b' u' (calmW isPth clsh N w) ∧ Fw h b h' b' := by
 rw [p30 hn, runH_eq]
 have hl := H.lt
 obtain ⟨Z, hZ⟩ : ∃ Z : AB, Z = .var [AV.lst true [], AV.lst true [], AV.lst true [], AV.lst true [], AV.lst true []] := ⟨_, rfl⟩
 have H2 : WH (h ++ [.var (WC b u w), Z]) b u w := H.app (by
  simp only [List.length_append, List.length_cons, List.length_nil, Cl, List.all_cons, List.all_nil, Bool.and_true, Bool.and_eq_true]
  exact ⟨cel_WC fun j hj => by have := hl j hj; omega, by rw [hZ]; simp [clB, cel, AV.isE, AV.isS]⟩)
 obtain ⟨P, l0, cl, f, o, r⟩ := freshAW 2 h.length (h ++ [.var (WC b u w), Z]) b u w H2 (by simp)
 have lP : P.length = h.length + 2 := by rw [l0]; simp
 have hk : h.length < P.length := by omega
 have x3 := fun e0 q1 q2 => l30_3 (n := 93) (Nat.le_refl _) (w := w) P h.length hk cl N hN e0 q1 q2 N (Nat.le_refl _) Hi hdl
 rw [Nat.sub_self] at x3
 have n1 := Hd_norm (P := P) (k := h.length) w hk cl
 have t1 := Hd_take P h.length w
 obtain ⟨w', hw'⟩ : ∃ w', w' = calmW isPth clsh N w := ⟨_, rfl⟩
 rw [← hw'] at x3 ⊢
 have hbl : ∀ j, j < 5 → h.length ≠ b j ∧ h.length + 1 ≠ b j := fun j hj => by have := hl j hj; omega
 have pZ : P[h.length + 1]? = some Z := by
  rw [o (h.length + 1) (by simp) (by omega) fun j hj => (hbl j hj).2]
  simp
 have gZ : (Hd P h.length w')[h.length + 1]? = some Z := by rw [Hd_old P _ w' _ (by omega) (by omega), pZ]
 have gB := Hd_box P h.length w' hk
 obtain ⟨y1, y2⟩ := List.getElem?_eq_some_iff.1 gZ
 obtain ⟨y3, y4⟩ := List.getElem?_eq_some_iff.1 gB
 have HW := Hd_WH (P := P) (k := h.length) w' hk cl
 refine ⟨(Hd P h.length w').set (h.length + 1) (.var (WC (fun j => P.length + j) (fun _ => 0) w')), fun j => P.length + j, fun _ => 0, ?_, ?_, ?_⟩
 ·have a0 : h.length + 2 = P.length := lP.symm
  rw [hZ] at y2
  simp only [WC, Nat.add_zero] at y4 ⊢
  have f' := f
  rw [hZ] at f'
  simp only [WC] at f'
  push_cast at x3
  simp -implicitDefEqProofs (disch := omega) [-rebA, -freshA, -tgt, c30, WC, gap_l, gap_r, sap_l, sap_r]
  rw [f' _ (by simp -implicitDefEqProofs (disch := omega))]
  simp -implicitDefEqProofs (disch := omega) [-rebA, -freshA, -tgt, tgt5, Hd_len, a0, n1, t1]
  have nk : ¬ h.length = P.length ∧ ¬ h.length = P.length + 1 ∧ ¬ h.length = P.length + 2 ∧ ¬ h.length = P.length + 3 ∧ ¬ h.length = P.length + 4 := by omega
  have nk' : ¬ h.length + 1 = P.length ∧ ¬ h.length + 1 = P.length + 1 ∧ ¬ h.length + 1 = P.length + 2 ∧ ¬ h.length + 1 = P.length + 3 ∧ ¬ h.length + 1 = P.length + 4 := by omega
  rw [x3 _ (by simp -implicitDefEqProofs (disch := omega) [nk, nk']) (by simp -implicitDefEqProofs (disch := omega) [nk, nk'])]
  simp -implicitDefEqProofs (disch := omega) [-rebA, -freshA, -tgt, -head_eq]
  rw [f' _ (by simp -implicitDefEqProofs (disch := omega))]
  simp -implicitDefEqProofs (disch := omega) [-rebA, -freshA, -tgt, -head_eq, tgt5, Hd_len, a0, nk, nk', y1, y2, y3, y4]
  rw [f' _ (by simp -implicitDefEqProofs (disch := omega))]
  simp -implicitDefEqProofs (disch := omega) [-rebA, -freshA, -tgt, -head_eq, tgt5, Hd_len, a0, nk, nk', y1, y2, y3, y4]
  rw [f' _ (by simp -implicitDefEqProofs (disch := omega))]
  simp -implicitDefEqProofs (disch := omega) [-rebA, -freshA, -tgt, -head_eq, tgt5, Hd_len, a0, nk, nk', y1, y2, y3, y4]
  done
 ·exact HW.other _ _ (fun j hj => by omega) (cel_WC HW.lt)
 ·refine ⟨by rw [List.length_set, Hd_len]; omega, fun i hi hne => ?_, fun j hj => .inr (by omega), fun i hi hr => ?_⟩
  ·rw [List.getElem?_set_ne (by omega), Hd_old P _ w' i (by omega) (by omega), o i (by simp; omega) (by omega) hne, List.getElem?_append_left hi]
  ·obtain ⟨C, q1, q2⟩ := r i (by simp; omega) (hr.app _)
   exact ⟨C, by rw [List.getElem?_set_ne (by omega), Hd_old P _ w' i (by omega) (by omega)]; exact q1, q2⟩
end Go.Proofs.Ytgefdmkmobaefaa

namespace Go.Proofs.Ytgefdmkmobaefaa
open Go.Am Go.Am.Nm Go.Lib Go.Cr
section
variable {PS : List (List UInt8)} {w : Wd} {n : Nat} {G : AH} {N : Nat} {b u : Nat → Nat}
end
end Go.Proofs.Ytgefdmkmobaefaa

namespace Go.Proofs.Ytgefdmkmobaefaa
open Go.Am Go.Am.Nm Go.Lib Go.Deep Go.Cr
theorem eval_loopHd {Γ : Tab} {V : Nat → Bool} {ρ : Type} {t k : Nat} {P h : AH} {w : Wd} {e : Env} {keep : List Nat} {wr : List (Nat × Nat)} {outs : List (AX × List Nat)} {c : AC} {k0 : AX → St → Option ρ} {r : AX × List AV × AH} {ks : List AV}
  (hl : P.length = h.length) (hk : k < P.length) (cl : Cl P.length P) (hf : freshA [(t, 0, 3), (t, 1, 3), (t, 2, 5), (t, 3, 3), (t, 4, 1)] ⟨e, h⟩ = ⟨e, Hd P k w⟩)
  (hks : headK (P.length + 5) [P.length, P.length + 1, P.length + 2, P.length + 3, P.length + 4] (Hd P k w) e keep = ks)
  (hx : iter (roundA Γ P.length [(t, 0, 3), (t, 1, 3), (t, 2, 5), (t, 3, 3), (t, 4, 1)] keep outs c ((baseEnv [P.length, P.length + 1, P.length + 2, P.length + 3, P.length + 4] e).killR wr) (P.length + 5) [P.length, P.length + 1, P.length + 2, P.length + 3, P.length + 4]) (ks, Hd P k w) = some r) :
  eval Γ (.loopA [(t, 0, 3), (t, 1, 3), (t, 2, 5), (t, 3, 3), (t, 4, 1)] keep wr [] outs c) V ρ k0 ⟨e, h⟩ = pickExit ((baseEnv [P.length, P.length + 1, P.length + 2, P.length + 3, P.length + 4] e).killR wr) k0 r outs := by
 rw [eval_loopA']
 simp only [preOwn, rowsOf, List.all_nil, if_true, List.append_nil, ← hl, hf, tgt5, head_eq, hks, Hd_len, Hd_take, Hd_norm w hk cl, hx, bnd_some]
def H0 : AH := [.var [.own 2 0 0 4, .own 3 0 0 4, .lst true [], .lst true [], .own 4 0 0 4], .var [.own 2 0 0 4, .own 3 0 0 4, .lst true [], .lst true [], .own 4 0 0 4], .row 0 3 (freshW.bs.map Bv), .row 0 3 (freshW.ps.map Pv), .row 0 1 (freshW.did.map dv), .var [.own 2 0 0 4, .own 3 0 0 4, .lst true [], .lst true [], .own 4 0 0 4]]
theorem eval_loop0 {Γ : Tab} {V : Nat → Bool} {ρ : Type} (t : Nat) {e : Env} {keep : List Nat} {wr : List (Nat × Nat)} {outs : List (AX × List Nat)} {c : AC} {k0 : AX → St → Option ρ} {r : AX × List AV × AH} {ks : List AV}
  (he : e t = .ptr 5 0 0 0) (hks : headK 11 [6, 7, 8, 9, 10] (Hd P0 5 freshW) e keep = ks)
  (hx : iter (roundA Γ 6 [(t, 0, 3), (t, 1, 3), (t, 2, 5), (t, 3, 3), (t, 4, 1)] keep outs c ((baseEnv [6, 7, 8, 9, 10] e).killR wr) 11 [6, 7, 8, 9, 10]) (ks, Hd P0 5 freshW) = some r) :
  eval Γ (.loopA [(t, 0, 3), (t, 1, 3), (t, 2, 5), (t, 3, 3), (t, 4, 1)] keep wr [] outs c) V ρ k0 ⟨e, H0⟩ = pickExit ((baseEnv [6, 7, 8, 9, 10] e).killR wr) k0 r outs := by
 have hl : P0.length = H0.length := rfl
 exact eval_loopHd (P := P0) (k := 5) (w := freshW) hl (by decide) P0_cl (fresh_start e t he) hks hx
end Go.Proofs.Ytgefdmkmobaefaa
