import Derived.Test.YtgefdmkmobaefaaX19GZ
import Derived.Test.YtgefdmkmobaefaaCrGG
set_option linter.unusedSimpArgs false
set_option linter.unusedVariables false
namespace Go.Proofs.Ytgefdmkmobaefaa
open Go.Am Go.Am.Nm Go.Lib Go.Cr
set_option maxHeartbeats 2000000 in
theorem l4_1 {n : Nat} (hn : 66 ≤ n) {PS : List (List UInt8)} (P : AH) (k : Nat) (hk : k < P.length) (cl : Cl P.length P) (ps : List Nat) (f : Bool) (hps : ps.length ≤ 400) (hp8 : ∀ q ∈ ps, q < 256) (e0 : Env) (q1 : e0 1 = .lst f (ps.map X8)) (q6 : e0 6 = .ptr k 0 0 0) : ∀ (m : Nat) (w : Wd) (c : Nat), m ≤ 1000 → c ≤ 400 → Inv isPth clsh PS w → w.deeds.length ≤ 1000000 →
  iter (roundA (C19.tab n) P.length [(6, 0, 3), (6, 1, 3), (6, 2, 5), (6, 3, 3), (6, 4, 1)] [7, 9] [(.exit 2, [7])] c4_1 e0 (P.length + 5) [P.length, P.length + 1, P.length + 2, P.length + 3, P.length + 4]) ([.int .i64 (c : Int), .int .i64 ((1000 - m : Nat) : Int)], Hd P k w) =
   some (.exit 2, [.int .i64 ((alW isPth clsh ps m (w, c)).2 : Nat)], Hd P k (alW isPth clsh ps m (w, c)).1)
 | 0, w, c, hm, hc, Hi, hdl => by
  rw [iter_eq]
  unfold alW
  simp -implicitDefEqProofs (disch := omega) [-rebA, -head_eq, roundA_eq, b4_1]
 | m + 1, w, c, hm, hc, Hi, hdl => by
  obtain ⟨g1, g2⟩ := List.getElem?_eq_some_iff.1 (Hd_box P k w hk)
  have h1 : (1000 - (m + 1) : Nat) < 1000 := by omega
  have h3 : 1000 - m = (1000 - (m + 1)) + 1 := by omega
  by_cases hw : w.wire.length = 0
  ·rw [iter_eq]
   unfold alW
   rw [if_pos hw]
   obtain ⟨G, hG⟩ : ∃ G, G = Hd P k w := ⟨_, rfl⟩
   simp only [← hG] at g1 g2 ⊢
   simp only [WC, Nat.add_zero] at g2
   obtain ⟨z, hz⟩ : ∃ z, z = 1000 - (m + 1) := ⟨_, rfl⟩
   rw [← hz] at h1 ⊢
   simp -implicitDefEqProofs (disch := omega) [-rebA, -head_eq, roundA_eq, b4_1, q6, g1, g2, hw, h1]
   done
  ·have hw0 : 0 < w.wire.length := by omega
   have hwn : ¬ w.wire = [] := fun e => hw (by rw [e]; rfl)
   -- one step, whichever is picked
   have step : ∀ (i : Nat) (t : Bool) (c' : Nat), i < w.wire.length → c' ≤ 400 → pickS isPth clsh ps (1000 - (m + 1)) (w, c) = (takeW isPth clsh w i t, c') →
     (∀ (h2 : AH) (b2 u2 : Nat → Nat), callA (C19.tab n) 18 [.agg (WC (fun j => P.length + j) (fun _ => 0) w), .int .i64 (i : Int), .bool t] (Hd P k w) = some (.agg (WC b2 u2 (takeW isPth clsh w i t)), h2) → (∃ k1 : k < h2.length, h2[k] = .var (WC (fun j => P.length + j) (fun _ => 0) w)) →
      (∀ e : Env, e 6 = .ptr k 0 0 0 → ∀ keep ks, (∀ h', headK (P.length + 5) [P.length, P.length + 1, P.length + 2, P.length + 3, P.length + 4] h' e keep = ks) → head (P.length + 5) [P.length, P.length + 1, P.length + 2, P.length + 3, P.length + 4] keep (rebA P.length [(6, 0, 3), (6, 1, 3), (6, 2, 5), (6, 3, 3), (6, 4, 1)] ⟨e, h2.set k (.var (WC b2 u2 (takeW isPth clsh w i t)))⟩) = (ks, Hd P k (takeW isPth clsh w i t))) →
      roundA (C19.tab n) P.length [(6, 0, 3), (6, 1, 3), (6, 2, 5), (6, 3, 3), (6, 4, 1)] [7, 9] [(.exit 2, [7])] c4_1 e0 (P.length + 5) [P.length, P.length + 1, P.length + 2, P.length + 3, P.length + 4] ([.int .i64 (c : Int), .int .i64 ((1000 - (m + 1) : Nat) : Int)], Hd P k w) = some (.inl ([.int .i64 (c' : Int), .int .i64 (((1000 - (m + 1)) + 1 : Nat) : Int)], Hd P k (takeW isPth clsh w i t)))) →
     iter (roundA (C19.tab n) P.length [(6, 0, 3), (6, 1, 3), (6, 2, 5), (6, 3, 3), (6, 4, 1)] [7, 9] [(.exit 2, [7])] c4_1 e0 (P.length + 5) [P.length, P.length + 1, P.length + 2, P.length + 3, P.length + 4]) ([.int .i64 (c : Int), .int .i64 ((1000 - (m + 1) : Nat) : Int)], Hd P k w) = some (.exit 2, [.int .i64 ((alW isPth clsh ps (m + 1) (w, c)).2 : Nat)], Hd P k (alW isPth clsh ps (m + 1) (w, c)).1) := fun i t c' hi hc' hpk key => by
    obtain ⟨h2, b2, u2, e18, H2, F2⟩ := s18 (n := n) (by omega) Hi hdl i hi t (Hd P k w) _ _ (Hd_WH w hk cl)
    have hkb := ((Fk.start P k w).call F2).ne hk
    obtain ⟨k1, k2⟩ := boxW hk F2
    have FK := ((Fk.start P k w).call F2).setk hk (.var (WC b2 u2 (takeW isPth clsh w i t)))
    have H2' := H2.other k (.var (WC b2 u2 (takeW isPth clsh w i t))) hkb (cel_WC H2.lt)
    rw [iter_eq, key h2 b2 u2 e18 ⟨k1, k2⟩ fun e he keep ks hks => FK.head hk cl H2' (List.getElem?_set_self k1) e 6 he keep ks hks]
    have ih := l4_1 hn P k hk cl ps f hps hp8 e0 q1 q6 m (takeW isPth clsh w i t) c' (by omega) hc' (Hi.take i t) (by rw [takeW_deeds Hi]; exact hdl)
    rw [h3] at ih
    have ed : alW isPth clsh ps (m + 1) (w, c) = alW isPth clsh ps m (takeW isPth clsh w i t, c') := by
     conv => lhs; unfold alW
     rw [if_neg hw, hpk]
    rw [ed]
    exact ih
   obtain ⟨G, hG⟩ : ∃ G, G = Hd P k w := ⟨_, rfl⟩
   by_cases hcl : c < ps.length
   ·obtain ⟨q, hq⟩ : ∃ q, q = ps[c] := ⟨_, rfl⟩
    have hq8 : q < 256 := hp8 q (by rw [hq]; exact List.getElem_mem hcl)
    refine step (q % w.wire.length) (decide (200 ≤ q) && decide (1000 - (m + 1) < 50)) (c + 1) (Nat.mod_lt _ hw0) (by omega) (by unfold pickS; simp only [List.getElem?_eq_getElem hcl, ← hq]) fun h2 b2 u2 e18 hkk hst => ?_
    obtain ⟨k1, k2⟩ := hkk
    rw [← hG] at e18
    simp only [← hG] at g1 g2 ⊢
    have em : ((q : Int)).tmod (w.wire.length : Int) = ((q % w.wire.length : Nat) : Int) := tmodn q _
    obtain ⟨i, hi⟩ : ∃ i, i = q % w.wire.length := ⟨_, rfl⟩
    rw [← hi] at em e18 hst ⊢
    obtain ⟨z, hz⟩ : ∃ z, z = 1000 - (m + 1) := ⟨_, rfl⟩
    rw [← hz] at h1 e18 hst ⊢
    simp only [WC, Nat.add_zero] at g2 e18 k2 hst
    push_cast
    by_cases c2 : 200 ≤ q
    ·by_cases c3 : z < 50
     ·simp only [decide_eq_true c2, decide_eq_true c3, Bool.and_self] at e18 hst ⊢
      simp -implicitDefEqProofs (disch := omega) [-rebA, -head_eq, roundA_eq, b4_1, q1, q6, g1, g2, hw0, h1, hcl, ← hq, X8, em, hwn, c2, c3, e18, k1, k2]
      refine hst _ (by simp -implicitDefEqProofs (disch := omega) [q6]) _ _ fun h' => ?_
      simp -implicitDefEqProofs (disch := omega)
     ·simp only [decide_eq_true c2, decide_eq_false c3, Bool.and_false] at e18 hst ⊢
      simp -implicitDefEqProofs (disch := omega) [-rebA, -head_eq, roundA_eq, b4_1, q1, q6, g1, g2, hw0, h1, hcl, ← hq, X8, em, hwn, c2, c3, e18, k1, k2]
      refine hst _ (by simp -implicitDefEqProofs (disch := omega) [q6]) _ _ fun h' => ?_
      simp -implicitDefEqProofs (disch := omega)
    ·simp only [decide_eq_false c2, Bool.false_and] at e18 hst ⊢
     simp -implicitDefEqProofs (disch := omega) [-rebA, -head_eq, roundA_eq, b4_1, q1, q6, g1, g2, hw0, h1, hcl, ← hq, X8, em, hwn, c2, e18, k1, k2]
     refine hst _ (by simp -implicitDefEqProofs (disch := omega) [q6]) _ _ fun h' => ?_
     simp -implicitDefEqProofs (disch := omega)
   ·refine step 0 false c hw0 hc (by unfold pickS; simp only [List.getElem?_eq_none (show ps.length ≤ c by omega)]) fun h2 b2 u2 e18 hkk hst => ?_
    obtain ⟨k1, k2⟩ := hkk
    rw [← hG] at e18
    simp only [← hG] at g1 g2 ⊢
    obtain ⟨z, hz⟩ : ∃ z, z = 1000 - (m + 1) := ⟨_, rfl⟩
    rw [← hz] at h1 ⊢
    simp only [WC, Nat.add_zero] at g2 e18 k2 hst
    push_cast at e18 ⊢
    simp -implicitDefEqProofs (disch := omega) [-rebA, -head_eq, roundA_eq, b4_1, q1, q6, g1, g2, hw0, h1, hcl, e18, k1, k2]
    refine hst _ (by simp -implicitDefEqProofs (disch := omega) [q6]) _ _ fun h' => ?_
    simp -implicitDefEqProofs (disch := omega)
end Go.Proofs.Ytgefdmkmobaefaa

namespace Go.Proofs.Ytgefdmkmobaefaa
open Go.Am Go.Am.Nm Go.Lib Go.Deep Go.Cr
theorem l4_2 (Γ : Tab) {PS : List (List UInt8)} {w : Wd} {G : AH} {N : Nat} {b u : Nat → Nat} (Hi : Inv isPth clsh PS w) (hdl : w.deeds.length ≤ 1000000) (H : WH G b u w) (hN : N < G.length) (hG : G[N] = .var (WC b u w)) (d : De) (hd : d ∈ w.deeds) (hall : ∀ g : Nat, (g : Int) ∈ d.grs → ∃ D, dn w g = D ++ [d.id]) (e0 : Env) (q6 : e0 6 = .ptr N 0 0 0) (q12 : e0 12 = .ptr G.length 0 0 0) :
  iter (round Γ [13] [(.exit 4, []), (.ret, [4])] c4_2 e0 (G.length + 1) []) ([.int .i64 0], G ++ [.var [I d.id, .lst d.fg (d.grs.map I), .lst d.fp (d.pas.map AV.str)]]) = some (.exit 4, [], G ++ [.var [I d.id, .lst d.fg (d.grs.map I), .lst d.fp (d.pas.map AV.str)]]) := by
 have hnt := fun h0 Y => cl_tail (G := G) rfl H.cl (G.length + 1) [] (by omega) (fun r hr => by cases hr) h0 Y
 have htk := take_tail G
 have hb4 := H.lt 4 (by decide)
 have r4 := (List.getElem?_eq_some_iff.1 H.r4).2
 simp only [WC] at hG
 have hgl := grs_le (Hi.de d hd)
 exact for_list (f := round Γ [13] [(.exit 4, []), (.ret, [4])] c4_2 e0 (G.length + 1) []) (fun i (_ : Unit) => ([.int .i64 (i : Int)], G ++ [.var [I d.id, .lst d.fg (d.grs.map I), .lst d.fp (d.pas.map AV.str)]])) d.grs (fun s _ => s) (fun _ => (.exit 4, [], G ++ [.var [I d.id, .lst d.fg (d.grs.map I), .lst d.fp (d.pas.map AV.str)]])) (fun _ _ => True)
  (fun i hi s _ => by
   refine ⟨trivial, ?_⟩
   obtain ⟨g, hg⟩ : ∃ g, g = d.grs[i] := ⟨_, rfl⟩
   have hgm : g ∈ d.grs := by rw [hg]; exact List.getElem_mem hi
   have hg4 := (Hi.de d hd).le g hgm
   obtain ⟨gn, hgn⟩ : ∃ gn : Nat, g = (gn : Int) := ⟨g.toNat, by omega⟩
   have hgn4 : gn < 4 := by omega
   obtain ⟨D, hD⟩ := hall gn (by rw [← hgn]; exact hgm)
   obtain ⟨p, hp, dd, hdd, ep, ed, er, edn, e2⟩ := inv_at Hi gn hgn4
   have hl2 := (inv_rd Hi gn).2
   rw [hD] at edn hl2
   rw [← edn] at e2
   obtain ⟨df, dl⟩ := dd
   simp only at e2
   subst e2
   simp only [List.length_append, List.length_cons, List.length_nil] at hl2
   have hne : ¬ ((D.length : Int) + 1 = 0) := by omega
   have hlast : (List.map I D ++ [I d.id])[D.length]? = some (I d.id) := by
    rw [List.getElem?_append_right (by simp)]; simp
   simp -implicitDefEqProofs (disch := omega) [round_eq, b4_2, q6, q12, hG, hN, hi, ← hg, hgn, r4, hb4, hdd, ← ed, dv, gap_l, gap_r, hnt, htk, hne, hlast]
   done)
  (fun s _ => by
   simp -implicitDefEqProofs (disch := omega) [round_eq, b4_2, q12, gap_r]
   done) () trivial
theorem isPth_N : ∀ k, isPth (pathN k) = true := fun k => by
 have h : ∀ q, q < 8 → isPth (([[47, 97], [47, 98], [47, 97, 47, 98], [47, 99], [47, 100, 47, 101], [47, 100], [47, 101], [47, 102, 47, 103]][q]?).getD []) = true := by decide
 unfold pathN
 exact h _ (Nat.mod_lt _ (by decide))
theorem alW_nx {PS : List (List UInt8)} (ps : List Nat) : ∀ (m : Nat) (s : Wd × Nat), Inv isPth clsh PS s.1 → (∀ k, nx (alW isPth clsh ps m s).1 k = nx s.1 k) ∧ (s.2 ≤ ps.length → (alW isPth clsh ps m s).2 ≤ ps.length)
 | 0, s, _ => ⟨fun _ => rfl, fun h => h⟩
 | m + 1, s, H => by
  have tnx : ∀ (w : Wd) (i : Nat) (t : Bool), Inv isPth clsh PS w → ∀ k, nx (takeW isPth clsh w i t) k = nx w k := fun w i t Hw k => by
   have tell : ∀ (b : Bo) (m : Mg), (tellP b m).1.next = b.next := fun b m => by
    unfold tellP
    split
    ·split
     ·split <;> rfl
     ·split
      ·unfold tellC withC
       repeat' split
       all_goals rfl
      ·rfl
    ·rfl
   have come : ∀ (w : Wd) (m : Mg), nx (comeW isPth clsh w m) k = nx w k := fun w m => by
    unfold comeW
    split
    ·rfl
    ·split
     ·rename_i b p d hb hp hd
      have h1 : (hearW isPth clsh (tellW w m.to.toNat b m) m.to.toNat p d m).bs = w.bs.set m.to.toNat (tellP b m).1 := by
       unfold hearW sendW doneW tellW sendW
       split <;> rfl
      unfold nx
      rw [h1]
      by_cases e : k = m.to.toNat
      ·subst e
       rw [List.getElem?_set_self (List.getElem?_eq_some_iff.1 hb).1, hb]
       simp [tell]
      ·rw [List.getElem?_set_ne (Ne.symm e)]
     ·rfl
   unfold takeW
   split
   ·rfl
   ·rw [come]
    split <;> rfl
  unfold alW
  by_cases h0 : s.1.wire.length = 0
  ·rw [if_pos h0]; exact ⟨fun _ => rfl, fun h => h⟩
  ·rw [if_neg h0]
   unfold pickS
   cases hq : ps[s.2]? with
   | none =>
    have := alW_nx ps m (takeW isPth clsh s.1 0 false, s.2) (H.take 0 false)
    exact ⟨fun k => (this.1 k).trans (tnx _ _ _ H k), this.2⟩
   | some q =>
    have := alW_nx ps m (takeW isPth clsh s.1 (q % s.1.wire.length) (decide (200 ≤ q) && decide (1000 - (m + 1) < 50)), s.2 + 1) (H.take _ _)
    exact ⟨fun k => (this.1 k).trans (tnx _ _ _ H k), fun h => this.2 (by have := (List.getElem?_eq_some_iff.1 hq).1; simp only; omega)⟩
theorem alone_step {PS : List (List UInt8)} {w : Wd} (hPS : ∀ k, pathN k ∈ PS) (Hi : Inv isPth clsh PS w) (I : Idle w) (hdl : w.deeds.length ≤ 1000) (ps : List Nat) (c : Nat) (x : Ac) :
  ∃ d, (beginW isPth w x).deeds = w.deeds ++ [d] ∧ Inv isPth clsh PS (beginW isPth w x) ∧ Inv isPth clsh PS (alW isPth clsh ps 1000 (beginW isPth w x, c)).1 ∧ Idle (alW isPth clsh ps 1000 (beginW isPth w x, c)).1 ∧ (alW isPth clsh ps 1000 (beginW isPth w x, c)).1.deeds = w.deeds ++ [d] ∧
   ∀ g : Nat, (g : Int) ∈ d.grs → ∃ D, dn (alW isPth clsh ps 1000 (beginW isPth w x, c)).1 g = D ++ [d.id] := by
 obtain ⟨d, h1, h2, h3, h4, h5⟩ := begin_al Hi I hdl isPth_N hPS x
 have Hb := Hi.begin hPS x
 obtain ⟨z1, z2, z3, z4⟩ := al_end (isP := isPth) (clash := clsh) (PS := PS) ps 1000 0 (beginW isPth w x, c) rfl Hb h2 (by simp only; omega)
 have hnx := (alW_nx ps 1000 (beginW isPth w x, c) Hb).1
 have hlen : (alW isPth clsh ps 1000 (beginW isPth w x, c)).1.deeds.length = w.deeds.length + 1 := by rw [z4]; simp [h1]
 obtain ⟨i1, i2⟩ := al_idle z1 z2 z3 (fun k b hb => by
  have h6 := hnx k
  rw [nx_of hb] at h6
  rw [h6, hlen]
  simp only [nx]
  cases hbb : (beginW isPth w x).bs[k]? with
  | none => simp; omega
  | some b' =>
   have := h5 k b' hbb
   simpa using this)
 refine ⟨d, h1, Hb, z1, i1, by rw [z4]; exact h1, fun g hg => ?_⟩
 have h7 := i2 _ hg
 simp only [Int.toNat_natCast] at h7
 rcases z2.dn g with h | h
 ·rw [h] at h7; exact absurd h7 (h4 g)
 ·exact ⟨_, h⟩
theorem idle_fresh : Idle freshW := by
 refine ⟨rfl, fun k => ?_, fun g i => ?_, fun k b hb => ?_⟩
 ·match k with
  | 0 => rfl
  | 1 => rfl
  | 2 => rfl
  | 3 => rfl
  | _ + 4 => rfl
 ·rintro ⟨r, hr, _⟩
  match g with
  | 0 => cases hr
  | 1 => cases hr
  | 2 => cases hr
  | 3 => cases hr
  | _ + 4 => cases hr
 ·match k with
  | 0 => cases hb; decide
  | 1 => cases hb; decide
  | 2 => cases hb; decide
  | 3 => cases hb; decide
  | _ + 4 => simp [freshW] at hb
end Go.Proofs.Ytgefdmkmobaefaa
