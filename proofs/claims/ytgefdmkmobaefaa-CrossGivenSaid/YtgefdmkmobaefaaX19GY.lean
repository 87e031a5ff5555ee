import Derived.Test.YtgefdmkmobaefaaX19GX
set_option linter.unusedSimpArgs false
set_option linter.unusedVariables false
namespace Go.Proofs.Ytgefdmkmobaefaa
open Go.Am Go.Am.Nm Go.Lib Go.Cr
def bsN (i : Nat) : List Bo := (List.range i).map fun k : Nat => ⟨(k : Int), 0, true, []⟩
def psN (i : Nat) : List Pt := (List.range i).map fun k : Nat => ⟨(k : Int), true, [], true, []⟩
def ddN (i : Nat) : List (Bool × List Int) := List.replicate i (true, [])
theorem bsN_succ (i : Nat) : bsN (i + 1) = bsN i ++ [⟨(i : Int), 0, true, []⟩] := by simp [bsN, List.range_succ]
theorem psN_succ (i : Nat) : psN (i + 1) = psN i ++ [⟨(i : Int), true, [], true, []⟩] := by simp [psN, List.range_succ]
theorem ddN_succ (i : Nat) : ddN (i + 1) = ddN i ++ [(true, [])] := by simp [ddN, List.replicate_succ']
theorem bsN_len (i : Nat) : (bsN i).length = i := by simp [bsN]
theorem psN_len (i : Nat) : (psN i).length = i := by simp [psN]
theorem ddN_len (i : Nat) : (ddN i).length = i := by simp [ddN]
theorem reb1_own {s : St} {t o sz τ v n : Nat} (h : getC s t o = some (.own τ v 0 n)) : reb1 τ s (t, o, sz) = s := by
 unfold reb1
 rw [h]
 simp only [if_true]
theorem rebA_own3 {s : St} {τ t o0 o1 o2 z0 z1 z2 v0 v1 v2 n0 n1 n2 : Nat} (h0 : getC s t o0 = some (.own τ v0 0 n0)) (h1 : getC s t o1 = some (.own (τ + 1) v1 0 n1)) (h2 : getC s t o2 = some (.own (τ + 2) v2 0 n2)) : rebA τ [(t, o0, z0), (t, o1, z1), (t, o2, z2)] s = s := by
 simp only [rebA]
 rw [reb1_own h0, reb1_own h1, reb1_own h2]
set_option maxHeartbeats 1000000 in
theorem l16 {n : Nat} (hn : 61 ≤ n) (h : AH) (cl : Cl h.length h) (e0 : Env) (q1 : e0 1 = .ptr (h.length + 1) 0 0 0) :
  iter (roundA (C19.tab n) (h.length + 2) [(1, 0, 3), (1, 1, 3), (1, 4, 1)] [2] [(.exit 0, [])] c16_1 e0 (h.length + 5) [h.length + 2, h.length + 3, h.length + 4]) ([.int .i64 0], h ++ [.var [.lst true [], .lst true [], .lst true [], .lst true [], .lst true []], .var [.own (h.length + 2) 0 0 0, .own (h.length + 3) 0 0 0, .lst true [], .lst true [], .own (h.length + 4) 0 0 0], .row 0 3 [], .row 0 3 [], .row 0 1 []]) =
   some (.exit 0, [], h ++ [.var [.lst true [], .lst true [], .lst true [], .lst true [], .lst true []], .var [.own (h.length + 2) 0 0 4, .own (h.length + 3) 0 0 4, .lst true [], .lst true [], .own (h.length + 4) 0 0 4], .row 0 3 ((bsN 4).map Bv), .row 0 3 ((psN 4).map Pv), .row 0 1 ((ddN 4).map dv)]) := by
 have hnt := fun h0 Y => cl_tail (G := h) rfl cl (h.length + 5) [h.length + 2, h.length + 3, h.length + 4] (by omega) (fun r hr => by simp at hr; omega) h0 Y
 have htk := take_tail h
 exact for_list (f := roundA (C19.tab n) (h.length + 2) [(1, 0, 3), (1, 1, 3), (1, 4, 1)] [2] [(.exit 0, [])] c16_1 e0 (h.length + 5) [h.length + 2, h.length + 3, h.length + 4])
  (fun i (s : Nat) => ([.int .i64 (i : Int)], h ++ [.var [.lst true [], .lst true [], .lst true [], .lst true [], .lst true []], .var [.own (h.length + 2) 0 0 i, .own (h.length + 3) 0 0 i, .lst true [], .lst true [], .own (h.length + 4) 0 0 i], .row 0 3 ((bsN i).map Bv), .row 0 3 ((psN i).map Pv), .row 0 1 ((ddN i).map dv)])) [0, 1, 2, 3]
  (fun s _ => s) (fun _ => (.exit 0, [], h ++ [.var [.lst true [], .lst true [], .lst true [], .lst true [], .lst true []], .var [.own (h.length + 2) 0 0 4, .own (h.length + 3) 0 0 4, .lst true [], .lst true [], .own (h.length + 4) 0 0 4], .row 0 3 ((bsN 4).map Bv), .row 0 3 ((psN 4).map Pv), .row 0 1 ((ddN 4).map dv)])) (fun _ _ => True)
  (fun i hi s _ => by
   have hi4 : i < 4 := hi
   refine ⟨trivial, ?_⟩
   have h11 := s11 (n := n) (by omega) (i : Int)
   have h36 := s36 (n := n) (by omega) (i : Int)
   simp only [Bv, Pv, List.map_nil] at h11 h36
   have l1 := bsN_len i
   have l2 := psN_len i
   have l3 := ddN_len i
   have a1 : h.length + 2 + 1 = h.length + 3 := rfl
   have a2 : h.length + 3 + 1 = h.length + 4 := rfl
   have z1 : szOk 3 ((bsN i).map Bv) = true := by simp [szOk, Bv]
   have z2 : szOk 3 ((psN i).map Pv) = true := by simp [szOk, Pv]
   have z3 : szOk 1 ((ddN i).map dv) = true := by simp [szOk, dv, AV.cells]
   have t1 : List.take i ((bsN i).map Bv) = (bsN i).map Bv := List.take_of_length_le (by simp [l1])
   have t2 : List.take i ((psN i).map Pv) = (psN i).map Pv := List.take_of_length_le (by simp [l2])
   have t3 : List.take i ((ddN i).map dv) = (ddN i).map dv := List.take_of_length_le (by simp [l3])
   simp -implicitDefEqProofs (disch := omega) [-rebA, -head_eq, roundA_eq, b16_1, q1, a1, a2, hi4, h11, h36, gap_l, gap_r, sap_l, sap_r, l1, l2, l3, z1, z2, z3, t1, t2, t3, bsN_succ, psN_succ, ddN_succ, Bv, Pv, dv]
   rw [rebA_own3 (v0 := 1) (v1 := 1) (v2 := 1) (n0 := i + 1) (n1 := i + 1) (n2 := i + 1) (by simp -implicitDefEqProofs (disch := omega) [q1, gap_l, gap_r]) (by simp -implicitDefEqProofs (disch := omega) [q1, gap_l, gap_r]) (by simp -implicitDefEqProofs (disch := omega) [q1, gap_l, gap_r])]
   simp -implicitDefEqProofs (disch := omega) [hnt, htk, gap_l, gap_r]
   done)
  (fun s _ => by
   simp -implicitDefEqProofs (disch := omega) [-rebA, -head_eq, roundA_eq, b16_1]
   done) 0 trivial
def freshT (m : Nat) : AH := [.var [.own (m + 2) 0 0 4, .own (m + 3) 0 0 4, .lst true [], .lst true [], .own (m + 4) 0 0 4], .var [.own (m + 2) 0 0 4, .own (m + 3) 0 0 4, .lst true [], .lst true [], .own (m + 4) 0 0 4], .row 0 3 (freshW.bs.map Bv), .row 0 3 (freshW.ps.map Pv), .row 0 1 (freshW.did.map dv)]
theorem s16 {n : Nat} (hn : 61 < n) (h : AH) (cl : Cl h.length h) : callA (C19.tab n) 16 [] h = some (.agg [.own (h.length + 2) 0 0 4, .own (h.length + 3) 0 0 4, .lst true [], .lst true [], .own (h.length + 4) 0 0 4], h ++ freshT h.length) := by
 rw [p16 hn, runH_eq]
 have hnt := fun h0 Y => cl_tail (G := h) rfl cl (h.length + 5) [h.length + 2, h.length + 3, h.length + 4] (by omega) (fun r hr => by simp at hr; omega) h0 Y
 have htk := take_tail h
 have h16 := l16 (n := 61) (by decide) h cl
 have e1 : bsN 4 = freshW.bs := rfl
 have e2 : psN 4 = freshW.ps := rfl
 have e3 : ddN 4 = freshW.did := rfl
 rw [e1, e2, e3] at h16
 have a1 : h.length + 2 + 1 = h.length + 3 := rfl
 have a2 : h.length + 3 + 1 = h.length + 4 := rfl
 have c1 : ¬ h.length = h.length + 2 + 1 := by omega
 have c2 : ¬ h.length = h.length + 2 + 1 + 1 := by omega
 unfold freshT
 simp -implicitDefEqProofs (disch := omega) [c16, a1, a2, c1, c2, gap_l, gap_r, sap_l, sap_r, hnt, htk]
 rw [h16 _ (by simp -implicitDefEqProofs (disch := omega) [c1, c2])]
 simp -implicitDefEqProofs (disch := omega) [c1, c2, gap_l, gap_r, sap_l, sap_r]
 done
end Go.Proofs.Ytgefdmkmobaefaa

namespace Go.Proofs.Ytgefdmkmobaefaa
open Go.Am Go.Am.Nm Go.Lib Go.Cr
theorem s31 {n : Nat} (hn : 89 < n) (l : List Int) (f : Bool) (x : Int) (hl : l.length ≤ 1000000) : (C19.tab n).p 31 [.lst f (l.map I), I x] = some (.bool (decide (x ∈ l))) := by
 rw [p31 hn, runP_eq, runH_eq]
 have h : ∀ e0 : Env, e0 0 = .lst f (l.map I) → e0 1 = I x → iter (round (C19.tab 89) [5] [(.exit 0, []), (.ret, [4])] c31_1 e0 0 []) ([.int .i64 0], []) = some (if l.all (fun y => decide (y ≠ x)) = true then (.exit 0, [], []) else (.ret, [.bool true], [])) := fun e0 h0 h1 =>
  for_all (f := round (C19.tab 89) [5] [(.exit 0, []), (.ret, [4])] c31_1 e0 0 []) (fun i => ([.int .i64 (i : Int)], [])) l (fun y => decide (y ≠ x)) (.exit 0, [], []) (.ret, [.bool true], [])
   (fun i hi => by
    obtain ⟨y, hy⟩ : ∃ y, y = l[i] := ⟨_, rfl⟩
    rw [← hy]
    by_cases c : y = x
    ·simp -implicitDefEqProofs (disch := omega) [round_eq, b31_1, h0, h1, hi, ← hy, c]
     done
    ·simp -implicitDefEqProofs (disch := omega) [round_eq, b31_1, h0, h1, hi, ← hy, c]
     done)
   (by simp -implicitDefEqProofs (disch := omega) [round_eq, b31_1, h0, h1])
 simp -implicitDefEqProofs (disch := omega) [c31]
 rw [h _ (by simp -implicitDefEqProofs (disch := omega)) (by simp -implicitDefEqProofs (disch := omega))]
 by_cases c : x ∈ l
 ·have : ¬ l.all (fun y => decide (y ≠ x)) = true := by
   rw [List.all_eq_true]
   intro hh
   have := hh x c
   simp at this
  rw [if_neg this, decide_eq_true c]
  simp -implicitDefEqProofs (disch := omega)
 ·have : l.all (fun y => decide (y ≠ x)) = true := by
   rw [List.all_eq_true]
   intro y hy
   simp only [decide_eq_true_eq]
   exact fun e => c (e ▸ hy)
  rw [if_pos this, decide_eq_false c]
  simp -implicitDefEqProofs (disch := omega)
theorem s62 {n : Nat} (hn : 90 < n) (p : Pt) (x : Int) (hl : p.ready.length ≤ 1000000) : (C19.tab n).p 62 [Pv p, I x] = some (.bool (p.ready.any fun r => decide (r.id = x))) := by
 rw [p62 hn, runP_eq, runH_eq]
 have h : ∀ e0 : Env, e0 2 = .rptr [I p.id, .lst p.fr (p.ready.map Rv), .lst p.fd (p.did.map I)] → e0 1 = I x → iter (round (C19.tab 90) [5] [(.exit 0, []), (.ret, [4])] c62_1 e0 0 []) ([.int .i64 0], []) = some (if p.ready.all (fun y => decide (y.id ≠ x)) = true then (.exit 0, [], []) else (.ret, [.bool true], [])) := fun e0 h0 h1 =>
  for_all (f := round (C19.tab 90) [5] [(.exit 0, []), (.ret, [4])] c62_1 e0 0 []) (fun i => ([.int .i64 (i : Int)], [])) p.ready (fun y => decide (y.id ≠ x)) (.exit 0, [], []) (.ret, [.bool true], [])
   (fun i hi => by
    obtain ⟨y, hy⟩ : ∃ y, y = p.ready[i] := ⟨_, rfl⟩
    rw [← hy]
    by_cases c : y.id = x
    ·simp -implicitDefEqProofs (disch := omega) [round_eq, b62_1, h0, h1, hi, ← hy, c, Rv]
     done
    ·simp -implicitDefEqProofs (disch := omega) [round_eq, b62_1, h0, h1, hi, ← hy, c, Rv]
     done)
   (by simp -implicitDefEqProofs (disch := omega) [round_eq, b62_1, h0, h1])
 simp -implicitDefEqProofs (disch := omega) [c62, Pv]
 rw [h _ (by simp -implicitDefEqProofs (disch := omega)) (by simp -implicitDefEqProofs (disch := omega))]
 have e : (p.ready.any fun r => decide (r.id = x)) = !(p.ready.all fun y => decide (y.id ≠ x)) := by
  rw [List.not_all_eq_any_not]
  congr 1
  funext r
  simp
 rw [e]
 cases p.ready.all fun y => decide (y.id ≠ x) <;> simp -implicitDefEqProofs (disch := omega)
def atI (l : List Int) (x : Int) : Int := if x ∈ l then ((l.findIdx fun y => decide (y = x) : Nat) : Int) else -1
theorem s33 {n : Nat} (hn : 95 < n) (b : Bo) (hl : b.cases.length ≤ 1000000) : (C19.tab n).p 33 [Bv b] = some (I ((b.cases.countP fun c => !c.sure : Nat) : Int)) := by
 rw [p33 hn, runP_eq, runH_eq]
 have h : ∀ e0 : Env, e0 1 = .rptr [I b.id, I b.next, .lst b.fc (b.cases.map Cv)] → iter (round (C19.tab 95) [3, 4] [(.exit 0, [3])] c33_1 e0 0 []) ([.int .i64 0, .int .i64 0], []) = some (.exit 0, [.int .i64 ((b.cases.foldl (fun (s : Nat) c => if c.sure = true then s else s + 1) 0 : Nat) : Int)], []) := fun e0 h1 =>
  for_list (f := round (C19.tab 95) [3, 4] [(.exit 0, [3])] c33_1 e0 0 []) (fun i (s : Nat) => ([.int .i64 (s : Int), .int .i64 (i : Int)], [])) b.cases (fun s c => if c.sure = true then s else s + 1) (fun s => (.exit 0, [.int .i64 (s : Int)], [])) (fun i s => s ≤ i)
   (fun i hi s hs => by
    obtain ⟨c, hc⟩ : ∃ c, c = b.cases[i] := ⟨_, rfl⟩
    rw [← hc]
    cases hsu : c.sure with
    | true =>
     refine ⟨by simp; omega, ?_⟩
     simp -implicitDefEqProofs (disch := omega) [round_eq, b33_1, h1, hi, ← hc, Cv, hsu]
     done
    | false =>
     refine ⟨by simp; omega, ?_⟩
     simp -implicitDefEqProofs (disch := omega) [round_eq, b33_1, h1, hi, ← hc, Cv, hsu]
     done)
   (fun s hs => by simp -implicitDefEqProofs (disch := omega) [round_eq, b33_1, h1]) 0 (Nat.le_refl _)
 have hc : ∀ (l : List Ca) (k : Nat), l.foldl (fun (s : Nat) c => if c.sure = true then s else s + 1) k = k + l.countP fun c => !c.sure := by
  intro l
  induction l with
  | nil => intro k; rfl
  | cons c l ih =>
   intro k
   rw [List.foldl_cons, ih, List.countP_cons]
   cases c.sure <;> simp <;> omega
 simp -implicitDefEqProofs (disch := omega) [c33, Bv]
 rw [h _ (by simp -implicitDefEqProofs (disch := omega)), hc]
 simp -implicitDefEqProofs (disch := omega)
end Go.Proofs.Ytgefdmkmobaefaa

namespace Go.Proofs.Ytgefdmkmobaefaa
open Go.Am Go.Am.Nm Go.Lib Go.Cr
theorem clsh_comm (a b : List UInt8) : clsh a b = clsh b a := by unfold clsh; rw [Bool.or_comm]
theorem nodup_at {l : List Int} (h : l.Nodup) (i j : Nat) (hi : i < l.length) (hj : j < l.length) (hne : i ≠ j) : l[i] ≠ l[j] := by
 rcases Nat.lt_or_gt_of_ne hne with h1 | h1
 ·exact List.pairwise_iff_getElem.1 h i j hi hj h1
 ·exact Ne.symm (List.pairwise_iff_getElem.1 h j i hj hi h1)
theorem nodup_take {l : List Int} (h : l.Nodup) (i : Nat) (hi : i < l.length) : l[i] ∉ l.take i := by
 intro hm
 obtain ⟨j, hj, e⟩ := List.getElem_of_mem hm
 rw [List.length_take] at hj
 rw [List.getElem_take] at e
 exact nodup_at h j i (by omega) hi (by omega) e
theorem nodup_ne {α : Type} {key : α → Int} {l : List α} (h : (l.map key).Nodup) (i j : Nat) (hi : i < l.length) (hj : j < l.length) (hne : i ≠ j) : key l[i] ≠ key l[j] := by
 have := nodup_at h i j (by simpa using hi) (by simpa using hj) hne
 simpa using this
theorem inv_at {PS : List (List UInt8)} {w : Wd} (Hi : Inv isPth clsh PS w) (g : Nat) (hg : g < 4) : ∃ (p : Pt) (hp : g < w.ps.length) (d : Bool × List Int) (hd : g < w.did.length), p = w.ps[g] ∧ d = w.did[g] ∧ rd w g = p.ready ∧ dn w g = p.did ∧ d.2 = p.did := by
 have hp : g < w.ps.length := by rw [Hi.lp]; exact hg
 have hd : g < w.did.length := by rw [Hi.ld]; exact hg
 have gp := List.getElem?_eq_getElem hp
 have gd := List.getElem?_eq_getElem hd
 have h1 := rd_of gp
 have h2 := dn_of gp
 have h3 := Hi.dq g _ gd
 exact ⟨_, hp, _, hd, rfl, rfl, h1, h2, h3.trans h2⟩
section
variable {PS : List (List UInt8)} {w : Wd} {n : Nat} {G : AH} {N : Nat} {b u : Nat → Nat}
theorem l29_1 (hn : 91 ≤ n) (Hi : Inv isPth clsh PS w) (hdl : w.deeds.length ≤ 1000000) (H : WH G b u w) (hN : N < G.length) (hG : G[N] = .var (WC b u w)) (g : Nat) (hg : g < 4) (e0 : Env) (q1 : e0 1 = .ptr N 0 0 0) (q3 : e0 3 = .int .i64 g) :
  iter (round (C19.tab n) [4] [(.exit 2, []), (.ret, [2])] c29_1 e0 G.length []) ([.int .i64 0], G) = some (.exit 2, [], G) := by
 obtain ⟨p, hp, d, hd, ep, ed, er, edn, e2⟩ := inv_at Hi g hg
 have hb4 := H.lt 4 (by decide)
 have r4 := (List.getElem?_eq_some_iff.1 H.r4).2
 have hnd : d.2.Nodup := by have := (Hi.pt g).dd; rwa [edn, ← e2] at this
 have hdl2 : d.2.length ≤ 1000000 := by have := (inv_rd Hi g).2; rw [edn, ← e2] at this; omega
 have hno := fun h0 => normH_cl G.length [] h0 (Nat.le_refl _) G 0 H.cl (fun r hr => by cases hr)
 simp only [WC] at hG
 have hdv : (dv d).cells.length = 1 := rfl
 obtain ⟨df, dl⟩ := d
 simp only at hnd hdl2
 exact for_list (f := round (C19.tab n) [4] [(.exit 2, []), (.ret, [2])] c29_1 e0 G.length []) (fun i (_ : Unit) => ([.int .i64 (i : Int)], G)) dl (fun s _ => s) (fun _ => (.exit 2, [], G)) (fun _ _ => True)
  (fun i hi s _ => by
   refine ⟨trivial, ?_⟩
   have hnm := nodup_take hnd i hi
   obtain ⟨y, hy⟩ : ∃ y, y = dl[i] := ⟨_, rfl⟩
   rw [← hy] at hnm
   have h31 := fun f => s31 (n := n) (by omega) (dl.take i) f y (by simp; omega)
   rw [decide_eq_false hnm] at h31
   simp only [List.map_take] at h31
   simp -implicitDefEqProofs (disch := omega) [round_eq, b29_1, q1, q3, hG, hN, r4, hb4, hd, ← ed, dv, hi, ← hy, szI, h31, hno]
   done)
  (fun s _ => by
   simp -implicitDefEqProofs (disch := omega) [round_eq, b29_1, q1, q3, hG, hN, r4, hb4, hd, ← ed, dv]
   done) () trivial
theorem l29_2 (hn : 91 ≤ n) (cl : Cl G.length G) (l : List Rd) (f : Bool) (hl : l.length ≤ 1000000) (hnd : (l.map fun r => r.id).Nodup) (hap : l.Pairwise fun r s => clsh r.path s.path = false) (hpl : ∀ r ∈ l, r.path.length ≤ 1000000000) (i : Nat) (hi : i < l.length) (e0 : Env) (q6 : e0 6 = .lst f (l.map Rv)) (q7 : e0 7 = .int .i64 i) :
  iter (round (C19.tab n) [8] [(.exit 6, []), (.ret, [2])] c29_2 e0 G.length []) ([.int .i64 0], G) = some (.exit 6, [], G) := by
 have hno := fun h0 => normH_cl G.length [] h0 (Nat.le_refl _) G 0 cl (fun r hr => by cases hr)
 have ht : (l.take i).length = i := by simp; omega
 obtain ⟨x, hx⟩ : ∃ x, x = l[i] := ⟨_, rfl⟩
 have := for_list (f := round (C19.tab n) [8] [(.exit 6, []), (.ret, [2])] c29_2 e0 G.length []) (fun i (_ : Unit) => ([.int .i64 (i : Int)], G)) (l.take i) (fun s _ => s) (fun _ => (.exit 6, [], G)) (fun _ _ => True)
  (fun k hk s _ => by
   refine ⟨trivial, ?_⟩
   rw [ht] at hk
   have hkl : k < l.length := by omega
   obtain ⟨y, hy⟩ : ∃ y, y = l[k] := ⟨_, rfl⟩
   have hc : clsh x.path y.path = false := by
    rw [clsh_comm, hx, hy]
    exact List.pairwise_iff_getElem.1 hap k i hkl hi hk
   have hne : x.id ≠ y.id := by
    rw [hx, hy]
    exact nodup_ne (key := fun r : Rd => r.id) hnd i k hi hkl (by omega)
   have h57 := s57 (n := n) (by omega) x.path y.path (hpl x (by rw [hx]; exact List.getElem_mem hi)) (hpl y (by rw [hy]; exact List.getElem_mem hkl))
   rw [hc] at h57
   simp -implicitDefEqProofs (disch := omega) [round_eq, b29_2, q6, q7, hk, hi, hkl, ← hx, ← hy, Rv, h57, hne, hno]
   done)
  (fun s _ => by
   rw [ht]
   simp -implicitDefEqProofs (disch := omega) [round_eq, b29_2, q6, q7]
   done) () trivial
 exact this
theorem l29_3 (hn : 91 ≤ n) (cl : Cl G.length G) (l : List Rd) (f : Bool) (hl : l.length ≤ 1000000) (hnd : (l.map fun r => r.id).Nodup) (hap : l.Pairwise fun r s => clsh r.path s.path = false) (hpl : ∀ r ∈ l, r.path.length ≤ 1000000000) (e0 : Env) (q6 : e0 6 = .lst f (l.map Rv)) :
  iter (round (C19.tab n) [7] [(.exit 4, []), (.ret, [2])] c29_3 e0 G.length []) ([.int .i64 0], G) = some (.exit 4, [], G) := by
 have hno := fun h0 => normH_cl G.length [] h0 (Nat.le_refl _) G 0 cl (fun r hr => by cases hr)
 exact for_list (f := round (C19.tab n) [7] [(.exit 4, []), (.ret, [2])] c29_3 e0 G.length []) (fun i (_ : Unit) => ([.int .i64 (i : Int)], G)) l (fun s _ => s) (fun _ => (.exit 4, [], G)) (fun _ _ => True)
  (fun i hi s _ => by
   refine ⟨trivial, ?_⟩
   have h2 := l29_2 (n := n) hn cl l f hl hnd hap hpl i hi
   simp -implicitDefEqProofs (disch := omega) [round_eq, b29_3, q6, hi, hno]
   rw [h2 _ (by simp -implicitDefEqProofs (disch := omega) [q6]) (by simp -implicitDefEqProofs (disch := omega))]
   simp -implicitDefEqProofs (disch := omega) [hno]
   done)
  (fun s _ => by
   simp -implicitDefEqProofs (disch := omega) [round_eq, b29_3, q6]
   done) () trivial
theorem l29_4 (hn : 91 ≤ n) (Hi : Inv isPth clsh PS w) (hPS : ∀ p ∈ PS, p.length ≤ 1000000000) (hdl : w.deeds.length ≤ 1000000) (H : WH G b u w) (hN : N < G.length) (hG : G[N] = .var (WC b u w)) (e0 : Env) (q1 : e0 1 = .ptr N 0 0 0) :
  iter (round (C19.tab n) [3] [(.exit 0, []), (.ret, [2])] c29_4 e0 G.length []) ([.int .i64 0], G) = some (.exit 0, [], G) := by
 have hno := fun h0 => normH_cl G.length [] h0 (Nat.le_refl _) G 0 H.cl (fun r hr => by cases hr)
 exact for_list (f := round (C19.tab n) [3] [(.exit 0, []), (.ret, [2])] c29_4 e0 G.length []) (fun i (_ : Unit) => ([.int .i64 (i : Int)], G)) [0, 1, 2, 3] (fun s _ => s) (fun _ => (.exit 0, [], G)) (fun _ _ => True)
  (fun g hg s _ => by
   refine ⟨trivial, ?_⟩
   have hg : g < 4 := hg
   obtain ⟨p, hp, d, hd, ep, ed, er, edn, e2⟩ := inv_at Hi g hg
   have P := Hi.pt g
   have h1 := l29_1 (n := n) hn Hi hdl H hN hG g hg
   have h3 := l29_3 (n := n) hn H.cl p.ready p.fr (by have := (inv_rd Hi g).1; rw [er] at this; omega) (by have := P.nd; rwa [er] at this) (by have := P.ap; rwa [er] at this) (fun r hr => by
    obtain ⟨x, hx, _, hz⟩ := P.re r (by rw [er]; exact hr)
    exact hPS _ ((Hi.de x hx).pa _ (List.of_mem_zip hz).2).2)
   have hb1 := H.lt 1 (by decide)
   have r1 := (List.getElem?_eq_some_iff.1 H.r1).2
   have hG' := hG
   simp only [WC] at hG'
   simp -implicitDefEqProofs (disch := omega) [round_eq, b29_4, q1, hg, hno]
   rw [h1 _ (by simp -implicitDefEqProofs (disch := omega) [q1]) (by simp -implicitDefEqProofs (disch := omega))]
   simp -implicitDefEqProofs (disch := omega) [q1, hG', hN, r1, hb1, hp, ← ep, Pv, hno]
   rw [h3 _ (by simp -implicitDefEqProofs (disch := omega))]
   simp -implicitDefEqProofs (disch := omega) [hno]
   done)
  (fun s _ => by
   simp -implicitDefEqProofs (disch := omega) [round_eq, b29_4]
   done) () trivial
end
end Go.Proofs.Ytgefdmkmobaefaa

namespace Go.Proofs.Ytgefdmkmobaefaa
open Go.Am Go.Am.Nm Go.Lib Go.Cr
def swG (w : Wd) (d : De) (s : Bool × Bool) (g : Nat) : Bool × Bool :=
 (s.1 || decide (d.id ∈ dn w g), s.2 && (!decide ((g : Int) ∈ d.grs) || (decide (d.id ∈ dn w g) || (rd w g).any fun r => decide (r.id = d.id))))
section
variable {PS : List (List UInt8)} {w : Wd} {n : Nat} {G : AH} {N : Nat} {b u : Nat → Nat}
set_option maxHeartbeats 2000000 in
theorem l29_5 (hn : 91 ≤ n) (Hi : Inv isPth clsh PS w) (hdl : w.deeds.length ≤ 1000000) (H : WH G b u w) (hN : N < G.length) (hG : G[N] = .var (WC b u w)) (d : De) (hd : d ∈ w.deeds) (e0 : Env) (q1 : e0 1 = .ptr N 0 0 0) (q11 : e0 11 = .ptr G.length 0 0 0) :
  iter (round (C19.tab n) [12, 13, 14] [(.exit 10, [12, 13]), (.ret, [2])] c29_5 e0 (G.length + 1) []) ([.bool false, .bool true, .int .i64 0], G ++ [.var [I d.id, .lst d.fg (d.grs.map I), .lst d.fp (d.pas.map AV.str)]]) =
   some (.exit 10, [.bool ([0, 1, 2, 3].foldl (swG w d) (false, true)).1, .bool ([0, 1, 2, 3].foldl (swG w d) (false, true)).2], G ++ [.var [I d.id, .lst d.fg (d.grs.map I), .lst d.fp (d.pas.map AV.str)]]) := by
 have hnt := fun h0 Y => cl_tail (G := G) rfl H.cl (G.length + 1) [] (by omega) (fun r hr => by cases hr) h0 Y
 have htk := take_tail G
 have hb1 := H.lt 1 (by decide)
 have r1 := (List.getElem?_eq_some_iff.1 H.r1).2
 have hb4 := H.lt 4 (by decide)
 have r4 := (List.getElem?_eq_some_iff.1 H.r4).2
 simp only [WC] at hG
 have hgl := grs_le (Hi.de d hd)
 exact for_list (f := round (C19.tab n) [12, 13, 14] [(.exit 10, [12, 13]), (.ret, [2])] c29_5 e0 (G.length + 1) []) (fun i (s : Bool × Bool) => ([.bool s.1, .bool s.2, .int .i64 (i : Int)], G ++ [.var [I d.id, .lst d.fg (d.grs.map I), .lst d.fp (d.pas.map AV.str)]])) [0, 1, 2, 3] (swG w d)
  (fun s => (.exit 10, [.bool s.1, .bool s.2], G ++ [.var [I d.id, .lst d.fg (d.grs.map I), .lst d.fp (d.pas.map AV.str)]])) (fun _ _ => True)
  (fun g hg s _ => by
   refine ⟨trivial, ?_⟩
   have hg : g < 4 := hg
   have eg : ([0, 1, 2, 3] : List Nat)[g] = g := by
    match g, hg with
    | 0, _ => rfl
    | 1, _ => rfl
    | 2, _ => rfl
    | 3, _ => rfl
   rw [eg]
   obtain ⟨p, hp, dd, hdd, ep, ed, er, edn, e2⟩ := inv_at Hi g hg
   have hl2 := inv_rd Hi g
   rw [er, edn, ← e2] at hl2
   have hof : decide (d.id ∈ dn w g) = true → decide ((g : Int) ∈ d.grs) = true := fun h => by
    simp only [decide_eq_true_eq] at h ⊢
    obtain ⟨⟨x, hx, e, hxg⟩, _⟩ := (Hi.pt g).di _ h
    rw [← Hi.deq hx hd e]; exact hxg
   have h31a := s31 (n := n) (by omega) dd.2 dd.1 d.id (by omega)
   rw [e2, ← edn] at h31a
   have h31b := fun f => s31 (n := n) (by omega) d.grs f (g : Int) (by omega)
   have h62 := s62 (n := n) (by omega) p d.id (by omega)
   rw [← er] at h62
   simp only [Pv] at h62
   unfold swG
   generalize decide (d.id ∈ dn w g) = a at h31a hof ⊢
   generalize decide ((g : Int) ∈ d.grs) = c at h31b hof ⊢
   generalize ((rd w g).any fun r => decide (r.id = d.id)) = e at h62 ⊢
   obtain ⟨df, dl⟩ := dd
   simp only at h31a e2
   subst e2
   rw [edn] at h31a
   obtain ⟨s1, s2⟩ := s
   cases a with
   | true =>
    have hc := hof rfl
    subst hc
    cases s1 <;> cases s2 <;> cases e
    all_goals
     simp -implicitDefEqProofs (disch := omega) [round_eq, b29_5, q1, q11, hG, hN, hg, r1, hb1, r4, hb4, hp, ← ep, hdd, ← ed, dv, Pv, h31a, a31, h31b, h62, hnt, htk, gap_l, gap_r]
     done
   | false =>
    cases c <;> cases s1 <;> cases s2 <;> cases e
    all_goals
     simp -implicitDefEqProofs (disch := omega) [round_eq, b29_5, q1, q11, hG, hN, hg, r1, hb1, r4, hb4, hp, ← ep, hdd, ← ed, dv, Pv, h31a, a31, h31b, h62, hnt, htk, gap_l, gap_r]
     done)
  (fun s _ => by
   simp -implicitDefEqProofs (disch := omega) [round_eq, b29_5]
   done) (false, true) trivial
theorem swG_some (w : Wd) (d : De) : ∀ (l : List Nat) (s : Bool × Bool), (l.foldl (swG w d) s).1 = true → s.1 = true ∨ ∃ g ∈ l, d.id ∈ dn w g
 | [], s, h => .inl h
 | g :: l, s, h => by
  rw [List.foldl_cons] at h
  rcases swG_some w d l _ h with h | ⟨x, hx, h⟩
  ·unfold swG at h
   simp only [Bool.or_eq_true, decide_eq_true_eq] at h
   rcases h with h | h
   ·exact .inl h
   ·exact .inr ⟨g, List.mem_cons_self .., h⟩
  ·exact .inr ⟨x, List.mem_cons_of_mem _ hx, h⟩
theorem swG_whole (w : Wd) (d : De) : ∀ (l : List Nat) (s : Bool × Bool), s.2 = true → (∀ g ∈ l, (g : Int) ∈ d.grs → d.id ∈ dn w g ∨ isR w g d.id) → (l.foldl (swG w d) s).2 = true
 | [], s, h, _ => h
 | g :: l, s, h, hg => by
  rw [List.foldl_cons]
  refine swG_whole w d l _ ?_ fun x hx => hg x (List.mem_cons_of_mem _ hx)
  unfold swG
  simp only [h, Bool.true_and, Bool.or_eq_true, Bool.not_eq_true', decide_eq_true_eq, decide_eq_false_iff_not, List.any_eq_true]
  by_cases c : (g : Int) ∈ d.grs
  ·rcases hg g (List.mem_cons_self ..) c with h | ⟨r, h, e⟩
   ·exact .inr (.inl h)
   ·exact .inr (.inr ⟨r, h, e⟩)
  ·exact .inl c
theorem inv_whole (Hi : Inv isPth clsh PS w) {d : De} (hd : d ∈ w.deeds) : ¬ (([0, 1, 2, 3].foldl (swG w d) (false, true)).1 = true ∧ ([0, 1, 2, 3].foldl (swG w d) (false, true)).2 = false) := by
 rintro ⟨h1, h2⟩
 rcases swG_some w d _ _ h1 with h | ⟨g, _, hg⟩
 ·cases h
 ·have hall : ∀ x ∈ d.grs, d.id ∈ dn w x.toNat ∨ isR w x.toNat d.id := by
   by_cases hgo : goneC w d
   ·rcases Hi.go d hd hgo with h | h
    ·exact fun x hx => .inl (h x hx)
    ·exact absurd hg (h g)
   ·simp only [goneC, Classical.not_forall] at hgo
    obtain ⟨c, hc, e⟩ := hgo
    have e : c.de.id = d.id := Classical.not_not.1 e
    have C := Hi.ca _ c hc
    have hcd : c.de = d := Hi.deq C.de hd e
    cases hs : c.sure with
    | true =>
     have := (C.su hs).1
     rw [hcd] at this
     exact fun x hx => (this x hx).symm
    | false =>
     have := (C.un hs).1
     rw [hcd] at this
     exact absurd hg (this g)
  have := swG_whole w d [0, 1, 2, 3] (false, true) rfl fun x _ hx => by
   have := hall x hx
   simpa using this
  rw [h2] at this
  cases this
theorem l29_6 (hn : 91 ≤ n) (Hi : Inv isPth clsh PS w) (hdl : w.deeds.length ≤ 1000000) (H : WH G b u w) (hN : N < G.length) (hG : G[N] = .var (WC b u w)) (e0 : Env) (q1 : e0 1 = .ptr N 0 0 0) :
  iter (round (C19.tab n) [10] [(.exit 8, []), (.ret, [2])] c29_6 e0 G.length []) ([.int .i64 0], G) = some (.exit 8, [], G) := by
 have hno := fun h0 => normH_cl G.length [] h0 (Nat.le_refl _) G 0 H.cl (fun r hr => by cases hr)
 have hnt := fun h0 Y => cl_tail (G := G) rfl H.cl (G.length + 1) [] (by omega) (fun r hr => by cases hr) h0 Y
 have htk := take_tail G
 have htk0 : ∀ Y : AH, (G ++ Y).take G.length = G := fun Y => by rw [List.take_append_of_le_length (Nat.le_refl _), List.take_length]
 have hb3 := H.lt 3 (by decide)
 have r3 := (List.getElem?_eq_some_iff.1 H.r3).2
 have hG' := hG
 simp only [WC] at hG'
 exact for_list (f := round (C19.tab n) [10] [(.exit 8, []), (.ret, [2])] c29_6 e0 G.length []) (fun i (_ : Unit) => ([.int .i64 (i : Int)], G)) w.deeds (fun s _ => s) (fun _ => (.exit 8, [], G)) (fun _ _ => True)
  (fun i hi s _ => by
   refine ⟨trivial, ?_⟩
   obtain ⟨d, hd⟩ : ∃ d, d = w.deeds[i] := ⟨_, rfl⟩
   have hdm : d ∈ w.deeds := by rw [hd]; exact List.getElem_mem hi
   have h5 := l29_5 (n := n) hn Hi hdl H hN hG d hdm
   have hsw := inv_whole Hi hdm
   generalize ([0, 1, 2, 3].foldl (swG w d) (false, true)) = r at h5 hsw
   obtain ⟨r1, r2⟩ := r
   simp only at h5 hsw
   simp -implicitDefEqProofs (disch := omega) [round_eq, b29_6, q1, hG', hN, hi, r3, hb3, ← hd, Dv, gap_l, gap_r, sap_l, sap_r, hnt, htk]
   rw [h5 _ (by simp -implicitDefEqProofs (disch := omega) [q1]) (by simp -implicitDefEqProofs (disch := omega))]
   cases r1 with
   | false =>
    simp -implicitDefEqProofs (disch := omega) [htk0, hno]
    done
   | true =>
    cases r2 with
    | true =>
     simp -implicitDefEqProofs (disch := omega) [htk0, hno]
     done
    | false => exact absurd ⟨rfl, rfl⟩ hsw)
  (fun s _ => by
   simp -implicitDefEqProofs (disch := omega) [round_eq, b29_6, q1, hG', hN]
   done) () trivial
end
theorem s29 {n : Nat} (hn : 91 < n) {PS : List (List UInt8)} {w : Wd} (Hi : Inv isPth clsh PS w) (hPS : ∀ p ∈ PS, p.length ≤ 1000000000) (hdl : w.deeds.length ≤ 1000000) (h : AH) (b u : Nat → Nat) (H : WH h b u w) :
  callA (C19.tab n) 29 [.agg (WC b u w)] h = some (.bool true, h ++ [.var (WC b u w)]) := by
 rw [p29 hn, runH_eq]
 have H1 : WH (h ++ [.var (WC b u w)]) b u w := H.app (by
  simp only [List.length_append, List.length_cons, List.length_nil, Cl, List.all_cons, List.all_nil, Bool.and_true]
  exact cel_WC fun j hj => by have := H.lt j hj; omega)
 have hno := fun h0 => normH_cl (h ++ [AB.var (WC b u w)]).length [] h0 (Nat.le_refl _) _ 0 H1.cl (fun r hr => by cases hr)
 have h4 := l29_4 (n := 91) (Nat.le_refl _) Hi hPS hdl H1 (N := h.length) (by simp) (by simp)
 have h6 := l29_6 (n := 91) (Nat.le_refl _) Hi hdl H1 (N := h.length) (by simp) (by simp)
 simp only [List.length_append, List.length_cons, List.length_nil, Nat.zero_add, WC] at h4 h6 hno
 have htk0 : ∀ Y : AH, (h ++ Y).take (h.length + 1) = h ++ Y.take 1 := fun Y => take_tail h Y 1
 simp -implicitDefEqProofs (disch := omega) [c29, WC, gap_l, gap_r, sap_l, sap_r, htk0, hno]
 rw [h4 _ (by simp -implicitDefEqProofs (disch := omega))]
 simp -implicitDefEqProofs (disch := omega) [htk0, hno]
 rw [h6 _ (by simp -implicitDefEqProofs (disch := omega))]
 simp -implicitDefEqProofs (disch := omega) [htk0, hno]
end Go.Proofs.Ytgefdmkmobaefaa
