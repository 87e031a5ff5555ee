import Derived.Test.YtgefdmkmobaefaaX19HE
set_option linter.unusedSimpArgs false
set_option linter.unusedVariables false
namespace Go.Proofs.Ytgefdmkmobaefaa
open Go.Am Go.Am.Nm Go.Lib Go.Deep Go.Cr
set_option maxHeartbeats 4000000 in
theorem l4_3 {n : Nat} (hn : 66 ≤ n) (l : List Ac) (f : Bool) (hl : l.length ≤ 20) (hx : ∀ x ∈ l, XOK x) (ps : List Nat) (f' : Bool) (hps : ps.length ≤ 400) (hp8 : ∀ q ∈ ps, q < 256) (e0 : Env) (q0 : e0 0 = .lst f (l.map Xv)) (q1 : e0 1 = .lst f' (ps.map X8)) (q6 : e0 6 = .ptr 5 0 0 0) :
  iter (roundA (C19.tab n) 6 [(6, 0, 3), (6, 1, 3), (6, 2, 5), (6, 3, 3), (6, 4, 1)] [7, 8] [(.exit 0, []), (.ret, [4])] c4_3 e0 11 [6, 7, 8, 9, 10]) ([.int .i64 0, .int .i64 0], Hd P0 5 freshW) = some (.exit 0, [], Hd P0 5 (l.foldl (fun s x => alW isPth clsh ps 1000 (beginW isPth s.1 x, s.2)) (freshW, 0)).1) := by
 refine for_list (f := roundA (C19.tab n) 6 [(6, 0, 3), (6, 1, 3), (6, 2, 5), (6, 3, 3), (6, 4, 1)] [7, 8] [(.exit 0, []), (.ret, [4])] c4_3 e0 11 [6, 7, 8, 9, 10]) (fun i (s : Wd × Nat) => ([.int .i64 (s.2 : Int), .int .i64 (i : Int)], Hd P0 5 s.1)) l (fun s x => alW isPth clsh ps 1000 (beginW isPth s.1 x, s.2)) (fun s => (.exit 0, [], Hd P0 5 s.1)) (fun i s => Inv isPth clsh PSN s.1 ∧ Idle s.1 ∧ s.1.deeds.length = i ∧ s.2 ≤ ps.length)
  (fun i hi s hs => ?_) (fun s hs => by
   simp -implicitDefEqProofs (disch := omega) [-rebA, -head_eq, -eval_loopA', roundA_eq, b4_3, q0]
   done) (freshW, 0) ⟨Inv.fresh, idle_fresh, rfl, Nat.zero_le _⟩
 obtain ⟨Hi, Id0, hd, hc⟩ := hs
 obtain ⟨w, c⟩ := s
 simp only at Hi Id0 hd hc
 obtain ⟨x, hxe⟩ : ∃ x, x = l[i] := ⟨_, rfl⟩
 rw [← hxe]
 have hxo : XOK x := hx x (by rw [hxe]; exact List.getElem_mem hi)
 obtain ⟨d, h1, Hb, Ha, Ia, h4, hall⟩ := alone_step pathN_mem Hi Id0 (by omega) ps c x
 have hc2 := (alW_nx ps 1000 (beginW isPth w x, c) Hb).2 hc
 have hak : x.who % 4 < w.bs.length := by rw [Hi.lb]; exact Nat.mod_lt _ (by decide)
 have hbi := Hi.bi _ _ (List.getElem?_eq_getElem hak)
 have hk4 : x.who % 4 < 4 := Nat.mod_lt _ (by decide)
 obtain ⟨h2, b2, u2, e17, H2, F2⟩ := s17 (n := n) (by omega) w x hxo (Hd P0 5 w) _ _ (Hd_WH w (by decide) P0_cl) Hi.wi _ hak rfl (by have := hbi.2.2; omega) (by rw [hbi.1]; omega) hbi.2.1 (by omega)
 obtain ⟨w1, hw1⟩ : ∃ w1, w1 = beginW isPth w x := ⟨_, rfl⟩
 rw [← hw1] at h1 Hb Ha Ia h4 hall hc2 e17 H2 ⊢
 obtain ⟨w2, hw2⟩ : ∃ w2, w2 = (alW isPth clsh ps 1000 (w1, c)).1 := ⟨_, rfl⟩
 obtain ⟨c2, hc2e⟩ : ∃ c2, c2 = (alW isPth clsh ps 1000 (w1, c)).2 := ⟨_, rfl⟩
 rw [← hw2] at Ha Ia h4 hall
 rw [← hc2e] at hc2
 have hpair : alW isPth clsh ps 1000 (w1, c) = (w2, c2) := by rw [hw2, hc2e]
 rw [hpair]
 refine ⟨⟨Ha, Ia, by simp only; rw [h4]; simp; omega, hc2⟩, ?_⟩
 obtain ⟨k1, k2⟩ := boxW (by decide) F2
 have hkb := ((Fk.start P0 5 w).call F2).ne (by decide)
 have H2' := H2.other 5 (.var (WC b2 u2 w1)) hkb (cel_WC H2.lt)
 have FK1 := ((Fk.start P0 5 w).call F2).setk (by decide) (.var (WC b2 u2 w1))
 obtain ⟨P1, l1, cl1, f1, o1, r1⟩ := freshAW 6 5 (h2.set 5 (.var (WC b2 u2 w1))) b2 u2 w1 H2' (List.getElem?_set_self k1)
 have hk5 : 5 < P1.length := by rw [l1, List.length_set]; exact k1
 have FK2 := FK1.fresh l1 o1 r1 w2 (by decide)
 have FK3 := FK2.app [.var [I d.id, .lst d.fg (d.grs.map I), .lst d.fp (d.pas.map AV.str)]]
 have x1 := fun e0 q1 q6 => l4_1 (n := n) hn P1 5 hk5 cl1 ps f' hps hp8 e0 q1 q6 1000 w1 c (Nat.le_refl _) (by omega) Hb (by rw [h1]; simp; omega)
 rw [hpair, Nat.sub_self] at x1
 have HW2 := Hd_WH (P := P1) (k := 5) w2 hk5 cl1
 have gB := Hd_box P1 5 w2 hk5
 obtain ⟨y1, y2⟩ := List.getElem?_eq_some_iff.1 gB
 have gR := Hd_row P1 5 w2 3 (by decide)
 obtain ⟨y3, y4⟩ := List.getElem?_eq_some_iff.1 gR
 have hlen2 := Hd_len P1 5 w2
 have hd2 : w2.deeds.length ≤ 1000000 := by rw [h4]; simp; omega
 have x2 := l4_2 (C19.tab n) Ha hd2 HW2 y1 y2 d (by rw [h4]; simp) hall
 have HW3 := HW2.app (Y := [.var [I d.id, .lst d.fg (d.grs.map I), .lst d.fp (d.pas.map AV.str)]]) (by simp [Cl, clB, cel, AV.isE, AV.isS])
 have hst := fun e he => FK3.head (by decide) P0_cl HW3 (by rw [List.getElem?_append_left y1]; exact gB) e 6 he [7, 8] [.int .i64 (c2 : Int), .int .i64 ((i : Int) + 1)]
 rw [show P0.length = 6 from rfl] at hst e17 k2
 have g5 := Hd_box P0 5 w (by decide)
 rw [show P0.length = 6 from rfl] at g5
 obtain ⟨g1, g2⟩ := List.getElem?_eq_some_iff.1 g5
 obtain ⟨G, hG⟩ : ∃ G, G = Hd P0 5 w := ⟨_, rfl⟩
 rw [← hG] at e17
 simp only [← hG] at g1 g2 ⊢
 have hdi : w2.deeds[i]? = some d := by
  rw [h4, List.getElem?_append_right (by omega)]
  simp [hd]
 obtain ⟨y5, y6⟩ := List.getElem?_eq_some_iff.1 hdi
 have hl1 : w1.deeds.length = i + 1 := by rw [h1]; simp [hd]
 have hl2 : (w1.deeds.length : Int) = (i : Int) + 1 := by omega
 obtain ⟨G2, hG2⟩ : ∃ G2, G2 = Hd P1 5 w2 := ⟨_, rfl⟩
 have cl2 : Cl G2.length G2 := by rw [hG2]; exact HW2.cl
 simp only [← hG2] at x1 x2 y1 y2 y3 y4 hst hlen2
 have hnt := fun h0 Y => cl_tail (G := G2) rfl cl2 (G2.length + 1) [] (by omega) (fun r hr => by cases hr) h0 Y
 have htk := take_tail G2
 simp only [WC, Xv, Xc, X8, szW, esW, List.getElem?_cons_zero, List.getElem?_cons_succ, Option.getD_some, Nat.add_zero] at e17 g2 k2 y2 y4 f1
 push_cast at x1
 have y6' : w2.deeds[i] = d := y6
 simp -implicitDefEqProofs (disch := omega) [-rebA, -head_eq, -eval_loopA', roundA_eq, b4_3, q0, q6, hi, ← hxe, Xv, Xc, X8, g1, g2, e17, k1, k2, hl2]
 have nk1 : ¬ 5 = P1.length ∧ ¬ 5 = P1.length + 1 ∧ ¬ 5 = P1.length + 2 ∧ ¬ 5 = P1.length + 3 ∧ ¬ 5 = P1.length + 4 := by omega
 have l1' : P1.length = (h2.set 5 (AB.var [.own (b2 0) (u2 0) 0 w1.bs.length, .own (b2 1) (u2 1) 0 w1.ps.length, .own (b2 2) (u2 2) 0 w1.wire.length, .own (b2 3) (u2 3) 0 w1.deeds.length, .own (b2 4) (u2 4) 0 w1.did.length])).length := l1
 have eL := fun (V : Nat → Bool) (e : Env) k0 he hks hx => eval_loopHd (Γ := C19.tab n) (V := V) (ρ := (List AV × AH) ⊕ (AX × List AV × AH)) (t := 6) (k := 5) (P := P1) (w := w1) (e := e) (keep := [7, 9]) (wr := [(7, 7), (9, 11), (44, 81)]) (outs := [(.exit 2, [7])]) (c := c4_1) (k0 := k0) (r := (.exit 2, [.int .i64 (c2 : Int)], G2)) (ks := [.int .i64 (c : Int), .int .i64 0]) l1' hk5 cl1 (f1 e he) hks hx
 rw [eL _ _ _ (by simp -implicitDefEqProofs (disch := omega) [q6]) (by simp -implicitDefEqProofs (disch := omega)) (x1 _ (by simp -implicitDefEqProofs (disch := omega) [q1]) (by simp -implicitDefEqProofs (disch := omega) [q6, nk1]))]
 simp -implicitDefEqProofs (disch := omega) [-rebA, -head_eq, -eval_loopA', q6, nk1, y1, y2, y3, y4, y5, y6', Dv, gap_l, gap_r, sap_l, sap_r]
 simp -implicitDefEqProofs (disch := omega) [-rebA, -eval_loopA', hnt, htk]
 rw [x2 _ (by simp -implicitDefEqProofs (disch := omega) [q6, nk1]) (by simp -implicitDefEqProofs (disch := omega))]
 simp -implicitDefEqProofs (disch := omega) [-rebA, -head_eq, -eval_loopA', q6, nk1]
 refine hst _ (by simp -implicitDefEqProofs (disch := omega) [q6, nk1]) fun h' => ?_
 simp -implicitDefEqProofs (disch := omega)
set_option maxHeartbeats 1000000 in
theorem lp4 {n : Nat} (hn : 66 < n) (f : Bool) (l : List Ac) (hx : ∀ x ∈ l, XOK x) (f' : Bool) (ps : List Nat) (hp8 : ∀ q ∈ ps, q < 256) : (C19.tab n).p 4 [.lst f (l.map Xv), .lst f' (ps.map X8)] = some (.bool true) := by
 rw [p4 hn, runP_eq, runH_eq]
 have h10 := s10 (n := 66) (by decide)
 by_cases hl : l.length ≤ 20
 ·have hl' : ¬ 20 < l.length := by omega
  by_cases hp : ps.length ≤ 400
  ·have hp' : ¬ 400 < ps.length := by omega
   have h16 := s16 (n := 66) (by decide) [] rfl
   have h4 := l4_3 (n := 66) (Nat.le_refl _) l f hl hx ps f' hp hp8
   simp only [freshT, List.length_nil, List.nil_append, Nat.zero_add] at h16
   obtain ⟨G, hG⟩ : ∃ G, G = Hd P0 5 (l.foldl (fun s x => alW isPth clsh ps 1000 (beginW isPth s.1 x, s.2)) (freshW, 0)).1 := ⟨_, rfl⟩
   rw [← hG] at h4
   simp -implicitDefEqProofs (disch := omega) [-eval_loopA', c4, a10, h10, hl', hp', p16, h16, freshT]
   have e0 := fun (V : Nat → Bool) (e : Env) k0 he hks hx => eval_loop0 (Γ := C19.tab 66) (V := V) (ρ := AV × AH) (k0 := k0) (keep := [7, 8]) (wr := [(4, 4), (7, 14), (26, 116)]) (outs := [(.exit 0, []), (.ret, [4])]) (c := c4_3) (ks := [.int .i64 0, .int .i64 0]) (e := e) (r := (.exit 0, [], G)) 6 he hks hx
   unfold H0 at e0
   rw [e0 _ _ _ (by simp -implicitDefEqProofs (disch := omega)) (by simp -implicitDefEqProofs (disch := omega)) (h4 _ (by simp -implicitDefEqProofs (disch := omega)) (by simp -implicitDefEqProofs (disch := omega)) (by simp -implicitDefEqProofs (disch := omega)))]
   simp -implicitDefEqProofs (disch := omega)
  ·have hp' : 400 < ps.length := by omega
   simp -implicitDefEqProofs (disch := omega) [c4, a10, h10, hl', hp']
 ·have hl' : 20 < l.length := by omega
  simp -implicitDefEqProofs (disch := omega) [c4, a10, h10, hl']
theorem law4 (args : List AV) (h : ArgsT [(false, [.l true [.i .u8, .i .u8, .i .u8, .i .u8, .i .u8, .i .u8]]), (false, [.l false [.i .u8]])] args) : runP (C19.tab 66) c4 args = some (.bool true) := by
 obtain ⟨a, r, rfl, h1, h⟩ := h.inv
 obtain ⟨b, r, rfl, h2, h⟩ := h.inv
 have := h.inv0; subst this
 obtain ⟨f, l, rfl, _, hx⟩ := h1.one.aggs Xv XOK (fun _ => act_of)
 rw [← p4 (n := 67) (by decide)]
 obtain ⟨f', ns, rfl, _, hb⟩ := h2.one.ints
 have e : ns.map (AV.int .u8) = (ns.map Int.toNat).map X8 := by
  rw [List.map_map]
  refine List.map_congr_left fun q hq => ?_
  obtain ⟨k, rfl, _⟩ := nat_of (hb q hq)
  simp [X8]
 rw [e]
 refine lp4 (by decide) f l hx f' _ fun q hq => ?_
 obtain ⟨z, hz, rfl⟩ := List.mem_map.1 hq
 obtain ⟨k, rfl, hk⟩ := nat_of (hb z hz)
 simpa using hk
end Go.Proofs.Ytgefdmkmobaefaa
