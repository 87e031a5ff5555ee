import Derived.Test.YtgefdmkmobaefaaX19GZ
set_option linter.unusedSimpArgs false
set_option linter.unusedVariables false
namespace Go.Proofs.Ytgefdmkmobaefaa
open Go.Am Go.Am.Nm Go.Lib Go.Deep Go.Cr
theorem l7_1 {n : Nat} (hn : 70 ≤ n) (l : List Ac) (f : Bool) (hl : l.length ≤ 60) (hx : ∀ x ∈ l, XOK x) (e0 : Env) (q0 : e0 0 = .lst f (l.map Xv)) (q4 : e0 4 = .ptr 5 0 0 0) :
  iter (roundA (C19.tab n) 6 [(4, 0, 3), (4, 1, 3), (4, 2, 5), (4, 3, 3), (4, 4, 1)] [5] [(.exit 0, [])] c7_1 e0 11 [6, 7, 8, 9, 10]) ([.int .i64 0], Hd P0 5 freshW) = some (.exit 0, [], Hd P0 5 (actsW l freshW)) := by
 refine for_list (f := roundA (C19.tab n) 6 [(4, 0, 3), (4, 1, 3), (4, 2, 5), (4, 3, 3), (4, 4, 1)] [5] [(.exit 0, [])] c7_1 e0 11 [6, 7, 8, 9, 10]) (fun i (s : Wd) => ([.int .i64 (i : Int)], Hd P0 5 s)) l (doW isPth clsh) (fun s => (.exit 0, [], Hd P0 5 s)) (fun i s => Inv isPth clsh PSN s ∧ s.deeds.length ≤ i)
  (fun i hi s hs => ?_) (fun s hs => by
   simp -implicitDefEqProofs (disch := omega) [-rebA, -head_eq, roundA_eq, b7_1, q0]
   done) freshW ⟨Inv.fresh, Nat.le_refl _⟩
 obtain ⟨Hi, hd⟩ := hs
 obtain ⟨x, hxe⟩ : ∃ x, x = l[i] := ⟨_, rfl⟩
 rw [← hxe]
 have hxo : XOK x := hx x (by rw [hxe]; exact List.getElem_mem hi)
 have hd' := doW_dl Hi x
 refine ⟨⟨Hi.do pathN_mem x, by omega⟩, ?_⟩
 obtain ⟨h2, b2, u2, e19, H2, F2⟩ := s19 (n := n) (by omega) Hi (by omega) x hxo (Hd P0 5 s) _ _ (Hd_WH s (by decide) P0_cl)
 obtain ⟨k1, k2⟩ := boxW (by decide) F2
 have hst := fun e he => stepW0 (k := 5) (by decide) P0_cl H2 F2 e 4 he [5]
 rw [show P0.length = 6 from rfl] at hst e19 k2
 have g5 := Hd_box P0 5 s (by decide)
 rw [show P0.length = 6 from rfl] at g5
 obtain ⟨g1, g2⟩ := List.getElem?_eq_some_iff.1 g5
 obtain ⟨G, hG⟩ : ∃ G, G = Hd P0 5 s := ⟨_, rfl⟩
 rw [← hG] at e19
 simp only [← hG] at g1 g2 ⊢
 simp only [WC, Xv, Xc, X8] at e19 g2 k2 hst
 simp -implicitDefEqProofs (disch := omega) [-rebA, -head_eq, roundA_eq, b7_1, q0, q4, hi, ← hxe, Xv, Xc, X8, g1, g2, e19, k1, k2]
 refine headEq (hst _ (by simp -implicitDefEqProofs (disch := omega) [q4])) fun h' => ?_
 simp -implicitDefEqProofs (disch := omega)
theorem acts_inv : ∀ (l : List Ac) {w : Wd}, Inv isPth clsh PSN w → Inv isPth clsh PSN (actsW l w) ∧ (actsW l w).deeds.length ≤ w.deeds.length + l.length
 | [], w, H => ⟨H, Nat.le_refl _⟩
 | x :: l, w, H => by
  have h1 := acts_inv l (H.do pathN_mem x)
  have h2 := doW_dl H x
  refine ⟨h1.1, ?_⟩
  have h3 : (actsW (x :: l) w).deeds.length ≤ (doW isPth clsh w x).deeds.length + l.length := h1.2
  simp only [List.length_cons]
  omega
set_option maxHeartbeats 1000000 in
theorem lp7 {n : Nat} (hn : 94 < n) (f : Bool) (l : List Ac) (hx : ∀ x ∈ l, XOK x) : (C19.tab n).p 7 [.lst f (l.map Xv)] = some (.bool true) := by
 rw [p7 hn, runP_eq, runH_eq]
 have h10 := s10 (n := 94) (by decide)
 by_cases hl : l.length ≤ 60
 ·have hl' : ¬ 60 < l.length := by omega
  have h16 := s16 (n := 94) (by decide) [] rfl
  have h7 := l7_1 (n := 94) (by decide) l f hl hx
  simp only [freshT, List.length_nil, List.nil_append, Nat.zero_add] at h16
  obtain ⟨Hi1, hd1⟩ := acts_inv l (w := freshW) Inv.fresh
  have hd1 : (actsW l freshW).deeds.length ≤ 60 := by
   have : freshW.deeds.length = 0 := rfl
   omega
  obtain ⟨w1, hw1⟩ : ∃ w1, w1 = actsW l freshW := ⟨_, rfl⟩
  rw [← hw1] at Hi1 hd1 h7
  obtain ⟨z1, z2, z3, z4, z5⟩ := calm_end Hi1 (by omega) clsh_refl (by decide)
  have Hi2 := Inv.calm 6 Hi1
  obtain ⟨h3, b3, u3, e30, H3, F3⟩ := s30 (n := 94) (by decide) Hi1 (by omega) 6 (by decide) (Hd P0 5 w1) _ _ (Hd_WH w1 (by decide) P0_cl)
  obtain ⟨w2, hw2⟩ : ∃ w2, w2 = calmW isPth clsh 6 w1 := ⟨_, rfl⟩
  rw [← hw2] at z1 z2 z3 z4 z5 Hi2 e30 H3
  have hd2 : w2.deeds.length ≤ 1000000 := by rw [z4]; omega
  obtain ⟨k1, k2⟩ := boxW (by decide) F3
  have hkb := ((Fk.start P0 5 w1).call F3).ne (by decide)
  have H3' := H3.other 5 (.var (WC b3 u3 w2)) hkb (cel_WC H3.lt)
  have h29 := s29 (n := 94) (by decide) Hi2 PSN_len hd2 _ b3 u3 H3'
  have H4 := H3'.app (Y := [.var (WC b3 u3 w2)]) (by
   simp only [Cl, List.all_cons, List.all_nil, Bool.and_true]
   exact cel_WC fun j hj => by have := H3.lt j hj; simp; omega)
  obtain ⟨Gf, hGf⟩ : ∃ Gf, Gf = h3.set 5 (.var (WC b3 u3 w2)) ++ [.var (WC b3 u3 w2)] := ⟨_, rfl⟩
  rw [← hGf] at H4 h29
  have gf5 : Gf[5]? = some (.var (WC b3 u3 w2)) := by
   rw [hGf, List.getElem?_append_left (by simpa using k1), List.getElem?_set_self k1]
  obtain ⟨y1, y2⟩ := List.getElem?_eq_some_iff.1 gf5
  have x2 := l7_2 (C19.tab 94) H4 y1 y2 Hi2.lb Hi2.lp z1 z2
  have x4 := l7_4 (n := 94) (Nat.le_refl _) Hi2 hd2 H4 y1 y2 (by rw [z4]; exact z5)
  have hno := fun h0 => normH_cl Gf.length [] h0 (Nat.le_refl _) Gf 0 H4.cl (fun r hr => by cases hr)
  have htk : Gf.take Gf.length = Gf := List.take_length
  have g5 := Hd_box P0 5 w1 (by decide)
  rw [show P0.length = 6 from rfl] at g5 e30 k2
  obtain ⟨g1, g2⟩ := List.getElem?_eq_some_iff.1 g5
  have hz : w2.wire.length = 0 := by rw [z3]; rfl
  obtain ⟨G, hG⟩ : ∃ G, G = Hd P0 5 w1 := ⟨_, rfl⟩
  rw [← hG] at e30 h7
  simp only [← hG] at g1 g2
  simp only [WC] at g2 e30 k2 h29 y2
  push_cast at e30
  simp -implicitDefEqProofs (disch := omega) [-eval_loopA', c7, a10, h10, hl', p16, h16, freshT]
  have e0 := fun (V : Nat → Bool) (e : Env) k0 he hks hx => eval_loop0 (Γ := C19.tab 94) (V := V) (ρ := AV × AH) (k0 := k0) (keep := [5]) (wr := [(5, 5), (18, 29)]) (outs := [(.exit 0, [])]) (c := c7_1) (ks := [.int .i64 0]) (e := e) (r := (.exit 0, [], G)) 4 he hks hx
  unfold H0 at e0
  rw [e0 _ _ _ (by simp -implicitDefEqProofs (disch := omega)) (by simp -implicitDefEqProofs (disch := omega)) (h7 _ (by simp -implicitDefEqProofs (disch := omega)) (by simp -implicitDefEqProofs (disch := omega)))]
  simp -implicitDefEqProofs (disch := omega) [g1, g2, e30, k1, k2, h29, y1, y2, hno, htk]
  rw [x2 _ (by simp -implicitDefEqProofs (disch := omega))]
  simp -implicitDefEqProofs (disch := omega) [y1, y2, hno, htk]
  rw [x4 _ (by simp -implicitDefEqProofs (disch := omega))]
  simp -implicitDefEqProofs (disch := omega)
 ·have hl' : 60 < l.length := by omega
  simp -implicitDefEqProofs (disch := omega) [c7, a10, h10, hl']
theorem law7 (args : List AV) (h : ArgsT [(false, [.l true [.i .u8, .i .u8, .i .u8, .i .u8, .i .u8, .i .u8]])] args) : runP (C19.tab 94) c7 args = some (.bool true) := by
 obtain ⟨a, r, rfl, h1, h⟩ := h.inv
 have := h.inv0; subst this
 obtain ⟨f, l, rfl, _, hx⟩ := h1.one.aggs Xv XOK (fun _ => act_of)
 rw [← p7 (n := 95) (by decide)]
 exact lp7 (by decide) f l hx
end Go.Proofs.Ytgefdmkmobaefaa
