import Derived.Test.YtgefdmkmobaefaaX19HH
set_option linter.unusedSimpArgs false
set_option linter.unusedVariables false
namespace Go.Proofs.Ytgefdmkmobaefaa
open Go.Am Go.Am.Nm Go.Lib Go.Deep Go.Cr
theorem bk_len4 {w : Wd} (H : Inv isPth clsh PSN w) : ([0, 1, 2, 3].foldl bkS (w, [])).2.length ≤ 64 := by
 have h0 : Up (w, ([] : List Int)).1 (w, ([] : List Int)).2 := fun i hi => by cases hi
 have step : ∀ (s : Wd × List Int) (g : Nat), g < 4 → Inv isPth clsh PSN s.1 ∧ Up s.1 s.2 → (Inv isPth clsh PSN (bkS s g).1 ∧ Up (bkS s g).1 (bkS s g).2) ∧ (bkS s g).2.length ≤ s.2.length + 16 := fun s g hg h => by
  have hgb : g < s.1.bs.length := by rw [h.1.lb]; exact hg
  obtain ⟨u1, u2, _⟩ := bk_step (List.getElem?_eq_getElem hgb) h.1 h.2
  exact ⟨⟨u1, u2⟩, bk_len h.1⟩
 obtain ⟨a1, b1⟩ := step (w, []) 0 (by decide) ⟨H, h0⟩
 obtain ⟨a2, b2⟩ := step _ 1 (by decide) a1
 obtain ⟨a3, b3⟩ := step _ 2 (by decide) a2
 obtain ⟨a4, b4⟩ := step _ 3 (by decide) a3
 simp only [List.foldl_cons, List.foldl_nil]
 simp only [List.length_nil] at b1
 omega
set_option maxHeartbeats 4000000 in
theorem lp8 {n : Nat} (hn : 96 < n) (f : Bool) (l : List Ac) (hx : ∀ x ∈ l, XOK x) (f' : Bool) (l' : List Ac) (hx' : ∀ x ∈ l', XOK x) : (C19.tab n).p 8 [.lst f (l.map Xv), .lst f' (l'.map Xv)] = some (.bool true) := by
 rw [p8 hn, runP_eq, runH_eq]
 have h10 := s10 (n := 96) (by decide)
 by_cases hl : l.length ≤ 60
 ·have hl1 : ¬ 60 < l.length := by omega
  by_cases hm : l'.length ≤ 60
  ·have hm1 : ¬ 60 < l'.length := by omega
   have h16 := s16 (n := 96) (by decide) [] rfl
   have x1 := l8_1 (n := 96) (by decide) l f hl hx
   simp only [freshT, List.length_nil, List.nil_append, Nat.zero_add] at h16
   obtain ⟨Hi1, hd1⟩ := acts_inv l (w := freshW) Inv.fresh
   have hd1 : (actsW l freshW).deeds.length ≤ 60 := by
    have : freshW.deeds.length = 0 := rfl
    omega
   obtain ⟨w1, hw1⟩ : ∃ w1, w1 = actsW l freshW := ⟨_, rfl⟩
   rw [← hw1] at Hi1 hd1 x1
   have x3 := l8_3 (n := 96) (Nat.le_refl _) Hi1
   obtain ⟨Hi2, hU, hd2⟩ := bk_all [0, 1, 2, 3] (w1, []) (by decide) Hi1 (fun i hi => by cases hi)
   have hbl := bk_len4 Hi1
   obtain ⟨w2, hw2⟩ : ∃ w2, w2 = ([0, 1, 2, 3].foldl bkS (w1, [])).1 := ⟨_, rfl⟩
   obtain ⟨gone, hgone⟩ : ∃ gone, gone = ([0, 1, 2, 3].foldl bkS (w1, [])).2 := ⟨_, rfl⟩
   rw [← hw2, ← hgone] at x3 hU
   rw [← hw2] at Hi2 hd2
   rw [← hgone] at hbl
   simp only at hd2
   have hd2l : w2.deeds.length = w1.deeds.length := by rw [hd2]
   -- the second acts
   have HW2 := Hd_WH (P := P0) (k := 5) w2 (by decide) P0_cl
   have HG3 := HW2.app (Y := [.row 0 1 (gone.map I)]) rfl
   have hG3l : (Hd P0 5 w2 ++ [AB.row 0 1 (gone.map I)]).length = 12 := by rw [List.length_append, Hd_len]; rfl
   obtain ⟨P1, pl, cl1, pf, po, pr⟩ := freshAW 6 5 (Hd P0 5 w2 ++ [.row 0 1 (gone.map I)]) _ _ w2 HG3 (by rw [List.getElem?_append_left (by rw [Hd_len]; decide)]; exact Hd_box P0 5 w2 (by decide))
   have pl12 : P1.length = 12 := by rw [pl, hG3l]
   have hk5 : 5 < P1.length := by omega
   have x4 := fun e0 q1 q6 => l8_4 (n := 96) (by decide) P1 5 hk5 cl1 w2 Hi2 (by rw [hd2]; omega) l' f' hm hx' e0 q1 q6
   obtain ⟨Hi3, hd3⟩ := acts_inv l' Hi2
   have ev3 := acts_evs l' Hi2
   obtain ⟨w3, hw3⟩ : ∃ w3, w3 = actsW l' w2 := ⟨_, rfl⟩
   rw [← hw3] at x4 Hi3 hd3 ev3
   have p11 : P1[11]? = some (.row 0 1 (gone.map I)) := by
    rw [po 11 (by rw [hG3l]; decide) (by decide) (fun j hj => by rw [show P0.length = 6 from rfl]; omega), List.getElem?_append_right (by rw [Hd_len]; decide), Hd_len]
    rfl
   -- calm
   obtain ⟨h4, b4, u4, e30, H4, F4⟩ := s30 (n := 96) (by decide) Hi3 (by rw [hd2] at hd3; omega) 6 (by decide) (Hd P1 5 w3) _ _ (Hd_WH w3 hk5 cl1)
   have Hi4 := Inv.calm 6 Hi3
   have ev4 := ev3.trans (calm_evs 6 Hi3)
   have hd4 := deeds_calm 6 Hi3
   obtain ⟨w4, hw4⟩ : ∃ w4, w4 = calmW isPth clsh 6 w3 := ⟨_, rfl⟩
   rw [← hw4] at e30 H4 Hi4 ev4 hd4
   have hnone : ∀ i ∈ gone, ∀ g, i ∉ dn w4 g := fun i hi g => by
    obtain ⟨d, hd, e, hg, hn⟩ := hU i hi
    have := (gone_none ev4 ⟨hd, hg, hn⟩).2.2
    rw [← e]; exact this g
   obtain ⟨k1, k2⟩ := boxW hk5 F4
   have hkb := ((Fk.start P1 5 w3).call F4).ne hk5
   have H5 := H4.other 5 (.var (WC b4 u4 w4)) hkb (cel_WC H4.lt)
   obtain ⟨z1, z2⟩ := F4.keep (q := 11) (B := .row 0 1 (gone.map I)) (by rw [Hd_old P1 5 w3 11 (by omega) (by decide)]; exact p11) (fun j hj => by omega)
   obtain ⟨Gf, hGf⟩ : ∃ Gf, Gf = h4.set 5 (.var (WC b4 u4 w4)) := ⟨_, rfl⟩
   rw [← hGf] at H5
   have gf5 : Gf[5]? = some (.var (WC b4 u4 w4)) := by rw [hGf, List.getElem?_set_self k1]
   have gf11 : Gf[11]? = some (.row 0 1 (gone.map I)) := by rw [hGf, List.getElem?_set_ne (by decide), List.getElem?_eq_getElem z1, z2]
   obtain ⟨y1, y2⟩ := List.getElem?_eq_some_iff.1 gf5
   obtain ⟨y3, y4⟩ := List.getElem?_eq_some_iff.1 gf11
   have x6 := l8_6 (n := 96) (Nat.le_refl _) Hi4 (by rw [hd4]; omega) H5 y1 y2 gone (by omega) 11 y3 y4 hnone
   have hno := fun h0 => normH_cl Gf.length [] h0 (Nat.le_refl _) Gf 0 H5.cl (fun r hr => by cases hr)
   have htk : Gf.take Gf.length = Gf := List.take_length
   -- the heads
   have g5 := Hd_box P1 5 w3 hk5
   obtain ⟨g1, g2⟩ := List.getElem?_eq_some_iff.1 g5
   have cl1w := (Hd_WH (P := P0) (k := 5) w1 (by decide) P0_cl).cl
   have hl11 : (Hd P0 5 w1).length = 11 := Hd_len P0 5 w1
   obtain ⟨G1, hG1⟩ : ∃ G1, G1 = Hd P0 5 w1 := ⟨_, rfl⟩
   rw [← hG1] at x1 x3
   simp only [← hG1] at cl1w hl11
   have hnt1 := fun h0 Y => cl_tail (G := G1) rfl cl1w 12 [11] (by omega) (fun r hr => by simp at hr; omega) h0 Y
   have htk1 : ∀ Y : AH, (G1 ++ Y).take 12 = G1 ++ Y.take 1 := fun Y => by
    have := take_tail G1 Y 1
    rwa [hl11] at this
   obtain ⟨G4, hG4⟩ : ∃ G4, G4 = Hd P1 5 w3 := ⟨_, rfl⟩
   rw [← hG4] at x4 e30
   simp only [← hG4] at g1 g2
   have hGf' := hGf.symm
   simp only [WC, pl12, Nat.reduceAdd] at g2 e30 k2 y2 hGf'
   push_cast at e30
   simp -implicitDefEqProofs (disch := omega) [-eval_loopA', c8, a10, h10, hl1, hm1, p16, h16, freshT]
   have e0 := fun (V : Nat → Bool) (e : Env) k0 he hks hx => eval_loop0 (Γ := C19.tab 96) (V := V) (ρ := AV × AH) (k0 := k0) (keep := [7]) (wr := [(7, 7), (31, 42)]) (outs := [(.exit 0, [])]) (c := c8_1) (ks := [.int .i64 0]) (e := e) (r := (.exit 0, [], G1)) 6 he hks hx
   unfold H0 at e0
   rw [e0 _ _ _ (by simp -implicitDefEqProofs (disch := omega)) (by simp -implicitDefEqProofs (disch := omega)) (x1 _ (by simp -implicitDefEqProofs (disch := omega)) (by simp -implicitDefEqProofs (disch := omega)))]
   simp -implicitDefEqProofs (disch := omega) [-eval_loopA', hl11, hnt1, htk1]
   rw [x3 _ (by simp -implicitDefEqProofs (disch := omega))]
   simp -implicitDefEqProofs (disch := omega) [-eval_loopA']
   have e1 := fun (V : Nat → Bool) (e : Env) k0 he hks hx => eval_loopHd (Γ := C19.tab 96) (V := V) (ρ := AV × AH) (t := 6) (k := 5) (P := P1) (w := w2) (e := e) (keep := [16]) (wr := [(16, 16), (122, 133)]) (outs := [(.exit 6, [])]) (c := c8_4) (k0 := k0) (r := (.exit 6, [], G4)) (ks := [.int .i64 0]) pl hk5 cl1 (pf e he) hks hx
   rw [e1 _ _ _ (by simp -implicitDefEqProofs (disch := omega) [hl11]) (by simp -implicitDefEqProofs (disch := omega)) (x4 _ (by simp -implicitDefEqProofs (disch := omega)) (by simp -implicitDefEqProofs (disch := omega) [pl12, hl11]))]
   simp -implicitDefEqProofs (disch := omega) [pl12, hl11, g1, g2, e30, k1, k2, hGf', y1, y2, hno, htk]
   rw [x6 _ (by simp -implicitDefEqProofs (disch := omega) [pl12, hl11]) (by simp -implicitDefEqProofs (disch := omega) [pl12, hl11])]
   simp -implicitDefEqProofs (disch := omega)
  ·have hm' : 60 < l'.length := by omega
   simp -implicitDefEqProofs (disch := omega) [c8, a10, h10, hl1, hm']
 ·have hl' : 60 < l.length := by omega
  simp -implicitDefEqProofs (disch := omega) [c8, a10, h10, hl']
theorem law8 (args : List AV) (h : ArgsT [(false, [.l true [.i .u8, .i .u8, .i .u8, .i .u8, .i .u8, .i .u8]]), (false, [.l true [.i .u8, .i .u8, .i .u8, .i .u8, .i .u8, .i .u8]])] args) : runP (C19.tab 96) c8 args = some (.bool true) := by
 obtain ⟨a, r, rfl, h1, h⟩ := h.inv
 obtain ⟨b, r, rfl, h2, h⟩ := h.inv
 have := h.inv0; subst this
 obtain ⟨f, l, rfl, _, hx⟩ := h1.one.aggs Xv XOK (fun _ => act_of)
 obtain ⟨f', l', rfl, _, hx'⟩ := h2.one.aggs Xv XOK (fun _ => act_of)
 rw [← p8 (n := 97) (by decide)]
 exact lp8 (by decide) f l hx f' l' hx'
end Go.Proofs.Ytgefdmkmobaefaa
