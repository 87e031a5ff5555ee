import Derived.Test.YtgefdmkmobaefaaX19HB
set_option linter.unusedSimpArgs false
set_option linter.unusedVariables false
namespace Go.Proofs.Ytgefdmkmobaefaa
open Go.Am Go.Am.Nm Go.Lib Go.Deep Go.Cr
theorem acts_evs : ∀ (l : List Ac) {w : Wd}, Inv isPth clsh PSN w → Evs isPth clsh PSN w (actsW l w)
 | [], _, _ => .refl _
 | x :: l, _, H => (do_evs H pathN_mem x).trans (acts_evs l (H.do pathN_mem x))
theorem acts_inv : ∀ (l : List Ac) {w : Wd}, Inv isPth clsh PSN w → Inv isPth clsh PSN (actsW l w) ∧ (actsW l w).deeds.length ≤ w.deeds.length + l.length
 | [], w, H => ⟨H, Nat.le_refl _⟩
 | x :: l, w, H => by
  have h1 := acts_inv l (H.do pathN_mem x)
  have h2 := doW_dl H x
  refine ⟨h1.1, ?_⟩
  have h3 : (actsW (x :: l) w).deeds.length ≤ (doW isPth clsh w x).deeds.length + l.length := h1.2
  simp only [List.length_cons]
  omega
theorem deeds_calm {PS : List (List UInt8)} : ∀ (n : Nat) {w : Wd}, Inv isPth clsh PS w → (calmW isPth clsh n w).deeds = w.deeds
 | 0, _, _ => rfl
 | n + 1, _, H => (deeds_calm n H.round).trans (deeds_round H)
section
variable {PS : List (List UInt8)} {w : Wd} {n : Nat} {G : AH} {N : Nat} {b u : Nat → Nat}
theorem l9_2 (hn : 99 ≤ n) (Hi : Inv isPth clsh PS w) (hPS : ∀ p ∈ PS, p.length ≤ 1000000000) (hdl : w.deeds.length ≤ 1000000) (H : WH G b u w) (hN : N < G.length) (hG : G[N] = .var (WC b u w)) (hA : ∀ x ∈ w.deeds, ∀ y ∈ w.deeds, x.id ≠ y.id → Cl2 clsh x y → Ahead w x y ∨ Ahead w y x) (i : Nat) (hi : i < w.deeds.length) (e0 : Env) (q4 : e0 4 = .ptr N 0 0 0) (q6 : e0 6 = .int .i64 i) :
  iter (round (C19.tab n) [7] [(.exit 4, []), (.ret, [2])] c9_2 e0 G.length []) ([.int .i64 0], G) = some (.exit 4, [], G) := by
 have hno := fun h0 => normH_cl G.length [] h0 (Nat.le_refl _) G 0 H.cl (fun r hr => by cases hr)
 have htk0 : ∀ Y : AH, (G ++ Y).take G.length = G := fun Y => by rw [List.take_append_of_le_length (Nat.le_refl _), List.take_length]
 have hb3 := H.lt 3 (by decide)
 have r3 := (List.getElem?_eq_some_iff.1 H.r3).2
 simp only [WC] at hG
 obtain ⟨a, ha⟩ : ∃ a, a = w.deeds[i] := ⟨_, rfl⟩
 have ham : a ∈ w.deeds := by rw [ha]; exact List.getElem_mem hi
 have ht : (w.deeds.take i).length = i := by simp; omega
 have := for_list (f := round (C19.tab n) [7] [(.exit 4, []), (.ret, [2])] c9_2 e0 G.length []) (fun k (_ : Unit) => ([.int .i64 (k : Int)], G)) (w.deeds.take i) (fun s _ => s) (fun _ => (.exit 4, [], G)) (fun _ _ => True)
  (fun k hk s _ => by
   refine ⟨trivial, ?_⟩
   rw [ht] at hk
   have hkl : k < w.deeds.length := by omega
   obtain ⟨c, hc⟩ : ∃ c, c = w.deeds[k] := ⟨_, rfl⟩
   have hcm : c ∈ w.deeds := by rw [hc]; exact List.getElem_mem hkl
   have hne : a.id ≠ c.id := by
    rw [ha, hc]
    exact nodup_ne (key := fun d : De => d.id) Hi.nd i k hi hkl (by omega)
   obtain ⟨T, hTl, hTc, h34⟩ := s34 (n := n) (by omega) Hi hPS hdl a c ham hcm (hA a ham c hcm hne) G b u H
   simp only [WC, Dv] at h34
   simp -implicitDefEqProofs (disch := omega) [round_eq, b9_2, q4, q6, hG, hN, hk, r3, hb3, hi, hkl, ← ha, ← hc, Dv, h34, htk0, hno]
   done)
  (fun s _ => by
   rw [ht]
   simp -implicitDefEqProofs (disch := omega) [round_eq, b9_2, q6]
   done) () trivial
 exact this
theorem l9_3 (hn : 99 ≤ n) (Hi : Inv isPth clsh PS w) (hPS : ∀ p ∈ PS, p.length ≤ 1000000000) (hdl : w.deeds.length ≤ 1000000) (H : WH G b u w) (hN : N < G.length) (hG : G[N] = .var (WC b u w)) (hA : ∀ x ∈ w.deeds, ∀ y ∈ w.deeds, x.id ≠ y.id → Cl2 clsh x y → Ahead w x y ∨ Ahead w y x) (e0 : Env) (q4 : e0 4 = .ptr N 0 0 0) :
  iter (round (C19.tab n) [6] [(.exit 2, []), (.ret, [2])] c9_3 e0 G.length []) ([.int .i64 0], G) = some (.exit 2, [], G) := by
 have hno := fun h0 => normH_cl G.length [] h0 (Nat.le_refl _) G 0 H.cl (fun r hr => by cases hr)
 have hG' := hG
 simp only [WC] at hG'
 exact for_list (f := round (C19.tab n) [6] [(.exit 2, []), (.ret, [2])] c9_3 e0 G.length []) (fun k (_ : Unit) => ([.int .i64 (k : Int)], G)) w.deeds (fun s _ => s) (fun _ => (.exit 2, [], G)) (fun _ _ => True)
  (fun i hi s _ => by
   refine ⟨trivial, ?_⟩
   have h2 := l9_2 (n := n) hn Hi hPS hdl H hN hG hA i hi
   simp -implicitDefEqProofs (disch := omega) [round_eq, b9_3, q4, hG', hN, hi, hno]
   rw [h2 _ (by simp -implicitDefEqProofs (disch := omega) [q4]) (by simp -implicitDefEqProofs (disch := omega))]
   simp -implicitDefEqProofs (disch := omega) [hno]
   done)
  (fun s _ => by
   simp -implicitDefEqProofs (disch := omega) [round_eq, b9_3, q4, hG', hN]
   done) () trivial
end
theorem l9_1 {n : Nat} (hn : 70 ≤ n) (l : List Ac) (f : Bool) (hl : l.length ≤ 60) (hx : ∀ x ∈ l, XOK x) (e0 : Env) (q0 : e0 0 = .lst f (l.map Xv)) (q4 : e0 4 = .ptr 5 0 0 0) :
  iter (roundA (C19.tab n) 6 [(4, 0, 3), (4, 1, 3), (4, 2, 5), (4, 3, 3), (4, 4, 1)] [5] [(.exit 0, [])] c9_1 e0 11 [6, 7, 8, 9, 10]) ([.int .i64 0], Hd P0 5 freshW) = some (.exit 0, [], Hd P0 5 (actsW l freshW)) := by
 refine for_list (f := roundA (C19.tab n) 6 [(4, 0, 3), (4, 1, 3), (4, 2, 5), (4, 3, 3), (4, 4, 1)] [5] [(.exit 0, [])] c9_1 e0 11 [6, 7, 8, 9, 10]) (fun i (s : Wd) => ([.int .i64 (i : Int)], Hd P0 5 s)) l (doW isPth clsh) (fun s => (.exit 0, [], Hd P0 5 s)) (fun i s => Inv isPth clsh PSN s ∧ s.deeds.length ≤ i)
  (fun i hi s hs => ?_) (fun s hs => by
   simp -implicitDefEqProofs (disch := omega) [-rebA, -head_eq, roundA_eq, b9_1, q0]
   done) freshW ⟨Inv.fresh, Nat.le_refl _⟩
 obtain ⟨Hi, hd⟩ := hs
 obtain ⟨x, hxe⟩ : ∃ x, x = l[i] := ⟨_, rfl⟩
 rw [← hxe]
 have hxo : XOK x := hx x (by rw [hxe]; exact List.getElem_mem hi)
 have hd' := doW_dl Hi x
 refine ⟨⟨Hi.do pathN_mem x, by omega⟩, ?_⟩
 obtain ⟨h2, b2, u2, e19, H2, F2⟩ := s19 (n := n) (by omega) Hi (by omega) x hxo (Hd P0 5 s) _ _ (Hd_WH s (by decide) P0_cl)
 obtain ⟨k1, k2⟩ := boxW (by decide) F2
 have hst := fun e he => stepW0 (k := 5) (by decide) P0_cl H2 F2 e 4 he [5]
 rw [show P0.length = 6 from rfl] at hst e19 k2
 have g5 := Hd_box P0 5 s (by decide)
 rw [show P0.length = 6 from rfl] at g5
 obtain ⟨g1, g2⟩ := List.getElem?_eq_some_iff.1 g5
 obtain ⟨G, hG⟩ : ∃ G, G = Hd P0 5 s := ⟨_, rfl⟩
 rw [← hG] at e19
 simp only [← hG] at g1 g2 ⊢
 simp only [WC, Xv, Xc, X8] at e19 g2 k2 hst
 simp -implicitDefEqProofs (disch := omega) [-rebA, -head_eq, roundA_eq, b9_1, q0, q4, hi, ← hxe, Xv, Xc, X8, g1, g2, e19, k1, k2]
 refine headEq (hst _ (by simp -implicitDefEqProofs (disch := omega) [q4])) fun h' => ?_
 simp -implicitDefEqProofs (disch := omega)
set_option maxHeartbeats 1000000 in
theorem lp9 {n : Nat} (hn : 99 < n) (f : Bool) (l : List Ac) (hx : ∀ x ∈ l, XOK x) : (C19.tab n).p 9 [.lst f (l.map Xv)] = some (.bool true) := by
 rw [p9 hn, runP_eq, runH_eq]
 have h10 := s10 (n := 99) (by decide)
 by_cases hl : l.length ≤ 60
 ·have hl' : ¬ 60 < l.length := by omega
  have h16 := s16 (n := 99) (by decide) [] rfl
  have h9 := l9_1 (n := 99) (by decide) l f hl hx
  simp only [freshT, List.length_nil, List.nil_append, Nat.zero_add] at h16
  obtain ⟨Hi1, hd1⟩ := acts_inv l (w := freshW) Inv.fresh
  have ev1 := acts_evs l (w := freshW) Inv.fresh
  have hd1 : (actsW l freshW).deeds.length ≤ 60 := by
   have : freshW.deeds.length = 0 := rfl
   omega
  obtain ⟨w1, hw1⟩ : ∃ w1, w1 = actsW l freshW := ⟨_, rfl⟩
  rw [← hw1] at Hi1 hd1 h9 ev1
  have z4 := deeds_calm 6 Hi1
  have ev2 := ev1.trans (calm_evs 6 Hi1)
  have Hi2 := Inv.calm 6 Hi1
  obtain ⟨h3, b3, u3, e30, H3, F3⟩ := s30 (n := 99) (by decide) Hi1 (by omega) 6 (by decide) (Hd P0 5 w1) _ _ (Hd_WH w1 (by decide) P0_cl)
  obtain ⟨w2, hw2⟩ : ∃ w2, w2 = calmW isPth clsh 6 w1 := ⟨_, rfl⟩
  rw [← hw2] at z4 Hi2 e30 H3 ev2
  have hA := ahead_evs clsh_comm ev2 (fun x hx => by cases hx)
  have hd2 : w2.deeds.length ≤ 1000000 := by rw [z4]; omega
  obtain ⟨k1, k2⟩ := boxW (by decide) F3
  have hkb := ((Fk.start P0 5 w1).call F3).ne (by decide)
  have H4 := H3.other 5 (.var (WC b3 u3 w2)) hkb (cel_WC H3.lt)
  obtain ⟨Gf, hGf⟩ : ∃ Gf, Gf = h3.set 5 (.var (WC b3 u3 w2)) := ⟨_, rfl⟩
  rw [← hGf] at H4
  have gf5 : Gf[5]? = some (.var (WC b3 u3 w2)) := by
   rw [hGf, List.getElem?_set_self k1]
  obtain ⟨y1, y2⟩ := List.getElem?_eq_some_iff.1 gf5
  have x3 := l9_3 (n := 99) (Nat.le_refl _) Hi2 PSN_len hd2 H4 y1 y2 hA
  have hno := fun h0 => normH_cl Gf.length [] h0 (Nat.le_refl _) Gf 0 H4.cl (fun r hr => by cases hr)
  have htk : Gf.take Gf.length = Gf := List.take_length
  have g5 := Hd_box P0 5 w1 (by decide)
  rw [show P0.length = 6 from rfl] at g5 e30 k2
  obtain ⟨g1, g2⟩ := List.getElem?_eq_some_iff.1 g5
  obtain ⟨G, hG⟩ : ∃ G, G = Hd P0 5 w1 := ⟨_, rfl⟩
  rw [← hG] at e30 h9
  simp only [← hG] at g1 g2
  have hGf' := hGf.symm
  simp only [WC] at g2 e30 k2 y2 hGf'
  push_cast at e30
  simp -implicitDefEqProofs (disch := omega) [-eval_loopA', c9, a10, h10, hl', p16, h16, freshT]
  have e0 := fun (V : Nat → Bool) (e : Env) k0 he hks hx => eval_loop0 (Γ := C19.tab 99) (V := V) (ρ := AV × AH) (k0 := k0) (keep := [5]) (wr := [(5, 5), (15, 26)]) (outs := [(.exit 0, [])]) (c := c9_1) (ks := [.int .i64 0]) (e := e) (r := (.exit 0, [], G)) 4 he hks hx
  unfold H0 at e0
  rw [e0 _ _ _ (by simp -implicitDefEqProofs (disch := omega)) (by simp -implicitDefEqProofs (disch := omega)) (h9 _ (by simp -implicitDefEqProofs (disch := omega)) (by simp -implicitDefEqProofs (disch := omega)))]
  simp -implicitDefEqProofs (disch := omega) [g1, g2, e30, k1, k2, hGf', y1, y2, hno, htk]
  rw [x3 _ (by simp -implicitDefEqProofs (disch := omega))]
  simp -implicitDefEqProofs (disch := omega)
 ·have hl' : 60 < l.length := by omega
  simp -implicitDefEqProofs (disch := omega) [c9, a10, h10, hl']
theorem law9 (args : List AV) (h : ArgsT [(false, [.l true [.i .u8, .i .u8, .i .u8, .i .u8, .i .u8, .i .u8]])] args) : runP (C19.tab 99) c9 args = some (.bool true) := by
 obtain ⟨a, r, rfl, h1, h⟩ := h.inv
 have := h.inv0; subst this
 obtain ⟨f, l, rfl, _, hx⟩ := h1.one.aggs Xv XOK (fun _ => act_of)
 rw [← p9 (n := 100) (by decide)]
 exact lp9 (by decide) f l hx
end Go.Proofs.Ytgefdmkmobaefaa
