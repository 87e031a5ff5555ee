import Derived.Test.YtgefdmkmobaefaaWv19
import Derived.Test.YtgefdmkmobaefaaX19YI
set_option linter.unusedSimpArgs false
set_option linter.unusedVariables false
namespace Go.Proofs.Ytgefdmkmobaefaa
open Go.Am Go.Am.Nm Go.Lib Go.Deep Go.Cr
theorem l5_1 {n : Nat} (hn : 70 ≤ n) (l : List Ac) (f : Bool) (hl : l.length ≤ 60) (hx : ∀ x ∈ l, XOK x) (e0 : Env) (q0 : e0 0 = .lst f (l.map Xv)) (q8 : e0 8 = .ptr 5 0 0 0) :
  iter (roundA (C19.tab n) 6 [(8, 0, 3), (8, 1, 3), (8, 2, 5), (8, 3, 3), (8, 4, 1)] [9] [(.exit 0, [])] c5_1 e0 11 [6, 7, 8, 9, 10]) ([.int .i64 0], Hd P0 5 freshW) = some (.exit 0, [], Hd P0 5 (actsW l freshW)) := by
 refine for_list (f := roundA (C19.tab n) 6 [(8, 0, 3), (8, 1, 3), (8, 2, 5), (8, 3, 3), (8, 4, 1)] [9] [(.exit 0, [])] c5_1 e0 11 [6, 7, 8, 9, 10]) (fun i (s : Wd) => ([.int .i64 (i : Int)], Hd P0 5 s)) l (doW isPth clsh) (fun s => (.exit 0, [], Hd P0 5 s)) (fun i s => Inv isPth clsh PSN s ∧ s.deeds.length ≤ i)
  (fun i hi s hs => ?_) (fun s hs => by
   simp -implicitDefEqProofs (disch := omega) [-rebA, -head_eq, roundA_eq, b5_1, q0]
   done) freshW ⟨Inv.fresh, Nat.le_refl _⟩
 obtain ⟨Hi, hd⟩ := hs
 obtain ⟨x, hxe⟩ : ∃ x, x = l[i] := ⟨_, rfl⟩
 rw [← hxe]
 have hxo : XOK x := hx x (by rw [hxe]; exact List.getElem_mem hi)
 have hd' := doW_dl Hi x
 refine ⟨⟨Hi.do pathN_mem x, by omega⟩, ?_⟩
 obtain ⟨h2, b2, u2, e19, H2, F2⟩ := s19 (n := n) (by omega) Hi (by omega) x hxo (Hd P0 5 s) _ _ (Hd_WH s (by decide) P0_cl)
 obtain ⟨k1, k2⟩ := boxW (by decide) F2
 have hst := fun e he => stepW0 (k := 5) (by decide) P0_cl H2 F2 e 8 he [9]
 rw [show P0.length = 6 from rfl] at hst e19 k2
 have g5 := Hd_box P0 5 s (by decide)
 rw [show P0.length = 6 from rfl] at g5
 obtain ⟨g1, g2⟩ := List.getElem?_eq_some_iff.1 g5
 obtain ⟨G, hG⟩ : ∃ G, G = Hd P0 5 s := ⟨_, rfl⟩
 rw [← hG] at e19
 simp only [← hG] at g1 g2 ⊢
 simp only [WC, Xv, Xc, X8] at e19 g2 k2 hst
 simp -implicitDefEqProofs (disch := omega) [-rebA, -head_eq, roundA_eq, b5_1, q0, q8, hi, ← hxe, Xv, Xc, X8, g1, g2, e19, k1, k2]
 refine headEq (hst _ (by simp -implicitDefEqProofs (disch := omega) [q8])) fun h' => ?_
 simp -implicitDefEqProofs (disch := omega)
end Go.Proofs.Ytgefdmkmobaefaa

namespace Go.Proofs.Ytgefdmkmobaefaa
open Go.Am Go.Am.Nm Go.Lib Go.Deep Go.Cr
theorem good_data {w : Wd} (Hi : Inv isPth clsh PSN w) {m : Mg} (hm : m ∈ w.wire) (h1 : m.kind = 1) : m.data.length ≤ 1000000000 := by
 obtain ⟨d, hd, _, h⟩ := Hi.ms m hm
 rcases h with h | h | h | h | h | h | h
 ·exact PSN_len _ ((Hi.de d hd).pa _ (List.of_mem_zip h.2.2).2).2
 all_goals (have := h.1; omega)
set_option maxHeartbeats 1000000 in
theorem lp5 {n : Nat} (hn : 88 < n) (f : Bool) (l : List Ac) (hx : ∀ x ∈ l, XOK x) (m : Mg) (text : List UInt8) : (C19.tab n).p 5 [.lst f (l.map Xv), Mv m, .str text] = some (.bool true) := by
 rw [p5 hn, runP_eq, runH_eq]
 have h10 := s10 (n := 88) (by decide)
 have hbl : (Bs m.data).length = m.data.length := by simp [Bs]
 by_cases hl : l.length ≤ 60
 ·have hl' : ¬ 60 < l.length := by omega
  by_cases hm1 : m.nums.length ≤ 60
  ·have hm1' : ¬ 60 < m.nums.length := by omega
   by_cases hm2 : m.data.length ≤ 400
   ·have hm2' : ¬ 400 < m.data.length := by omega
    by_cases ht : text.length ≤ 400
    ·have ht' : ¬ 400 < text.length := by omega
     have h16 := s16 (n := 88) (by decide) [] rfl
     have h7 := l5_1 (n := 88) (by decide) l f hl hx
     simp only [freshT, List.length_nil, List.nil_append, Nat.zero_add] at h16
     obtain ⟨Hi1, hd1⟩ := acts_inv l (w := freshW) Inv.fresh
     have hd1 : (actsW l freshW).deeds.length ≤ 60 := by
      have : freshW.deeds.length = 0 := rfl
      omega
     obtain ⟨w1, hw1⟩ : ∃ w1, w1 = actsW l freshW := ⟨_, rfl⟩
     rw [← hw1] at Hi1 hd1 h7
     have hwi := Hi1.wi
     have W := Hd_WH (P := P0) (k := 5) w1 (by decide) P0_cl
     have W2 := W.app (Y := [.row 1 5 ((w1.wire ++ [m]).map Mv)]) rfl
     have g5 := Hd_box P0 5 w1 (by decide)
     have g8 := Hd_row P0 5 w1 2 (by decide)
     have hlen : (Hd P0 5 w1).length = 11 := Hd_len P0 5 w1
     rw [show P0.length = 6 from rfl] at g5
     obtain ⟨g1, g2⟩ := List.getElem?_eq_some_iff.1 g5
     have g8' : (Hd P0 5 w1)[8]? = some (.row 0 5 (w1.wire.map Mv)) := g8
     obtain ⟨G, hG⟩ : ∃ G, G = Hd P0 5 w1 := ⟨_, rfl⟩
     rw [← hG] at h7 W W2 g8' hlen
     simp only [← hG] at g1 g2
     have x3 := l5_3 (n := 88) (Nat.le_refl _) Hi1 (by omega) (w1.wire ++ [m]) (by simp; omega) (fun x hx h1 => by
      rcases List.mem_append.1 hx with h | h
      ·exact good_data Hi1 h h1
      ·rw [List.mem_singleton] at h; subst h; omega) text (by omega) (N := 5) W2 (by simp; omega) (by rw [List.getElem_append_left (by omega)]; exact g2) 11 1 (by rw [← hlen]; simp)
     have hno := fun h0 => normH_cl (G ++ [AB.row 1 5 ((w1.wire ++ [m]).map Mv)]).length [] h0 (Nat.le_refl _) (G ++ [AB.row 1 5 ((w1.wire ++ [m]).map Mv)]) 0 W2.cl (fun r hr => by cases hr)
     have htk : (G ++ [AB.row 1 5 ((w1.wire ++ [m]).map Mv)]).take 12 = G ++ [AB.row 1 5 ((w1.wire ++ [m]).map Mv)] := List.take_of_length_le (by simp [hlen])
     have hle : (G ++ [AB.row 1 5 ((w1.wire ++ [m]).map Mv)]).length = 12 := by simp [hlen]
     rw [hle] at x3 hno
     obtain ⟨r1, r2⟩ := List.getElem?_eq_some_iff.1 g8'
     have hszw := szM w1.wire
     have z11 : ∀ B : AB, (G ++ [B])[11]? = some B := fun B => by rw [← hlen]; simp
     have zst : ∀ B B' : AB, (G ++ [B]).set 11 B' = G ++ [B'] := fun B B' => by rw [← hlen]; simp
     simp only [WC, List.map_append, List.map_cons, List.map_nil, List.length_append, List.length_cons, List.length_nil, Nat.zero_add] at g2 x3 hno htk
     simp only [Mv] at x3 hno htk
     simp -implicitDefEqProofs (disch := omega) [-eval_loopA', c5, a10, h10, hl', hm1', hm2', ht', hbl, p16, h16, freshT, Mv]
     have e0 := fun (V : Nat → Bool) (e : Env) k0 he hks hx => eval_loop0 (Γ := C19.tab 88) (V := V) (ρ := AV × AH) (k0 := k0) (keep := [9]) (wr := [(9, 9), (43, 54)]) (outs := [(.exit 0, [])]) (c := c5_1) (ks := [.int .i64 0]) (e := e) (r := (.exit 0, [], G)) 8 he hks hx
     unfold H0 at e0
     rw [e0 _ _ _ (by simp -implicitDefEqProofs (disch := omega)) (by simp -implicitDefEqProofs (disch := omega)) (h7 _ (by simp -implicitDefEqProofs (disch := omega)) (by simp -implicitDefEqProofs (disch := omega)))]
     simp -implicitDefEqProofs (disch := omega) [g1, g2, r1, r2, hlen, hno, htk, hszw, z11, zst, Mv]
     rw [x3 _ (by simp -implicitDefEqProofs (disch := omega)) (by simp -implicitDefEqProofs (disch := omega)) (by simp -implicitDefEqProofs (disch := omega))]
     simp -implicitDefEqProofs (disch := omega)
    ·have ht' : 400 < text.length := by omega
     simp -implicitDefEqProofs (disch := omega) [c5, a10, h10, hl', hm1', hm2', ht', hbl, Mv]
   ·have hm2' : 400 < m.data.length := by omega
    simp -implicitDefEqProofs (disch := omega) [c5, a10, h10, hl', hm1', hm2', hbl, Mv]
  ·have hm1' : 60 < m.nums.length := by omega
   simp -implicitDefEqProofs (disch := omega) [c5, a10, h10, hl', hm1', Mv]
 ·have hl' : 60 < l.length := by omega
  simp -implicitDefEqProofs (disch := omega) [c5, a10, h10, hl', Mv]
end Go.Proofs.Ytgefdmkmobaefaa

namespace Go.Proofs.Ytgefdmkmobaefaa
open Go.Am Go.Am.Nm Go.Lib Go.Deep Go.Cr
theorem u8_of {c : Int} (h : IntKind.u8.min ≤ c ∧ c ≤ IntKind.u8.max) : ∃ b : UInt8, c = (b.toNat : Int) := by
 obtain ⟨k, rfl, hk⟩ := nat_of h
 exact ⟨UInt8.ofNat k, by simp [UInt8.toNat_ofNat', Nat.mod_eq_of_lt (show k < 256 from hk)]⟩
theorem bs_of : ∀ {l : List Int}, (∀ n ∈ l, IntKind.u8.min ≤ n ∧ n ≤ IntKind.u8.max) → ∃ r : List UInt8, l.map (AV.int .u8) = Bs r
 | [], _ => ⟨[], rfl⟩
 | n :: l, h => by
  obtain ⟨b, hb⟩ := u8_of (h n List.mem_cons_self)
  obtain ⟨r, hr⟩ := bs_of (l := l) fun x hx => h x (List.mem_cons_of_mem _ hx)
  exact ⟨b :: r, by rw [List.map_cons, hr, hb]; rfl⟩
theorem law5 (args : List AV) (h : ArgsT [(false, [.l true [.i .u8, .i .u8, .i .u8, .i .u8, .i .u8, .i .u8]]), (true, [.i .i64, .i .i64, .i .i64, .l false [.i .i64], .l false [.i .u8]]), (false, [.s])] args) : runP (C19.tab 88) c5 args = some (.bool true) := by
 obtain ⟨a, r, rfl, h1, h⟩ := h.inv
 obtain ⟨b, r, rfl, h2, h⟩ := h.inv
 obtain ⟨c, r, rfl, h3, h⟩ := h.inv
 have := h.inv0; subst this
 obtain ⟨f, l, rfl, _, hx⟩ := h1.one.aggs Xv XOK (fun _ => act_of)
 obtain ⟨cs, rfl, h9⟩ := h2.agg
 obtain ⟨m1, r, rfl, k1, h9⟩ := h9.cons
 obtain ⟨m2, r, rfl, k2, h9⟩ := h9.cons
 obtain ⟨m3, r, rfl, k3, h9⟩ := h9.cons
 obtain ⟨m4, r, rfl, k4, h9⟩ := h9.cons
 obtain ⟨m5, r, rfl, k5, h9⟩ := h9.cons
 have := h9.nil; subst this
 obtain ⟨fr, rfl, _⟩ := k1.int
 obtain ⟨to, rfl, _⟩ := k2.int
 obtain ⟨k, rfl, _⟩ := k3.int
 obtain ⟨fn, nu, rfl, _, _⟩ := k4.ints
 obtain ⟨fd, dl, rfl, _, hd⟩ := k5.ints
 obtain ⟨da, e⟩ := bs_of hd
 obtain ⟨s, rfl, _⟩ := h3.one.str
 rw [e, ← p5 (n := 89) (by decide)]
 exact lp5 (by decide) f l hx ⟨fr, to, k, fn, nu, fd, da⟩ s
end Go.Proofs.Ytgefdmkmobaefaa
