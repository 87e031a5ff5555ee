import Derived.Test.YtgefdmkmobaefaaX19GZ
import Derived.Test.YtgefdmkmobaefaaCrGG
set_option linter.unusedSimpArgs false
set_option linter.unusedVariables false
namespace Go.Proofs.Ytgefdmkmobaefaa
open Go.Am Go.Am.Nm Go.Lib Go.Cr
def ordI (l : List Int) (a b : Int) (s : Int × Int) : Int × Int :=
 (if 0 ≤ atI l a ∧ 0 ≤ atI l b ∧ atI l a < atI l b then s.1 + 1 else s.1, if 0 ≤ atI l a ∧ 0 ≤ atI l b ∧ atI l b < atI l a then s.2 + 1 else s.2)
theorem atI_pos {l : List Int} {x : Int} : 0 ≤ atI l x ↔ x ∈ l := by
 unfold atI
 by_cases h : x ∈ l
 ·rw [if_pos h]; exact ⟨fun _ => h, fun _ => by omega⟩
 ·rw [if_neg h]; exact ⟨fun h' => by omega, fun h' => absurd h' h⟩
theorem atI_mem {l : List Int} {x : Int} (h : x ∈ l) : atI l x = ((l.findIdx fun y => decide (y = x) : Nat) : Int) := by
 unfold atI; rw [if_pos h]
section
variable {PS : List (List UInt8)} {w : Wd} {n : Nat} {G : AH} {N : Nat} {b u : Nat → Nat}
structure J34 (w : Wd) (a b : De) (s : Int × Int) (m : Int) : Prop where
 x : 0 ≤ s.1 ∧ s.1 ≤ m
 y : 0 ≤ s.2 ∧ s.2 ≤ m
 ab : Ahead w a b → s.2 = 0
 ba : Ahead w b a → s.1 = 0
theorem J34.next {a c : De} {s : Int × Int} {m : Int} (J : J34 w a c s m) {g : Nat} (h1 : (g : Int) ∈ a.grs) (h2 : (g : Int) ∈ c.grs) : J34 w a c (ordI (dn w g) a.id c.id s) (m + 1) := by
 obtain ⟨⟨x1, x2⟩, ⟨y1, y2⟩, ab, ba⟩ := J
 unfold ordI
 refine ⟨?_, ?_, fun h => ?_, fun h => ?_⟩
 ·simp only; split <;> omega
 ·simp only; split <;> omega
 ·simp only
  rw [if_neg]
  ·exact ab h
  ·rintro ⟨q1, q2, q3⟩
   have m1 := atI_pos.1 q1
   have m2 := atI_pos.1 q2
   have := (h g h1 h2 m2).2
   rw [atI_mem m1, atI_mem m2] at q3
   omega
 ·simp only
  rw [if_neg]
  ·exact ba h
  ·rintro ⟨q1, q2, q3⟩
   have m1 := atI_pos.1 q1
   have m2 := atI_pos.1 q2
   have := (h g h2 h1 m1).2
   rw [atI_mem m1, atI_mem m2] at q3
   omega
theorem J34.mono {a c : De} {s : Int × Int} {m m' : Int} (J : J34 w a c s m) (h : m ≤ m') : J34 w a c s m' := ⟨⟨J.x.1, by have := J.x.2; omega⟩, ⟨J.y.1, by have := J.y.2; omega⟩, J.ab, J.ba⟩
theorem zip_at {d : De} (hl : d.grs.length = d.pas.length) {i : Nat} (hi : i < d.grs.length) : (d.grs[i], d.pas[i]'(by omega)) ∈ d.grs.zip d.pas :=
 List.mem_of_getElem? (i := i) (by rw [List.getElem?_zip_eq_some]; exact ⟨List.getElem?_eq_getElem hi, List.getElem?_eq_getElem (by omega)⟩)
theorem zip_of {d : De} {g : Int} {p : List UInt8} (h : (g, p) ∈ d.grs.zip d.pas) : ∃ i, ∃ h1 : i < d.grs.length, ∃ h2 : i < d.pas.length, d.grs[i] = g ∧ d.pas[i] = p := by
 obtain ⟨i, hi, e⟩ := List.getElem_of_mem h
 rw [List.length_zip] at hi
 rw [List.getElem_zip] at e
 simp only [Prod.mk.injEq] at e
 exact ⟨i, by omega, by omega, e.1, e.2⟩
def Sc (a c : De) (i k : Nat) : Prop := ∀ j, j < k → ∀ (h1 : i < a.grs.length) (h2 : j < c.grs.length) (h3 : i < a.pas.length) (h4 : j < c.pas.length), a.grs[i] = c.grs[j] → clsh a.pas[i] c.pas[j] = true
set_option maxHeartbeats 4000000 in
theorem l34_1 (hn : 98 ≤ n) (Hi : Inv isPth clsh PS w) (hPS : ∀ p ∈ PS, p.length ≤ 1000000000) (hdl : w.deeds.length ≤ 1000000) (H : WH G b u w) (hN : N + 2 < G.length) (hG : G[N] = .var (WC b u w)) (a c : De) (ha : a ∈ w.deeds) (hc : c ∈ w.deeds)
  (hGa : G[N + 1] = .var [I a.id, .lst a.fg (a.grs.map I), .lst a.fp (a.pas.map AV.str)]) (hGc : G[N + 2] = .var [I c.id, .lst c.fg (c.grs.map I), .lst c.fp (c.pas.map AV.str)]) (i : Nat) (hi : i < a.grs.length) (s : Int × Int) (hs : J34 w a c s (4 * i)) :
  ∃ y : AX × List AV × AH, ((∃ s' : Int × Int, y = (.exit 2, [I s'.1, I s'.2], G) ∧ J34 w a c s' (4 * (i + 1)) ∧ Sc a c i c.grs.length) ∨ y = (.ret, [.bool true], G)) ∧
   ∀ e0 : Env, (e0 3 = .ptr N 0 0 0 ∧ e0 4 = .ptr (N + 1) 0 0 0 ∧ e0 5 = .ptr (N + 2) 0 0 0 ∧ e0 9 = .int .i64 i) → iter (round (C19.tab n) [7, 8, 10] [(.exit 2, [7, 8]), (.ret, [6])] c34_1 e0 G.length []) ([I s.1, I s.2, .int .i64 0], G) = some y := by
 have hno := fun h0 => normH_cl G.length [] h0 (Nat.le_refl _) G 0 H.cl (fun r hr => by cases hr)
 have hb4 := H.lt 4 (by decide)
 have r4 := (List.getElem?_eq_some_iff.1 H.r4).2
 simp only [WC] at hG
 have Da := Hi.de a ha
 have Dc := Hi.de c hc
 have hca := grs_le Dc
 have hN0 : N < G.length := by omega
 have hN1 : N + 1 < G.length := by omega
 have hip : i < a.pas.length := by have := Da.len; omega
 have hi4 := grs_le Da
 refine for_any (f := fun e0 => round (C19.tab n) [7, 8, 10] [(.exit 2, [7, 8]), (.ret, [6])] c34_1 e0 G.length []) (fun e0 : Env => e0 3 = .ptr N 0 0 0 ∧ e0 4 = .ptr (N + 1) 0 0 0 ∧ e0 5 = .ptr (N + 2) 0 0 0 ∧ e0 9 = .int .i64 i) (fun k (s : Int × Int) => ([I s.1, I s.2, .int .i64 (k : Int)], G)) c.grs.length
  (fun k s => J34 w a c s (4 * i + k) ∧ Sc a c i k) _ (fun k hk s hJ => ?_) (fun s hJ => ?_) s ⟨hs.mono (by omega), fun j hj => by omega⟩
 ·obtain ⟨J, S⟩ := hJ
  obtain ⟨s1, s2⟩ := s
  have hkp : k < c.pas.length := by have := Dc.len; omega
  obtain ⟨ga, hga⟩ : ∃ ga, ga = a.grs[i] := ⟨_, rfl⟩
  obtain ⟨gc, hgc⟩ : ∃ gc, gc = c.grs[k] := ⟨_, rfl⟩
  obtain ⟨pa, hpa⟩ : ∃ pa, pa = a.pas[i] := ⟨_, rfl⟩
  obtain ⟨pc, hpc⟩ : ∃ pc, pc = c.pas[k] := ⟨_, rfl⟩
  have za : (ga, pa) ∈ a.grs.zip a.pas := by rw [hga, hpa]; exact zip_at Da.len hi
  have zc : (gc, pc) ∈ c.grs.zip c.pas := by rw [hgc, hpc]; exact zip_at Dc.len hk
  by_cases hg : ga = gc
  ·have h57 := s57 (n := n) (by omega) pa pc (hPS _ (Da.pa _ (List.of_mem_zip za).2).2) (hPS _ (Dc.pa _ (List.of_mem_zip zc).2).2)
   cases hcl : clsh pa pc with
   | false =>
    rw [hcl] at h57
    refine .inr ⟨(.ret, [.bool true], G), .inr rfl, fun e0 he => ?_⟩
    obtain ⟨q3, q4, q5, q9⟩ := he
    simp -implicitDefEqProofs (disch := omega) [round_eq, b34_1, q3, q4, q5, q9, hGa, hGc, hN, hN1, hi, hk, hip, hkp, ← hga, ← hgc, ← hpa, ← hpc, hg, h57]
    done
   | true =>
    rw [hcl] at h57
    have g4 := Da.le _ (List.of_mem_zip za).1
    obtain ⟨g, hgn⟩ : ∃ g : Nat, ga = (g : Int) := ⟨ga.toNat, by omega⟩
    have hg4 : g < 4 := by omega
    obtain ⟨p, hp, dd, hdd, ep, ed, er, edn, e2⟩ := inv_at Hi g hg4
    have hl2 := (inv_rd Hi g).2
    rw [edn, ← e2] at hl2
    have h65a := fun f => s65 (n := n) (by omega) dd.2 f a.id (by omega)
    have h65c := fun f => s65 (n := n) (by omega) dd.2 f c.id (by omega)
    have J' := J.next (g := g) (by rw [← hgn]; exact (List.of_mem_zip za).1) (by rw [← hgn, hg]; exact (List.of_mem_zip zc).1)
    rw [edn, ← e2] at J'
    obtain ⟨df, dl⟩ := dd
    simp only at h65a h65c J' e2
    have hx := J.x
    have hy := J.y
    simp only at hx hy
    have hm : (4 * i + k : Int) ≤ 100 := by omega
    subst hgn
    refine .inl ⟨ordI dl a.id c.id (s1, s2), ⟨by have := J'; exact this.mono (by omega), fun j hj h1 h2 h3 h4 he => ?_⟩, fun e0 he => ?_⟩
    ·by_cases hjk : j = k
     ·subst hjk; rw [← hpa, ← hpc]; exact hcl
     ·exact S j (by omega) h1 h2 h3 h4 he
    ·obtain ⟨q3, q4, q5, q9⟩ := he
     unfold ordI
     generalize atI dl a.id = X at h65a ⊢
     generalize atI dl c.id = Y at h65c ⊢
     have hgc' : gc = (g : Int) := hg.symm
     by_cases c1 : 0 ≤ X
     ·by_cases c2 : 0 ≤ Y
      ·rcases Int.lt_trichotomy X Y with c3 | c3 | c3
       ·have c4 : ¬ Y < X := by omega
        simp -implicitDefEqProofs (disch := omega) [round_eq, b34_1, q3, q4, q5, q9, hG, hGa, hGc, hN, hN0, hN1, hi, hk, hip, hkp, ← hga, ← hgc, ← hpa, ← hpc, hgc', h57, r4, hb4, hdd, ← ed, dv, a65, h65a, h65c, c1, c2, c3, c4, hno]
        done
       ·subst c3
        have c4 : ¬ X < X := by omega
        simp -implicitDefEqProofs (disch := omega) [round_eq, b34_1, q3, q4, q5, q9, hG, hGa, hGc, hN, hN0, hN1, hi, hk, hip, hkp, ← hga, ← hgc, ← hpa, ← hpc, hgc', h57, r4, hb4, hdd, ← ed, dv, a65, h65a, h65c, c1, c2, c4, hno]
        done
       ·have c4 : ¬ X < Y := by omega
        simp -implicitDefEqProofs (disch := omega) [round_eq, b34_1, q3, q4, q5, q9, hG, hGa, hGc, hN, hN0, hN1, hi, hk, hip, hkp, ← hga, ← hgc, ← hpa, ← hpc, hgc', h57, r4, hb4, hdd, ← ed, dv, a65, h65a, h65c, c1, c2, c3, c4, hno]
        done
      ·simp -implicitDefEqProofs (disch := omega) [round_eq, b34_1, q3, q4, q5, q9, hG, hGa, hGc, hN, hN0, hN1, hi, hk, hip, hkp, ← hga, ← hgc, ← hpa, ← hpc, hgc', h57, r4, hb4, hdd, ← ed, dv, a65, h65a, h65c, c1, c2, hno]
       done
     ·simp -implicitDefEqProofs (disch := omega) [round_eq, b34_1, q3, q4, q5, q9, hG, hGa, hGc, hN, hN0, hN1, hi, hk, hip, hkp, ← hga, ← hgc, ← hpa, ← hpc, hgc', h57, r4, hb4, hdd, ← ed, dv, a65, h65a, h65c, c1, hno]
      done
  ·refine .inl ⟨(s1, s2), ⟨J.mono (by omega), fun j hj h1 h2 h3 h4 he => ?_⟩, fun e0 he => ?_⟩
   ·by_cases hjk : j = k
    ·subst hjk; rw [← hga, ← hgc] at he; exact absurd he hg
    ·exact S j (by omega) h1 h2 h3 h4 he
   ·obtain ⟨q3, q4, q5, q9⟩ := he
    simp -implicitDefEqProofs (disch := omega) [round_eq, b34_1, q3, q4, q5, q9, hGa, hGc, hN, hN1, hi, hk, hip, hkp, ← hga, ← hgc, ← hpa, ← hpc, hg, hno]
    done
 ·obtain ⟨J, S⟩ := hJ
  refine ⟨(.exit 2, [I s.1, I s.2], G), .inl ⟨s, rfl, J.mono (by omega), S⟩, fun e0 he => ?_⟩
  obtain ⟨q3, q4, q5, q9⟩ := he
  simp -implicitDefEqProofs (disch := omega) [round_eq, b34_1, q3, q4, q5, q9, hGc, hN]
  done
end
end Go.Proofs.Ytgefdmkmobaefaa

namespace Go.Proofs.Ytgefdmkmobaefaa
open Go.Am Go.Am.Nm Go.Lib Go.Cr
section
variable {PS : List (List UInt8)} {w : Wd} {n : Nat} {G : AH} {N : Nat} {b u : Nat → Nat}
theorem l34_2 (hn : 98 ≤ n) (Hi : Inv isPth clsh PS w) (hPS : ∀ p ∈ PS, p.length ≤ 1000000000) (hdl : w.deeds.length ≤ 1000000) (H : WH G b u w) (hN : N + 2 < G.length) (hG : G[N] = .var (WC b u w)) (a c : De) (ha : a ∈ w.deeds) (hc : c ∈ w.deeds)
  (hGa : G[N + 1] = .var [I a.id, .lst a.fg (a.grs.map I), .lst a.fp (a.pas.map AV.str)]) (hGc : G[N + 2] = .var [I c.id, .lst c.fg (c.grs.map I), .lst c.fp (c.pas.map AV.str)]) :
  ∃ y : AX × List AV × AH, ((∃ s' : Int × Int, y = (.exit 0, [I s'.1, I s'.2], G) ∧ J34 w a c s' 16 ∧ ∀ i, i < a.grs.length → Sc a c i c.grs.length) ∨ y = (.ret, [.bool true], G)) ∧
   ∀ e0 : Env, (e0 3 = .ptr N 0 0 0 ∧ e0 4 = .ptr (N + 1) 0 0 0 ∧ e0 5 = .ptr (N + 2) 0 0 0) → iter (round (C19.tab n) [7, 8, 9] [(.exit 0, [7, 8]), (.ret, [6])] c34_2 e0 G.length []) ([I 0, I 0, .int .i64 0], G) = some y := by
 have hno := fun h0 => normH_cl G.length [] h0 (Nat.le_refl _) G 0 H.cl (fun r hr => by cases hr)
 have hN1 : N + 1 < G.length := by omega
 have hi4 := grs_le (Hi.de a ha)
 refine for_any (f := fun e0 => round (C19.tab n) [7, 8, 9] [(.exit 0, [7, 8]), (.ret, [6])] c34_2 e0 G.length []) (fun e0 : Env => e0 3 = .ptr N 0 0 0 ∧ e0 4 = .ptr (N + 1) 0 0 0 ∧ e0 5 = .ptr (N + 2) 0 0 0) (fun i (s : Int × Int) => ([I s.1, I s.2, .int .i64 (i : Int)], G)) a.grs.length
  (fun i s => J34 w a c s (4 * i) ∧ ∀ j, j < i → Sc a c j c.grs.length) _ (fun i hi s hJ => ?_) (fun s hJ => ?_) (0, 0) ⟨⟨⟨by simp, by simp⟩, ⟨by simp, by simp⟩, fun _ => rfl, fun _ => rfl⟩, fun j hj => by omega⟩
 ·obtain ⟨J, S⟩ := hJ
  obtain ⟨y, hy, h1⟩ := l34_1 (n := n) hn Hi hPS hdl H hN hG a c ha hc hGa hGc i hi s J
  rcases hy with ⟨s', rfl, J', S'⟩ | rfl
  ·refine .inl ⟨s', ⟨J', fun j hj => ?_⟩, fun e0 he => ?_⟩
   ·by_cases e : j = i
    ·subst e; exact S'
    ·exact S j (by omega)
   ·obtain ⟨q3, q4, q5⟩ := he
    simp -implicitDefEqProofs (disch := omega) [round_eq, b34_2, q3, q4, q5, hGa, hN1, hi, hno]
    rw [h1 _ ⟨by simp -implicitDefEqProofs (disch := omega) [q3], by simp -implicitDefEqProofs (disch := omega) [q4], by simp -implicitDefEqProofs (disch := omega) [q5], by simp -implicitDefEqProofs (disch := omega)⟩]
    simp -implicitDefEqProofs (disch := omega) [hno]
    done
  ·refine .inr ⟨(.ret, [.bool true], G), .inr rfl, fun e0 he => ?_⟩
   obtain ⟨q3, q4, q5⟩ := he
   simp -implicitDefEqProofs (disch := omega) [round_eq, b34_2, q3, q4, q5, hGa, hN1, hi, hno]
   rw [h1 _ ⟨by simp -implicitDefEqProofs (disch := omega) [q3], by simp -implicitDefEqProofs (disch := omega) [q4], by simp -implicitDefEqProofs (disch := omega) [q5], by simp -implicitDefEqProofs (disch := omega)⟩]
   simp -implicitDefEqProofs (disch := omega) [hno]
   done
 ·obtain ⟨J, S⟩ := hJ
  refine ⟨(.exit 0, [I s.1, I s.2], G), .inl ⟨s, rfl, J.mono (by omega), S⟩, fun e0 he => ?_⟩
  obtain ⟨q3, q4, q5⟩ := he
  simp -implicitDefEqProofs (disch := omega) [round_eq, b34_2, q3, q4, q5, hGa, hN1]
  done
end
theorem sc_cl2 {PS : List (List UInt8)} {w : Wd} (Hi : Inv isPth clsh PS w) {a c : De} (hS : ∀ i, i < a.grs.length → Sc a c i c.grs.length) : Cl2 clsh a c := by
 intro g p q h1 h2
 obtain ⟨i, x1, x2, e1, e2⟩ := zip_of h1
 obtain ⟨k, y1, y2, f1, f2⟩ := zip_of h2
 have := hS i x1 k y1 x1 y1 x2 y2 (by rw [e1, f1])
 rw [← e2, ← f2]; exact this
theorem s34 {n : Nat} (hn : 98 < n) {PS : List (List UInt8)} {w : Wd} (Hi : Inv isPth clsh PS w) (hPS : ∀ p ∈ PS, p.length ≤ 1000000000) (hdl : w.deeds.length ≤ 1000000) (a c : De) (ha : a ∈ w.deeds) (hc : c ∈ w.deeds) (hA : Cl2 clsh a c → Ahead w a c ∨ Ahead w c a) (h : AH) (b u : Nat → Nat) (H : WH h b u w) :
  ∃ T : AH, T.length = 3 ∧ Cl (h.length + 3) T ∧ callA (C19.tab n) 34 [.agg (WC b u w), Dv a, Dv c] h = some (.bool true, h ++ T) := by
 have hl := H.lt
 obtain ⟨T, hT⟩ : ∃ T : AH, T = [.var (WC b u w), .var [I a.id, .lst a.fg (a.grs.map I), .lst a.fp (a.pas.map AV.str)], .var [I c.id, .lst c.fg (c.grs.map I), .lst c.fp (c.pas.map AV.str)]] := ⟨_, rfl⟩
 have hTl : T.length = 3 := by rw [hT]; rfl
 have hTc : Cl (h.length + 3) T := by
  rw [hT]
  simp only [Cl, List.all_cons, List.all_nil, Bool.and_true, Bool.and_eq_true]
  exact ⟨cel_WC fun j hj => by have := hl j hj; omega, by simp [clB, cel, AV.isE, AV.isS], by simp [clB, cel, AV.isE, AV.isS]⟩
 refine ⟨T, hTl, hTc, ?_⟩
 rw [p34 hn, runH_eq]
 have H1 : WH (h ++ T) b u w := H.app (by rw [List.length_append, hTl]; exact hTc)
 obtain ⟨y, hy, h2⟩ := l34_2 (n := 98) (Nat.le_refl _) Hi hPS hdl H1 (N := h.length) (by rw [List.length_append, hTl]; omega) (by simp [hT]) a c ha hc (by simp [hT]) (by simp [hT])
 have hno := fun h0 => normH_cl (h ++ T).length [] h0 (Nat.le_refl _) _ 0 H1.cl (fun r hr => by cases hr)
 have htk0 : ∀ Y : AH, (h ++ Y).take (h.length + 3) = h ++ Y.take 3 := fun Y => take_tail h Y 3
 subst hT
 simp only [List.length_append, List.length_cons, List.length_nil, Nat.zero_add, Nat.reduceAdd, WC] at h2 hno hy
 simp -implicitDefEqProofs (disch := omega) [c34, WC, Dv, gap_l, gap_r, sap_l, sap_r, htk0, hno]
 rw [h2 _ ⟨by simp -implicitDefEqProofs (disch := omega), by simp -implicitDefEqProofs (disch := omega), by simp -implicitDefEqProofs (disch := omega)⟩]
 rcases hy with ⟨s', rfl, J, S⟩ | rfl
 ·have h0 : s'.1 = 0 ∨ s'.2 = 0 := by
   rcases hA (sc_cl2 Hi S) with h | h
   ·exact .inr (J.ab h)
   ·exact .inl (J.ba h)
  obtain ⟨s1, s2⟩ := s'
  simp only at h0
  rcases h0 with h0 | h0
  ·subst h0
   simp -implicitDefEqProofs (disch := omega) [htk0, hno]
   done
  ·subst h0
   by_cases e : s1 = 0
   ·simp -implicitDefEqProofs (disch := omega) [htk0, hno, e]
    done
   ·simp -implicitDefEqProofs (disch := omega) [htk0, hno, e]
    done
 ·simp -implicitDefEqProofs (disch := omega) [htk0, hno]
  done
end Go.Proofs.Ytgefdmkmobaefaa
