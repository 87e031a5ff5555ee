import Derived.Test.YtgefdmkmobaefaaX19YE
import Derived.Test.YtgefdmkmobaefaaWo19
set_option linter.unusedSimpArgs false
set_option linter.unusedVariables false
namespace Go.Proofs.Ytgefdmkmobaefaa
open Go.Am Go.Am.Nm Go.Lib Go.Cr
theorem clash_fit {w : Wd} (Hi : Inv isPth clsh PSN w) (hd : w.deeds.length ≤ 1000) {g : Nat} {b : Bo} {p : Pt} (hb : w.bs[g]? = some b) (hp : w.ps[g]? = some p) : FitBP b p := by
 have e1 := cs_of hb
 have e2 := rd_of hp
 have e3 := dn_of hp
 have P := Hi.pt g
 have hr := inv_rd Hi g
 rw [e2, e3] at hr
 refine ⟨by have := (Hi.bi g b hb).2.2; omega, fun c hc => ?_, by omega, by omega, fun r h => ?_, by have := P.nd; rwa [e2] at this⟩
 ·have C := Hi.ca g c (by rw [e1]; exact hc)
  have D := Hi.de _ C.de
  have hgl := grs_le D
  have hgr : ∀ x ∈ c.de.grs, 0 ≤ x ∧ x < 8 := fun x hx => by have := D.le x hx; omega
  exact ⟨⟨by omega, by have := D.len; omega, by have := C.lt; omega⟩, C.up, fun x hx => hgr x (C.sub x hx), hgr⟩
 ·obtain ⟨d, hd, -, hz⟩ := P.re r (by rw [e2]; exact h)
  have := (Hi.de d hd).pa r.path (List.of_mem_zip hz).2
  exact PSN_len _ this.2
theorem l5_2 {n : Nat} (hn : 87 < n) {b : Bo} {p : Pt} (hf : FitBP b p) (l : List Mg) (hl : l.length ≤ 1000000) (hm : ∀ m ∈ l, m.kind = 1 → m.data.length ≤ 1000000000) (H : AH) (cl : Cl H.length H) (rb v kb kp : Nat) (g0 : H[rb]? = some (.row v 5 (l.map Mv))) (g1 : H[kb]? = some (.var [I b.id, I b.next, .lst b.fc (b.cases.map Cv)])) (g2 : H[kp]? = some (.var [I p.id, .lst p.fr (p.ready.map Rv), .lst p.fd (p.did.map I)])) (e0 : Env)
  (q10 : e0 10 = .own rb v 0 l.length) (q12 : e0 12 = .ptr kb 0 0 0) (q13 : e0 13 = .ptr kp 0 0 0) :
  iter (round (C19.tab n) [17] [(.exit 4, []), (.ret, [6])] c5_2 e0 H.length []) ([.int .i64 0], H) = some (.exit 4, [], H) := by
 have hno := fun h0 => normH_cl H.length [] h0 (Nat.le_refl _) H 0 cl (fun r hr => by cases hr)
 obtain ⟨r0, r0'⟩ := List.getElem?_eq_some_iff.1 g0
 obtain ⟨r1, r1'⟩ := List.getElem?_eq_some_iff.1 g1
 obtain ⟨r2, r2'⟩ := List.getElem?_eq_some_iff.1 g2
 have z0 : ∀ X : AB, (H ++ [X])[rb]? = some (.row v 5 (l.map Mv)) := fun X => by rw [List.getElem?_append_left r0]; exact g0
 have z1 : ∀ X : AB, (H ++ [X])[kb]? = some (.var [I b.id, I b.next, .lst b.fc (b.cases.map Cv)]) := fun X => by rw [List.getElem?_append_left r1]; exact g1
 have z2 : ∀ X : AB, (H ++ [X])[kp]? = some (.var [I p.id, .lst p.fr (p.ready.map Rv), .lst p.fd (p.did.map I)]) := fun X => by rw [List.getElem?_append_left r2]; exact g2
 exact for_list (f := round (C19.tab n) [17] [(.exit 4, []), (.ret, [6])] c5_2 e0 H.length []) (fun i (_ : Unit) => ([.int .i64 (i : Int)], H)) l (fun s _ => s) (fun _ => (.exit 4, [], H)) (fun _ _ => True)
  (fun i hi s _ => by
   refine ⟨trivial, ?_⟩
   obtain ⟨m, hme⟩ : ∃ m, m = l[i] := ⟨_, rfl⟩
   have h28 := s28 (n := n) hn b p m hf (hm m (by rw [hme]; exact List.getElem_mem hi))
   simp only [Bv, Pv, Mv] at h28
   simp -implicitDefEqProofs (disch := omega) [round_eq, b5_2, q10, q12, q13, r0, r0', r1, r1', r2, r2', hi, ← hme, Mv, a28, h28, hno, z0, z1, z2]
   done)
  (fun s _ => by
   simp -implicitDefEqProofs (disch := omega) [round_eq, b5_2, q10]
   done) () trivial
end Go.Proofs.Ytgefdmkmobaefaa

namespace Go.Proofs.Ytgefdmkmobaefaa
open Go.Am Go.Am.Nm Go.Lib Go.Cr
theorem againP_okM (b : Bo) (hp : ∀ c ∈ b.cases, ∀ p ∈ c.de.pas, p.length ≤ 1000000) : ∀ x ∈ againP b, OkM x := fun x hx => by
 unfold againP at hx
 obtain ⟨l, hl, hx⟩ := List.mem_flatten.1 hx
 obtain ⟨c, hc, rfl⟩ := List.mem_map.1 hl
 unfold againC at hx
 obtain ⟨l, hl, hx⟩ := List.mem_flatten.1 hx
 obtain ⟨z, hz, rfl⟩ := List.mem_map.1 hl
 unfold againZ at hx
 split at hx
 ·cases hx
 ·split at hx
  ·rw [List.mem_singleton] at hx; subst hx; exact okM_msg _ _ _ _
  ·rw [List.mem_singleton] at hx; subst hx; exact ⟨by simp [prepP], hp c hc _ (List.of_mem_zip hz).2⟩
theorem againP_len (b : Bo) (hb : OkA b) : (againP b).length ≤ 1000000 := by
 have := flat_len (againC b) 1000 b.cases fun c h => againC_len b c (hb.2 c h).2.1
 have := hb.1
 unfold againP
 omega
theorem askP_okM (p : Pt) : ∀ x ∈ askP p, OkM x := fun x hx => by
 obtain ⟨r, -, rfl⟩ := List.mem_map.1 hx
 exact okM_msg _ _ _ _
theorem PSN_len2 : ∀ p ∈ PSN, p.length ≤ 1000000 := by decide
theorem l5_3 {n : Nat} (hn : 88 ≤ n) {w : Wd} (Hi : Inv isPth clsh PSN w) (hd : w.deeds.length ≤ 1000) (l : List Mg) (hl : l.length ≤ 1000000) (hm : ∀ m ∈ l, m.kind = 1 → m.data.length ≤ 1000000000) (text : List UInt8) (ht : text.length ≤ 1000000000)
  {H : AH} {b u : Nat → Nat} {N : Nat} (W : WH H b u w) (hN : N < H.length) (hG : H[N] = .var (WC b u w)) (rb v : Nat) (g0 : H[rb]? = some (.row v 5 (l.map Mv))) (e0 : Env)
  (q2 : e0 2 = .str text) (q8 : e0 8 = .ptr N 0 0 0) (q10 : e0 10 = .own rb v 0 l.length) :
  iter (round (C19.tab n) [11] [(.exit 2, []), (.ret, [6])] c5_3 e0 H.length []) ([.int .i64 0], H) = some (.exit 2, [], H) := by
 have hno := fun h0 => normH_cl H.length [] h0 (Nat.le_refl _) H 0 W.cl (fun r hr => by cases hr)
 have hb0 := W.lt 0 (by decide)
 have r0 := (List.getElem?_eq_some_iff.1 W.r0).2
 have hb1 := W.lt 1 (by decide)
 have r1 := (List.getElem?_eq_some_iff.1 W.r1).2
 simp only [WC] at hG
 have zN : ∀ X : AB, (H ++ [X])[N]? = some (.var [.own (b 0) (u 0) 0 w.bs.length, .own (b 1) (u 1) 0 w.ps.length, .own (b 2) (u 2) 0 w.wire.length, .own (b 3) (u 3) 0 w.deeds.length, .own (b 4) (u 4) 0 w.did.length]) := fun X => by rw [List.getElem?_append_left hN, List.getElem?_eq_getElem hN, hG]
 have z1 : ∀ X : AB, (H ++ [X])[b 1]? = some (.row (u 1) 3 (w.ps.map Pv)) := fun X => by rw [List.getElem?_append_left hb1]; exact W.r1
 exact for_list (f := round (C19.tab n) [11] [(.exit 2, []), (.ret, [6])] c5_3 e0 H.length []) (fun i (_ : Unit) => ([.int .i64 (i : Int)], H)) [0, 1, 2, 3] (fun s _ => s) (fun _ => (.exit 2, [], H)) (fun _ _ => True)
  (fun g hg s _ => by
   refine ⟨trivial, ?_⟩
   have hg : g < 4 := hg
   have hgb : g < w.bs.length := by rw [Hi.lb]; exact hg
   have hgp : g < w.ps.length := by rw [Hi.lp]; exact hg
   have eb := List.getElem?_eq_getElem hgb
   have ep := List.getElem?_eq_getElem hgp
   obtain ⟨bo, hbo⟩ : ∃ bo, bo = w.bs[g] := ⟨_, rfl⟩
   obtain ⟨pt, hpt⟩ : ∃ pt, pt = w.ps[g] := ⟨_, rfl⟩
   rw [← hbo] at eb
   rw [← hpt] at ep
   have hf := clash_fit Hi hd eb ep
   have hoa := inv_okA Hi eb
   have hob := hf.okB
   have hrl := hf.rl
   have h20 := s20 (n := n) (by omega) bo hoa
   have h21 := s21 (n := n) (by omega) bo hoa
   have hpas : ∀ c ∈ bo.cases, ∀ p ∈ c.de.pas, p.length ≤ 1000000 := fun c hc p hp => by
    have C := Hi.ca g c (by rw [cs_of eb]; exact hc)
    exact PSN_len2 _ ((Hi.de _ C.de).pa p hp).2
   have h15 := s15 (n := n) (by omega) (againP bo) (againP bo) false false rfl (againP_len bo hoa) (againP_okM bo hpas)
   have h22 := s22 (n := n) (by omega) pt (by omega)
   have h23 := s23 (n := n) (by omega) pt (by omega)
   have h15' := s15 (n := n) (by omega) (askP pt) (askP pt) false false rfl (by simp [askP]; omega) (askP_okM pt)
   have hbl : bo.cases.length ≤ 1000000 := hob.1
   have h24 := s24 (n := n) (by omega) bo hbl
   obtain ⟨fc, h25⟩ := s25 (n := n) (by omega) bo hbl
   have h14 := s14 (n := n) (by omega) (backP bo) ⟨bo.id, bo.next, fc, bo.cases.filter fun c => c.sure⟩ rfl (Nat.le_trans (List.length_filter_le _ _) hbl) fun c hc => (hob.2 c (List.mem_filter.1 hc).1).1
   have h26 := s26 (n := n) (by omega) pt text (by omega)
   have h27 := s27 (n := n) (by omega) pt text (by omega) ht hf.rp
   generalize lockedP isPth clsh pt text = lk at h26 h27
   generalize againP bo = ag at h20 h21 h15
   generalize askP pt = ak at h22 h23 h15'
   generalize backP bo = bk at h24 h14
   generalize (bo.cases.filter fun c => c.sure) = fl at h25 h14
   have hcl2 : Cl (H ++ [AB.var [I bo.id, I bo.next, .lst bo.fc (bo.cases.map Cv)], .var [I pt.id, .lst pt.fr (pt.ready.map Rv), .lst pt.fd (pt.did.map I)]]).length (H ++ [AB.var [I bo.id, I bo.next, .lst bo.fc (bo.cases.map Cv)], .var [I pt.id, .lst pt.fr (pt.ready.map Rv), .lst pt.fd (pt.did.map I)]]) := by
     have := (W.cl.mono (m := H.length + 2) (by omega)).app (B := [.var [I bo.id, I bo.next, .lst bo.fc (bo.cases.map Cv)], .var [I pt.id, .lst pt.fr (pt.ready.map Rv), .lst pt.fd (pt.did.map I)]]) (by simp [Cl, clB, cel])
     simpa using this
   have hno2 := fun h0 => normH_cl (H ++ [AB.var [I bo.id, I bo.next, .lst bo.fc (bo.cases.map Cv)], .var [I pt.id, .lst pt.fr (pt.ready.map Rv), .lst pt.fd (pt.did.map I)]]).length [] h0 (Nat.le_refl _) (H ++ [AB.var [I bo.id, I bo.next, .lst bo.fc (bo.cases.map Cv)], .var [I pt.id, .lst pt.fr (pt.ready.map Rv), .lst pt.fd (pt.did.map I)]]) 0 hcl2 (fun r hr => by cases hr)
   have htk2 : List.take (H.length + 2) (H ++ [AB.var [I bo.id, I bo.next, .lst bo.fc (bo.cases.map Cv)], .var [I pt.id, .lst pt.fr (pt.ready.map Rv), .lst pt.fd (pt.did.map I)]]) = H ++ [AB.var [I bo.id, I bo.next, .lst bo.fc (bo.cases.map Cv)], .var [I pt.id, .lst pt.fr (pt.ready.map Rv), .lst pt.fd (pt.did.map I)]] := List.take_of_length_le (by simp)
   have h52 := l5_2 (n := n) (by omega) hf l hl hm (H ++ [AB.var [I bo.id, I bo.next, .lst bo.fc (bo.cases.map Cv)], .var [I pt.id, .lst pt.fr (pt.ready.map Rv), .lst pt.fd (pt.did.map I)]])
    hcl2
    rb v H.length (H.length + 1) (by rw [List.getElem?_append_left (List.getElem?_eq_some_iff.1 g0).1]; exact g0) (by simp) (by simp)
   simp only [List.length_append, List.length_cons, List.length_nil, Nat.reduceAdd, Nat.zero_add] at h52 hno2
   simp only [Bv, Pv] at h20 h21 h22 h23 h24 h25 h14 h26 h27
   simp -implicitDefEqProofs (disch := omega) [round_eq, b5_3, q2, q8, hG, hN, hg, r0, hb0, r1, hb1, hgb, hgp, ← hbo, ← hpt, Bv, Pv, a20, h20, a21, h21, a15, h15, h15', a22, h22, a23, h23, a24, h24, a25, h25, a14, h14, a26, h26, a27, h27, hno, zN, z1, hno2, htk2]
   rw [h52 _ (by simp -implicitDefEqProofs (disch := omega) [q10]) (by simp -implicitDefEqProofs (disch := omega)) (by simp -implicitDefEqProofs (disch := omega))]
   simp -implicitDefEqProofs (disch := omega) [hno]
   done)
  (fun s _ => by
   simp -implicitDefEqProofs (disch := omega) [round_eq, b5_3]
   done) () trivial
end Go.Proofs.Ytgefdmkmobaefaa
