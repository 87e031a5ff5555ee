import Derived.Test.YtfdenmkoampgnaaGreatV49GA
set_option linter.unusedSimpArgs false
set_option linter.unusedVariables false
namespace Go.Proofs.YtfdenmkoampgnaaGreat
open Go.Am Go.Tr Go.Am.Nm Go.Lib

theorem s54h {n : Nat} (hn : 74 < n) (t : Tr.Tree) (w : WFt t) {i : Int} (hd : dirE t i = 0) {X : AH} {k : Nat} (B : Bx X k t) :
    ∃ E, E.all plainB = true ∧ callA (C49.tab n) 54 [.ptr k 0 0 0, I i] X = some (I (depth t i), X ++ E) := by
  rw [p54 hn, runH_eq]
  obtain ⟨q, hq, hqk⟩ := dirE_iff.1 hd
  obtain ⟨d, hdep, hd12, _⟩ := w.dep _ _ hq hqk
  have hdl := dep_len w hdep
  rw [depth_eq hdep (by omega)]
  have hl := (wbt w).len
  have h85 := p85 (n := 74) (by decide)
  have h := fun e0 h0 => l85 (n := 73) (by decide) t w B e0 h0 hdep [i] (by simp; omega)
  have hL : ([i] ++ upsF t d i).length = d + 1 := by simp [upsF_len]
  generalize [i] ++ upsF t d i = l at *
  refine ⟨[.row 0 1 (l.map I)], rfl, ?_⟩
  have hpl := fun Y h0 => normH_tail (X.length + 1) [X.length] h0 B.pl (by simp) Y
  have htk := take_tail X
  have hlt := B.lt
  have hne : ¬ k = X.length := by omega
  rw [hL] at h
  simp -implicitDefEqProofs (disch := omega) [wrap_of, ilt_t, ilt_f, ile_t, ile_f, nlt_t, nlt_f, nle_t, nle_f, ieq_t, ieq_f, imin_l, imin_r, imax_l, imax_r, take_app1, take_map_all, c54, h85, runH_eq, c85, hne, hpl, htk, gap_l, gap_r, sap_l, sap_r]
  have h' := fun e0 h0 => h e0 h0
  simp only [List.length_cons, List.length_nil, List.map_cons, List.map_nil] at h'
  rw [h' _ (by simp -implicitDefEqProofs (disch := omega) [wrap_of, ilt_t, ilt_f, ile_t, ile_f, nlt_t, nlt_f, nle_t, nle_f, ieq_t, ieq_f, imin_l, imin_r, imax_l, imax_r, take_app1, take_map_all, hne])]
  simp -implicitDefEqProofs (disch := omega) [wrap_of, ilt_t, ilt_f, ile_t, ile_f, nlt_t, nlt_f, nle_t, nle_f, ieq_t, ieq_f, imin_l, imin_r, imax_l, imax_r, take_app1, take_map_all, ]
theorem dirN_of {t : Tr.Tree} {i : Int} (hd : dirE t i = 0) : ∃ q, find t.nodes i = some q ∧ q.kind = 2 ∧ dirN t i = q := by
  obtain ⟨q, hq, hk⟩ := dirE_iff.1 hd
  exact ⟨q, hq, hk, by unfold dirN; rw [hq]; simp [hk]⟩
theorem s25h {n : Nat} (hn : 75 < n) (t : Tr.Tree) (w : WFt t) (i : Int) (s : List UInt8) {X : AH} {k : Nat} (B : Bx X k t) :
    ∃ Y, callA (C49.tab n) 25 [.ptr k 0 0 0, I i, .str s] X = some (I (enter okN t i s), Y) ∧ Gw X Y k t := by
  rw [p25 hn, runH_eq]
  have hl := (wbt w).len
  obtain ⟨Y, h51, G⟩ := s51h (n := 75) (by decide) t w.wf.srt hl i B
  have h52 := s52 (n := 75) (by decide) s
  unfold enter
  by_cases c0 : dirE t i = 0
  · obtain ⟨q, hq, hk, hdn⟩ := dirN_of c0
    rw [c0, hdn] at h51
    rw [hdn]
    have hqi := find_ino hq
    have hsr := (w.wf.dir _ _ hq hk).2
    have hql : q.ents.length ≤ 1000 := by have := hsr.len; omega
    have h53 := s53 (n := 75) (by decide) q hsr.srt hql s
    have B2 : Bx (Y ++ [.var (Nc q)]) k t := G.bx.app rfl
    obtain ⟨E, hE, h54⟩ := s54h (n := 75) (by decide) t w c0 B2
    have hk2 := B2.get
    have hlt := G.bx.lt
    have G2 : Gw X (Y ++ [.var (Nc q)]) k t := G.trans (Gw.same G.bx rfl)
    have G3 : Gw X (Y ++ [.var (Nc q)] ++ E) k t := G2.trans (Gw.same B2 hE)
    unfold full
    rw [hqi]
    simp only [Nd, Nc] at h51 h53 h54 hk2 G2 G3
    have hcut : cutE sLess q.ents s ≤ q.ents.length := cutP_le _ _
    generalize cutE sLess q.ents s = c at *
    generalize (entOf q s).isSome = there at *
    cases c1 : okN s with
    | false =>
      rw [c1] at h52
      refine ⟨_, ?_, G2⟩
      simp -implicitDefEqProofs (disch := omega) [wrap_of, ilt_t, ilt_f, ile_t, ile_f, nlt_t, nlt_f, nle_t, nle_f, ieq_t, ieq_f, imin_l, imin_r, imax_l, imax_r, take_app1, take_map_all, c25, h51, a52, h52, gap_l, gap_r, sap_l, sap_r]
    | true =>
      rw [c1] at h52
      cases there with
      | true =>
        refine ⟨_, ?_, G2⟩
        simp -implicitDefEqProofs (disch := omega) [wrap_of, ilt_t, ilt_f, ile_t, ile_f, nlt_t, nlt_f, nle_t, nle_f, ieq_t, ieq_f, imin_l, imin_r, imax_l, imax_r, take_app1, take_map_all, c25, h51, a52, h52, a53, h53, gap_l, gap_r, sap_l, sap_r]
      | false =>
        by_cases c3 : 64 ≤ q.ents.length
        · refine ⟨_, ?_, G2⟩
          simp -implicitDefEqProofs (disch := omega) [wrap_of, ilt_t, ilt_f, ile_t, ile_f, nlt_t, nlt_f, nle_t, nle_f, ieq_t, ieq_f, imin_l, imin_r, imax_l, imax_r, take_app1, take_map_all, c25, h51, a52, h52, a53, h53, c3, gap_l, gap_r, sap_l, sap_r]
        · refine ⟨_, ?_, G3⟩
          by_cases c4 : 12 ≤ depth t i
          · simp -implicitDefEqProofs (disch := omega) [wrap_of, ilt_t, ilt_f, ile_t, ile_f, nlt_t, nlt_f, nle_t, nle_f, ieq_t, ieq_f, imin_l, imin_r, imax_l, imax_r, take_app1, take_map_all, c25, h51, a52, h52, a53, h53, c3, h54, c4, gap_l, gap_r, sap_l, sap_r]
          · have hkk : k < Y.length := G.bx.lt
            have hky := G.bx.get
            by_cases c5 : 1099511627776 ≤ t.cookie
            · simp -implicitDefEqProofs (disch := omega) [wrap_of, ilt_t, ilt_f, ile_t, ile_f, nlt_t, nlt_f, nle_t, nle_f, ieq_t, ieq_f, imin_l, imin_r, imax_l, imax_r, take_app1, take_map_all, c25, h51, a52, h52, a53, h53, c3, h54, c4, c5, hky, gap_l, gap_r, sap_l, sap_r]
            · simp -implicitDefEqProofs (disch := omega) [wrap_of, ilt_t, ilt_f, ile_t, ile_f, nlt_t, nlt_f, nle_t, nle_f, ieq_t, ieq_f, imin_l, imin_r, imax_l, imax_r, take_app1, take_map_all, c25, h51, a52, h52, a53, h53, c3, h54, c4, c5, hky, gap_l, gap_r, sap_l, sap_r]
  · refine ⟨Y ++ [.var (Nc (dirN t i))], ?_, G.trans (Gw.same G.bx rfl)⟩
    have hlt := G.bx.lt
    simp only [Nd, Nc] at h51 ⊢
    generalize dirE t i = e at *
    simp -implicitDefEqProofs (disch := omega) [wrap_of, ilt_t, ilt_f, ile_t, ile_f, nlt_t, nlt_f, nle_t, nle_f, ieq_t, ieq_f, imin_l, imin_r, imax_l, imax_r, take_app1, take_map_all, c25, h51, c0, gap_l, gap_r, sap_l, sap_r]
end Go.Proofs.YtfdenmkoampgnaaGreat

namespace Go.Proofs.YtfdenmkoampgnaaGreat
open Go.Am Go.Tr Go.Am.Nm Go.Lib

theorem s27h {n : Nat} (hn : 78 < n) (t : Tr.Tree) (w : Srt t.nodes) (hl : t.nodes.length ≤ 1000) {i : Int} {q : Tr.Node} (hq : find t.nodes i = some q) (hs : SrtE sLess q.ents) (hql : q.ents.length ≤ 1000) {s : List UInt8} (he : entOf q s = none)
    (hc0 : 0 ≤ t.cookie) (hck : t.cookie ≤ 4398046511104) (of : Int) {X : AH} {k : Nat} (B : Bx X k t) :
    ∃ Y, callA (C49.tab n) 27 [.ptr k 0 0 0, I i, .str s, I of] X = some (.tup [], Y) ∧ Gw X Y k (entered sLess t i s of) := by
  rw [p27 hn, runH_eq]
  have hG := s33h (n := 78) (by decide) t w hl i B
  rw [getZ_of hq, hq] at hG
  have h53 := s53 (n := 78) (by decide) q hs hql s
  have h59 := p59 (n := 78) (by decide)
  have h58 := p58 (n := 78) (by decide)
  have hlt := B.lt
  have hk := B.get
  unfold entered
  rw [getZ_of hq]
  have hins := insE_cut ord_sLess hs (e := ⟨s, of, t.cookie⟩) he
  rw [he] at h53
  have hcut : cutE sLess q.ents s ≤ q.ents.length := cutP_le _ _
  simp only at hins
  rw [hins]
  generalize cutE sLess q.ents s = c at *
  obtain ⟨t', ht'⟩ : ∃ t' : Tr.Tree, t' = ⟨t.fn, t.nodes, t.next, t.cookie + 1⟩ := ⟨_, rfl⟩
  obtain ⟨q', hq'⟩ : ∃ q' : Tr.Node, q' = { q with fe := false, ents := q.ents.take c ++ (⟨s, of, t.cookie⟩ : Tr.Ent) :: q.ents.drop c } := ⟨_, rfl⟩
  rw [← ht', ← hq']
  have hB' : Bx (X.set k (.var (Tb t')) ++ [.var (Nc q), .var (Nc q'), .fro 1 3 (q'.ents.map En)]) k t' := (B.set t').app rfl
  obtain ⟨Y, h26, G⟩ := s26h (n := q') (m := 78) (by decide) t' (by rw [ht']; exact w) (by rw [ht']; exact hl) hB'
  refine ⟨Y, ?_, G.bx, Nat.le_trans (by simp) G.le, fun j hj hne => ?_⟩
  · subst ht' hq'
    simp only [Nd, Nc, Tb, List.map_append, List.map_cons] at hG h53 h26
    simp only [Option.isSome_none, Option.isSome_some] at hG h53
    have htk := take_tail X
    have htc : ∀ A : AV, List.take (q.ents.length + 1) (List.take c (List.map En q.ents) ++ A :: List.drop c (List.map En q.ents)) = List.take c (List.map En q.ents) ++ A :: List.drop c (List.map En q.ents) := fun A => List.take_of_length_le (by simp; omega)
    simp only [List.map_take, List.map_drop, En] at h26 htc
    simp -implicitDefEqProofs (disch := omega) [wrap_of, ilt_t, ilt_f, ile_t, ile_f, nlt_t, nlt_f, nle_t, nle_f, ieq_t, ieq_f, imin_l, imin_r, imax_l, imax_r, take_app1, take_map_all, c27, htk, htc, hG, a53, h53, h59, h58, cloneH, insertH, hk, gsa_at, gsa_ne, gsa_ge, ssa_at, ssa_ge, gap_l, gap_r, sap_l, sap_r, h26]
  · rw [G.old j (by simp; omega) hne, List.getElem?_append_left (by simpa using hj), List.getElem?_set_ne (Ne.symm hne)]
end Go.Proofs.YtfdenmkoampgnaaGreat

namespace Go.Proofs.YtfdenmkoampgnaaGreat
open Go.Am Go.Tr Go.Am.Nm Go.Lib

theorem of_get {Y : AH} {j : Nat} {A : AB} (h : Y[j]? = some A) (hj : j < Y.length) : Y[j] = A := by
  rw [List.getElem?_eq_getElem hj] at h
  exact Option.some.inj h
theorem s9 {n : Nat} (hn : 79 < n) (t : Tr.Tree) (w : WFt t) (i : Int) (s : List UInt8) (kind : Int) :
    (C49.tab n).p 9 [Tv t, I i, .str s, I kind] = some (.tup [Tv (Tr.add okN sLess t i s kind).1, I (Tr.add okN sLess t i s kind).2.1, I (Tr.add okN sLess t i s kind).2.2]) := by
  rw [p9 hn, runP_eq, runH_eq]
  have hl := (wbt w).len
  unfold add
  by_cases hk : kind ≠ 1 ∧ kind ≠ 2
  · rw [if_pos hk]
    obtain ⟨k1, k2⟩ := hk
    simp -implicitDefEqProofs (disch := omega) [wrap_of, ilt_t, ilt_f, ile_t, ile_f, nlt_t, nlt_f, nle_t, nle_f, ieq_t, ieq_f, imin_l, imin_r, imax_l, imax_r, take_app1, take_map_all, c9, k1, k2]
  · rw [if_neg hk]
    have B : Bx [.var [.lst true [], .int .i64 0, .int .i64 0], .var (Tb t)] 1 t := ⟨rfl, rfl⟩
    obtain ⟨Y, h25, G⟩ := s25h (n := 79) (by decide) t w i s B
    have hY0 := G.old 0 (by simp) (by simp)
    have hY1 := G.bx.get
    have hYl := G.le
    simp only [Tb, List.getElem?_cons_zero, List.length_cons, List.length_nil] at h25 hY0 hYl
    have hY0 := of_get hY0
    by_cases he : enter okN t i s = 0
    · rw [if_neg (show ¬ (enter okN t i s ≠ 0) from fun h => h he)]
      rw [he] at h25
      by_cases c1 : 200 ≤ t.nodes.length
      · rw [if_pos (show 200 ≤ t.nodes.length ∨ 1099511627776 ≤ t.next from .inl c1)]
        rcases (by omega : kind = 1 ∨ kind = 2) with rfl | rfl
        · simp -implicitDefEqProofs (disch := omega) [wrap_of, ilt_t, ilt_f, ile_t, ile_f, nlt_t, nlt_f, nle_t, nle_f, ieq_t, ieq_f, imin_l, imin_r, imax_l, imax_r, take_app1, take_map_all, c9, h25, hY0, hY1, c1]
        · simp -implicitDefEqProofs (disch := omega) [wrap_of, ilt_t, ilt_f, ile_t, ile_f, nlt_t, nlt_f, nle_t, nle_f, ieq_t, ieq_f, imin_l, imin_r, imax_l, imax_r, take_app1, take_map_all, c9, h25, hY0, hY1, c1]
      · by_cases c2 : 1099511627776 ≤ t.next
        · rw [if_pos (show 200 ≤ t.nodes.length ∨ 1099511627776 ≤ t.next from .inr c2)]
          rcases (by omega : kind = 1 ∨ kind = 2) with rfl | rfl
          · simp -implicitDefEqProofs (disch := omega) [wrap_of, ilt_t, ilt_f, ile_t, ile_f, nlt_t, nlt_f, nle_t, nle_f, ieq_t, ieq_f, imin_l, imin_r, imax_l, imax_r, take_app1, take_map_all, c9, h25, hY0, hY1, c1, c2]
          · simp -implicitDefEqProofs (disch := omega) [wrap_of, ilt_t, ilt_f, ile_t, ile_f, nlt_t, nlt_f, nle_t, nle_f, ieq_t, ieq_f, imin_l, imin_r, imax_l, imax_r, take_app1, take_map_all, c9, h25, hY0, hY1, c1, c2]
        · rw [if_neg (show ¬ (200 ≤ t.nodes.length ∨ 1099511627776 ≤ t.next) by omega)]
          obtain ⟨p, p1, p2, p3, p4, p5, p6, p7⟩ := enter_of he
          obtain ⟨t1, ht1⟩ : ∃ t1 : Tr.Tree, t1 = ⟨t.fn, t.nodes, t.next + 1, t.cookie⟩ := ⟨_, rfl⟩
          obtain ⟨nw, hnw⟩ : ∃ nw : Tr.Node, nw = ⟨t.next, kind, 1, true, [], true, [], if kind = 2 then i else 0⟩ := ⟨_, rfl⟩
          rw [← ht1, ← hnw]
          have hs1 : Srt t1.nodes := by rw [ht1]; exact w.wf.srt
          have hl1 : t1.nodes.length ≤ 1000 := by rw [ht1]; exact hl
          have B1 : Bx (Y.set 1 (.var (Tb t1)) ++ [.var (Nc nw)]) 1 t1 := (G.bx.set t1).app rfl
          obtain ⟨Y2, h26, G2⟩ := s26h (m := 79) (by decide) t1 hs1 hl1 nw B1
          have hs2 : Srt (withN t1 nw).nodes := ins_srt hs1
          have hl2 : (withN t1 nw).nodes.length ≤ 1000 := by
            have h1 := withN_len hs1 nw
            have h2 : t1.nodes.length < 200 := by rw [ht1]; simp only; omega
            omega
          have hpos := w.wf.pos _ _ p1
          have hq2 : find (withN t1 nw).nodes i = some p := by
            rw [find_withN hs1, hnw, ht1]
            simp only
            rw [if_neg (by omega)]
            exact p1
          have hes := (w.wf.dir _ _ p1 p2).2
          have hno : entOf p s = none := List.find?_eq_none.2 fun e hem => by simpa using p4 e hem
          have hck : (withN t1 nw).cookie = t.cookie := by unfold withN; rw [ht1]
          have hck1 := w.wf.ck1
          have hck2 := w.wf.ck2
          obtain ⟨Y3, h27, G3⟩ := s27h (n := 79) (by decide) (withN t1 nw) hs2 hl2 hq2 hes.srt (by omega) hno (by omega) (by omega) t.next G2.bx
          have hA0 := G2.old 0 (by simp) (by simp)
          have hA2 := G2.old Y.length (by simp) (by omega)
          have hC0 := G3.old 0 (by have := G2.le; simp at this; omega) (by simp)
          have hC2 := G3.old Y.length (by have := G2.le; simp at this; omega) (by omega)
          have hl2' := G2.le
          have hl3' := G3.le
          rw [hA0] at hC0
          rw [hA2] at hC2
          have e0 : (Y.set 1 (.var (Tb t1)) ++ [.var (Nc nw)])[0]? = Y[0]? := gsa_ne (by omega) (by simp)
          have e2 : (Y.set 1 (.var (Tb t1)) ++ [.var (Nc nw)])[Y.length]? = some (.var (Nc nw)) := by rw [gsa_ge (by omega)]; simp
          rw [e0] at hA0 hC0
          rw [e2] at hA2 hC2
          have hY0' : Y[0]? = some (.var [.lst true [], .int .i64 0, .int .i64 0]) := by rw [List.getElem?_eq_getElem (by omega), hY0]
          rw [hY0'] at hA0 hC0
          simp only [List.length_append, List.length_set, List.length_cons, List.length_nil] at hl2'
          have hA0 := of_get hA0
          have hA2 := of_get hA2
          have hC0 := of_get hC0
          have hC2 := of_get hC2
          have hC1 := G3.bx.get
          have n1 : ¬ Y = [] := fun h => by rw [h] at hYl; simp at hYl
          have n2 : ¬ 0 = Y.length := by omega
          have n3 : ¬ Y.length = 0 := by omega
          have n4 : ¬ [] = Y := fun h => n1 h.symm
          generalize entered sLess (withN t1 nw) i s t.next = t3 at *
          rcases (by omega : kind = 1 ∨ kind = 2) with rfl | rfl
          · subst ht1
            rw [if_neg (by decide)] at hnw
            subst hnw
            simp only [Nd, Nc, Tb, List.map_nil] at h26 h27 hA2 hC2
            simp -implicitDefEqProofs (disch := omega) [wrap_of, ilt_t, ilt_f, ile_t, ile_f, nlt_t, nlt_f, nle_t, nle_f, ieq_t, ieq_f, imin_l, imin_r, imax_l, imax_r, take_app1, take_map_all, c9, h25, hY0, hY1, c1, c2, gsa_at, gsa_ne, gsa_ge, ssa_at, ssa_ge, gap_l, gap_r, sap_l, sap_r, h26, hA2, h27, hC0, hC1, hC2, n1, n2, n3, n4]
          · subst ht1
            rw [if_pos rfl] at hnw
            subst hnw
            simp only [Nd, Nc, Tb, List.map_nil] at h26 h27 hA2 hC2
            simp -implicitDefEqProofs (disch := omega) [wrap_of, ilt_t, ilt_f, ile_t, ile_f, nlt_t, nlt_f, nle_t, nle_f, ieq_t, ieq_f, imin_l, imin_r, imax_l, imax_r, take_app1, take_map_all, c9, h25, hY0, hY1, c1, c2, gsa_at, gsa_ne, gsa_ge, ssa_at, ssa_ge, gap_l, gap_r, sap_l, sap_r, h26, hA2, h27, hC0, hC1, hC2, n1, n2, n3, n4]
    · rw [if_pos he]
      generalize enter okN t i s = e at *
      rcases (by omega : kind = 1 ∨ kind = 2) with rfl | rfl
      · simp -implicitDefEqProofs (disch := omega) [wrap_of, ilt_t, ilt_f, ile_t, ile_f, nlt_t, nlt_f, nle_t, nle_f, ieq_t, ieq_f, imin_l, imin_r, imax_l, imax_r, take_app1, take_map_all, c9, h25, he, hY0]
      · simp -implicitDefEqProofs (disch := omega) [wrap_of, ilt_t, ilt_f, ile_t, ile_f, nlt_t, nlt_f, nle_t, nle_f, ieq_t, ieq_f, imin_l, imin_r, imax_l, imax_r, take_app1, take_map_all, c9, h25, he, hY0]
end Go.Proofs.YtfdenmkoampgnaaGreat

namespace Go.Proofs.YtfdenmkoampgnaaGreat
open Go.Am Go.Tr Go.Am.Nm Go.Lib

theorem s32 {n : Nat} (hn : 80 < n) (t : Tr.Tree) (w : WFt t) (i : Int) (s : List UInt8) :
    (C49.tab n).p 32 [Tv t, I i, .str s] = some (.tup [I (Tr.look okN t i s).1, I (Tr.look okN t i s).2]) := by
  rw [p32 hn, runP_eq, runH_eq]
  have hl := (wbt w).len
  have B : Bx [.var (Tb t)] 0 t := ⟨rfl, rfl⟩
  obtain ⟨Y, h51, G⟩ := s51h (n := 80) (by decide) t w.wf.srt hl i B
  have h52 := s52 (n := 80) (by decide) s
  have hYl := G.le
  simp only [Tb, List.length_cons, List.length_nil] at h51 hYl
  unfold Tr.look
  by_cases c0 : dirE t i = 0
  · obtain ⟨q, hq, hk, hdn⟩ := dirN_of c0
    rw [c0, hdn] at h51
    rw [hdn, if_neg (show ¬ (dirE t i ≠ 0) from fun h => h c0)]
    have hsr := (w.wf.dir _ _ hq hk).2
    have hql : q.ents.length ≤ 1000 := by have := hsr.len; omega
    have h53 := s53 (n := 80) (by decide) q hsr.srt hql s
    have hcf := cutE_find ord_sLess hsr.srt s
    unfold entOf at h53 ⊢
    simp only [Nd] at h51 h53
    generalize cutE sLess q.ents s = c at *
    cases c1 : okN s with
    | false =>
      rw [c1] at h52
      rw [if_pos rfl]
      simp -implicitDefEqProofs (disch := omega) [wrap_of, ilt_t, ilt_f, ile_t, ile_f, nlt_t, nlt_f, nle_t, nle_f, ieq_t, ieq_f, imin_l, imin_r, imax_l, imax_r, take_app1, take_map_all, c32, h51, a52, h52, gap_l, gap_r, sap_l, sap_r]
    | true =>
      rw [c1] at h52
      rw [if_neg (show ¬ (true = false) by decide)]
      rcases hcf with ⟨hc, hi, hf⟩ | ⟨hf, _⟩
      · obtain ⟨e, he⟩ : ∃ e, e = q.ents[c] := ⟨_, rfl⟩
        rw [hf, ← he] at h53 ⊢
        simp -implicitDefEqProofs (disch := omega) [wrap_of, ilt_t, ilt_f, ile_t, ile_f, nlt_t, nlt_f, nle_t, nle_f, ieq_t, ieq_f, imin_l, imin_r, imax_l, imax_r, take_app1, take_map_all, c32, h51, a52, h52, a53, h53, hc, ← he, gap_l, gap_r, sap_l, sap_r]
      · rw [hf] at h53 ⊢
        simp -implicitDefEqProofs (disch := omega) [wrap_of, ilt_t, ilt_f, ile_t, ile_f, nlt_t, nlt_f, nle_t, nle_f, ieq_t, ieq_f, imin_l, imin_r, imax_l, imax_r, take_app1, take_map_all, c32, h51, a52, h52, a53, h53, gap_l, gap_r, sap_l, sap_r]
  · rw [if_pos c0]
    simp only [Nd] at h51
    generalize dirE t i = e at *
    simp -implicitDefEqProofs (disch := omega) [wrap_of, ilt_t, ilt_f, ile_t, ile_f, nlt_t, nlt_f, nle_t, nle_f, ieq_t, ieq_f, imin_l, imin_r, imax_l, imax_r, take_app1, take_map_all, c32, h51, c0, gap_l, gap_r, sap_l, sap_r]
theorem s34h {n : Nat} (hn : 82 < n) (t : Tr.Tree) (w : Srt t.nodes) (hl : t.nodes.length ≤ 1000) {i : Int} {q : Tr.Node} (hq : find t.nodes i = some q) (hs : SrtE sLess q.ents) (hql : q.ents.length ≤ 1000) {s : List UInt8} {e : Tr.Ent} (he : entOf q s = some e)
    {X : AH} {k : Nat} (B : Bx X k t) :
    ∃ Y, callA (C49.tab n) 34 [.ptr k 0 0 0, I i, .str s] X = some (.tup [], Y) ∧ Gw X Y k (left t i s) := by
  rw [p34 hn, runH_eq]
  have hG := s33h (n := 82) (by decide) t w hl i B
  rw [getZ_of hq, hq] at hG
  have h53 := s53 (n := 82) (by decide) q hs hql s
  have h59 := p59 (n := 82) (by decide)
  have h63 := p63 (n := 82) (by decide)
  have hlt := B.lt
  unfold left
  rw [getZ_of hq]
  have hcf := cutE_find ord_sLess hs s
  have hcd := fun h hi => dropE_cut ord_sLess hs (s := s) h hi
  unfold dropE at hcd
  rw [he] at h53
  unfold entOf at he
  rw [he] at hcf
  generalize cutE sLess q.ents s = c at *
  rcases hcf with ⟨hc, hi, hf⟩ | ⟨hf, _⟩
  · rw [hcd hc hi]
    obtain ⟨q', hq'⟩ : ∃ q' : Tr.Node, q' = { q with fe := false, ents := q.ents.take c ++ q.ents.drop (c + 1) } := ⟨_, rfl⟩
    rw [← hq']
    have hB' : Bx (X ++ [.var (Nc q), .var (Nc q'), .fro 1 3 (q'.ents.map En)]) k t := B.app rfl
    obtain ⟨Y, h26, G⟩ := s26h (n := q') (m := 82) (by decide) t w hl hB'
    refine ⟨Y, ?_, G.bx, Nat.le_trans (by simp) G.le, fun j hj hne => ?_⟩
    · subst hq'
      have htk := take_tail X
      simp only [Nd, Nc, Tb, List.map_append, List.map_take, List.map_drop] at hG h53 h26
      simp only [Option.isSome_some] at hG h53
      have htc : List.take (c + (q.ents.length - (c + 1))) (List.take c (List.map En q.ents) ++ List.drop (c + 1) (List.map En q.ents)) = List.take c (List.map En q.ents) ++ List.drop (c + 1) (List.map En q.ents) := List.take_of_length_le (by simp; omega)
      simp -implicitDefEqProofs (disch := omega) [wrap_of, ilt_t, ilt_f, ile_t, ile_f, nlt_t, nlt_f, nle_t, nle_f, ieq_t, ieq_f, imin_l, imin_r, imax_l, imax_r, take_app1, take_map_all, c34, htk, htc, hG, a53, h53, h59, h63, cloneH, deleteH, hc, gsa_at, gsa_ne, gsa_ge, ssa_at, ssa_ge, gap_l, gap_r, sap_l, sap_r, h26]
    · rw [G.old j (by simp; omega) hne, List.getElem?_append_left (by simpa using hj)]
  · cases hf
theorem s64h {n : Nat} (hn : 84 < n) (t : Tr.Tree) (w : Srt t.nodes) (hl : t.nodes.length ≤ 1000) {i : Int} {q : Tr.Node} (hq : find t.nodes i = some q) {X : AH} {k : Nat} (B : Bx X k t) :
    ∃ Y, callA (C49.tab n) 64 [.ptr k 0 0 0, I i] X = some (.tup [], Y) ∧ Gw X Y k (without t i) := by
  rw [p64 hn, runH_eq]
  have hA := s55 (n := 84) (by decide) t w hl i X B.pl k B.at_
  have hlt := B.lt
  have hk := B.get
  have hcl := p56 (n := 84) (by decide)
  have hdl := p93 (n := 84) (by decide)
  unfold without
  rw [hq] at hA
  rcases cutN_find w i with ⟨hc, hi, _⟩ | ⟨hf, _⟩
  · rw [cutN_filter w hc hi]
    generalize cutN t.nodes i = c at *
    refine ⟨X.set k (.var (Tb ⟨false, t.nodes.take c ++ t.nodes.drop (c + 1), t.next, t.cookie⟩)) ++ [.fro 1 6 ((t.nodes.take c ++ t.nodes.drop (c + 1)).map Nd)], ?_, Gw.of B _ _ rfl⟩
    have htk := take_tail X
    have htc : List.take (c + (t.nodes.length - (c + 1))) (List.take c (List.map Nd t.nodes) ++ List.drop (c + 1) (List.map Nd t.nodes)) = List.take c (List.map Nd t.nodes) ++ List.drop (c + 1) (List.map Nd t.nodes) := List.take_of_length_le (by simp; omega)
    simp -implicitDefEqProofs (disch := omega) [wrap_of, ilt_t, ilt_f, ile_t, ile_f, nlt_t, nlt_f, nle_t, nle_f, ieq_t, ieq_f, imin_l, imin_r, imax_l, imax_r, take_app1, take_map_all, c64, hA, hc, htk, htc, hk, hcl, hdl, cloneH, deleteH, gsa_at, gsa_ne, gsa_ge, ssa_at, ssa_ge, gap_l, gap_r, sap_l, sap_r]
    simp [Tb]
  · rw [hf] at hq; cases hq
theorem s35h {n : Nat} (hn : 85 < n) (t : Tr.Tree) (w : Srt t.nodes) (hl : t.nodes.length ≤ 1000) {i : Int} {q : Tr.Node} (hq : find t.nodes i = some q) (hlk : -4398046511104 ≤ q.links ∧ q.links ≤ 4398046511104) {X : AH} {k : Nat} (B : Bx X k t) :
    ∃ Y, callA (C49.tab n) 35 [.ptr k 0 0 0, Nd q] X = some (.tup [], Y) ∧ Gw X Y k (unnamed t i) := by
  rw [p35 hn, runH_eq]
  have hqi := find_ino hq
  have hlt := B.lt
  have hBq : Bx (X ++ [.var (Nc q)]) k t := B.app rfl
  unfold unnamed
  rw [getZ_of hq]
  by_cases c1 : q.kind = 2
  · rw [if_pos c1]
    obtain ⟨Y, h64, G⟩ := s64h (n := 85) (by decide) t w hl hq hBq
    refine ⟨Y, ?_, (Gw.same B rfl).trans G⟩
    subst hqi
    simp only [Nc, c1] at h64
    simp -implicitDefEqProofs (disch := omega) [wrap_of, ilt_t, ilt_f, ile_t, ile_f, nlt_t, nlt_f, nle_t, nle_f, ieq_t, ieq_f, imin_l, imin_r, imax_l, imax_r, take_app1, take_map_all, c35, c1, h64, gap_l, gap_r, sap_l, sap_r]
  · rw [if_neg c1]
    have hBq2 : Bx (X ++ [.var (Nc { q with links := q.links - 1 })]) k t := B.app rfl
    obtain ⟨Y, h26, G⟩ := s26h (n := { q with links := q.links - 1 }) (m := 85) (by decide) t w hl hBq2
    refine ⟨Y, ?_, (Gw.same B rfl).trans G⟩
    simp only [Nc, Nd] at h26
    simp -implicitDefEqProofs (disch := omega) [wrap_of, ilt_t, ilt_f, ile_t, ile_f, nlt_t, nlt_f, nle_t, nle_f, ieq_t, ieq_f, imin_l, imin_r, imax_l, imax_r, take_app1, take_map_all, c35, c1, h26, gap_l, gap_r, sap_l, sap_r]
theorem s13 {n : Nat} (hn : 86 < n) (t : Tr.Tree) (w : WFt t) (i : Int) (s : List UInt8) :
    (C49.tab n).p 13 [Tv t, I i, .str s] = some (.tup [Tv (Tr.un okN t i s).1, I (Tr.un okN t i s).2.1, I (Tr.un okN t i s).2.2]) := by
  rw [p13 hn, runP_eq, runH_eq]
  have hl := (wbt w).len
  have h32 := s32 (n := 86) (by decide) t w i s
  unfold Tr.un
  by_cases c0 : (Tr.look okN t i s).2 = 0
  · rw [if_neg (show ¬ ((Tr.look okN t i s).2 ≠ 0) from fun h => h c0)]
    rw [c0] at h32
    obtain ⟨p, e, p1, p2, p3, p4, p5⟩ := look_of (x := (Tr.look okN t i s).1) (by rw [← c0])
    rw [← p5] at h32 ⊢
    obtain ⟨he, _⟩ := entOf_mem p4
    obtain ⟨⟨z, hz⟩, hx1, hxi⟩ := ent_node w p1 he
    have B : Bx [.var [.lst true [], .int .i64 0, .int .i64 0], .var (Tb t)] 1 t := ⟨rfl, rfl⟩
    have h33 := s33h (n := 86) (by decide) t w.wf.srt hl e.ino B
    rw [getZ_of hz, hz] at h33
    rw [getZ_of hz]
    by_cases c1 : 0 < z.ents.length
    · rw [if_pos c1]
      simp only [Tv, Nd, Nc, Tb, Option.isSome_some] at h32 h33
      simp -implicitDefEqProofs (disch := omega) [wrap_of, ilt_t, ilt_f, ile_t, ile_f, nlt_t, nlt_f, nle_t, nle_f, ieq_t, ieq_f, imin_l, imin_r, imax_l, imax_r, take_app1, take_map_all, c13, a32, h32, h33, c1]
    · rw [if_neg c1]
      have hsr := (w.wf.dir _ _ p1 p2).2
      have hpl : p.ents.length ≤ 1000 := by have := hsr.len; omega
      have B1 : Bx [.var [.lst true [], .int .i64 0, .int .i64 0], .var (Tb t), .var (Nc z), .var (Nc z)] 1 t := ⟨rfl, rfl⟩
      obtain ⟨Y, h34, G⟩ := s34h (n := 86) (by decide) t w.wf.srt hl p1 hsr.srt hpl p4 B1
      have w1 := w.wf.left ord_sLess p1 p2 p4
      have hz1 : find (left t i s).nodes e.ino = some z := by rw [find_left w.wf.srt p1, if_neg hxi]; exact hz
      have hl1 : (left t i s).nodes.length ≤ 1000 := by have := w1.len; omega
      have hlk : -4398046511104 ≤ z.links ∧ z.links ≤ 4398046511104 := (un_prem w i s).2 z (by rw [← p5]; exact hz1)
      obtain ⟨Y2, h35, G2⟩ := s35h (n := 86) (by decide) (left t i s) w1.srt hl1 hz1 hlk G.bx
      have hA0 := of_get (G.old 0 (by simp) (by simp))
      have hA3 := of_get (G.old 3 (by simp) (by simp))
      have hle := G.le
      have hC0 := of_get ((G2.old 0 (by simp at hle; omega) (by simp)).trans (G.old 0 (by simp) (by simp)))
      have hle2 := G2.le
      have hC1 := G2.bx.get
      simp only [List.length_cons, List.length_nil] at hle
      generalize unnamed (left t i s) e.ino = u at *
      simp only [Tv, Nd, Nc, Tb, Option.isSome_some] at h32 h33 h34 h35 hA3
      simp -implicitDefEqProofs (disch := omega) [wrap_of, ilt_t, ilt_f, ile_t, ile_f, nlt_t, nlt_f, nle_t, nle_f, ieq_t, ieq_f, imin_l, imin_r, imax_l, imax_r, take_app1, take_map_all, c13, a32, h32, h33, c1, h34, hA3, h35, hC0, hC1]
  · rw [if_pos c0]
    generalize (Tr.look okN t i s).2 = e at *
    simp only [Tv] at h32
    simp -implicitDefEqProofs (disch := omega) [wrap_of, ilt_t, ilt_f, ile_t, ile_f, nlt_t, nlt_f, nle_t, nle_f, ieq_t, ieq_f, imin_l, imin_r, imax_l, imax_r, take_app1, take_map_all, c13, a32, h32, c0]
end Go.Proofs.YtfdenmkoampgnaaGreat
