import Derived.Test.YtgefdmkmobaefaaXd19
set_option linter.unusedSimpArgs false
set_option linter.unusedVariables false
namespace Go.Proofs.Ytgefdmkmobaefaa
open Go.Am Go.Am.Nm Go.Lib Go.Deep Go.Cr
def bkS (s : Wd × List Int) (g : Nat) : Wd × List Int := match s.1.bs[g]? with
 | some b => ({ s.1 with bs := s.1.bs.set g (backP b) }, s.2 ++ (b.cases.filter fun c => !c.sure).map fun c => c.de.id)
 | none => s
def Up (w : Wd) (l : List Int) : Prop := ∀ i ∈ l, ∃ d ∈ w.deeds, d.id = i ∧ goneC w d ∧ noneD w d
theorem bk_step {PS : List (List UInt8)} {s : Wd × List Int} {g : Nat} {b : Bo} (hb : s.1.bs[g]? = some b) (H : Inv isPth clsh PS s.1) (h : Up s.1 s.2) : Inv isPth clsh PS (bkS s g).1 ∧ Up (bkS s g).1 (bkS s g).2 ∧ (bkS s g).1.deeds = s.1.deeds := by
 unfold bkS
 rw [hb]
 refine ⟨H.back hb, fun i hi => ?_, rfl⟩
 have sub : ∀ j c, c ∈ cs { s.1 with bs := s.1.bs.set g (backP b) } j → c ∈ cs s.1 j ∧ (j = g → c.sure = true) := fun j c hc => by
  rw [cs_set hb] at hc
  by_cases e : j = g
  ·rw [if_pos e] at hc
   have := List.mem_filter.1 hc
   rw [e, cs_of hb]
   exact ⟨this.1, fun _ => this.2⟩
  ·rw [if_neg e] at hc
   exact ⟨hc, fun h => absurd h e⟩
 rcases List.mem_append.1 hi with hi | hi
 ·obtain ⟨d, hd, e, hg, hn⟩ := h i hi
  exact ⟨d, hd, e, fun c hc => hg c (sub _ c hc).1, hn⟩
 ·obtain ⟨c, hc, e⟩ := List.mem_map.1 hi
  obtain ⟨hcm, hcs⟩ := List.mem_filter.1 hc
  have hcs : c.sure = false := by simpa using hcs
  have hck : c ∈ cs s.1 g := by rw [cs_of hb]; exact hcm
  have C := H.ca g c hck
  refine ⟨c.de, C.de, e, fun c' hc' e' => ?_, (C.un hcs).1⟩
  obtain ⟨q1, q2⟩ := sub _ c' hc'
  rw [C.bo] at q1 q2
  have := key_inj (H.cn g) q1 hck e'
  have q3 := q2 rfl
  rw [this, hcs] at q3
  cases q3
section
variable {PS : List (List UInt8)} {n : Nat}
theorem give_case {w : Wd} (H : Inv isPth clsh PS w) {g : Nat} {b : Bo} (hb : w.bs[g]? = some b) {i : Nat} (hi : i < b.cases.length) :
  (b.cases[i].sure = true → giveP b b.cases[i].de.id = (b, [])) ∧ (b.cases[i].sure = false → (giveP b b.cases[i].de.id).2.length ≠ 0 ∧ (giveP b b.cases[i].de.id).1.cases.length + 1 = b.cases.length) := by
 have hnd : (b.cases.map fun c => c.de.id).Nodup := by have := H.cn g; rwa [cs_of hb] at this
 have hat : b.cases[caseAt b b.cases[i].de.id]? = some b.cases[i] := by
  have h1 : caseAt b b.cases[i].de.id < b.cases.length := List.findIdx_lt_length_of_exists ⟨b.cases[i], List.getElem_mem hi, by simp⟩
  have h2 := at_key (key := fun c : Ca => c.de.id) (List.getElem?_eq_getElem h1 : b.cases[b.cases.findIdx fun c => decide (c.de.id = b.cases[i].de.id)]? = some _)
  rw [List.getElem?_eq_getElem h1]
  congr 1
  exact key_inj hnd (List.getElem_mem h1) (List.getElem_mem hi) h2
 have hC := H.ca g b.cases[i] (by rw [cs_of hb]; exact List.getElem_mem hi)
 constructor
 ·intro hs
  unfold giveP
  rw [hat]
  simp only [if_pos hs]
 ·intro hs
  unfold giveP
  rw [hat]
  have hn : ¬ b.cases[i].sure = true := by rw [hs]; decide
  simp only [if_neg hn]
  refine ⟨?_, ?_⟩
  ·have := List.length_pos_iff.2 (H.de _ hC.de).ne
   simp [allP]
   intro e
   rw [e] at this
   simp at this
  ·simp only [withC]
   rw [List.length_eraseIdx, if_pos]
   ·omega
   ·have := (List.getElem?_eq_some_iff.1 hat).1
    exact this
end
end Go.Proofs.Ytgefdmkmobaefaa

namespace Go.Proofs.Ytgefdmkmobaefaa
open Go.Am Go.Am.Nm Go.Lib Go.Deep Go.Cr
theorem up_fold : ∀ (l : List Ca) (s : List Int), l.foldl (fun s c => if c.sure = true then s else s ++ [c.de.id]) s = s ++ (l.filter fun c => !c.sure).map fun c => c.de.id
 | [], s => by simp
 | c :: l, s => by
  rw [List.foldl_cons, up_fold l]
  cases h : c.sure with
  | true => simp [h]
  | false => simp [h]
theorem Hd_bs (P : AH) (k : Nat) (w : Wd) (g : Nat) (b : Bo) : (Hd P k w).set P.length (.row 0 3 ((w.bs.map Bv).set g (Bv b))) = Hd P k { w with bs := w.bs.set g b } := by
 unfold Hd
 rw [List.set_append_right _ _ (by simp)]
 simp [rowsW, WC, List.map_set]
set_option maxHeartbeats 2000000 in
theorem l8_2 {n : Nat} (hn : 96 ≤ n) {PS : List (List UInt8)} {w : Wd} (Hi : Inv isPth clsh PS w) {g : Nat} {b : Bo} (hb : w.bs[g]? = some b) (G : AH) (cl : Cl G.length G) (bb : List AV) (hbb : bb.all AV.isS = true) (gone : List Int) (hg : gone.length ≤ 1000) (e0 : Env) (q10 : e0 10 = .ptr (G.length + 1) 0 0 0) :
  iter (round (C19.tab n) [8, 12] [(.exit 4, [8]), (.ret, [4])] c8_2 e0 (G.length + 3) [G.length]) ([.own G.length 0 0 gone.length, .int .i64 0], G ++ [.row 0 1 (gone.map I), .var [I b.id, I b.next, .lst b.fc (b.cases.map Cv)], .var bb]) =
   some (.exit 4, [.own G.length 0 0 (gone ++ (b.cases.filter fun c => !c.sure).map fun c => c.de.id).length], G ++ [.row 0 1 ((gone ++ (b.cases.filter fun c => !c.sure).map fun c => c.de.id).map I), .var [I b.id, I b.next, .lst b.fc (b.cases.map Cv)], .var bb]) := by
 have hnt := fun h0 Y => cl_tail (G := G) rfl cl (G.length + 3) [G.length] (by omega) (fun r hr => by simp at hr; omega) h0 Y
 have htk := take_tail G
 have hbl := (Hi.bi g b hb).2.2
 have hob := inv_okB Hi hb
 have hn1 : ¬ G.length + 1 = G.length := by omega
 have hn2 : ¬ G.length + 2 = G.length := by omega
 have hbb' : ∀ L R h0, bb.map (normS L R h0) = bb := fun L R h0 => by
  rw [List.all_eq_true] at hbb
  conv => rhs; rw [← List.map_id bb]
  exact List.map_congr_left fun x hx => by
   have := hbb x hx
   cases x <;> simp_all [normS, AV.isS]
 have := for_list (f := round (C19.tab n) [8, 12] [(.exit 4, [8]), (.ret, [4])] c8_2 e0 (G.length + 3) [G.length]) (fun i (s : List Int) => ([.own G.length 0 0 s.length, .int .i64 (i : Int)], G ++ [.row 0 1 (s.map I), .var [I b.id, I b.next, .lst b.fc (b.cases.map Cv)], .var bb])) b.cases
  (fun s c => if c.sure = true then s else s ++ [c.de.id]) (fun s => (.exit 4, [.own G.length 0 0 s.length], G ++ [.row 0 1 (s.map I), .var [I b.id, I b.next, .lst b.fc (b.cases.map Cv)], .var bb])) (fun i s => s.length ≤ 1000 + i)
  (fun i hi s hs => by
   obtain ⟨gs, gu⟩ := give_case Hi hb hi
   obtain ⟨c, hc⟩ : ∃ c, c = b.cases[i] := ⟨_, rfl⟩
   rw [← hc] at gs gu ⊢
   obtain ⟨fo, h32⟩ := s32 (n := n) (by omega) b c.de.id hob
   cases hs' : c.sure with
   | true =>
    refine ⟨by simp only [if_true]; omega, ?_⟩
    rw [gs hs'] at h32
    simp only [List.map_nil, Bv] at h32
    simp only [if_true]
    simp -implicitDefEqProofs (disch := omega) [round_eq, b8_2, q10, hi, ← hc, Cv, szC, h32, hs', gap_l, gap_r, sap_l, sap_r, hnt, htk, hn1, hn2, hbb']
    done
   | false =>
    obtain ⟨u1, u2⟩ := gu hs'
    refine ⟨by simp; omega, ?_⟩
    obtain ⟨gv, hgv⟩ : ∃ gv, gv = giveP b c.de.id := ⟨_, rfl⟩
    rw [← hgv] at h32 u1 u2
    simp only [Bv] at h32
    have v1 : ¬ ((gv.2.length : Int) = 0) := by omega
    have v1' : ¬ gv.2 = [] := fun e => u1 (by rw [e]; rfl)
    have v2 : ¬ ((gv.1.cases.length : Int) = (b.cases.length : Int)) := by omega
    have v2' : ¬ gv.1.cases.length = b.cases.length := by omega
    simp only [Bool.false_eq_true, if_false]
    simp -implicitDefEqProofs (disch := omega) [round_eq, b8_2, q10, hi, ← hc, Cv, szC, szI, h32, hs', gap_l, gap_r, sap_l, sap_r, hnt, htk, hn1, hn2, v1, v1', v2, v2', hbb']
    done)
  (fun s hs => by
   simp -implicitDefEqProofs (disch := omega) [round_eq, b8_2, q10, gap_l, gap_r]
   done) gone (by omega)
 rw [up_fold] at this
 exact this
end Go.Proofs.Ytgefdmkmobaefaa

namespace Go.Proofs.Ytgefdmkmobaefaa
open Go.Am Go.Am.Nm Go.Lib Go.Deep Go.Cr
theorem back_cnt (b : Bo) : ((backP b).cases.length : Int) + (b.cases.countP fun c => !c.sure : Nat) = b.cases.length := by
 unfold backP withC
 simp only
 rw [← List.countP_eq_length_filter]
 have : ∀ l : List Ca, l.countP (fun c => c.sure) + l.countP (fun c => !c.sure) = l.length := by
  intro l
  induction l with
  | nil => rfl
  | cons c l ih =>
   rw [List.countP_cons, List.countP_cons, List.length_cons]
   cases c.sure <;> simp <;> omega
 have := this b.cases
 omega
theorem bk_len {PS : List (List UInt8)} {s : Wd × List Int} {g : Nat} (H : Inv isPth clsh PS s.1) : (bkS s g).2.length ≤ s.2.length + 16 := by
 unfold bkS
 split
 ·rename_i b hb
  have := (H.bi g b hb).2.2
  have h2 := List.length_filter_le (fun c : Ca => !c.sure) b.cases
  simp only [List.length_append, List.length_map]
  omega
 ·simp
set_option maxHeartbeats 4000000 in
theorem l8_3 {n : Nat} (hn : 96 ≤ n) {w : Wd} (Hi : Inv isPth clsh PSN w) (e0 : Env) (q6 : e0 6 = .ptr 5 0 0 0) :
  iter (round (C19.tab n) [8, 9] [(.exit 2, [8]), (.ret, [4])] c8_3 e0 12 [11]) ([.own 11 0 0 0, .int .i64 0], Hd P0 5 w ++ [.row 0 1 []]) =
   some (.exit 2, [.own 11 0 0 ([0, 1, 2, 3].foldl bkS (w, [])).2.length], Hd P0 5 ([0, 1, 2, 3].foldl bkS (w, [])).1 ++ [.row 0 1 (([0, 1, 2, 3].foldl bkS (w, [])).2.map I)]) := by
 have := for_list (f := round (C19.tab n) [8, 9] [(.exit 2, [8]), (.ret, [4])] c8_3 e0 12 [11]) (fun i (s : Wd × List Int) => ([.own 11 0 0 s.2.length, .int .i64 (i : Int)], Hd P0 5 s.1 ++ [.row 0 1 (s.2.map I)])) [0, 1, 2, 3] bkS (fun s => (.exit 2, [.own 11 0 0 s.2.length], Hd P0 5 s.1 ++ [.row 0 1 (s.2.map I)]))
  (fun i s => Inv isPth clsh PSN s.1 ∧ Up s.1 s.2 ∧ s.2.length ≤ 16 * i)
  (fun g hg s hs => by
   obtain ⟨Hs, hU, hlen⟩ := hs
   have hg : g < 4 := hg
   have eg : ([0, 1, 2, 3] : List Nat)[g] = g := by
    match g, hg with
    | 0, _ => rfl
    | 1, _ => rfl
    | 2, _ => rfl
    | 3, _ => rfl
   rw [eg]
   have hgb : g < s.1.bs.length := by rw [Hs.lb]; exact hg
   have gb := List.getElem?_eq_getElem hgb
   obtain ⟨b, hb⟩ : ∃ b, b = s.1.bs[g] := ⟨_, rfl⟩
   rw [← hb] at gb
   obtain ⟨u1, u2, u3⟩ := bk_step gb Hs hU
   have u4 := bk_len (g := g) Hs
   refine ⟨⟨u1, u2, by omega⟩, ?_⟩
   have hbl := (Hs.bi g b gb).2.2
   have h24 := s24 (n := n) (by omega) b (by omega)
   have h33 := s33 (n := n) (by omega) b (by omega)
   have hcnt := back_cnt b
   have HW := Hd_WH (P := P0) (k := 5) s.1 (by decide) P0_cl
   have hlenG : (Hd P0 5 s.1).length = 11 := Hd_len P0 5 s.1
   obtain ⟨bk, hbk⟩ : ∃ bk, bk = backP b := ⟨_, rfl⟩
   rw [← hbk] at h24 hcnt
   have x2 := fun e0 q10 => l8_2 (n := n) hn Hs gb (Hd P0 5 s.1) HW.cl [I bk.id, I bk.next, .lst bk.fc (bk.cases.map Cv)] rfl s.2 (by omega) e0 q10
   have hbs := Hd_bs P0 5 s.1 g bk
   rw [show P0.length = 6 from rfl] at hbs
   have e1 : (bkS s g).1 = { s.1 with bs := s.1.bs.set g bk } := by unfold bkS; rw [gb, hbk]
   have e2 : (bkS s g).2 = s.2 ++ (b.cases.filter fun c => !c.sure).map fun c => c.de.id := by unfold bkS; rw [gb]
   rw [e1, e2]
   rw [e2] at u4
   have HW' := Hd_WH (P := P0) (k := 5) { s.1 with bs := s.1.bs.set g bk } (by decide) P0_cl
   have hlenG' : (Hd P0 5 { s.1 with bs := s.1.bs.set g bk }).length = 11 := Hd_len P0 5 _
   obtain ⟨up, hup⟩ : ∃ up, up = (b.cases.filter fun c => !c.sure).map fun c => c.de.id := ⟨_, rfl⟩
   rw [← hup] at x2 u4 ⊢
   have g5 := Hd_box P0 5 s.1 (by decide)
   rw [show P0.length = 6 from rfl] at g5
   obtain ⟨g1, g2⟩ := List.getElem?_eq_some_iff.1 g5
   have gr0 := Hd_row P0 5 s.1 0 (by decide)
   rw [show P0.length = 6 from rfl] at gr0
   obtain ⟨y1, y2⟩ := List.getElem?_eq_some_iff.1 gr0
   have cl := HW.cl
   have cl' := HW'.cl
   obtain ⟨G, hG⟩ : ∃ G, G = Hd P0 5 s.1 := ⟨_, rfl⟩
   obtain ⟨G', hG'⟩ : ∃ G', G' = Hd P0 5 { s.1 with bs := s.1.bs.set g bk } := ⟨_, rfl⟩
   simp only [← hG] at g1 g2 y1 y2 cl hlenG x2 hbs ⊢
   simp only [← hG'] at cl' hlenG' hbs ⊢
   have hnt := fun h0 Y => cl_tail (G := G) rfl cl 12 [11] (by omega) (fun r hr => by simp at hr; omega) h0 Y
   have hnt' := fun h0 Y => cl_tail (G := G') rfl cl' 12 [11] (by omega) (fun r hr => by simp at hr; omega) h0 Y
   have hnt3 := fun h0 Y => cl_tail (G := G) rfl cl 14 [11] (by omega) (fun r hr => by simp at hr; omega) h0 Y
   have htk1 : ∀ Y : AH, (G' ++ Y).take 12 = G' ++ Y.take 1 := fun Y => by
    have := take_tail G' Y 1
    rwa [hlenG'] at this
   have htk3 : ∀ Y : AH, (G ++ Y).take 14 = G ++ Y.take 3 := fun Y => by
    have := take_tail G Y 3
    rwa [hlenG] at this
   simp only [hlenG, Nat.reduceAdd] at x2
   simp only [Bv] at h24 h33 hbs
   simp only [WC, szW, esW, List.getElem?_cons_zero, Option.getD_some, Nat.add_zero] at g2 y2
   simp -implicitDefEqProofs (disch := omega) [round_eq, b8_3, q6, hg, g1, g2, y1, y2, hgb, ← hb, Bv, a24, h24, h33, hcnt, gap_l, gap_r, sap_l, sap_r, hlenG, hnt, hnt3, htk3]
   rw [x2 _ (by simp -implicitDefEqProofs (disch := omega))]
   simp -implicitDefEqProofs (disch := omega) [q6, g1, g2, y1, y2, hgb, ← hb, Bv, h33, hcnt, gap_l, gap_r, sap_l, sap_r, hlenG, hlenG', hbs, hnt', htk1]
   done)
  (fun s hs => by
   simp -implicitDefEqProofs (disch := omega) [round_eq, b8_3]
   done) (w, []) ⟨Hi, (fun i hi => by cases hi), Nat.le_refl _⟩
 exact this
end Go.Proofs.Ytgefdmkmobaefaa

namespace Go.Proofs.Ytgefdmkmobaefaa
open Go.Am Go.Am.Nm Go.Lib Go.Deep Go.Cr
theorem l8_1 {n : Nat} (hn : 70 ≤ n) (l : List Ac) (f : Bool) (hl : l.length ≤ 60) (hx : ∀ x ∈ l, XOK x) (e0 : Env) (q0 : e0 0 = .lst f (l.map Xv)) (q6 : e0 6 = .ptr 5 0 0 0) :
  iter (roundA (C19.tab n) 6 [(6, 0, 3), (6, 1, 3), (6, 2, 5), (6, 3, 3), (6, 4, 1)] [7] [(.exit 0, [])] c8_1 e0 11 [6, 7, 8, 9, 10]) ([.int .i64 0], Hd P0 5 freshW) = some (.exit 0, [], Hd P0 5 (actsW l freshW)) := by
 refine for_list (f := roundA (C19.tab n) 6 [(6, 0, 3), (6, 1, 3), (6, 2, 5), (6, 3, 3), (6, 4, 1)] [7] [(.exit 0, [])] c8_1 e0 11 [6, 7, 8, 9, 10]) (fun i (s : Wd) => ([.int .i64 (i : Int)], Hd P0 5 s)) l (doW isPth clsh) (fun s => (.exit 0, [], Hd P0 5 s)) (fun i s => Inv isPth clsh PSN s ∧ s.deeds.length ≤ i)
  (fun i hi s hs => ?_) (fun s hs => by
   simp -implicitDefEqProofs (disch := omega) [-rebA, -head_eq, roundA_eq, b8_1, q0]
   done) freshW ⟨Inv.fresh, Nat.le_refl _⟩
 obtain ⟨Hi, hd⟩ := hs
 obtain ⟨x, hxe⟩ : ∃ x, x = l[i] := ⟨_, rfl⟩
 rw [← hxe]
 have hxo : XOK x := hx x (by rw [hxe]; exact List.getElem_mem hi)
 have hd' := doW_dl Hi x
 refine ⟨⟨Hi.do pathN_mem x, by omega⟩, ?_⟩
 obtain ⟨h2, b2, u2, e19, H2, F2⟩ := s19 (n := n) (by omega) Hi (by omega) x hxo (Hd P0 5 s) _ _ (Hd_WH s (by decide) P0_cl)
 obtain ⟨k1, k2⟩ := boxW (by decide) F2
 have hst := fun e he => stepW0 (k := 5) (by decide) P0_cl H2 F2 e 6 he [7]
 rw [show P0.length = 6 from rfl] at hst e19 k2
 have g5 := Hd_box P0 5 s (by decide)
 rw [show P0.length = 6 from rfl] at g5
 obtain ⟨g1, g2⟩ := List.getElem?_eq_some_iff.1 g5
 obtain ⟨G, hG⟩ : ∃ G, G = Hd P0 5 s := ⟨_, rfl⟩
 rw [← hG] at e19
 simp only [← hG] at g1 g2 ⊢
 simp only [WC, Xv, Xc, X8] at e19 g2 k2 hst
 simp -implicitDefEqProofs (disch := omega) [-rebA, -head_eq, roundA_eq, b8_1, q0, q6, hi, ← hxe, Xv, Xc, X8, g1, g2, e19, k1, k2]
 refine headEq (hst _ (by simp -implicitDefEqProofs (disch := omega) [q6])) fun h' => ?_
 simp -implicitDefEqProofs (disch := omega)
theorem l8_4 {n : Nat} (hn : 70 ≤ n) (P : AH) (k : Nat) (hk : k < P.length) (cl : Cl P.length P) (w0 : Wd) (Hi0 : Inv isPth clsh PSN w0) (hd0 : w0.deeds.length ≤ 1000) (l : List Ac) (f : Bool) (hl : l.length ≤ 60) (hx : ∀ x ∈ l, XOK x) (e0 : Env) (q1 : e0 1 = .lst f (l.map Xv)) (q6 : e0 6 = .ptr k 0 0 0) :
  iter (roundA (C19.tab n) P.length [(6, 0, 3), (6, 1, 3), (6, 2, 5), (6, 3, 3), (6, 4, 1)] [16] [(.exit 6, [])] c8_4 e0 (P.length + 5) [P.length, P.length + 1, P.length + 2, P.length + 3, P.length + 4]) ([.int .i64 0], Hd P k w0) = some (.exit 6, [], Hd P k (actsW l w0)) := by
 refine for_list (f := roundA (C19.tab n) P.length [(6, 0, 3), (6, 1, 3), (6, 2, 5), (6, 3, 3), (6, 4, 1)] [16] [(.exit 6, [])] c8_4 e0 (P.length + 5) [P.length, P.length + 1, P.length + 2, P.length + 3, P.length + 4]) (fun i (s : Wd) => ([.int .i64 (i : Int)], Hd P k s)) l (doW isPth clsh) (fun s => (.exit 6, [], Hd P k s)) (fun i s => Inv isPth clsh PSN s ∧ s.deeds.length ≤ 1000 + i)
  (fun i hi s hs => ?_) (fun s hs => by
   simp -implicitDefEqProofs (disch := omega) [-rebA, -head_eq, roundA_eq, b8_4, q1]
   done) w0 ⟨Hi0, hd0⟩
 obtain ⟨Hi, hd⟩ := hs
 obtain ⟨x, hxe⟩ : ∃ x, x = l[i] := ⟨_, rfl⟩
 rw [← hxe]
 have hxo : XOK x := hx x (by rw [hxe]; exact List.getElem_mem hi)
 have hd' := doW_dl Hi x
 refine ⟨⟨Hi.do pathN_mem x, by omega⟩, ?_⟩
 obtain ⟨h2, b2, u2, e19, H2, F2⟩ := s19 (n := n) (by omega) Hi (by omega) x hxo (Hd P k s) _ _ (Hd_WH s hk cl)
 obtain ⟨k1, k2⟩ := boxW hk F2
 have hst := fun e he => stepW0 (k := k) hk cl H2 F2 e 6 he [16]
 have g5 := Hd_box P k s hk
 obtain ⟨g1, g2⟩ := List.getElem?_eq_some_iff.1 g5
 obtain ⟨G, hG⟩ : ∃ G, G = Hd P k s := ⟨_, rfl⟩
 rw [← hG] at e19
 simp only [← hG] at g1 g2 ⊢
 simp only [WC, Xv, Xc, X8, Nat.add_zero] at e19 g2 k2 hst
 simp -implicitDefEqProofs (disch := omega) [-rebA, -head_eq, roundA_eq, b8_4, q1, q6, hi, ← hxe, Xv, Xc, X8, g1, g2, e19, k1, k2]
 refine headEq (hst _ (by simp -implicitDefEqProofs (disch := omega) [q6])) fun h' => ?_
 simp -implicitDefEqProofs (disch := omega)
section
variable {PS : List (List UInt8)} {w : Wd} {n : Nat} {G : AH} {N : Nat} {b u : Nat → Nat}
theorem l8_5 (hn : 96 ≤ n) (Hi : Inv isPth clsh PS w) (hdl : w.deeds.length ≤ 1000000) (H : WH G b u w) (hN : N < G.length) (hG : G[N] = .var (WC b u w)) (gone : List Int) (hgl : gone.length ≤ 1000) (q : Nat) (hq : q < G.length) (hGq : G[q] = .row 0 1 (gone.map I)) (hnone : ∀ i ∈ gone, ∀ g, i ∉ dn w g) (g : Nat) (hg : g < 4) (e0 : Env) (q6 : e0 6 = .ptr N 0 0 0) (q8 : e0 8 = .own q 0 0 gone.length) (q17 : e0 17 = .int .i64 g) :
  iter (round (C19.tab n) [18] [(.exit 10, []), (.ret, [4])] c8_5 e0 G.length []) ([.int .i64 0], G) = some (.exit 10, [], G) := by
 have hno := fun h0 => normH_cl G.length [] h0 (Nat.le_refl _) G 0 H.cl (fun r hr => by cases hr)
 have hb4 := H.lt 4 (by decide)
 have r4 := (List.getElem?_eq_some_iff.1 H.r4).2
 simp only [WC] at hG
 obtain ⟨p, hp, dd, hdd, ep, ed, er, edn, e2⟩ := inv_at Hi g hg
 have hl2 := (inv_rd Hi g).2
 rw [edn, ← e2] at hl2
 obtain ⟨df, dl⟩ := dd
 simp only at e2 hl2
 exact for_list (f := round (C19.tab n) [18] [(.exit 10, []), (.ret, [4])] c8_5 e0 G.length []) (fun i (_ : Unit) => ([.int .i64 (i : Int)], G)) gone (fun s _ => s) (fun _ => (.exit 10, [], G)) (fun _ _ => True)
  (fun i hi s _ => by
   refine ⟨trivial, ?_⟩
   obtain ⟨y, hy⟩ : ∃ y, y = gone[i] := ⟨_, rfl⟩
   have hny := hnone y (by rw [hy]; exact List.getElem_mem hi) g
   rw [edn, ← e2] at hny
   have h31 := fun f => s31 (n := n) (by omega) dl f y (by omega)
   rw [decide_eq_false hny] at h31
   simp -implicitDefEqProofs (disch := omega) [round_eq, b8_5, q6, q8, q17, hG, hN, hi, ← hy, hq, hGq, r4, hb4, hdd, ← ed, dv, h31, hno]
   done)
  (fun s _ => by
   simp -implicitDefEqProofs (disch := omega) [round_eq, b8_5, q8]
   done) () trivial
theorem l8_6 (hn : 96 ≤ n) (Hi : Inv isPth clsh PS w) (hdl : w.deeds.length ≤ 1000000) (H : WH G b u w) (hN : N < G.length) (hG : G[N] = .var (WC b u w)) (gone : List Int) (hgl : gone.length ≤ 1000) (q : Nat) (hq : q < G.length) (hGq : G[q] = .row 0 1 (gone.map I)) (hnone : ∀ i ∈ gone, ∀ g, i ∉ dn w g) (e0 : Env) (q6 : e0 6 = .ptr N 0 0 0) (q8 : e0 8 = .own q 0 0 gone.length) :
  iter (round (C19.tab n) [17] [(.exit 8, []), (.ret, [4])] c8_6 e0 G.length []) ([.int .i64 0], G) = some (.exit 8, [], G) := by
 have hno := fun h0 => normH_cl G.length [] h0 (Nat.le_refl _) G 0 H.cl (fun r hr => by cases hr)
 exact for_list (f := round (C19.tab n) [17] [(.exit 8, []), (.ret, [4])] c8_6 e0 G.length []) (fun i (_ : Unit) => ([.int .i64 (i : Int)], G)) [0, 1, 2, 3] (fun s _ => s) (fun _ => (.exit 8, [], G)) (fun _ _ => True)
  (fun g hg s _ => by
   refine ⟨trivial, ?_⟩
   have hg : g < 4 := hg
   have h5 := l8_5 (n := n) hn Hi hdl H hN hG gone hgl q hq hGq hnone g hg
   simp -implicitDefEqProofs (disch := omega) [round_eq, b8_6, hg, hno]
   rw [h5 _ (by simp -implicitDefEqProofs (disch := omega) [q6]) (by simp -implicitDefEqProofs (disch := omega) [q8]) (by simp -implicitDefEqProofs (disch := omega))]
   simp -implicitDefEqProofs (disch := omega) [hno]
   done)
  (fun s _ => by
   simp -implicitDefEqProofs (disch := omega) [round_eq, b8_6]
   done) () trivial
end
theorem bk_all {PS : List (List UInt8)} : ∀ (gs : List Nat) (s : Wd × List Int), (∀ g ∈ gs, g < 4) → Inv isPth clsh PS s.1 → Up s.1 s.2 → Inv isPth clsh PS (gs.foldl bkS s).1 ∧ Up (gs.foldl bkS s).1 (gs.foldl bkS s).2 ∧ (gs.foldl bkS s).1.deeds = s.1.deeds
 | [], s, _, H, h => ⟨H, h, rfl⟩
 | g :: gs, s, hg, H, h => by
  have hgb : g < s.1.bs.length := by rw [H.lb]; exact hg g (List.mem_cons_self ..)
  obtain ⟨u1, u2, u3⟩ := bk_step (List.getElem?_eq_getElem hgb) H h
  have := bk_all gs (bkS s g) (fun x hx => hg x (List.mem_cons_of_mem _ hx)) u1 u2
  exact ⟨this.1, this.2.1, this.2.2.trans u3⟩
end Go.Proofs.Ytgefdmkmobaefaa
