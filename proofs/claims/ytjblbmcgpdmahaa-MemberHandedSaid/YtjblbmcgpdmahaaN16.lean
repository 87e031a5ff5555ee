import Derived.Test.YtjblbmcgpdmahaaM16
set_option linter.unusedSimpArgs false
set_option linter.unusedVariables false
namespace Go.Proofs.Ytjblbmcgpdmahaa
open Go.Am

@[simp] theorem baseEq_refl (b : Ba) : baseEq b b = true := by simp [baseEq]
@[simp] theorem logEq_refl (l : List En) : logEq l l = true := by simp [logEq]
structure Fits (b : Ba) (l : List En) : Prop where
  right : right b.ps = true
  lo : 0 ≤ b.many
  hi : b.many ≤ 1000000
  tlo : 0 ≤ b.term
  thi : b.term ≤ 1000000
  z : b.many = 0 → b.term = 0
  da : b.da.length ≤ 40
  len : l.length ≤ 40
  eda : ∀ e ∈ l, e.da.length ≤ 40
  te : ∀ e ∈ l, 0 ≤ e.te ∧ e.te ≤ 1000000
structure Few (l : List En) : Prop where
  len : l.length ≤ 40
  eda : ∀ e ∈ l, e.da.length ≤ 40
  te : ∀ e ∈ l, 0 ≤ e.te ∧ e.te ≤ 1000000
theorem few_iff {l : List En} : fewE l = true ↔ Few l := by
  unfold fewE
  simp only [Bool.and_eq_true, decide_eq_true_eq, List.all_eq_true]
  exact ⟨fun h => ⟨h.1, fun e he => (h.2 e he).1, fun e he => (h.2 e he).2⟩, fun h => ⟨h.len, fun e he => ⟨h.eda e he, h.te e he⟩⟩⟩
theorem fits_of {b : Ba} {l : List En} (h : fitB b l = true) : Fits b l := by
  unfold fitB at h
  simp only [Bool.and_eq_true, decide_eq_true_eq] at h
  obtain ⟨h1, ⟨h2, h3, h4, h5, h6, h7⟩, h8⟩ := h
  have f := few_iff.1 h8
  exact ⟨h1, h2, h3, h4, h5, h6, h7, f.len, f.eda, f.te⟩
theorem Fits.few {b : Ba} {l : List En} (h : Fits b l) : Few l := ⟨h.len, h.eda, h.te⟩
theorem Few.gl {l : List En} (h : Few l) : GL l := ⟨by have := h.len; omega, fun e he => by have := h.eda e he; omega⟩
theorem Fits.gl {b : Ba} {l : List En} (h : Fits b l) : GL l := h.few.gl
theorem Fits.gb {b : Ba} {l : List En} (h : Fits b l) : GB b := ⟨h.lo, by have := h.hi; omega, by have := (right_iff.1 h.right).2.2; omega, by have := h.da; omega⟩
theorem peers_len {b : Ba} {l : List En} (h : Fits b l) (m : List En) : (peersS b m).1.2.1.length ≤ 7 := (right_iff.1 (peers_right h.right m)).2.2
theorem cut_both {b : Ba} {l : List En} (h : Fits b l) (f : Bool) (up : Int) (fd g : Bool) (da : List UInt8) (hda : da.length ≤ 1000000) :
    ∃ C1 C2 m f1 f2 is, cutV b l f up false da false = .tup [Bs C1, .lst f1 (m.map E), .bool is] ∧ cutV b l f up fd da g = .tup [Bs C2, .lst f2 (m.map E), .bool is] ∧ baseEq C1 C2 = true ∧ BFin C1 ∧ BFin C2 ∧ GL m := by
  unfold cutV
  cases ht : termA b l up with
  | none => exact ⟨b, b, l, f, f, false, rfl, rfl, baseEq_refl b, h.gb.fin, h.gb.fin, h.gl⟩
  | some u =>
    have hp := peers_len h (l.take (up - b.many).toNat)
    refine ⟨_, _, l.drop (up - b.many).toNat, false, g, true, rfl, rfl, ?_, ⟨?_, ?_⟩, ⟨?_, ?_⟩, h.gl.drop _⟩
    · simp [baseEq, cutB]
    · unfold cutB; simp only; omega
    · unfold cutB; simp only; omega
    · unfold cutB; simp only; omega
    · unfold cutB; simp only; omega
theorem mem_putL {l more : List En} {p : Nat} {e : En} (h : e ∈ putL l p more) : e ∈ l ∨ e ∈ more := by
  unfold putL at h
  split at h
  · rcases List.mem_append.1 h with h | h
    · exact .inl (List.mem_of_mem_take h)
    · exact .inr (List.mem_of_mem_drop h)
  · exact .inl h
theorem GL.put {l more : List En} (hl : GL l) (hm : GL more) (p : Nat) (h : (putL l p more).length ≤ 500) : GL (putL l p more) :=
  ⟨by omega, fun e he => (mem_putL he).elim (hl.da e) (hm.da e)⟩
theorem putP_gl {l more : List En} (hl : GL l) (hm : GL more) {a t : Int} {x : List En} (h : putP l a t more = some x) : GL x := by
  unfold putP at h
  split at h
  · rename_i hc
    cases h
    exact hl.put hm _ hc.2
  · cases h
theorem put_gl {b : Ba} {l more : List En} (hl : GL l) (hm : GL more) {f : Bool} {a t : Int} {x : Bool × List En} (h : putM f b l a t more = some x) : GL x.2 := by
  unfold putM at h
  split at h
  · split at h
    · cases h; exact hl
    · split at h
      · obtain ⟨y, hy, rfl⟩ := Option.map_eq_some_iff.1 h
        exact putP_gl hl (hm.drop _) hy
      · cases h
  · split at h
    · obtain ⟨y, hy, rfl⟩ := Option.map_eq_some_iff.1 h
      exact putP_gl hl hm hy
    · cases h
theorem put_one {b : Ba} {l more : List En} (hl : GL l) (hm : GL more) (f : Bool) (a t : Int) : ∃ fx x is, putMV (putM f b l a t more) = .tup [.lst fx (x.map E), .bool is] ∧ GL x := by
  cases h : putM f b l a t more with
  | none => exact ⟨true, [], false, rfl, ⟨by simp, by simp⟩⟩
  | some x => exact ⟨x.1, x.2, true, rfl, put_gl hl hm h⟩
theorem hand_both {b from_ : Ba} {l : List En} (hb : GB b) (hf : GB from_) (hl : GL l) (f g : Bool) :
    ∃ C o f1 f2, (if from_.many ≤ b.many then AV.tup [Bs b, .lst f (l.map E)] else if fitsA b l from_.many from_.term = true then .tup [Bs from_, .lst false ((l.drop (from_.many - b.many).toNat).map E)] else .tup [Bs from_, .lst true []]) = .tup [Bs C, .lst f1 (o.map E)] ∧
      (if from_.many ≤ b.many then AV.tup [Bs b, .lst f (l.map E)] else if fitsA b l from_.many from_.term = true then .tup [Bs from_, .lst g ((l.drop (from_.many - b.many).toNat).map E)] else .tup [Bs from_, .lst true []]) = .tup [Bs C, .lst f2 (o.map E)] ∧ BFin C ∧ GL o := by
  by_cases h1 : from_.many ≤ b.many
  · rw [if_pos h1, if_pos h1]
    exact ⟨b, l, f, f, rfl, rfl, hb.fin, hl⟩
  · rw [if_neg h1, if_neg h1]
    split
    · exact ⟨from_, _, false, g, rfl, rfl, hf.fin, hl.drop _⟩
    · exact ⟨from_, [], true, true, rfl, rfl, hf.fin, ⟨by simp, by simp⟩⟩
theorem of_one (e : En) : ∃ (fl : Bool) (q : List Int) (is : Bool), ofV e = .tup [.lst fl (q.map I), .bool is] ∧ q.length ≤ 7 := by
  unfold ofV
  cases h : ofE e with
  | none => exact ⟨true, [], false, rfl, by simp⟩
  | some q =>
    refine ⟨false, q, true, rfl, ?_⟩
    unfold ofE at h
    split at h
    · rename_i hc
      cases h
      exact (right_iff.1 hc.2).2.2
    · cases h
abbrev vB (b : Ba) : AB := .var [.int .i64 b.many, .int .i64 b.term, .lst b.fp (b.ps.map I), .lst b.fd (b.da.map B)]
theorem l3 {n : Nat} (hn : 46 < n) (more : List En) (hm : GL more) (f : Bool) (X1 X2 X3 X4 : Ba) (e0 : Env) (h4 : e0 4 = .lst f (more.map E)) :
    iter (round (C16.tab n) [41] [(.exit 0, []), (.ret, [12])] c3_1 e0 4 []) ([.int .i64 0], [vB X1, vB X2, vB X3, vB X4]) = some (.exit 0, [], [vB X1, vB X2, vB X3, vB X4]) := by
  have hml := hm.len
  have := for_list (f := round (C16.tab n) [41] [(.exit 0, []), (.ret, [12])] c3_1 e0 4 []) (fun i (_ : Unit) => ([.int .i64 (i : Int)], [vB X1, vB X2, vB X3, vB X4])) more (fun _ _ => ()) (fun _ => (.exit 0, [], [vB X1, vB X2, vB X3, vB X4])) (fun _ _ => True)
    (fun i hi _ _ => by
      obtain ⟨x, hx⟩ : ∃ x, x = more[i] := ⟨_, rfl⟩
      have hxd := hm.da _ (List.getElem_mem hi)
      rw [← hx] at hxd
      have h25 := s25 (n := n) hn x hxd
      have h26 := s26 (n := n) (by omega) x hxd
      obtain ⟨fl, q, is, hv, hq⟩ := of_one x
      rw [hv] at h25 h26
      have h20 := s20 (n := n) (by omega) q q fl fl (by omega) (by omega)
      rw [decide_eq_true rfl] at h20
      simp only [E] at h25 h26
      refine ⟨trivial, ?_⟩
      cases is with
      | true => simp -implicitDefEqProofs (disch := omega) [wrap_of, ilt_t, ilt_f, ile_t, ile_f, nlt_t, nlt_f, nle_t, nle_f, ieq_t, ieq_f, imin_l, imin_r, imax_l, imax_r, take_app1, take_map_all, round_eq, b3_1, h4, hi, ← hx, a25, h25, a26, h26, a20, h20]
      | false => simp -implicitDefEqProofs (disch := omega) [wrap_of, ilt_t, ilt_f, ile_t, ile_f, nlt_t, nlt_f, nle_t, nle_f, ieq_t, ieq_f, imin_l, imin_r, imax_l, imax_r, take_app1, take_map_all, round_eq, b3_1, h4, hi, ← hx, a25, h25, a26, h26, a20, h20])
    (fun _ _ => by simp -implicitDefEqProofs (disch := omega) [wrap_of, ilt_t, ilt_f, ile_t, ile_f, nlt_t, nlt_f, nle_t, nle_f, ieq_t, ieq_f, imin_l, imin_r, imax_l, imax_r, take_app1, take_map_all, round_eq, b3_1, h4]) () trivial
  exact this
/-- MemberTells -/
theorem lp3 (b : Ba) (hb : BFin b) (l : List En) (hl : Fin l) (f : Bool) (at_ t : Int) (more : List En) (hm : Fin more) (g : Bool) (from_ : Ba) (hf : BFin from_) :
    runP (C16.tab 47) c3 [Bs b, .lst f (l.map E), I at_, I t, .lst g (more.map E), Bs from_] = some (.bool true) := by
  rw [runP_eq, runH_eq]
  have h9 := s9 (n := 47) (by decide)
  have h10 := s10 (n := 47) (by decide) b hb l hl f
  have h10' := s10 (n := 47) (by decide) from_ hf more hm g
  have h11 := s11 (n := 47) (by decide) at_ t
  simp only [Bs] at h10 h10'
  cases q1 : fitB b l with
  | false =>
    rw [q1] at h10
    generalize fitB from_ more = q2 at *
    generalize smallB at_ t = q3 at *
    simp -implicitDefEqProofs (disch := omega) [wrap_of, ilt_t, ilt_f, ile_t, ile_f, nlt_t, nlt_f, nle_t, nle_f, ieq_t, ieq_f, imin_l, imin_r, imax_l, imax_r, take_app1, take_map_all, c3, a9, h9, a10, h10, h10', a11, h11]
  | true =>
    rw [q1] at h10
    cases q2 : fitB from_ more with
    | false =>
      rw [q2] at h10'
      generalize smallB at_ t = q3 at *
      simp -implicitDefEqProofs (disch := omega) [wrap_of, ilt_t, ilt_f, ile_t, ile_f, nlt_t, nlt_f, nle_t, nle_f, ieq_t, ieq_f, imin_l, imin_r, imax_l, imax_r, take_app1, take_map_all, c3, a9, h9, a10, h10, h10', a11, h11]
    | true =>
      rw [q2] at h10'
      cases q3 : smallB at_ t with
      | false =>
        rw [q3] at h11
        simp -implicitDefEqProofs (disch := omega) [wrap_of, ilt_t, ilt_f, ile_t, ile_f, nlt_t, nlt_f, nle_t, nle_f, ieq_t, ieq_f, imin_l, imin_r, imax_l, imax_r, take_app1, take_map_all, c3, a9, h9, a10, h10, h10', a11, h11]
      | true =>
        rw [q3] at h11
        have F := fits_of q1
        have F' := fits_of q2
        have hs := of_decide_eq_true q3
        have g12 := s12 (n := 47) (by decide) b F.gb l F.gl f
        have g13 := s13 (n := 47) (by decide) b F.gb l F.gl f
        have g14 := s14 (n := 47) (by decide) b F.gb l F.gl f at_ from_.da (by have := F'.da; omega) from_.fd
        obtain ⟨gc, g15⟩ := s15 (n := 47) (by decide) b F.gb l F.gl f at_ (by omega) from_.da from_.fd
        have g16 := s16 (n := 47) (by decide) b F.gb l more F.gl F'.gl f g at_ t (by omega) (by omega)
        have g17 := s17 (n := 47) (by decide) b F.gb l more F.gl F'.gl f g at_ t (by omega) (by omega)
        have g18 := s18 (n := 47) (by decide) b from_ F.gb F'.gb l F.gl f
        obtain ⟨gh, g19⟩ := s19 (n := 47) (by decide) b from_ F.gb F'.gb l F.gl f
        have g23 := s23 (n := 47) (by decide) b F.gb l F.gl f at_ t
        have g24 := s24 (n := 47) (by decide) b F.gb l F.gl f at_ t (by omega)
        have hpl := peers_len F l
        obtain ⟨C1, C2, m, f1, f2, is, hC1, hC2, hbe, hC1f, hC2f, hmg⟩ := cut_both F f at_ from_.fd gc from_.da (by have := F'.da; omega)
        rw [hC1] at g14
        rw [hC2] at g15
        obtain ⟨fx, x, put, hx, hxg⟩ := put_one (b := b) F.gl F'.gl f at_ t
        rw [hx] at g16 g17
        obtain ⟨G, o, fo, fo', hG1, hG2, hGf, hog⟩ := hand_both F.gb F'.gb F.gl f gh
        rw [hG1] at g18
        rw [hG2] at g19
        generalize fitsA b l at_ t = fit at *
        generalize (peersS b l).1 = pq at *
        obtain ⟨fp, ps, pat⟩ := pq
        simp only at hpl
        have g20 := s20 (n := 47) (by decide) ps ps fp fp (by omega) (by omega)
        have g21 := s21 (n := 47) (by decide) C1 C2 hC1f hC2f
        have g22 := s22 (n := 47) (by decide) m m f1 f2 hmg.fin hmg.fin
        have g22' := s22 (n := 47) (by decide) x x fx fx hxg.fin hxg.fin
        have g21' := s21 (n := 47) (by decide) G G hGf hGf
        have g22'' := s22 (n := 47) (by decide) o o fo fo' hog.fin hog.fin
        rw [decide_eq_true rfl] at g20
        rw [hbe] at g21
        rw [logEq_refl] at g22 g22' g22''
        rw [baseEq_refl] at g21'
        have hl3 := l3 (n := 47) (by decide) more F'.gl g C1 C2 G G
        simp only [Bs, psV] at g12 g13 g14 g15 g16 g17 g18 g19 g21 g21' g23 g24
        simp -implicitDefEqProofs (disch := omega) [wrap_of, ilt_t, ilt_f, ile_t, ile_f, nlt_t, nlt_f, nle_t, nle_f, ieq_t, ieq_f, imin_l, imin_r, imax_l, imax_r, take_app1, take_map_all, c3, a9, h9, a10, h10, h10', a11, h11, a12, g12, a13, g13, a14, g14, a15, g15, a16, g16, a17, g17, a18, g18, a19, g19, a20, g20, a21, g21, g21', a22, g22, g22', g22'', g23, g24]
        all_goals (rw [hl3 _ (by simp -implicitDefEqProofs (disch := omega) [wrap_of, ilt_t, ilt_f, ile_t, ile_f, nlt_t, nlt_f, nle_t, nle_f, ieq_t, ieq_f, imin_l, imin_r, imax_l, imax_r, take_app1, take_map_all, ])]; simp -implicitDefEqProofs (disch := omega) [wrap_of, ilt_t, ilt_f, ile_t, ile_f, nlt_t, nlt_f, nle_t, nle_f, ieq_t, ieq_f, imin_l, imin_r, imax_l, imax_r, take_app1, take_map_all, ])
end Go.Proofs.Ytjblbmcgpdmahaa
