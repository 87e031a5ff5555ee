import Derived.Test.YtldgegojhaamoaaM24
set_option linter.unusedSimpArgs false
set_option linter.unusedVariables false
namespace Go.Proofs.Ytldgegojhaamoaa
open Go.Am

theorem ins_sorted : ∀ (l : List Stored) (v : Stored), SortedS l → SortedS (ins l v)
  | [], v, _ => by simp [ins, SortedS]
  | y :: l, v, h => by
    have h' := List.pairwise_cons.1 h
    unfold ins
    split
    · rename_i h1
      refine List.pairwise_cons.2 ⟨fun z hz => ?_, ins_sorted l v h'.2⟩
      rcases ins_mem _ _ _ hz with rfl | hz
      · exact h1
      · exact h'.1 z hz
    · split
      · rename_i h1 h2
        exact List.pairwise_cons.2 ⟨fun z hz => by have := h'.1 z hz; omega, h'.2⟩
      · rename_i h1 h2
        refine List.pairwise_cons.2 ⟨fun z hz => ?_, h⟩
        rcases List.mem_cons.1 hz with rfl | hz
        · omega
        · have := h'.1 z hz; omega
theorem find_cons (y : Stored) (l : List Stored) (o : Int) : find (y :: l) o = if y.ino = o then y else find l o := by
  unfold find
  rw [List.find?_cons]
  by_cases h : y.ino = o <;> simp [h]
theorem find_ins : ∀ (l : List Stored) (v : Stored), find (ins l v) v.ino = v
  | [], v => by simp [ins, find]
  | y :: l, v => by
    unfold ins
    split
    · rw [find_cons, if_neg (by omega), find_ins l v]
    · split
      · rw [find_cons, if_pos rfl]
      · rw [find_cons, if_pos rfl]
theorem find_ins_other {o : Int} : ∀ (l : List Stored) (v : Stored), v.ino ≠ o → find (ins l v) o = find l o
  | [], v, h => by simp [ins, find, h]
  | y :: l, v, h => by
    unfold ins
    split
    · rw [find_cons, find_cons, find_ins_other l v h]
    · split
      · rename_i h1 h2
        rw [find_cons, find_cons, if_neg h, if_neg (by rw [h2]; exact h)]
      · rw [find_cons, if_neg h]
def OkL (l : List Stored) : Prop := ∀ x ∈ l, 1 ≤ x.ino ∧ 0 ≤ x.ep ∧ x.dat.length ≤ 4096
theorem ins_ok {l : List Stored} {v : Stored} (h : OkL l) (hv : 1 ≤ v.ino ∧ 0 ≤ v.ep ∧ v.dat.length ≤ 4096) : OkL (ins l v) := by
  intro x hx
  rcases ins_mem _ _ _ hx with rfl | hx
  · exact hv
  · exact h x hx
theorem rightS_of {l : List Stored} (hs : SortedS l) (h : OkL l) : rightS l = true := by
  unfold rightS
  rw [List.all_eq_true]
  intro i hi
  have hi : i < l.length := by simpa using hi
  rw [List.getElem?_eq_getElem hi]
  have hx := h l[i] (List.getElem_mem hi)
  simp only [okS, Bool.and_eq_true, decide_eq_true_eq]
  refine ⟨⟨⟨hx.1, hx.2.1⟩, hx.2.2⟩, ?_⟩
  split
  · rfl
  · rename_i h0
    rw [List.getElem?_eq_getElem (by omega)]
    simp only [decide_eq_true_eq]
    exact (List.pairwise_iff_getElem.1 hs) (i - 1) i (by omega) hi (by omega)
structure Inv8 (l : List Stored) (d : Dirty) (r : Int) (now : List Stored) : Prop where
  so : SortedS now
  ok : OkL now
  ep : r ≤ (find now d.ino).ep
  ot : ∀ o, d.ino ≠ o → find now o = find l o
theorem find_ok {l : List Stored} (h : OkL l) (ino : Int) : 0 ≤ (find l ino).ep ∧ (find l ino).dat.length ≤ 4096 := by
  rcases find_mem (l := l) (ino := ino) with h1 | h1
  · exact (h _ h1).2
  · rw [h1]; simp
theorem Inv8.take {l now : List Stored} {d : Dirty} {r ep : Int} (hi : Inv8 l d r now) (hd : Right d) (hdi : 1 ≤ d.ino) (hep : 0 ≤ ep) : Inv8 l d r (takeR now d ep).1 := by
  unfold takeR
  split
  · exact hi
  · rename_i h
    simp only
    rw [withL_ins hi.so]
    have hf := find_ok hi.ok d.ino
    refine ⟨ins_sorted _ _ hi.so, ins_ok hi.ok ⟨by rw [find_ino]; exact hdi, hep, layD_4096 hd hf.2⟩, ?_, fun o ho => ?_⟩
    · have := find_ins now ⟨(find now d.ino).ino, ep, false, layD (find now d.ino).dat d⟩
      simp only [find_ino] at this ⊢
      rw [this]
      have := hi.ep
      simp only; omega
    · rw [find_ins_other _ _ (by rw [find_ino]; exact ho)]
      exact hi.ot o ho
def step8 (d : Dirty) (s : Bool × List Stored) (ep : Int) : Bool × List Stored := (takeF s.2 d ep s.1, (takeR s.2 d ep).1)
theorem takeR_len {now : List Stored} (hs : SortedS now) (d : Dirty) (ep : Int) : (takeR now d ep).1.length ≤ now.length + 1 := by
  unfold takeR
  split
  · simp
  · simp only; rw [withL_ins hs]; exact ins_length _ _
theorem l8 {n : Nat} (hn : 28 < n) (l : List Stored) (hl : l.length ≤ 30) (d : Dirty) (hd : Right d) (hdi : 1 ≤ d.ino) (eps : List Int) (hel : eps.length ≤ 30) (hep : ∀ x ∈ eps, 0 ≤ x ∧ x ≤ 255) (r : Int) (hr0 : 0 ≤ r) (hr : r ≤ 255) (o : Int) (f fe g : Bool) (now0 : List Stored) (hnl : now0.length ≤ 31) (hi0 : Inv8 l d r now0)
    (e0 : Env) (h0 : e0 0 = .lst f (l.map S)) (h2 : e0 2 = .lst fe (eps.map B)) (h3 : e0 3 = .int .u8 r) (h4 : e0 4 = .int .i64 o) (h6 : e0 6 = .ptr 0 0 0 0) :
    iter (round (C24.tab n) [12, 13] [(.exit 0, [12]), (.ret, [10])] c8_1 e0 1 []) ([.lst g (now0.map S), .int .i64 0], [.var [.int .i64 d.ino, .int .i64 d.frm, .lst d.fl (d.dat.map B)]]) =
      some (.exit 0, [.lst (eps.foldl (step8 d) (g, now0)).1 ((eps.foldl (step8 d) (g, now0)).2.map S)], [.var [.int .i64 d.ino, .int .i64 d.frm, .lst d.fl (d.dat.map B)]]) := by
  have := for_list (f := round (C24.tab n) [12, 13] [(.exit 0, [12]), (.ret, [10])] c8_1 e0 1 []) (fun i (s : Bool × List Stored) => ([.lst s.1 (s.2.map S), .int .i64 i], [.var [.int .i64 d.ino, .int .i64 d.frm, .lst d.fl (d.dat.map B)]])) eps (step8 d) (fun s => (.exit 0, [.lst s.1 (s.2.map S)], [.var [.int .i64 d.ino, .int .i64 d.frm, .lst d.fl (d.dat.map B)]])) (fun i s => Inv8 l d r s.2 ∧ s.2.length ≤ 31 + i)
    (fun i hi s hs => by
      obtain ⟨fl, now⟩ := s
      obtain ⟨hinv, hlen⟩ := hs
      simp only at hinv hlen
      obtain ⟨he0, he1⟩ := hep _ (List.getElem_mem hi)
      have htl := takeR_len hinv.so d eps[i]
      have hnext := hinv.take hd hdi he0
      refine ⟨⟨hnext, by simp only [step8]; omega⟩, ?_⟩
      have hg : ∀ x ∈ now, GoodS x := fun x hx => (hinv.ok x hx).2.2
      have h28a := s28 (n := n) (by omega) now (by omega) fl d.ino
      have h21 := s21 (n := n) (by omega) now (by omega) hg fl d hd eps[i]
      rw [take_same hinv.so] at h21
      have h28b := s28 (n := n) (by omega) (takeR now d eps[i]).1 (by omega) (takeF now d eps[i] fl) d.ino
      have h28c := s28 (n := n) (by omega) (takeR now d eps[i]).1 (by omega) (takeF now d eps[i] fl) o
      have h28d := s28 (n := n) (by omega) l (by omega) f o
      have hf := find_ok hinv.ok d.ino
      have hepr := hinv.ep
      unfold step8
      obtain ⟨x, hx⟩ : ∃ x, x = find now d.ino := ⟨_, rfl⟩
      have d0 := hd.h0
      have d1 := hd.h1
      have d2 := hd.h2
      have h11 := s11 (n := n) (by omega) x.dat d.dat x.fl d.fl d.frm (by rw [hx]; omega) (by omega) (by omega)
      rw [layR_right hd] at h11
      generalize takeF now d eps[i] fl = tf at h21 h28b h28c ⊢
      have hoth : ∀ y, y = find l o → d.ino ≠ o → (C24.tab n).p 23 [.lst true [S y], .lst true [S y]] = some (.bool true) := by
        intro y hy ho
        have h23 := s23 (n := n) (by omega) [y] [y] true true (by simp) (by
          intro z hz
          simp only [List.mem_singleton] at hz
          subst hz
          have := find_ok hinv.ok o
          rw [hinv.ot o ho, ← hy] at this
          omega)
        rw [sameS_refl] at h23
        exact h23
      by_cases hlt : eps[i] < x.ep
      · have ht : takeR now d eps[i] = (now, 240) := by unfold takeR; rw [if_pos (by rw [← hx]; exact hlt)]
        rw [ht] at h21 h28b h28c hnext ⊢
        simp only at h21 h28b h28c hnext ⊢
        rw [← hx] at h28a h28b
        have h23 := s23 (n := n) (by omega) now now tf fl (by omega) (fun y hy => by have := (hinv.ok y hy).2.2; omega)
        rw [sameS_refl] at h23
        simp only [S, D] at h28a h28b h28c h28d h21 hoth
        by_cases ho : o = d.ino
        · simp -implicitDefEqProofs (disch := omega) [wrap_of, ilt_t, ilt_f, ile_t, ile_f, nlt_t, nlt_f, nle_t, nle_f, ieq_t, ieq_f, imin_l, imin_r, imax_l, imax_r, take_app1, take_map_all, round_eq, b8_1, h0, h2, h3, h4, h6, hi, a28, h28a, a21, h21, h28b, a23, h23, hlt, ho]
        · have ho' : d.ino ≠ o := fun e => ho e.symm
          rw [hinv.ot o ho'] at h28c
          have hy := hoth _ rfl ho'
          simp -implicitDefEqProofs (disch := omega) [wrap_of, ilt_t, ilt_f, ile_t, ile_f, nlt_t, nlt_f, nle_t, nle_f, ieq_t, ieq_f, imin_l, imin_r, imax_l, imax_r, take_app1, take_map_all, round_eq, b8_1, h0, h2, h3, h4, h6, hi, a28, h28a, a21, h21, h28b, a23, h23, hlt, ho, h28c, h28d, hy]
      · have ht : takeR now d eps[i] = (withL now ⟨x.ino, eps[i], false, layD x.dat d⟩, 0) := by unfold takeR; rw [if_neg (by rw [← hx]; exact hlt), ← hx]
        have hxi : x.ino = d.ino := by rw [hx]; exact find_ino _ _
        rw [withL_ins hinv.so] at ht
        have hfi := find_ins now ⟨x.ino, eps[i], false, layD x.dat d⟩
        simp only [hxi] at hfi ht
        rw [ht] at h21 h28b h28c hnext ⊢
        simp only at h21 h28b h28c hnext ⊢
        rw [hfi] at h28b
        rw [← hx] at h28a hf hepr
        have hll := layD_4096 hd hf.2
        have h17 := s17 (n := n) (by omega) (layD x.dat d) (layD x.dat d) false false (by omega)
        simp only [decide_true] at h17
        simp only [S, D] at h28a h28b h28c h28d h21 hoth
        have hoo := fun ho => hnext.ot o ho
        by_cases ho : o = d.ino
        · simp -implicitDefEqProofs (disch := omega) [wrap_of, ilt_t, ilt_f, ile_t, ile_f, nlt_t, nlt_f, nle_t, nle_f, ieq_t, ieq_f, imin_l, imin_r, imax_l, imax_r, take_app1, take_map_all, round_eq, b8_1, h0, h2, h3, h4, h6, hi, a28, h28a, a21, h21, h28b, hlt, ho, a11, h11, h17]
        · have ho' : d.ino ≠ o := fun e => ho e.symm
          rw [hoo ho'] at h28c
          have hy := hoth _ rfl ho'
          simp -implicitDefEqProofs (disch := omega) [wrap_of, ilt_t, ilt_f, ile_t, ile_f, nlt_t, nlt_f, nle_t, nle_f, ieq_t, ieq_f, imin_l, imin_r, imax_l, imax_r, take_app1, take_map_all, round_eq, b8_1, h0, h2, h3, h4, h6, hi, a28, h28a, a21, h21, h28b, hlt, ho, a11, h11, h17, h28c, h28d, a23, hy])
    (fun s hs => by simp -implicitDefEqProofs (disch := omega) [wrap_of, ilt_t, ilt_f, ile_t, ile_f, nlt_t, nlt_f, nle_t, nle_f, ieq_t, ieq_f, imin_l, imin_r, imax_l, imax_r, take_app1, take_map_all, round_eq, b8_1, h2]) (g, now0) ⟨hi0, hnl⟩
  simp only [Int.natCast_zero] at this
  exact this

theorem Inv8.raise {l : List Stored} (hs : SortedS l) (hok : OkL l) {d : Dirty} (hdi : 1 ≤ d.ino) {r : Int} (hr : 0 ≤ r) : Inv8 l d r (raiseR l d.ino r) := by
  unfold raiseR
  rw [withL_ins hs]
  have hf := find_ok hok d.ino
  refine ⟨ins_sorted _ _ hs, ins_ok hok ⟨by rw [find_ino]; exact hdi, by simp only; omega, hf.2⟩, ?_, fun o ho => ?_⟩
  · have := find_ins l ⟨(find l d.ino).ino, max (find l d.ino).ep r, (find l d.ino).fl, (find l d.ino).dat⟩
    simp only [find_ino] at this ⊢
    rw [this]
    simp only; omega
  · rw [find_ins_other _ _ (by rw [find_ino]; exact ho)]
theorem inv8_fold {l : List Stored} {d : Dirty} (hd : Right d) (hdi : 1 ≤ d.ino) {r : Int} : ∀ (eps : List Int) (s : Bool × List Stored), (∀ x ∈ eps, 0 ≤ x ∧ x ≤ 255) → Inv8 l d r s.2 → Inv8 l d r (eps.foldl (step8 d) s).2 ∧ (eps.foldl (step8 d) s).2.length ≤ s.2.length + eps.length
  | [], s, _, h => ⟨h, by simp⟩
  | e :: eps, s, he, h => by
    have h1 := h.take hd hdi (he e (by simp)).1
    have h2 := inv8_fold hd hdi eps (step8 d s e) (fun x hx => he x (by simp [hx])) h1
    have h3 := takeR_len h.so d e
    rw [List.foldl_cons]
    refine ⟨h2.1, ?_⟩
    have h4 := h2.2
    simp only [step8] at h4 ⊢
    simp only [List.length_cons]
    omega
theorem w8 (l : List Stored) (hl : l.length ≤ 9223372036854775807) (hs : ∀ x ∈ l, x.dat.length ≤ 9223372036854775807) (f : Bool) (d : Dirty) (hd : Short d) (fe : Bool) (eps : List Int) (hel : eps.length ≤ 9223372036854775807) (hep : ∀ x ∈ eps, 0 ≤ x ∧ x ≤ 255) (r : Int) (hr0 : 0 ≤ r) (hr1 : r ≤ 255) (o : Int) :
    runP (C24.tab 37) c8 [.lst f (l.map S), D d, .lst fe (eps.map B), .int .u8 r, .int .i64 o] = some (.bool true) := by
  rw [runP_eq, runH_eq]
  have h9 : (C24.tab 37).p 9 [] = some (.bool true) := s9 (by omega)
  have h20 := s20 (n := 37) (by omega) l hl hs f
  have h10 := s10 (n := 37) (by omega) [d] (by simp) (by simpa using hd) true
  simp only [D, List.map_cons, List.map_nil] at h10
  by_cases h30 : l.length ≤ 30 ∧ rightS l = true
  · obtain ⟨h3, hr⟩ := h30
    rw [hr, decide_eq_true h3] at h20
    obtain ⟨hso, hok⟩ := sorted_of hr
    cases hf : fits [d] with
    | false =>
      rw [hf] at h10
      simp -implicitDefEqProofs (disch := omega) [wrap_of, ilt_t, ilt_f, ile_t, ile_f, nlt_t, nlt_f, nle_t, nle_f, ieq_t, ieq_f, imin_l, imin_r, imax_l, imax_r, take_app1, take_map_all, c8, a9, h9, a20, h20, a10, h10]
    | true =>
      rw [hf] at h10
      obtain ⟨_, f2, f3, _⟩ := fits_right hf
      have hdr := f2 d (by simp)
      have hdi := f3 d (by simp)
      by_cases hel5 : eps.length ≤ 30
      · have h24 := s24 (n := 37) (by omega) l (by omega) f d.ino r
        rw [raise_same hso] at h24
        have hinv := Inv8.raise hso hok hdi hr0
        have hlen : (raiseR l d.ino r).length ≤ 31 := by
          unfold raiseR
          rw [withL_ins hso]
          have := ins_length l ⟨(find l d.ino).ino, max (find l d.ino).ep r, (find l d.ino).fl, (find l d.ino).dat⟩
          omega
        obtain ⟨i1, i2⟩ := inv8_fold hdr hdi eps (false, raiseR l d.ino r) hep hinv
        simp only at i2
        have h29 := s29 (n := 37) (by omega) (eps.foldl (step8 d) (false, raiseR l d.ino r)).2 (by omega) (fun x hx => by have := (i1.ok x hx).2.2; omega) (eps.foldl (step8 d) (false, raiseR l d.ino r)).1
        rw [rightS_of i1.so i1.ok] at h29
        simp -implicitDefEqProofs (disch := omega) [wrap_of, ilt_t, ilt_f, ile_t, ile_f, nlt_t, nlt_f, nle_t, nle_f, ieq_t, ieq_f, imin_l, imin_r, imax_l, imax_r, take_app1, take_map_all, c8, a9, h9, a20, h20, a10, h10, hel5, a24, h24]
        rw [l8 (by omega) l h3 d hdr hdi eps hel5 hep r hr0 hr1 o f fe false (raiseR l d.ino r) hlen hinv _ (by simp -implicitDefEqProofs (disch := omega) [wrap_of, ilt_t, ilt_f, ile_t, ile_f, nlt_t, nlt_f, nle_t, nle_f, ieq_t, ieq_f, imin_l, imin_r, imax_l, imax_r, take_app1, take_map_all, ]) (by simp -implicitDefEqProofs (disch := omega) [wrap_of, ilt_t, ilt_f, ile_t, ile_f, nlt_t, nlt_f, nle_t, nle_f, ieq_t, ieq_f, imin_l, imin_r, imax_l, imax_r, take_app1, take_map_all, ]) (by simp -implicitDefEqProofs (disch := omega) [wrap_of, ilt_t, ilt_f, ile_t, ile_f, nlt_t, nlt_f, nle_t, nle_f, ieq_t, ieq_f, imin_l, imin_r, imax_l, imax_r, take_app1, take_map_all, ]) (by simp -implicitDefEqProofs (disch := omega) [wrap_of, ilt_t, ilt_f, ile_t, ile_f, nlt_t, nlt_f, nle_t, nle_f, ieq_t, ieq_f, imin_l, imin_r, imax_l, imax_r, take_app1, take_map_all, ]) (by simp -implicitDefEqProofs (disch := omega) [wrap_of, ilt_t, ilt_f, ile_t, ile_f, nlt_t, nlt_f, nle_t, nle_f, ieq_t, ieq_f, imin_l, imin_r, imax_l, imax_r, take_app1, take_map_all, ])]
        simp -implicitDefEqProofs (disch := omega) [wrap_of, ilt_t, ilt_f, ile_t, ile_f, nlt_t, nlt_f, nle_t, nle_f, ieq_t, ieq_f, imin_l, imin_r, imax_l, imax_r, take_app1, take_map_all, a29, h29]
      · simp -implicitDefEqProofs (disch := omega) [wrap_of, ilt_t, ilt_f, ile_t, ile_f, nlt_t, nlt_f, nle_t, nle_f, ieq_t, ieq_f, imin_l, imin_r, imax_l, imax_r, take_app1, take_map_all, c8, a9, h9, a20, h20, a10, h10, hel5]
  · have : (decide (l.length ≤ 30) && rightS l) = false := by
      rw [Bool.eq_false_iff]; simpa using h30
    rw [this] at h20
    simp -implicitDefEqProofs (disch := omega) [wrap_of, ilt_t, ilt_f, ile_t, ile_f, nlt_t, nlt_f, nle_t, nle_f, ieq_t, ieq_f, imin_l, imin_r, imax_l, imax_r, take_app1, take_map_all, c8, a9, h9, a20, h20]
end Go.Proofs.Ytldgegojhaamoaa
