import Derived.Test.YtldgegojhaamoaaH24
set_option linter.unusedSimpArgs false
set_option linter.unusedVariables false
namespace Go.Proofs.Ytldgegojhaamoaa
open Go.Am

/-! ### Stored files in order -/
def ins : List Stored → Stored → List Stored
  | [], x => [x]
  | y :: l, x => if y.ino < x.ino then y :: ins l x else if y.ino = x.ino then x :: l else x :: y :: l
def SortedS (l : List Stored) : Prop := l.Pairwise fun x y => x.ino < y.ino
theorem place_ins : ∀ (l : List Stored) (v : Stored), (placeL l v.ino).set (at_ l v.ino) v = ins l v
  | [], v => rfl
  | y :: l, v => by
    by_cases h : y.ino < v.ino
    · have e1 : at_ (y :: l) v.ino = at_ l v.ino + 1 := by simp [at_, h]
      have e2 : there (y :: l) v.ino = there l v.ino := by unfold there; rw [e1]; rfl
      have e3 : placeL (y :: l) v.ino = y :: placeL l v.ino := by
        unfold placeL; rw [e2, e1]; split <;> simp
      rw [e1, e3, List.set_cons_succ, place_ins l v, ins, if_pos h]
    · have e1 : at_ (y :: l) v.ino = 0 := by simp [at_, h]
      by_cases h2 : y.ino = v.ino
      · have e2 : there (y :: l) v.ino = true := by unfold there; rw [e1]; simpa using h2
        unfold placeL
        rw [if_pos e2, e1, ins, if_neg h, if_pos h2]; rfl
      · have e2 : ¬ there (y :: l) v.ino = true := by unfold there; rw [e1]; simpa using h2
        unfold placeL
        rw [if_neg e2, e1, ins, if_neg h, if_neg h2]; rfl
theorem find_none {l : List Stored} {ino : Int} (h : ∀ x ∈ l, ino < x.ino) : find l ino = ⟨ino, 0, true, []⟩ := by
  unfold find
  have : l.find? (fun x => decide (x.ino = ino)) = none := by
    rw [List.find?_eq_none]
    intro x hx
    have := h x hx
    simp; omega
  rw [this]; rfl
theorem place_find : ∀ (l : List Stored) (ino : Int), SortedS l → (placeL l ino)[at_ l ino]? = some (find l ino)
  | [], ino, _ => rfl
  | y :: l, ino, hs => by
    have hs' := List.pairwise_cons.1 hs
    by_cases h : y.ino < ino
    · have e1 : at_ (y :: l) ino = at_ l ino + 1 := by simp [at_, h]
      have e2 : there (y :: l) ino = there l ino := by unfold there; rw [e1]; rfl
      have e3 : placeL (y :: l) ino = y :: placeL l ino := by
        unfold placeL; rw [e2, e1]; split <;> simp
      have e4 : find (y :: l) ino = find l ino := by unfold find; rw [List.find?_cons, show decide (y.ino = ino) = false by simp; omega]
      rw [e1, e3, e4, List.getElem?_cons_succ, place_find l ino hs'.2]
    · have e1 : at_ (y :: l) ino = 0 := by simp [at_, h]
      by_cases h2 : y.ino = ino
      · have e2 : there (y :: l) ino = true := by unfold there; rw [e1]; simpa using h2
        unfold placeL
        rw [if_pos e2, e1]
        unfold find; rw [List.find?_cons, show decide (y.ino = ino) = true by simpa using h2]; rfl
      · have e2 : ¬ there (y :: l) ino = true := by unfold there; rw [e1]; simpa using h2
        unfold placeL
        rw [if_neg e2, e1, find_none]
        · rfl
        · intro x hx
          rcases List.mem_cons.1 hx with rfl | hx
          · omega
          · have := hs'.1 x hx; omega
theorem withG_done (x : Stored) : ∀ (l : List Stored) (a : List Stored), (∀ y ∈ l, x.ino < y.ino) → l.foldl (withG x) (true, a) = (true, a ++ l)
  | [], a, _ => by simp
  | y :: l, a, h => by
    have := h y (by simp)
    have e : withG x (true, a) y = (true, a ++ [y]) := by unfold withG; simp; omega
    rw [List.foldl_cons, e, withG_done x l _ fun z hz => h z (by simp [hz])]
    simp
theorem withG_ins (x : Stored) : ∀ (l : List Stored) (a : List Stored), SortedS l → (if (l.foldl (withG x) (false, a)).1 then (l.foldl (withG x) (false, a)).2 else (l.foldl (withG x) (false, a)).2 ++ [x]) = a ++ ins l x
  | [], a, _ => by simp [ins]
  | y :: l, a, hs => by
    have hs' := List.pairwise_cons.1 hs
    rw [List.foldl_cons]
    by_cases h : y.ino < x.ino
    · have e : withG x (false, a) y = (false, a ++ [y]) := by
        have n1 : ¬ x.ino ≤ y.ino := by omega
        have n2 : ¬ y.ino = x.ino := by omega
        unfold withG; simp [n1, n2]
      rw [e, withG_ins x l _ hs'.2, ins, if_pos h]; simp
    · by_cases h2 : y.ino = x.ino
      · have e : withG x (false, a) y = (true, a ++ [x]) := by unfold withG; simp [h2]
        rw [e, withG_done x l _ fun z hz => by have := hs'.1 z hz; omega, ins, if_neg h, if_pos h2]; simp
      · have e : withG x (false, a) y = (true, a ++ [x] ++ [y]) := by
          unfold withG
          have : x.ino ≤ y.ino := by omega
          simp [h2, this]
        rw [e, withG_done x l _ fun z hz => by have := hs'.1 z hz; omega, ins, if_neg h, if_neg h2]; simp
theorem withL_ins {l : List Stored} (hs : SortedS l) (x : Stored) : withL l x = ins l x := by
  have := withG_ins x l [] hs
  simpa [withL] using this
theorem take_same {l : List Stored} (hs : SortedS l) (d : Dirty) (ep : Int) : takeW l d ep = takeR l d ep := by
  unfold takeW takeR
  rw [place_find l d.ino hs]
  simp only
  split
  · rfl
  · have e : ((placeL l d.ino).set (at_ l d.ino) ⟨(find l d.ino).ino, ep, false, layD (find l d.ino).dat d⟩) = ins l ⟨(find l d.ino).ino, ep, false, layD (find l d.ino).dat d⟩ := by
      have := place_ins l ⟨(find l d.ino).ino, ep, false, layD (find l d.ino).dat d⟩
      simp only [find_ino] at this ⊢
      exact this
    rw [e, withL_ins hs]
theorem raise_same {l : List Stored} (hs : SortedS l) (ino ep : Int) : raiseW l ino ep = raiseR l ino ep := by
  unfold raiseW raiseR
  rw [place_find l ino hs]
  simp only
  have := place_ins l ⟨(find l ino).ino, max (find l ino).ep ep, (find l ino).fl, (find l ino).dat⟩
  simp only [find_ino] at this ⊢
  rw [this, withL_ins hs]
theorem sorted_of {l : List Stored} (h : rightS l = true) : SortedS l ∧ ∀ x ∈ l, 1 ≤ x.ino ∧ 0 ≤ x.ep ∧ x.dat.length ≤ 4096 := by
  unfold rightS at h
  rw [List.all_eq_true] at h
  have hi : ∀ i (hi : i < l.length), okS l[i] = true ∧ (0 < i → ∀ h : i - 1 < l.length, l[i - 1].ino < l[i].ino) := by
    intro i hi
    have := h i (by simpa using hi)
    rw [List.getElem?_eq_getElem hi] at this
    simp only [Bool.and_eq_true] at this
    refine ⟨this.1, fun h0 h1 => ?_⟩
    have h2 := this.2
    rw [if_neg (by omega), List.getElem?_eq_getElem h1] at h2
    simpa using h2
  refine ⟨?_, fun x hx => ?_⟩
  · unfold SortedS
    rw [List.pairwise_iff_getElem]
    intro i j hi1 hj hij
    induction j with
    | zero => omega
    | succ j ih =>
      have h1 := (hi (j + 1) hj).2 (by omega) (by omega)
      simp only [Nat.add_one_sub_one] at h1
      by_cases hji : i = j
      · subst hji; exact h1
      · have := ih (by omega) (by omega); omega
  · obtain ⟨i, hx⟩ := List.getElem?_of_mem hx
    obtain ⟨h1, rfl⟩ := List.getElem?_eq_some_iff.1 hx
    have := (hi i h1).1
    unfold okS at this
    simp only [Bool.and_eq_true, decide_eq_true_eq] at this
    exact ⟨this.1.1, this.1.2, this.2⟩
theorem sameS_refl : ∀ l : List Stored, sameS l l = true
  | [] => rfl
  | d :: l => by
    have h := sameS_refl l
    unfold sameS at h ⊢
    simp only [decide_true, Bool.true_and, List.zip_cons_cons, List.all_cons, sameS1, Bool.and_self] at h ⊢
    exact h
theorem ins_length : ∀ (l : List Stored) (x : Stored), (ins l x).length ≤ l.length + 1
  | [], x => by simp [ins]
  | y :: l, x => by
    have := ins_length l x
    unfold ins
    split
    · simp; omega
    · split <;> simp
theorem ins_mem : ∀ (l : List Stored) (x y : Stored), y ∈ ins l x → y = x ∨ y ∈ l
  | [], x, y, h => by simp [ins] at h; exact .inl h
  | z :: l, x, y, h => by
    unfold ins at h
    split at h
    · rcases List.mem_cons.1 h with rfl | h
      · exact .inr (by simp)
      · rcases ins_mem l x y h with h | h
        · exact .inl h
        · exact .inr (by simp [h])
    · split at h
      · rcases List.mem_cons.1 h with rfl | h
        · exact .inl rfl
        · exact .inr (by simp [h])
      · rcases List.mem_cons.1 h with rfl | h
        · exact .inl rfl
        · exact .inr h
theorem layD_4096 {es : List Int} {d : Dirty} (hd : Right d) (he : es.length ≤ 4096) : (layD es d).length ≤ 4096 := by
  unfold layD
  rw [lay_length]
  have := hd.h0
  have := hd.h1
  have := hd.h2
  split <;> omega
theorem fits_one {d : Dirty} : fits [d] = (rightD d && decide (d.dat.length ≤ 300)) := by simp [fits]

theorem w4 (l : List Stored) (hl : l.length ≤ 9223372036854775807) (hs : ∀ x ∈ l, x.dat.length ≤ 9223372036854775807) (f : Bool) (d : Dirty) (hd : Short d) (ep : Int) :
    runP (C24.tab 32) c4 [.lst f (l.map S), D d, .int .i64 ep] = some (.bool true) := by
  rw [runP_eq, runH_eq]
  have h9 : (C24.tab 32).p 9 [] = some (.bool true) := s9 (by omega)
  have h20 := s20 (n := 32) (by omega) l hl hs f
  have h10 := s10 (n := 32) (by omega) [d] (by simp) (by simpa using hd) true
  simp only [D, List.map_cons, List.map_nil] at h10
  by_cases h30 : l.length ≤ 30 ∧ rightS l = true
  · obtain ⟨h3, hr⟩ := h30
    rw [hr, decide_eq_true h3] at h20
    obtain ⟨hso, hok⟩ := sorted_of hr
    have hg : ∀ x ∈ l, GoodS x := fun x hx => (hok x hx).2.2
    cases hf : fits [d] with
    | false =>
      rw [hf] at h10
      simp -implicitDefEqProofs (disch := omega) [wrap_of, ilt_t, ilt_f, ile_t, ile_f, nlt_t, nlt_f, nle_t, nle_f, ieq_t, ieq_f, imin_l, imin_r, imax_l, imax_r, take_app1, take_map_all, c4, a9, h9, a20, h20, a10, h10]
    | true =>
      rw [hf] at h10
      obtain ⟨_, f2, _, _⟩ := fits_right hf
      have hdr := f2 d (by simp)
      by_cases hep : ep < 0
      · simp -implicitDefEqProofs (disch := omega) [wrap_of, ilt_t, ilt_f, ile_t, ile_f, nlt_t, nlt_f, nle_t, nle_f, ieq_t, ieq_f, imin_l, imin_r, imax_l, imax_r, take_app1, take_map_all, c4, a9, h9, a20, h20, a10, h10, hep]
      · have h21 := s21 (n := 32) (by omega) l (by omega) hg f d hdr ep
        have h22 := s22 (n := 32) (by omega) l (by omega) hg f d hdr ep
        have h24 := s24 (n := 32) (by omega) l (by omega) f d.ino ep
        have h25 := s25 (n := 32) (by omega) l (by omega) f d.ino ep
        rw [take_same hso] at h21
        rw [raise_same hso] at h24
        have g0 : ∀ x : Stored, x.dat.length ≤ 4096 → (withL l x).length ≤ 31 ∧ ∀ y ∈ withL l x, y.dat.length ≤ 4096 := by
          intro x hx
          rw [withL_ins hso]
          have := ins_length l x
          refine ⟨by omega, fun y hy => ?_⟩
          rcases ins_mem _ _ _ hy with rfl | hy
          · exact hx
          · exact hg y hy
        have g1 : (takeR l d ep).1.length ≤ 31 ∧ ∀ x ∈ (takeR l d ep).1, x.dat.length ≤ 4096 := by
          unfold takeR
          split
          · exact ⟨show l.length ≤ 31 by omega, hg⟩
          · exact g0 _ (layD_4096 hdr (find_good hg d.ino))
        have g2 : (raiseR l d.ino ep).length ≤ 31 ∧ ∀ x ∈ raiseR l d.ino ep, x.dat.length ≤ 4096 := g0 _ (find_good hg d.ino)
        have h23 := fun f1 f2 => s23 (n := 32) (by omega) (takeR l d ep).1 (takeR l d ep).1 f1 f2 (by have := g1.1; omega) (fun x hx => by have := g1.2 x hx; omega)
        have h23b := s23 (n := 32) (by omega) (raiseR l d.ino ep) (raiseR l d.ino ep) false false (by have := g2.1; omega) (fun x hx => by have := g2.2 x hx; omega)
        simp only [sameS_refl] at h23 h23b
        simp only [D] at h21 h22
        simp -implicitDefEqProofs (disch := omega) [wrap_of, ilt_t, ilt_f, ile_t, ile_f, nlt_t, nlt_f, nle_t, nle_f, ieq_t, ieq_f, imin_l, imin_r, imax_l, imax_r, take_app1, take_map_all, c4, a9, h9, a20, h20, a10, h10, hep, a21, h21, a22, h22, a24, h24, a25, h25, h23, h23b]
  · have : (decide (l.length ≤ 30) && rightS l) = false := by
      rw [Bool.eq_false_iff]; simpa using h30
    rw [this] at h20
    simp -implicitDefEqProofs (disch := omega) [wrap_of, ilt_t, ilt_f, ile_t, ile_f, nlt_t, nlt_f, nle_t, nle_f, ieq_t, ieq_f, imin_l, imin_r, imax_l, imax_r, take_app1, take_map_all, c4, a9, h9, a20, h20]
end Go.Proofs.Ytldgegojhaamoaa
