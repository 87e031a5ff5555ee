import Derived.Test.YtlooipgkklaijaaS18
set_option linter.unusedSimpArgs false
set_option linter.unusedVariables false
namespace Go.Proofs.Ytlooipgkklaijaa
open Go.Am Go.Am.Nm Go.Lib Go.Am.Sh

theorem inc_adj {l : List P} : Inc l ↔ ∀ k, k + 1 < l.length → sLess (pat l k) (pat l (k + 1)) = true := by
  constructor
  · exact fun h k hk => h k (k + 1) (by omega) hk
  · intro h i j hij
    induction j with
    | zero => omega
    | succ j ih =>
      intro hj
      rcases Nat.lt_or_ge i j with h' | h'
      · exact Kp.sLess_trans (ih h' (by omega)) (h j hj)
      · have : i = j := by omega
        subst this; exact h i hj
theorem rightA_iff {l : List P} : rightA l = true ↔ RightP l := by
  unfold rightA upB neB
  simp only [Bool.and_eq_true, decide_eq_true_eq, List.all_eq_true, List.mem_range, Bool.not_eq_true', decide_eq_false_iff_not]
  constructor
  · rintro ⟨h1, h2, h3, h4, h5, h6⟩
    refine ⟨h1, h2, h3, h5, inc_adj.2 fun k hk => ?_⟩
    have e1 := h4 k (by omega)
    have e2 := h6 k (by omega)
    refine less_iff.2 ?_
    rintro (h | h)
    · rw [e1] at h; cases h
    · exact e2 h
  · rintro ⟨h1, h2, h3, h4, h5⟩
    refine ⟨h1, h2, h3, fun k hk => ?_, h4, fun k hk => ?_⟩
    · exact less_asymm (h5 k (k + 1) (by omega) (by omega))
    · exact fun e => less_ne (h5 k (k + 1) (by omega) (by omega)) e.symm
theorem rightB_iff {l : List P} : rightB l = true ↔ RightP l := by
  unfold rightB okAt
  simp only [Bool.and_eq_true, Bool.or_eq_true, decide_eq_true_eq, List.all_eq_true, List.mem_range]
  constructor
  · rintro ⟨h1, h2, h3, h4⟩
    refine ⟨h1, h2, h3, fun p hp => ?_, inc_adj.2 fun k hk => ?_⟩
    · obtain ⟨i, hi, rfl⟩ := List.mem_iff_getElem.1 hp
      have := (h4 i hi).1
      rw [List.getElem?_eq_getElem hi] at this
      exact this
    · have := (h4 (k + 1) hk).2
      rcases this with h | h
      · omega
      · exact h
  · rintro ⟨h1, h2, h3, h4, h5⟩
    refine ⟨h1, h2, h3, fun i hi => ⟨?_, ?_⟩⟩
    · rw [List.getElem?_eq_getElem hi]
      exact h4 _ (List.getElem_mem hi)
    · rcases Nat.eq_zero_or_pos i with h | h
      · exact .inl h
      · exact .inr (h5 (i - 1) i (by omega) hi)
theorem rightAB (l : List P) : rightA l = rightB l := by
  have h : rightA l = true ↔ rightB l = true := rightA_iff.trans rightB_iff.symm
  cases h1 : rightA l <;> cases h2 : rightB l <;> simp_all
theorem step_same {l : List P} {s : Stp} (h : (stepP l s).2 ≠ 0) : (stepP l s).1 = l := by
  unfold stepP at *
  split at h
  · rename_i hk
    rw [if_pos hk]
    rcases join_cases l s.pa with ⟨_, e⟩ | ⟨e, _⟩
    · exact e
    · exact absurd e h
  · rename_i hk
    rw [if_neg hk]
    split at h
    · rename_i hk
      rw [if_pos hk]
      rcases move_cases l s.pa s.gr with ⟨_, e⟩ | ⟨e, _⟩
      · exact e
      · exact absurd e h
    · rename_i hk
      rw [if_neg hk]
      rcases cut_cases l s.pa s.gr with ⟨_, e⟩ | ⟨e, _⟩
      · exact e
      · exact absurd e h
theorem ofI_abv {l : List P} (h : RightP l) {s : List UInt8} (hs : isP s = true) : ofI l s < l.length ∧ abv (pat l (ofI l s)) s = true := mem_abo.1 (ofI_mem (h.abo_ne hs))
theorem ofI_own {l : List P} (h : RightP l) {i : Nat} (hi : i < l.length) : ofI l (pat l i) = i := by
  have hp : isP (pat l i) = true := by rw [pat_of hi]; exact h.pa _ (List.getElem_mem hi)
  refine ofI_uniq (mem_abo.2 ⟨hi, abv_self hp⟩) fun j hj => ?_
  obtain ⟨h1, h2⟩ := mem_abo.1 hj
  rcases Nat.lt_or_ge i j with h' | h'
  · have h3 := h.inc i j h' h1
    have h4 := less_pre (abv_pre h2) (fun e => less_ne h3 e.symm)
    rw [less_asymm h3] at h4; cases h4
  · exact h'
theorem ofI_above {l : List P} (h : RightP l) {s : List UInt8} {i : Nat} (hi : i < l.length) (ha : abv (pat l i) s = true) : abv (pat l i) (pat l (ofI l s)) = true := by
  obtain ⟨h1, h2⟩ := ofI_abv h (abv_isP ha).2
  have h3 := ofI_max (mem_abo.2 ⟨hi, ha⟩)
  rcases Nat.lt_or_ge i (ofI l s) with h' | h'
  · exact abv_order ha h2 (h.inc _ _ h' h1)
  · have : i = ofI l s := by omega
    rw [← this]
    exact abv_self (abv_isP ha).1
/-- Paths tell whose a path is. -/
theorem abo_paths {l m : List P} (h : l.map P.pa = m.map P.pa) (s : List UInt8) : abo l s = abo m s := by
  unfold abo
  have : ∀ (l m : List P) (k : Nat), l.map P.pa = m.map P.pa → ix (fun p => abv p.pa s) l k = ix (fun p => abv p.pa s) m k := by
    intro l
    induction l with
    | nil => intro m k h; cases m with
      | nil => rfl
      | cons b m => simp at h
    | cons a l ih => intro m k h; cases m with
      | nil => simp at h
      | cons b m =>
        simp only [List.map_cons, List.cons.injEq] at h
        simp only [ix, h.1, ih m (k + 1) h.2]
  exact this l m 0 h
theorem ofI_paths {l m : List P} (h : l.map P.pa = m.map P.pa) (s : List UInt8) : ofI l s = ofI m s := by
  unfold ofI; rw [abo_paths h]
theorem pat_paths {l m : List P} (h : l.map P.pa = m.map P.pa) (k : Nat) : pat l k = pat m k := by rw [pat_map, pat_map, h]
theorem len_paths {l m : List P} (h : l.map P.pa = m.map P.pa) : l.length = m.length := by have := congrArg List.length h; simpa using this
/-- What is put in. -/
theorem ins_lt {α : Type} {l : List α} {c k : Nat} {x : α} (hc : c ≤ l.length) (h : k < c) : (l.take c ++ x :: l.drop c)[k]? = l[k]? := by
  rw [List.getElem?_append_left (by simp; omega), List.getElem?_take, if_pos h]
theorem ins_eq {α : Type} {l : List α} {c : Nat} {x : α} (hc : c ≤ l.length) : (l.take c ++ x :: l.drop c)[c]? = some x := by
  rw [List.getElem?_append_right (by simp; omega)]
  simp [Nat.min_eq_left hc]
theorem ins_gt {α : Type} {l : List α} {c k : Nat} {x : α} (hc : c ≤ l.length) (h : c ≤ k) : (l.take c ++ x :: l.drop c)[k + 1]? = l[k]? := by
  rw [List.getElem?_append_right (by simp; omega)]
  simp only [List.length_take, Nat.min_eq_left hc]
  rw [show k + 1 - c = (k - c) + 1 by omega, List.getElem?_cons_succ, List.getElem?_drop]
  congr 1; omega
theorem del_lt {α : Type} {l : List α} {c k : Nat} (hc : c < l.length) (h : k < c) : (l.take c ++ l.drop (c + 1))[k]? = l[k]? := by
  rw [List.getElem?_append_left (by simp; omega), List.getElem?_take, if_pos h]
theorem del_ge {α : Type} {l : List α} {c k : Nat} (hc : c < l.length) (h : c ≤ k) : (l.take c ++ l.drop (c + 1))[k]? = l[k + 1]? := by
  rw [List.getElem?_append_right (by simp; omega)]
  simp only [List.length_take, Nat.min_eq_left (Nat.le_of_lt hc), List.getElem?_drop]
  congr 1; omega
/-- Where a piece stands behind a cut at a place. -/
def sh (c i : Nat) : Nat := if i < c then i else i + 1
theorem insP_sh {l : List P} {c i : Nat} {x : P} (hc : c ≤ l.length) : (insP l c x)[sh c i]? = l[i]? := by
  unfold insP sh
  split
  · exact ins_lt hc (by omega)
  · exact ins_gt hc (by omega)
theorem insP_at {l : List P} {c : Nat} {x : P} (hc : c ≤ l.length) : (insP l c x)[c]? = some x := ins_eq hc
theorem insP_len {l : List P} {c : Nat} {x : P} : (insP l c x).length = l.length + 1 := by
  unfold insP
  simp only [List.length_append, List.length_cons, List.length_take, List.length_drop]; omega
theorem delP_sh {l : List P} {c i : Nat} (hc : c < l.length) : (delP l c)[i]? = l[sh c i]? := by
  unfold delP sh
  split
  · exact del_lt hc (by omega)
  · exact del_ge hc (by omega)
theorem delP_len {l : List P} {c : Nat} (hc : c < l.length) : (delP l c).length + 1 = l.length := by
  unfold delP
  simp only [List.length_append, List.length_take, List.length_drop]; omega
theorem pat_get {l m : List P} {i j : Nat} (h : l[i]? = m[j]?) : pat l i = pat m j := by unfold pat; rw [h]
theorem unsh {c j : Nat} (h : j ≠ c) : ∃ i, j = sh c i := by
  unfold sh
  rcases Nat.lt_or_ge j c with h' | h'
  · exact ⟨j, by rw [if_pos h']⟩
  · exact ⟨j - 1, by rw [if_neg (by omega)]; omega⟩
theorem sh_mono {c i j : Nat} : sh c i ≤ sh c j ↔ i ≤ j := by unfold sh; split <;> split <;> omega
theorem sh_ne {c i : Nat} : sh c i ≠ c := by unfold sh; split <;> omega
theorem sh_lt {c i n : Nat} (hc : c ≤ n) : sh c i < n + 1 ↔ i < n := by unfold sh; split <;> omega
theorem setE_gt {l : List P} {i : Nat} (hi : i < l.length) (e : Int) (k : Nat) : (setE l i e)[k]? = if k = i then some ⟨l[i].pa, l[i].gr, e⟩ else l[k]? := by
  unfold setE
  rw [List.getElem?_eq_getElem hi]
  simp only [Option.elim_some]
  rw [List.getElem?_set]
  by_cases h : i = k
  · subst h; simp [hi]
  · rw [if_neg h, if_neg (fun e => h e.symm)]
theorem setM_gt {l : List P} {i : Nat} (hi : i < l.length) (g : Int) (k : Nat) : (setM l i g)[k]? = if k = i then some ⟨l[i].pa, g, l[i].ep + 1⟩ else l[k]? := by
  unfold setM
  rw [List.getElem?_eq_getElem hi]
  simp only [Option.elim_some]
  rw [List.getElem?_set]
  by_cases h : i = k
  · subst h; simp [hi]
  · rw [if_neg h, if_neg (fun e => h e.symm)]
/-- Behind a cut: whose a path is. -/
theorem of_cut {l : List P} (h : RightP l) {s : List UInt8} (hs : isP s = true) (hf : fnd l s = false) {q : List P} (hq : RightP q) (hqp : q.map P.pa = (l.map P.pa).take (cnt l s) ++ s :: (l.map P.pa).drop (cnt l s)) {o : List UInt8} (ho : isP o = true) :
    ofI q o = if abv s o = true ∧ ofI l o = ofI l s then cnt l s else sh (cnt l s) (ofI l o) := by
  have hc := cnt_le l s
  have hlen : q.length = l.length + 1 := by
    have := congrArg List.length hqp
    simp only [List.length_map, List.length_append, List.length_cons, List.length_take, List.length_drop] at this
    omega
  have hc' : cnt l s ≤ (l.map P.pa).length := by simpa using hc
  have psh : ∀ i, pat q (sh (cnt l s) i) = pat l i := by
    intro i
    rw [pat_map, pat_map, hqp]
    unfold sh
    split
    · rw [ins_lt hc' (by omega)]
    · rw [ins_gt hc' (by omega)]
  have pc : pat q (cnt l s) = s := by rw [pat_map, hqp, ins_eq hc']; rfl
  obtain ⟨a1, a2⟩ := ofI_abv h ho
  obtain ⟨w1, w2⟩ := ofI_abv h hs
  have hne : ∀ i, i < l.length → pat l i ≠ s := by
    intro i hi e
    have : plc l s ≠ -1 := by
      unfold plc
      cases hq : l.find? fun p => decide (p.pa = s) with
      | none =>
        rw [List.find?_eq_none] at hq
        rw [pat_of hi] at e
        exact absurd (decide_eq_true e) (by simpa using hq _ (List.getElem_mem hi))
      | some z => simp
    rw [plc_none h.inc hf] at this
    exact this rfl
  have wc : ofI l s < cnt l s := (cnt_iff h.inc s w1).2 (less_pre (abv_pre w2) (hne _ w1))
  have msh : ∀ i, sh (cnt l s) i ∈ abo q o ↔ i ∈ abo l o := by
    intro i
    rw [mem_abo, mem_abo, psh, hlen, sh_lt hc]
  by_cases hA : abv s o = true ∧ ofI l o = ofI l s
  · rw [if_pos hA]
    refine ofI_uniq (mem_abo.2 ⟨by omega, by rw [pc]; exact hA.1⟩) fun j hj => ?_
    by_cases hjc : j = cnt l s
    · omega
    · obtain ⟨i, rfl⟩ := unsh hjc
      have := ofI_max ((msh i).1 hj)
      have : i < cnt l s := by omega
      unfold sh
      rw [if_pos this]; omega
  · rw [if_neg hA]
    refine ofI_uniq ((msh _).2 (mem_abo.2 ⟨a1, a2⟩)) fun j hj => ?_
    by_cases hjc : j = cnt l s
    · subst hjc
      have hso : abv s o = true := by have := (mem_abo.1 hj).2; rwa [pc] at this
      rcases Nat.lt_or_ge (ofI l o) (cnt l s) with h' | h'
      · exfalso
        apply hA
        refine ⟨hso, ?_⟩
        have e1 := ofI_max (mem_abo.2 ⟨a1, abv_order a2 hso ((cnt_iff h.inc s a1).1 h')⟩)
        have e2 := ofI_max (mem_abo.2 ⟨w1, abv_trans w2 hso⟩)
        omega
      · unfold sh
        rw [if_neg (by omega)]; omega
    · obtain ⟨i, rfl⟩ := unsh hjc
      exact sh_mono.2 (ofI_max ((msh i).1 hj))
/-- What stands strictly above a path stands above the path to it. -/
theorem abv_up {a s : List UInt8} (h : abv a s = true) (hne : a ≠ s) : s ≠ [47] ∧ abv a (upP s) = true ∧ abv (upP s) s = true := by
  have hs := (abv_isP h).2
  have hs47 : s ≠ [47] := by
    rintro rfl
    exact hne (abv_anti h (by rw [abv_root]; exact (abv_isP h).1))
  refine ⟨hs47, ?_⟩
  obtain ⟨m, x, e1, e2, e3, e4, e5, e6⟩ := up_path hs hs47
  obtain ⟨S, k, h1, h2, h3⟩ := abv_iff.1 h
  rw [e1] at h1
  cases h1
  simp only [List.length_append, List.length_cons, List.length_nil] at h2
  have hk : k ≤ m.length := by
    rcases Nat.lt_or_ge m.length k with h' | h'
    · exfalso
      have : k = (m ++ [x]).length := by simp; omega
      rw [this, List.take_length] at h3
      exact hne (h3.trans (split_some e1).1)
    · exact h'
  rw [e3]
  refine ⟨abv_iff.2 ⟨m, k, split_jn (by omega) e5, hk, ?_⟩, abv_iff.2 ⟨m ++ [x], m.length, e1, by simp, by simp⟩⟩
  rw [h3, List.take_append_of_le_length hk]
/-- Behind a join: whose a path is. -/
theorem of_join {l : List P} (h : RightP l) {s : List UInt8} (hs : isP s = true) (hf : fnd l s = true) (hc0 : cnt l s ≠ 0) {q : List P} (hqp : q.map P.pa = (l.map P.pa).take (cnt l s) ++ (l.map P.pa).drop (cnt l s + 1)) {o : List UInt8} (ho : isP o = true) :
    ofI l (upP s) < cnt l s ∧ (ofI l o = cnt l s → ofI q o = ofI l (upP s)) ∧ (ofI l o ≠ cnt l s → sh (cnt l s) (ofI q o) = ofI l o) := by
  obtain ⟨hc, hp⟩ := fnd_pat hf
  have hlen : q.length + 1 = l.length := by
    have := congrArg List.length hqp
    simp only [List.length_map, List.length_append, List.length_take, List.length_drop] at this
    omega
  have hc' : cnt l s < (l.map P.pa).length := by simpa using hc
  have psh : ∀ i, pat q i = pat l (sh (cnt l s) i) := by
    intro i
    rw [pat_map, pat_map, hqp]
    unfold sh
    split
    · rw [del_lt hc' (by omega)]
    · rw [del_ge hc' (by omega)]
  have hs47 : s ≠ [47] := fun e => hc0 ((h.root_of hf).2 e)
  have hr : abv [47] s = true := by rw [abv_root]; exact hs
  obtain ⟨_, u1, u2⟩ := abv_up hr (fun e => hs47 e.symm)
  have hup : isP (upP s) = true := (abv_isP u2).1
  obtain ⟨w1, w2⟩ := ofI_abv h hup
  obtain ⟨a1, a2⟩ := ofI_abv h ho
  have ws : abv (pat l (ofI l (upP s))) s = true := abv_trans w2 u2
  have wne : pat l (ofI l (upP s)) ≠ s := by
    intro e
    rw [e] at w2
    have := abv_anti w2 u2
    obtain ⟨m, x, e1, e2, e3, e4, e5, e6⟩ := up_path hs hs47
    have hh := this
    rw [e3] at hh
    rw [hh, split_jn (by omega) e5] at e1
    have := congrArg (Option.map List.length) e1
    simp at this
  have wc : ofI l (upP s) < cnt l s := (cnt_iff h.inc s w1).2 (less_pre (abv_pre ws) wne)
  have msh : ∀ i, i ∈ abo q o ↔ sh (cnt l s) i ∈ abo l o := by
    intro i
    rw [mem_abo, mem_abo, psh, ← hlen, sh_lt (by omega)]
  refine ⟨wc, fun e => ?_, fun e => ?_⟩
  · rw [e, hp] at a2
    have s1 : sh (cnt l s) (ofI l (upP s)) = ofI l (upP s) := by unfold sh; rw [if_pos wc]
    refine ofI_uniq ((msh _).2 (by rw [s1]; exact mem_abo.2 ⟨w1, abv_trans ws a2⟩)) fun j hj => ?_
    have hj' := (msh j).1 hj
    have hm := ofI_max hj'
    rw [e] at hm
    have hlt : sh (cnt l s) j < cnt l s := by have := sh_ne (c := cnt l s) (i := j); omega
    have hjj : sh (cnt l s) j = j := by
      unfold sh at hlt ⊢
      split
      · rfl
      · rw [if_neg (by assumption)] at hlt; omega
    rw [hjj] at hj' hlt
    obtain ⟨j1, j2⟩ := mem_abo.1 hj'
    have j3 := (cnt_iff h.inc s j1).1 hlt
    have j4 := abv_order j2 a2 j3
    exact ofI_max (mem_abo.2 ⟨j1, (abv_up j4 (less_ne j3)).2.1⟩)
  · obtain ⟨i, hi⟩ := unsh e
    have : ofI q o = i := by
      refine ofI_uniq ((msh _).2 (by rw [← hi]; exact mem_abo.2 ⟨a1, a2⟩)) fun j hj => ?_
      have := ofI_max ((msh j).1 hj)
      rw [hi] at this
      exact sh_mono.1 this
    rw [this, hi]
end Go.Proofs.Ytlooipgkklaijaa
