import Derived.Test.YtjblbmcgpdmahaaC16
set_option linter.unusedSimpArgs false
set_option linter.unusedVariables false
namespace Go.Proofs.Ytjblbmcgpdmahaa
open Go.Am Go.Am.Pr

/-! Peers. -/
abbrev PS := (Bool × List Int × Int) × Int
def pg (s : PS) (e : En) : PS := ((ofE e).elim s.1 fun q => (false, q, s.2 + 1), s.2 + 1)
def peersS (b : Ba) (l : List En) : PS := l.foldl pg ((b.fp, b.ps, 0), b.many)
def psV (q : Bool × List Int × Int) : AV := .tup [.lst q.1 (q.2.1.map I), .int .i64 q.2.2]
theorem pg_snd (l : List En) : ∀ s : PS, (l.foldl pg s).2 = s.2 + l.length := by
  induction l with
  | nil => intro s; simp
  | cons e l ih => intro s; rw [List.foldl_cons, ih]; simp only [pg, List.length_cons]; omega
theorem peers_go {b : Ba} {l : List En} (hb : GB b) (hl : GL l) : ∀ k, k ≤ l.length → prGo (Pr.CPr.tab Pr.NPr) 25 b.many (.lst b.fp (b.ps.map I)) (l.map E) k = some (psV (peersS b (l.take k)).1)
  | 0, _ => by simp [prGo, peersS, psV]
  | k + 1, hk => by
    have hkl : k < l.length := by omega
    have hle := hl.len
    have h1 := hb.lo
    have h2 := hb.hi
    have h25 := s25p l[k] (hl.da _ (List.getElem_mem hkl))
    have hge : (l.map E)[k]? = some (E l[k]) := by simp [hkl]
    have ht : l.take (k + 1) = l.take k ++ [l[k]] := List.take_succ_eq_append_getElem hkl
    have hs2 : (peersS b (l.take k)).2 = b.many + (k : Int) := by
      unfold peersS
      rw [pg_snd]
      simp only [List.length_take]
      omega
    have hst : peersS b (l.take (k + 1)) = pg (peersS b (l.take k)) l[k] := by
      unfold peersS
      rw [ht, List.foldl_append]; rfl
    rw [hst, prGo, hge]
    simp only [h25]
    unfold ofV
    cases ho : ofE l[k] with
    | none =>
      simp only [Option.elim_none, Bool.false_eq_true, if_false]
      rw [peers_go hb hl k (by omega)]
      simp only [pg, ho, Option.elim_none]
    | some q =>
      simp only [Option.elim_some, if_true]
      simp only [pg, ho, Option.elim_some, psV, hs2]
      rw [wrap_of (n := b.many + (k : Int)) (by omega) (by omega), wrap_of (by omega) (by omega)]
theorem entB_E (e : En) : entB (E e) = true := by simp [entB]
/-- member.Peers -/
theorem s12 {n : Nat} (hn : 0 < n) (b : Ba) (hb : GB b) (l : List En) (hl : GL l) (f : Bool) : (C16.tab n).p 12 [Bs b, .lst f (l.map E)] = some (psV (peersS b l).1) := by
  rw [p12 hn]
  have hle := hl.len
  have hall : (l.map E).all entB = true := by
    rw [List.all_eq_true]
    intro y hy
    obtain ⟨e, _, rfl⟩ := List.mem_map.1 hy
    exact entB_E e
  have := peers_go hb hl l.length (Nat.le_refl _)
  rw [List.take_length] at this
  simp only [Bs, peersY]
  rw [if_pos ⟨by simp; omega, hall⟩, List.length_map]
  exact this
theorem l13 {n : Nat} (hn : 36 < n) (b : Ba) (hb : GB b) (l : List En) (hl : GL l) (f : Bool) (e0 : Env) (h1 : e0 1 = .lst f (l.map E)) (h2 : e0 2 = .rptr [.int .i64 b.many, .int .i64 b.term, .lst b.fp (b.ps.map I), .lst b.fd (b.da.map B)]) :
    iter (round (C16.tab n) [6, 7, 8] [(.exit 0, [6, 7])] c13_1 e0 0 []) ([.lst b.fp (b.ps.map I), .int .i64 0, .int .i64 0], []) = some (.exit 0, [.lst (peersS b l).1.1 ((peersS b l).1.2.1.map I), .int .i64 (peersS b l).1.2.2], []) := by
  have hle := hl.len
  have hlo := hb.lo
  have hhi := hb.hi
  have := for_list (f := round (C16.tab n) [6, 7, 8] [(.exit 0, [6, 7])] c13_1 e0 0 []) (fun i (s : PS) => ([.lst s.1.1 (s.1.2.1.map I), .int .i64 s.1.2.2, .int .i64 (i : Int)], [])) l pg (fun s => (.exit 0, [.lst s.1.1 (s.1.2.1.map I), .int .i64 s.1.2.2], [])) (fun i s => s.2 = b.many + i)
    (fun i hi s hs => by
      obtain ⟨x, hx⟩ : ∃ x, x = l[i] := ⟨_, rfl⟩
      have h26 := s26 (n := n) hn x (by rw [hx]; exact hl.da _ (List.getElem_mem hi))
      rw [← hx]
      refine ⟨by simp only [pg]; omega, ?_⟩
      simp only [E] at h26
      unfold pg
      unfold ofV at h26
      cases ho : ofE x with
      | none =>
        rw [ho] at h26
        simp only [Option.elim_none] at h26
        simp -implicitDefEqProofs (disch := omega) [wrap_of, ilt_t, ilt_f, ile_t, ile_f, nlt_t, nlt_f, nle_t, nle_f, ieq_t, ieq_f, imin_l, imin_r, imax_l, imax_r, take_app1, take_map_all, round_eq, b13_1, h1, h2, hi, ← hx, a26, h26]
      | some q =>
        rw [ho] at h26
        simp only [Option.elim_some] at h26
        simp -implicitDefEqProofs (disch := omega) [wrap_of, ilt_t, ilt_f, ile_t, ile_f, nlt_t, nlt_f, nle_t, nle_f, ieq_t, ieq_f, imin_l, imin_r, imax_l, imax_r, take_app1, take_map_all, round_eq, b13_1, h1, h2, hi, ← hx, a26, h26, hs])
    (fun s hs => by simp -implicitDefEqProofs (disch := omega) [wrap_of, ilt_t, ilt_f, ile_t, ile_f, nlt_t, nlt_f, nle_t, nle_f, ieq_t, ieq_f, imin_l, imin_r, imax_l, imax_r, take_app1, take_map_all, round_eq, b13_1, h1]) ((b.fp, b.ps, 0), b.many) (by simp)
  simp only [Int.natCast_zero] at this
  exact this
theorem s13 {n : Nat} (hn : 37 < n) (b : Ba) (hb : GB b) (l : List En) (hl : GL l) (f : Bool) : (C16.tab n).p 13 [Bs b, .lst f (l.map E)] = some (psV (peersS b l).1) := by
  rw [p13 hn, runP_eq, runH_eq]
  unfold psV
  simp -implicitDefEqProofs (disch := omega) [wrap_of, ilt_t, ilt_f, ile_t, ile_f, nlt_t, nlt_f, nle_t, nle_f, ieq_t, ieq_f, imin_l, imin_r, imax_l, imax_r, take_app1, take_map_all, c13]
  rw [l13 (by decide) b hb l hl f _ (by simp -implicitDefEqProofs (disch := omega) [wrap_of, ilt_t, ilt_f, ile_t, ile_f, nlt_t, nlt_f, nle_t, nle_f, ieq_t, ieq_f, imin_l, imin_r, imax_l, imax_r, take_app1, take_map_all, ]) (by simp -implicitDefEqProofs (disch := omega) [wrap_of, ilt_t, ilt_f, ile_t, ile_f, nlt_t, nlt_f, nle_t, nle_f, ieq_t, ieq_f, imin_l, imin_r, imax_l, imax_r, take_app1, take_map_all, ])]
  simp -implicitDefEqProofs (disch := omega) [wrap_of, ilt_t, ilt_f, ile_t, ile_f, nlt_t, nlt_f, nle_t, nle_f, ieq_t, ieq_f, imin_l, imin_r, imax_l, imax_r, take_app1, take_map_all, ]

/-! Put. -/
/-- How many agree. -/
def agr : List En → List En → Nat
  | a :: l, b :: m => if core a = core b then agr l m + 1 else 0
  | _, _ => 0
def putL (l : List En) (p : Nat) (more : List En) : List En := if agr (l.drop p) more < more.length then l.take (p + agr (l.drop p) more) ++ more.drop (agr (l.drop p) more) else l
def putP (l : List En) (at_ t : Int) (more : List En) : Option (List En) := if fits13 l at_ t = true ∧ (putL l at_.toNat more).length ≤ 500 then some (putL l at_.toNat more) else none
def putV (o : Option (List En)) : AV := o.elim (.tup [.lst true [], .bool false]) fun m => .tup [.lst false (m.map E), .bool true]
theorem agr_le : ∀ (l m : List En), agr l m ≤ l.length ∧ agr l m ≤ m.length
  | [], m => by simp [agr]
  | _ :: _, [] => by simp [agr]
  | a :: l, b :: m => by
    have := agr_le l m
    simp only [agr]
    split <;> simp <;> omega
def same (l : List En) (p : Nat) (more : List En) (i : Nat) : Bool := match l[p + i]?, more[i]? with
  | some a, some b => decide (core a = core b)
  | _, _ => false
theorem agr_find : ∀ (more l : List En) (k : Nat) (big bigm : List En) (p : Nat), l = big.drop (p + k) → more = bigm.drop k →
    ((List.range' k more.length).find? fun i => !same big p bigm i) = if agr l more < more.length then some (k + agr l more) else none
  | [], l, k, big, bigm, p, _, _ => by simp
  | b :: more, l, k, big, bigm, p, hl, hm => by
    have hb : bigm[k]? = some b := by
      have := congrArg (fun x : List En => x[0]?) hm
      simpa using this.symm
    have hmd : more = bigm.drop (k + 1) := by
      have := congrArg List.tail hm
      simpa [List.tail_drop] using this
    cases l with
    | nil =>
      have hn : big[p + k]? = none := by
        have := congrArg (fun x : List En => x[0]?) hl
        simpa using this.symm
      have hs : same big p bigm k = false := by unfold same; rw [hn]
      simp [List.range'_succ, hs, agr]
    | cons a l =>
      have ha : big[p + k]? = some a := by
        have := congrArg (fun x : List En => x[0]?) hl
        simpa using this.symm
      have hld : l = big.drop (p + (k + 1)) := by
        have := congrArg List.tail hl
        simpa [List.tail_drop, Nat.add_assoc] using this
      have hs : same big p bigm k = decide (core a = core b) := by unfold same; rw [ha, hb]
      have e1 : (List.range' k (b :: more).length).find? (fun i => !same big p bigm i) = if core a = core b then (List.range' (k + 1) more.length).find? (fun i => !same big p bigm i) else some k := by
        rw [List.length_cons, List.range'_succ, List.find?_cons, hs]
        by_cases hc : core a = core b
        · rw [decide_eq_true hc, if_pos hc]; rfl
        · rw [decide_eq_false hc, if_neg hc]; rfl
      have e2 : agr (a :: l) (b :: more) = if core a = core b then agr l more + 1 else 0 := rfl
      rw [e1, e2, List.length_cons]
      by_cases hc : core a = core b
      · rw [if_pos hc, if_pos hc, agr_find more l (k + 1) big bigm p hld hmd]
        by_cases hlt : agr l more < more.length
        · rw [if_pos hlt, if_pos (by omega)]; congr 1; omega
        · rw [if_neg hlt, if_neg (by omega)]
      · rw [if_neg hc, if_neg hc, if_pos (by omega)]; rfl
theorem find_agr (l more : List En) (p : Nat) : ((List.range more.length).find? fun i => !same l p more i) = if agr (l.drop p) more < more.length then some (agr (l.drop p) more) else none := by
  have := agr_find more (l.drop p) 0 l more p (by simp) (by simp)
  rw [List.range_eq_range', this]
  simp
end Go.Proofs.Ytjblbmcgpdmahaa
