import Derived.Test.YtldgegojhaamoaaE24
set_option linter.unusedSimpArgs false
set_option linter.unusedVariables false
namespace Go.Proofs.Ytldgegojhaamoaa
open Go.Am

/-- Where a file stands, or would stand. -/
def at_ (l : List Stored) (ino : Int) : Nat := (l.takeWhile fun x => decide (x.ino < ino)).length
theorem at_le (l : List Stored) (ino : Int) : at_ l ino ≤ l.length := by
  unfold at_
  exact (List.takeWhile_sublist _).length_le
def there (l : List Stored) (ino : Int) : Bool := match l[at_ l ino]? with
  | some x => decide (x.ino = ino)
  | none => false
def placeL (l : List Stored) (ino : Int) : List Stored := if there l ino = true then l else l.take (at_ l ino) ++ ⟨ino, 0, true, []⟩ :: l.drop (at_ l ino)
theorem l37 {n : Nat} (l : List Stored) (hl : l.length ≤ 1000000000) (f : Bool) (ino : Int) (X : AH) (hX : X.all plainB = true) (e0 : Env) (h0 : e0 0 = .lst f (l.map S)) (h1 : e0 1 = .int .i64 ino) :
    iter (round (C24.tab n) [6] [(.exit 0, [6])] c37_1 e0 X.length []) ([.int .i64 0], X) = some (.exit 0, [.int .i64 (at_ l ino)], X) := by
  have := for_listE (f := round (C24.tab n) [6] [(.exit 0, [6])] c37_1 e0 X.length []) (fun i (s : Nat) => ([.int .i64 i], X)) l
    (fun s x => if x.ino < ino then .inl (s + 1) else .inr (.exit 0, [.int .i64 s], X)) (fun s => (.exit 0, [.int .i64 s], X)) (fun i s => s = i)
    (fun i hi s hs => by
      subst hs
      by_cases h : l[s].ino < ino
      · rw [if_pos h]
        refine ⟨rfl, ?_⟩
        simp -implicitDefEqProofs (disch := omega) [wrap_of, ilt_t, ilt_f, ile_t, ile_f, nlt_t, nlt_f, nle_t, nle_f, ieq_t, ieq_f, imin_l, imin_r, imax_l, imax_r, take_app1, take_map_all, round_eq, b37_1, h0, h1, hi, h, normH_plain _ _ X _ hX]
      · rw [if_neg h]
        simp -implicitDefEqProofs (disch := omega) [wrap_of, ilt_t, ilt_f, ile_t, ile_f, nlt_t, nlt_f, nle_t, nle_f, ieq_t, ieq_f, imin_l, imin_r, imax_l, imax_r, take_app1, take_map_all, round_eq, b37_1, h0, h1, hi, h, normH_plain _ _ X _ hX])
    (fun s hs => by
      subst hs
      simp -implicitDefEqProofs (disch := omega) [wrap_of, ilt_t, ilt_f, ile_t, ile_f, nlt_t, nlt_f, nle_t, nle_f, ieq_t, ieq_f, imin_l, imin_r, imax_l, imax_r, take_app1, take_map_all, round_eq, b37_1, h0, normH_plain _ _ X _ hX]) 0 rfl
  simp only [Int.natCast_zero] at this
  rw [this]
  have e : ∀ (l : List Stored) (k : Nat), (match foldE (fun (s : Nat) (x : Stored) => if x.ino < ino then Sum.inl (s + 1) else Sum.inr ((AX.exit 0, [AV.int .i64 s], X) : AX × List AV × AH)) l k with | .inl s' => ((AX.exit 0, [AV.int .i64 (s' : Int)], X) : AX × List AV × AH) | .inr y => y) = (.exit 0, [.int .i64 ((k + at_ l ino : Nat) : Int)], X) := by
    intro l
    induction l with
    | nil => intro k; simp [foldE, at_]
    | cons x l ih =>
      intro k
      simp only [foldE]
      by_cases h : x.ino < ino
      · rw [if_pos h]
        simp only
        rw [ih]
        have : at_ (x :: l) ino = at_ l ino + 1 := by simp [at_, h]
        rw [this, show k + 1 + at_ l ino = k + (at_ l ino + 1) by omega]
      · rw [if_neg h]
        have : at_ (x :: l) ino = 0 := by simp [at_, h]
        rw [this]; rfl
  have e' := e l 0
  rw [Nat.zero_add] at e'
  refine Eq.trans ?_ (congrArg some e')
  cases foldE (fun (s : Nat) (x : Stored) => if x.ino < ino then Sum.inl (s + 1) else Sum.inr ((AX.exit 0, [AV.int .i64 s], X) : AX × List AV × AH)) l 0 <;> rfl
/-- write.place -/
theorem s37 {n : Nat} (hn : 13 < n) (l : List Stored) (hl : l.length ≤ 1000000000) (f : Bool) (ino : Int) (X : AH) (hX : X.all plainB = true) :
    callA (C24.tab n) 37 [.lst f (l.map S), .int .i64 ino] X = some (.tup [.own X.length (if there l ino = true then 0 else 1) 0 (placeL l ino).length, .int .i64 (at_ l ino)], X ++ [.row (if there l ino = true then 0 else 1) 3 ((placeL l ino).map S)]) := by
  rw [p37 hn, runH_eq]
  simp -implicitDefEqProofs (disch := omega) [wrap_of, ilt_t, ilt_f, ile_t, ile_f, nlt_t, nlt_f, nle_t, nle_f, ieq_t, ieq_f, imin_l, imin_r, imax_l, imax_r, take_app1, take_map_all, c37, normH_plain _ _ X _ hX]
  rw [l37 l hl f ino X hX _ (by simp -implicitDefEqProofs (disch := omega) [wrap_of, ilt_t, ilt_f, ile_t, ile_f, nlt_t, nlt_f, nle_t, nle_f, ieq_t, ieq_f, imin_l, imin_r, imax_l, imax_r, take_app1, take_map_all, ]) (by simp -implicitDefEqProofs (disch := omega) [wrap_of, ilt_t, ilt_f, ile_t, ile_f, nlt_t, nlt_f, nle_t, nle_f, ieq_t, ieq_f, imin_l, imin_r, imax_l, imax_r, take_app1, take_map_all, ])]
  have hat := at_le l ino
  by_cases hi : at_ l ino < l.length
  · have hx : l[at_ l ino]? = some l[at_ l ino] := List.getElem?_eq_getElem hi
    by_cases h : l[at_ l ino].ino = ino
    · have ht : there l ino = true := by unfold there; rw [hx]; simpa using h
      unfold placeL
      simp -implicitDefEqProofs (disch := omega) [wrap_of, ilt_t, ilt_f, ile_t, ile_f, nlt_t, nlt_f, nle_t, nle_f, ieq_t, ieq_f, imin_l, imin_r, imax_l, imax_r, take_app1, take_map_all, ht, hi, h, p39]
    · have ht : there l ino = false := by unfold there; rw [hx]; simpa using h
      unfold placeL
      simp -implicitDefEqProofs (disch := omega) [wrap_of, ilt_t, ilt_f, ile_t, ile_f, nlt_t, nlt_f, nle_t, nle_f, ieq_t, ieq_f, imin_l, imin_r, imax_l, imax_r, take_app1, take_map_all, ht, hi, h, p39, p40, insertH]
      omega
  · have he : at_ l ino = l.length := by omega
    have ht : there l ino = false := by unfold there; rw [he]; simp
    unfold placeL
    simp -implicitDefEqProofs (disch := omega) [wrap_of, ilt_t, ilt_f, ile_t, ile_f, nlt_t, nlt_f, nle_t, nle_f, ieq_t, ieq_f, imin_l, imin_r, imax_l, imax_r, take_app1, take_map_all, ht, he, p39, p40, insertH]

theorem placeL_length (l : List Stored) (ino : Int) : at_ l ino < (placeL l ino).length ∧ (placeL l ino).length ≤ l.length + 1 := by
  have := at_le l ino
  unfold placeL
  by_cases h : there l ino = true
  · rw [if_pos h]
    unfold there at h
    refine ⟨?_, by omega⟩
    by_cases hi : at_ l ino < l.length
    · exact hi
    · rw [List.getElem?_eq_none (by omega)] at h; cases h
  · rw [if_neg h]; simp; omega
/-- write.Take -/
def takeW (l : List Stored) (d : Dirty) (ep : Int) : List Stored × Int := match (placeL l d.ino)[at_ l d.ino]? with
  | some x => if ep < x.ep then (l, 240) else ((placeL l d.ino).set (at_ l d.ino) ⟨x.ino, ep, false, layD x.dat d⟩, 0)
  | none => (l, 240)
def takeF (l : List Stored) (d : Dirty) (ep : Int) (f : Bool) : Bool := match (placeL l d.ino)[at_ l d.ino]? with
  | some x => if ep < x.ep then f else false
  | none => false
theorem place_good {l : List Stored} (hg : ∀ x ∈ l, GoodS x) (ino : Int) : ∀ x ∈ placeL l ino, GoodS x := by
  unfold placeL
  split
  · exact hg
  · intro x hx
    simp only [List.mem_append, List.mem_cons] at hx
    rcases hx with hx | rfl | hx
    · exact hg x (List.mem_of_mem_take hx)
    · simp [GoodS]
    · exact hg x (List.mem_of_mem_drop hx)
theorem s21 {n : Nat} (hn : 14 < n) (l : List Stored) (hl : l.length ≤ 1000000) (hg : ∀ x ∈ l, GoodS x) (f : Bool) (d : Dirty) (hd : Right d) (ep : Int) :
    (C24.tab n).p 21 [.lst f (l.map S), D d, .int .i64 ep] = some (.tup [.lst (takeF l d ep f) ((takeW l d ep).1.map S), .int .i64 (takeW l d ep).2]) := by
  rw [p21 hn, runP_eq, runH_eq]
  obtain ⟨h1, h2⟩ := placeL_length l d.ino
  have h37 := s37 (n := 14) (by omega) l (by omega) f d.ino [.var [.int .i64 d.ino, .int .i64 d.frm, .lst d.fl (d.dat.map B)]] (by simp [plainB])
  have hx : (placeL l d.ino)[at_ l d.ino]? = some (placeL l d.ino)[at_ l d.ino] := List.getElem?_eq_getElem h1
  have hgx := place_good hg d.ino _ (List.getElem_mem h1)
  unfold takeW takeF
  rw [hx]
  obtain ⟨x, hxx⟩ : ∃ x, x = (placeL l d.ino)[at_ l d.ino] := ⟨_, rfl⟩
  rw [← hxx] at hgx ⊢
  unfold GoodS at hgx
  have h30 := s30 (n := 14) (by omega) x.dat [d] x.fl true (by omega) (by simp) (by intro y hy; simp only [List.mem_singleton] at hy; subst hy; exact hd.good)
  simp only [List.map_cons, List.map_nil, D] at h30
  generalize (if there l d.ino = true then (0 : Nat) else 1) = v at h37
  simp only [List.length_singleton, List.cons_append, List.nil_append] at h37
  by_cases h : ep < x.ep
  · simp -implicitDefEqProofs (disch := omega) [wrap_of, ilt_t, ilt_f, ile_t, ile_f, nlt_t, nlt_f, nle_t, nle_f, ieq_t, ieq_f, imin_l, imin_r, imax_l, imax_r, take_app1, take_map_all, c21, h37, h1, ← hxx, h]
  · have hset : ∀ v, (((placeL l d.ino).map S).set (at_ l d.ino) v)[at_ l d.ino]? = some v := fun v => by rw [List.getElem?_set_self (by simpa using h1)]
    simp -implicitDefEqProofs (disch := omega) [wrap_of, ilt_t, ilt_f, ile_t, ile_f, nlt_t, nlt_f, nle_t, nle_f, ieq_t, ieq_f, imin_l, imin_r, imax_l, imax_r, take_app1, take_map_all, c21, h37, h1, ← hxx, h, a30, h30, hset]
    exact List.take_of_length_le (by simp)

/-- write.Raise -/
def raiseW (l : List Stored) (ino ep : Int) : List Stored := match (placeL l ino)[at_ l ino]? with
  | some x => (placeL l ino).set (at_ l ino) ⟨x.ino, max x.ep ep, x.fl, x.dat⟩
  | none => l
theorem s24 {n : Nat} (hn : 16 < n) (l : List Stored) (hl : l.length ≤ 1000000) (f : Bool) (ino ep : Int) :
    (C24.tab n).p 24 [.lst f (l.map S), .int .i64 ino, .int .i64 ep] = some (.lst false ((raiseW l ino ep).map S)) := by
  rw [p24 hn, runP_eq, runH_eq]
  obtain ⟨h1, h2⟩ := placeL_length l ino
  have h37 := s37 (n := 16) (by omega) l (by omega) f ino [] (by simp [plainB])
  have hx : (placeL l ino)[at_ l ino]? = some (placeL l ino)[at_ l ino] := List.getElem?_eq_getElem h1
  unfold raiseW
  rw [hx]
  obtain ⟨x, hxx⟩ : ∃ x, x = (placeL l ino)[at_ l ino] := ⟨_, rfl⟩
  rw [← hxx]
  generalize (if there l ino = true then (0 : Nat) else 1) = v at h37
  simp only [List.length_nil, List.nil_append] at h37
  simp -implicitDefEqProofs (disch := omega) [wrap_of, ilt_t, ilt_f, ile_t, ile_f, nlt_t, nlt_f, nle_t, nle_f, ieq_t, ieq_f, imin_l, imin_r, imax_l, imax_r, take_app1, take_map_all, c24, h37, h1, ← hxx]
  rw [List.take_of_length_le (by simp)]
theorem layR_right {es : List Int} {d : Dirty} (hd : Right d) : layR es d.frm d.dat = (.lst false ((layD es d).map B), 0) := by
  have d0 := hd.h0
  have d1 := hd.h1
  have d2 := hd.h2
  unfold layR
  rw [if_neg (by omega), if_neg (by omega)]
  rfl
/-- catacomblaw24.back -/
def backG (ino : Int) : Nat → (Bool × List Int) × List Dirty → (Bool × List Int) × List Dirty
  | 0, s => s
  | _ + 1, (s, []) => (s, [])
  | n + 1, (s, d :: l) => backG ino n (if d.ino = ino then (false, layD s.2 d) else s, l)
theorem l27 {n : Nat} (hn : 3 < n) (k : Nat) (hk : k ≤ 1000000) (ino : Int) (e0 : Env) (h1 : e0 1 = .int .i64 ino) (h3 : e0 3 = .int .i64 k) (fl : Bool) : ∀ (m i : Nat) (s : Bool × List Int) (l : List Dirty), k = i + m → (∀ d ∈ l, Right d) → s.2.length ≤ 1099511627776 →
    iter (round (C24.tab n) [10, 11, 12] [(.exit 0, [10, 11]), (.ret, [8, 9])] c27_1 e0 0 []) ([.lst s.1 (s.2.map B), .lst fl (l.map D), .int .i64 i], []) =
      some (if l.length < m then .ret else .exit 0, [.lst (backG ino m (s, l)).1.1 ((backG ino m (s, l)).1.2.map B), .lst fl ((backG ino m (s, l)).2.map D)], if l.length < m then [.var [.int .i64 0, .int .i64 0, .lst true []]] else [])
  | 0, i, s, l, hk, hg, he => by
    rw [iter_eq, round_eq]
    simp -implicitDefEqProofs (disch := omega) [wrap_of, ilt_t, ilt_f, ile_t, ile_f, nlt_t, nlt_f, nle_t, nle_f, ieq_t, ieq_f, imin_l, imin_r, imax_l, imax_r, take_app1, take_map_all, b27_1, h3, backG]
  | m + 1, i, s, [], hk, hg, he => by
    have h13 := s13_nil hn fl
    simp only [D] at h13
    rw [iter_eq, round_eq]
    simp -implicitDefEqProofs (disch := omega) [wrap_of, ilt_t, ilt_f, ile_t, ile_f, nlt_t, nlt_f, nle_t, nle_f, ieq_t, ieq_f, imin_l, imin_r, imax_l, imax_r, take_app1, take_map_all, b27_1, h3, backG, a13, h13]
  | m + 1, i, s, d :: l, hk, hg, he => by
    have hd := hg d (by simp)
    have ih := l27 hn k (by omega) ino e0 h1 h3 fl m (i + 1) (if d.ino = ino then (false, layD s.2 d) else s) l (by omega) (fun x hx => hg x (by simp [hx])) (by split; exact layD_le hd.good he; exact he)
    have h13 := s13_cons hn fl d l
    simp only [D, List.map_cons] at h13
    have d0 := hd.h0
    have d1 := hd.h1
    have d2 := hd.h2
    have h11 := s11 (n := n) (by omega) s.2 d.dat s.1 d.fl d.frm he (by omega) (by omega)
    rw [layR_right hd] at h11
    by_cases h : d.ino = ino
    · rw [if_pos h] at ih
      simp only [h] at h13
      have e : round (C24.tab n) [10, 11, 12] [(.exit 0, [10, 11]), (.ret, [8, 9])] c27_1 e0 0 [] ([.lst s.1 (s.2.map B), .lst fl ((d :: l).map D), .int .i64 i], []) = some (.inl ([.lst false ((layD s.2 d).map B), .lst fl (l.map D), .int .i64 ((i + 1 : Nat) : Int)], [])) := by
        rw [round_eq]
        simp -implicitDefEqProofs (disch := omega) [wrap_of, ilt_t, ilt_f, ile_t, ile_f, nlt_t, nlt_f, nle_t, nle_f, ieq_t, ieq_f, imin_l, imin_r, imax_l, imax_r, take_app1, take_map_all, b27_1, h1, h3, a13, h13, h, a11, h11]
      rw [iter_eq, e]
      simp only
      rw [ih]
      simp [backG, h]
    · rw [if_neg h] at ih
      have e : round (C24.tab n) [10, 11, 12] [(.exit 0, [10, 11]), (.ret, [8, 9])] c27_1 e0 0 [] ([.lst s.1 (s.2.map B), .lst fl ((d :: l).map D), .int .i64 i], []) = some (.inl ([.lst s.1 (s.2.map B), .lst fl (l.map D), .int .i64 ((i + 1 : Nat) : Int)], [])) := by
        rw [round_eq]
        simp -implicitDefEqProofs (disch := omega) [wrap_of, ilt_t, ilt_f, ile_t, ile_f, nlt_t, nlt_f, nle_t, nle_f, ieq_t, ieq_f, imin_l, imin_r, imax_l, imax_r, take_app1, take_map_all, b27_1, h1, h3, a13, h13, h]
      rw [iter_eq, e]
      simp only
      rw [ih]
      simp [backG, h]
theorem s27 {n : Nat} (hn : 34 < n) (k : Nat) (hk : k ≤ 1000000) (ino : Int) (f g : Bool) (l : List Dirty) (es : List Int) (hg : ∀ d ∈ l, Right d) (he : es.length ≤ 1099511627776) :
    (C24.tab n).p 27 [.lst f (l.map D), .int .i64 ino, .lst g (es.map B), .int .i64 k] = some (.tup [.lst (backG ino k ((g, es), l)).1.1 ((backG ino k ((g, es), l)).1.2.map B), .lst f ((backG ino k ((g, es), l)).2.map D)]) := by
  rw [p27 hn, runP_eq, runH_eq]
  simp -implicitDefEqProofs (disch := omega) [wrap_of, ilt_t, ilt_f, ile_t, ile_f, nlt_t, nlt_f, nle_t, nle_f, ieq_t, ieq_f, imin_l, imin_r, imax_l, imax_r, take_app1, take_map_all, c27]
  have h := fun e0 h1 h3 => l27 (n := 34) (by omega) k hk ino e0 h1 h3 f k 0 (g, es) l (by omega) hg he
  simp only [Int.natCast_zero] at h
  rw [h _ (by simp -implicitDefEqProofs (disch := omega) [wrap_of, ilt_t, ilt_f, ile_t, ile_f, nlt_t, nlt_f, nle_t, nle_f, ieq_t, ieq_f, imin_l, imin_r, imax_l, imax_r, take_app1, take_map_all, ]) (by simp -implicitDefEqProofs (disch := omega) [wrap_of, ilt_t, ilt_f, ile_t, ile_f, nlt_t, nlt_f, nle_t, nle_f, ieq_t, ieq_f, imin_l, imin_r, imax_l, imax_r, take_app1, take_map_all, ])]
  by_cases hlt : l.length < k <;> simp -implicitDefEqProofs (disch := omega) [wrap_of, ilt_t, ilt_f, ile_t, ile_f, nlt_t, nlt_f, nle_t, nle_f, ieq_t, ieq_f, imin_l, imin_r, imax_l, imax_r, take_app1, take_map_all, hlt]
end Go.Proofs.Ytldgegojhaamoaa
