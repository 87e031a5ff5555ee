import Derived.Test.YtjblbmcgpdmahaaA16
set_option linter.unusedSimpArgs false
set_option linter.unusedVariables false
namespace Go.Proofs.Ytjblbmcgpdmahaa
open Go.Am

/-- May seats be a group's? -/
def okR (l : List Int) (i : Nat) : Bool := decide (0 ≤ l.getD i 0) && (decide (l.getD i 0 ≤ 199) && (decide (i = 0) || decide (l.getD (i - 1) 0 < l.getD i 0)))
def right (l : List Int) : Bool := (List.range l.length).all (okR l) && (decide (1 ≤ l.length) && decide (l.length ≤ 7))
theorem getD_of {l : List Int} {i : Nat} (h : i < l.length) : l.getD i 0 = l[i] := by simp [List.getD_eq_getElem?_getD, h]
theorem l30 {Γ : Tab} (l : List Int) (hl : l.length ≤ 9223372036854775807) (f : Bool) (e0 : Env) (h0 : e0 0 = .lst f (l.map I)) (h5 : e0 5 = .lst f (l.map I)) (h6 : e0 6 = .int .i64 l.length) :
    iter (round Γ [7] [(.exit 0, []), (.ret, [2])] c30_1 e0 0 []) ([.int .i64 0], []) = some (if (List.range l.length).all (okR l) = true then (.exit 0, [], []) else (.ret, [.bool false], [])) := by
  refine (for_all (f := round Γ [7] [(.exit 0, []), (.ret, [2])] c30_1 e0 0 []) (fun i => ([.int .i64 (i : Int)], [])) (List.range l.length) (okR l) _ _ (fun i hi => ?_) (by simp -implicitDefEqProofs (disch := omega) [wrap_of, ilt_t, ilt_f, ile_t, ile_f, nlt_t, nlt_f, nle_t, nle_f, ieq_t, ieq_f, imin_l, imin_r, imax_l, imax_r, take_app1, take_map_all, round_eq, b30_1, h6]))
  rw [List.getElem_range]
  have hi' : i < l.length := by simpa using hi
  have hg := getD_of hi'
  obtain ⟨x, hx⟩ : ∃ x, x = l[i] := ⟨_, rfl⟩
  rw [← hx] at hg
  unfold okR
  rw [hg]
  by_cases h1 : 0 ≤ x
  · by_cases h2 : x ≤ 199
    · by_cases h3 : i = 0
      · subst h3
        simp -implicitDefEqProofs (disch := omega) [wrap_of, ilt_t, ilt_f, ile_t, ile_f, nlt_t, nlt_f, nle_t, nle_f, ieq_t, ieq_f, imin_l, imin_r, imax_l, imax_r, take_app1, take_map_all, round_eq, b30_1, h0, h5, h6, hi', ← hx, h1, h2]
      · obtain ⟨j, rfl⟩ : ∃ j, i = j + 1 := ⟨i - 1, by omega⟩
        have hj : j < l.length := by omega
        have hgj := getD_of hj
        obtain ⟨y, hy⟩ : ∃ y, y = l[j] := ⟨_, rfl⟩
        rw [← hy] at hgj
        rw [show j + 1 - 1 = j by omega, hgj]
        by_cases h4 : y < x
        · simp -implicitDefEqProofs (disch := omega) [wrap_of, ilt_t, ilt_f, ile_t, ile_f, nlt_t, nlt_f, nle_t, nle_f, ieq_t, ieq_f, imin_l, imin_r, imax_l, imax_r, take_app1, take_map_all, round_eq, b30_1, h0, h5, h6, hi', hj, ← hx, ← hy, h1, h2, h4]
        · simp -implicitDefEqProofs (disch := omega) [wrap_of, ilt_t, ilt_f, ile_t, ile_f, nlt_t, nlt_f, nle_t, nle_f, ieq_t, ieq_f, imin_l, imin_r, imax_l, imax_r, take_app1, take_map_all, round_eq, b30_1, h0, h5, h6, hi', hj, ← hx, ← hy, h1, h2, h4]
    · simp -implicitDefEqProofs (disch := omega) [wrap_of, ilt_t, ilt_f, ile_t, ile_f, nlt_t, nlt_f, nle_t, nle_f, ieq_t, ieq_f, imin_l, imin_r, imax_l, imax_r, take_app1, take_map_all, round_eq, b30_1, h0, h5, h6, hi', ← hx, h1, h2]
  · simp -implicitDefEqProofs (disch := omega) [wrap_of, ilt_t, ilt_f, ile_t, ile_f, nlt_t, nlt_f, nle_t, nle_f, ieq_t, ieq_f, imin_l, imin_r, imax_l, imax_r, take_app1, take_map_all, round_eq, b30_1, h0, h5, h6, hi', ← hx, h1]
theorem g30 {Γ : Tab} (l : List Int) (hl : l.length ≤ 9223372036854775807) (f : Bool) : runP Γ c30 [.lst f (l.map I)] = some (.bool (right l)) := by
  rw [runP_eq, runH_eq]
  unfold right
  simp -implicitDefEqProofs (disch := omega) [wrap_of, ilt_t, ilt_f, ile_t, ile_f, nlt_t, nlt_f, nle_t, nle_f, ieq_t, ieq_f, imin_l, imin_r, imax_l, imax_r, take_app1, take_map_all, c30]
  rw [l30 l hl f _ (by simp -implicitDefEqProofs (disch := omega) [wrap_of, ilt_t, ilt_f, ile_t, ile_f, nlt_t, nlt_f, nle_t, nle_f, ieq_t, ieq_f, imin_l, imin_r, imax_l, imax_r, take_app1, take_map_all, ]) (by simp -implicitDefEqProofs (disch := omega) [wrap_of, ilt_t, ilt_f, ile_t, ile_f, nlt_t, nlt_f, nle_t, nle_f, ieq_t, ieq_f, imin_l, imin_r, imax_l, imax_r, take_app1, take_map_all, ]) (by simp -implicitDefEqProofs (disch := omega) [wrap_of, ilt_t, ilt_f, ile_t, ile_f, nlt_t, nlt_f, nle_t, nle_f, ieq_t, ieq_f, imin_l, imin_r, imax_l, imax_r, take_app1, take_map_all, ])]
  cases (List.range l.length).all (okR l) with
  | false => simp -implicitDefEqProofs (disch := omega) [wrap_of, ilt_t, ilt_f, ile_t, ile_f, nlt_t, nlt_f, nle_t, nle_f, ieq_t, ieq_f, imin_l, imin_r, imax_l, imax_r, take_app1, take_map_all, ]
  | true =>
    by_cases h1 : 1 ≤ l.length
    · by_cases h2 : l.length ≤ 7
      · simp -implicitDefEqProofs (disch := omega) [wrap_of, ilt_t, ilt_f, ile_t, ile_f, nlt_t, nlt_f, nle_t, nle_f, ieq_t, ieq_f, imin_l, imin_r, imax_l, imax_r, take_app1, take_map_all, h1, h2]
      · simp -implicitDefEqProofs (disch := omega) [wrap_of, ilt_t, ilt_f, ile_t, ile_f, nlt_t, nlt_f, nle_t, nle_f, ieq_t, ieq_f, imin_l, imin_r, imax_l, imax_r, take_app1, take_map_all, h1, h2]
    · simp -implicitDefEqProofs (disch := omega) [wrap_of, ilt_t, ilt_f, ile_t, ile_f, nlt_t, nlt_f, nle_t, nle_f, ieq_t, ieq_f, imin_l, imin_r, imax_l, imax_r, take_app1, take_map_all, h1]
theorem s30 {n : Nat} (hn : 17 < n) (l : List Int) (hl : l.length ≤ 9223372036854775807) (f : Bool) : (C16.tab n).p 30 [.lst f (l.map I)] = some (.bool (right l)) := by
  rw [p30 hn]; exact g30 l hl f
theorem l39 {Γ : Tab} (l : List Int) (hl : l.length ≤ 9223372036854775807) (f : Bool) (e0 : Env) (h0 : e0 0 = .lst f (l.map I)) :
    iter (round Γ [3] [(.exit 0, []), (.ret, [2])] c39_1 e0 0 []) ([.int .i64 0], []) = some (if (List.range l.length).all (okR l) = true then (.exit 0, [], []) else (.ret, [.bool false], [])) := by
  refine (for_all (f := round Γ [3] [(.exit 0, []), (.ret, [2])] c39_1 e0 0 []) (fun i => ([.int .i64 (i : Int)], [])) (List.range l.length) (okR l) _ _ (fun i hi => ?_) (by simp -implicitDefEqProofs (disch := omega) [wrap_of, ilt_t, ilt_f, ile_t, ile_f, nlt_t, nlt_f, nle_t, nle_f, ieq_t, ieq_f, imin_l, imin_r, imax_l, imax_r, take_app1, take_map_all, round_eq, b39_1, h0]))
  rw [List.getElem_range]
  have hi' : i < l.length := by simpa using hi
  have hg := getD_of hi'
  obtain ⟨x, hx⟩ : ∃ x, x = l[i] := ⟨_, rfl⟩
  rw [← hx] at hg
  unfold okR
  rw [hg]
  by_cases h1 : 0 ≤ x
  · by_cases h2 : x ≤ 199
    · by_cases h3 : i = 0
      · subst h3
        simp -implicitDefEqProofs (disch := omega) [wrap_of, ilt_t, ilt_f, ile_t, ile_f, nlt_t, nlt_f, nle_t, nle_f, ieq_t, ieq_f, imin_l, imin_r, imax_l, imax_r, take_app1, take_map_all, round_eq, b39_1, h0, hi', ← hx, h1, h2]
      · obtain ⟨j, rfl⟩ : ∃ j, i = j + 1 := ⟨i - 1, by omega⟩
        have hj : j < l.length := by omega
        have hgj := getD_of hj
        obtain ⟨y, hy⟩ : ∃ y, y = l[j] := ⟨_, rfl⟩
        rw [← hy] at hgj
        rw [show j + 1 - 1 = j by omega, hgj]
        by_cases h4 : y < x
        · simp -implicitDefEqProofs (disch := omega) [wrap_of, ilt_t, ilt_f, ile_t, ile_f, nlt_t, nlt_f, nle_t, nle_f, ieq_t, ieq_f, imin_l, imin_r, imax_l, imax_r, take_app1, take_map_all, round_eq, b39_1, h0, hi', hj, ← hx, ← hy, h1, h2, h4]
        · simp -implicitDefEqProofs (disch := omega) [wrap_of, ilt_t, ilt_f, ile_t, ile_f, nlt_t, nlt_f, nle_t, nle_f, ieq_t, ieq_f, imin_l, imin_r, imax_l, imax_r, take_app1, take_map_all, round_eq, b39_1, h0, hi', hj, ← hx, ← hy, h1, h2, h4]
    · simp -implicitDefEqProofs (disch := omega) [wrap_of, ilt_t, ilt_f, ile_t, ile_f, nlt_t, nlt_f, nle_t, nle_f, ieq_t, ieq_f, imin_l, imin_r, imax_l, imax_r, take_app1, take_map_all, round_eq, b39_1, h0, hi', ← hx, h1, h2]
  · simp -implicitDefEqProofs (disch := omega) [wrap_of, ilt_t, ilt_f, ile_t, ile_f, nlt_t, nlt_f, nle_t, nle_f, ieq_t, ieq_f, imin_l, imin_r, imax_l, imax_r, take_app1, take_map_all, round_eq, b39_1, h0, hi', ← hx, h1]
theorem s39 {n : Nat} (hn : 33 < n) (l : List Int) (hl : l.length ≤ 9223372036854775807) (f : Bool) : (C16.tab n).p 39 [.lst f (l.map I)] = some (.bool (right l)) := by
  rw [p39 hn, runP_eq, runH_eq]
  unfold right
  simp -implicitDefEqProofs (disch := omega) [wrap_of, ilt_t, ilt_f, ile_t, ile_f, nlt_t, nlt_f, nle_t, nle_f, ieq_t, ieq_f, imin_l, imin_r, imax_l, imax_r, take_app1, take_map_all, c39]
  rw [l39 l hl f _ (by simp -implicitDefEqProofs (disch := omega) [wrap_of, ilt_t, ilt_f, ile_t, ile_f, nlt_t, nlt_f, nle_t, nle_f, ieq_t, ieq_f, imin_l, imin_r, imax_l, imax_r, take_app1, take_map_all, ])]
  cases (List.range l.length).all (okR l) with
  | false => simp -implicitDefEqProofs (disch := omega) [wrap_of, ilt_t, ilt_f, ile_t, ile_f, nlt_t, nlt_f, nle_t, nle_f, ieq_t, ieq_f, imin_l, imin_r, imax_l, imax_r, take_app1, take_map_all, ]
  | true =>
    by_cases h1 : 1 ≤ l.length
    · by_cases h2 : l.length ≤ 7
      · simp -implicitDefEqProofs (disch := omega) [wrap_of, ilt_t, ilt_f, ile_t, ile_f, nlt_t, nlt_f, nle_t, nle_f, ieq_t, ieq_f, imin_l, imin_r, imax_l, imax_r, take_app1, take_map_all, h1, h2]
      · simp -implicitDefEqProofs (disch := omega) [wrap_of, ilt_t, ilt_f, ile_t, ile_f, nlt_t, nlt_f, nle_t, nle_f, ieq_t, ieq_f, imin_l, imin_r, imax_l, imax_r, take_app1, take_map_all, h1, h2]
    · simp -implicitDefEqProofs (disch := omega) [wrap_of, ilt_t, ilt_f, ile_t, ile_f, nlt_t, nlt_f, nle_t, nle_f, ieq_t, ieq_f, imin_l, imin_r, imax_l, imax_r, take_app1, take_map_all, h1]
/-- The seats that an entry tells. -/
def tl (e : En) : List Int := (e.da.drop 1).map fun b => (b.toNat : Int)
def ofE (e : En) : Option (List Int) := if e.da.head? = some 77 ∧ right (tl e) = true then some (tl e) else none
def ofV (e : En) : AV := (ofE e).elim (.tup [.lst true [], .bool false]) fun l => .tup [.lst false (l.map I), .bool true]
@[simp] theorem wrap_b (b : UInt8) : IntKind.i64.wrap (b.toNat : Int) = (b.toNat : Int) := wrap_of (by omega) (by have := b.toNat_lt; omega)
theorem l25 {Γ : Tab} (t : List UInt8) (l : List Int) (hl : l = t.map fun b => (b.toNat : Int)) (ht : t.length ≤ 1000000) (f : Bool) (e0 : Env) (h20 : e0 20 = .lst f (t.map B)) (h21 : e0 21 = .int .i64 t.length) :
    iter (round Γ [4, 22] [(.exit 0, [4])] c25_1 e0 1 [0]) ([.own 0 0 0 0, .int .i64 0], [.row 0 1 []]) = some (.exit 0, [.own 0 0 0 l.length], [.row 0 1 (l.map I)]) := by
  have := for_list (f := round Γ [4, 22] [(.exit 0, [4])] c25_1 e0 1 [0]) (fun i (a : List Int) => ([.own 0 0 0 a.length, .int .i64 (i : Int)], [.row 0 1 (a.map I)])) t (fun a b => a ++ [(b.toNat : Int)]) (fun a => (.exit 0, [.own 0 0 0 a.length], [.row 0 1 (a.map I)])) (fun i a => a.length = i)
    (fun i hi a ha => by
      obtain ⟨x, hx⟩ : ∃ x, x = t[i] := ⟨_, rfl⟩
      refine ⟨by simp [ha], ?_⟩
      simp -implicitDefEqProofs (disch := omega) [wrap_of, ilt_t, ilt_f, ile_t, ile_f, nlt_t, nlt_f, nle_t, nle_f, ieq_t, ieq_f, imin_l, imin_r, imax_l, imax_r, take_app1, take_map_all, round_eq, b25_1, h20, h21, hi, ← hx])
    (fun a ha => by simp -implicitDefEqProofs (disch := omega) [wrap_of, ilt_t, ilt_f, ile_t, ile_f, nlt_t, nlt_f, nle_t, nle_f, ieq_t, ieq_f, imin_l, imin_r, imax_l, imax_r, take_app1, take_map_all, round_eq, b25_1, h21]) [] rfl
  have e : ∀ (t : List UInt8) (a : List Int), t.foldl (fun a b => a ++ [(b.toNat : Int)]) a = a ++ t.map fun b => (b.toNat : Int) := by
    intro t
    induction t with
    | nil => intro a; simp
    | cons b t ih => intro a; simp [ih]
  simp only [List.length_nil, List.map_nil, Int.natCast_zero] at this
  rw [this, e, List.nil_append, ← hl]
theorem head_cons {b : UInt8} {t : List UInt8} : ((b :: t).head? = some 77) ↔ b = 77 := by simp
theorem right_len {l : List Int} (h : right l = true) : 1 ≤ l.length := by
  unfold right at h
  simp only [Bool.and_eq_true, decide_eq_true_eq] at h
  exact h.2.1
theorem g25 {Γ : Tab} (hR : ∀ (l : List Int) (f : Bool), l.length ≤ 9223372036854775807 → Γ.p 30 [.lst f (l.map I)] = some (.bool (right l))) (e : En) (he : e.da.length ≤ 1000000) : runP Γ c25 [E e] = some (ofV e) := by
  rw [runP_eq, runH_eq]
  obtain ⟨te, fl, da⟩ := e
  have h30 := fun l (h : l.length ≤ 9223372036854775807) hh => callA_eq Γ 30 [.lst false (List.map I l)] hh
  unfold ofV ofE tl
  cases da with
  | nil => simp -implicitDefEqProofs (disch := omega) [wrap_of, ilt_t, ilt_f, ile_t, ile_f, nlt_t, nlt_f, nle_t, nle_f, ieq_t, ieq_f, imin_l, imin_r, imax_l, imax_r, take_app1, take_map_all, c25]
  | cons b t =>
    simp only [head_cons, List.drop_succ_cons, List.drop_zero]
    by_cases hb : b = 77
    · subst hb
      have ht : t.length ≤ 1000000 := by simp at he; omega
      obtain ⟨l, hl⟩ : ∃ l, l = t.map fun b => (b.toNat : Int) := ⟨_, rfl⟩
      have hll : l.length = t.length := by rw [hl]; simp
      have h30 := hR l false (by omega)
      rw [← hl]
      simp -implicitDefEqProofs (disch := omega) [wrap_of, ilt_t, ilt_f, ile_t, ile_f, nlt_t, nlt_f, nle_t, nle_f, ieq_t, ieq_f, imin_l, imin_r, imax_l, imax_r, take_app1, take_map_all, c25]
      rw [l25 t l hl ht fl _ (by simp -implicitDefEqProofs (disch := omega) [wrap_of, ilt_t, ilt_f, ile_t, ile_f, nlt_t, nlt_f, nle_t, nle_f, ieq_t, ieq_f, imin_l, imin_r, imax_l, imax_r, take_app1, take_map_all, ]) (by simp -implicitDefEqProofs (disch := omega) [wrap_of, ilt_t, ilt_f, ile_t, ile_f, nlt_t, nlt_f, nle_t, nle_f, ieq_t, ieq_f, imin_l, imin_r, imax_l, imax_r, take_app1, take_map_all, ])]
      cases hr : right l with
      | false =>
        rw [hr] at h30
        simp -implicitDefEqProofs (disch := omega) [wrap_of, ilt_t, ilt_f, ile_t, ile_f, nlt_t, nlt_f, nle_t, nle_f, ieq_t, ieq_f, imin_l, imin_r, imax_l, imax_r, take_app1, take_map_all, callA_eq Γ 30, h30]
      | true =>
        rw [hr] at h30
        simp -implicitDefEqProofs (disch := omega) [wrap_of, ilt_t, ilt_f, ile_t, ile_f, nlt_t, nlt_f, nle_t, nle_f, ieq_t, ieq_f, imin_l, imin_r, imax_l, imax_r, take_app1, take_map_all, callA_eq Γ 30, h30]
    · have : ¬ ((b.toNat : Int) = 77) := fun h => hb (UInt8.toNat.inj (by have : (77 : UInt8).toNat = 77 := rfl; omega))
      simp -implicitDefEqProofs (disch := omega) [wrap_of, ilt_t, ilt_f, ile_t, ile_f, nlt_t, nlt_f, nle_t, nle_f, ieq_t, ieq_f, imin_l, imin_r, imax_l, imax_r, take_app1, take_map_all, c25, hb, this]
theorem s25 {n : Nat} (hn : 46 < n) (e : En) (he : e.da.length ≤ 1000000) : (C16.tab n).p 25 [E e] = some (ofV e) := by
  rw [p25 hn]
  exact g25 (fun l f hl => s30 (by decide) l hl f) e he
theorem s25p (e : En) (he : e.da.length ≤ 1000000) : (Pr.CPr.tab Pr.NPr).p 25 [E e] = some (ofV e) := by
  rw [Pr.p25 (by decide)]
  exact g25 (fun l f hl => by rw [Pr.p30 (by decide)]; exact g30 l hl f) e he
theorem l26 {Γ : Tab} (te : Int) (fl : Bool) (b : UInt8) (t : List UInt8) (l : List Int) (hl : l = t.map fun b => (b.toNat : Int)) (ht : t.length ≤ 1000000) (e0 : Env) (h1 : e0 1 = .rptr [.int .i64 te, .lst fl (B b :: t.map B)]) :
    iter (round Γ [4, 5] [(.exit 0, [4])] c26_1 e0 1 [0]) ([.own 0 0 0 0, .int .i64 1], [.row 0 1 []]) = some (.exit 0, [.own 0 0 0 l.length], [.row 0 1 (l.map I)]) := by
  have := for_list (f := round Γ [4, 5] [(.exit 0, [4])] c26_1 e0 1 [0]) (fun i (a : List Int) => ([.own 0 0 0 a.length, .int .i64 ((i : Int) + 1)], [.row 0 1 (a.map I)])) t (fun a b => a ++ [(b.toNat : Int)]) (fun a => (.exit 0, [.own 0 0 0 a.length], [.row 0 1 (a.map I)])) (fun i a => a.length = i)
    (fun i hi a ha => by
      obtain ⟨x, hx⟩ : ∃ x, x = t[i] := ⟨_, rfl⟩
      refine ⟨by simp [ha], ?_⟩
      have en : ((i : Int) + 1).toNat = i + 1 := by omega
      simp -implicitDefEqProofs (disch := omega) [wrap_of, ilt_t, ilt_f, ile_t, ile_f, nlt_t, nlt_f, nle_t, nle_f, ieq_t, ieq_f, imin_l, imin_r, imax_l, imax_r, take_app1, take_map_all, round_eq, b26_1, h1, hi, ← hx, en])
    (fun a ha => by simp -implicitDefEqProofs (disch := omega) [wrap_of, ilt_t, ilt_f, ile_t, ile_f, nlt_t, nlt_f, nle_t, nle_f, ieq_t, ieq_f, imin_l, imin_r, imax_l, imax_r, take_app1, take_map_all, round_eq, b26_1, h1]) [] rfl
  have e : ∀ (t : List UInt8) (a : List Int), t.foldl (fun a b => a ++ [(b.toNat : Int)]) a = a ++ t.map fun b => (b.toNat : Int) := by
    intro t
    induction t with
    | nil => intro a; simp
    | cons b t ih => intro a; simp [ih]
  simp only [List.length_nil, List.map_nil, Int.natCast_zero, Int.zero_add] at this
  rw [this, e, List.nil_append, ← hl]
theorem l26n {Γ : Tab} (te : Int) (fl : Bool) (e0 : Env) (h1 : e0 1 = .rptr [.int .i64 te, .lst fl []]) :
    iter (round Γ [4, 5] [(.exit 0, [4])] c26_1 e0 1 [0]) ([.own 0 0 0 0, .int .i64 1], [.row 0 1 []]) = some (.exit 0, [.own 0 0 0 0], [.row 0 1 []]) := by
  rw [iter_eq]
  simp -implicitDefEqProofs (disch := omega) [wrap_of, ilt_t, ilt_f, ile_t, ile_f, nlt_t, nlt_f, nle_t, nle_f, ieq_t, ieq_f, imin_l, imin_r, imax_l, imax_r, take_app1, take_map_all, round_eq, b26_1, h1]
theorem s26 {n : Nat} (hn : 36 < n) (e : En) (he : e.da.length ≤ 1000000) : (C16.tab n).p 26 [E e] = some (ofV e) := by
  rw [p26 hn, runP_eq, runH_eq]
  obtain ⟨te, fl, da⟩ := e
  unfold ofV ofE tl
  cases da with
  | nil =>
    have h39 := s39 (n := 36) (by decide) [] (by simp) false
    have hr0 : right [] = false := by decide
    rw [hr0, List.map_nil] at h39
    simp -implicitDefEqProofs (disch := omega) [wrap_of, ilt_t, ilt_f, ile_t, ile_f, nlt_t, nlt_f, nle_t, nle_f, ieq_t, ieq_f, imin_l, imin_r, imax_l, imax_r, take_app1, take_map_all, c26]
    rw [l26n te fl _ (by simp -implicitDefEqProofs (disch := omega) [wrap_of, ilt_t, ilt_f, ile_t, ile_f, nlt_t, nlt_f, nle_t, nle_f, ieq_t, ieq_f, imin_l, imin_r, imax_l, imax_r, take_app1, take_map_all, ])]
    simp -implicitDefEqProofs (disch := omega) [wrap_of, ilt_t, ilt_f, ile_t, ile_f, nlt_t, nlt_f, nle_t, nle_f, ieq_t, ieq_f, imin_l, imin_r, imax_l, imax_r, take_app1, take_map_all, a39, h39]
  | cons b t =>
    have ht : t.length ≤ 1000000 := by simp at he; omega
    simp only [head_cons, List.drop_succ_cons, List.drop_zero]
    obtain ⟨l, hl⟩ : ∃ l, l = t.map fun b => (b.toNat : Int) := ⟨_, rfl⟩
    have hll : l.length = t.length := by rw [hl]; simp
    have h39 := s39 (n := 36) (by decide) l (by omega) false
    rw [← hl]
    simp -implicitDefEqProofs (disch := omega) [wrap_of, ilt_t, ilt_f, ile_t, ile_f, nlt_t, nlt_f, nle_t, nle_f, ieq_t, ieq_f, imin_l, imin_r, imax_l, imax_r, take_app1, take_map_all, c26]
    rw [l26 te fl b t l hl ht _ (by simp -implicitDefEqProofs (disch := omega) [wrap_of, ilt_t, ilt_f, ile_t, ile_f, nlt_t, nlt_f, nle_t, nle_f, ieq_t, ieq_f, imin_l, imin_r, imax_l, imax_r, take_app1, take_map_all, ])]
    cases hr : right l with
    | false =>
      rw [hr] at h39
      simp -implicitDefEqProofs (disch := omega) [wrap_of, ilt_t, ilt_f, ile_t, ile_f, nlt_t, nlt_f, nle_t, nle_f, ieq_t, ieq_f, imin_l, imin_r, imax_l, imax_r, take_app1, take_map_all, a39, h39]
    | true =>
      rw [hr] at h39
      by_cases hb : b = 77
      · subst hb
        simp -implicitDefEqProofs (disch := omega) [wrap_of, ilt_t, ilt_f, ile_t, ile_f, nlt_t, nlt_f, nle_t, nle_f, ieq_t, ieq_f, imin_l, imin_r, imax_l, imax_r, take_app1, take_map_all, a39, h39]
      · have : ¬ ((b.toNat : Int) = 77) := fun h => hb (UInt8.toNat.inj (by have : (77 : UInt8).toNat = 77 := rfl; omega))
        simp -implicitDefEqProofs (disch := omega) [wrap_of, ilt_t, ilt_f, ile_t, ile_f, nlt_t, nlt_f, nle_t, nle_f, ieq_t, ieq_f, imin_l, imin_r, imax_l, imax_r, take_app1, take_map_all, a39, h39, hb, this]
end Go.Proofs.Ytjblbmcgpdmahaa
