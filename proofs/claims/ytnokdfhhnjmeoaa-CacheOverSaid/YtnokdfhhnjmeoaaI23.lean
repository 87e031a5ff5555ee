import Derived.Test.YtnokdfhhnjmeoaaH23
set_option linter.unusedSimpArgs false
set_option linter.unusedVariables false
namespace Go.Proofs.Ytnokdfhhnjmeoaa
open Go.Am Go.Am.Kp

/-- What DeleteFunc asks of each row: 'x' is what it has captured. -/
def Asks (Γ : Tab) (g : FuncId) (x : Int) (p : K → Bool) : Prop :=
  ∀ (i pg s t : Int) (m : List UInt8) (f : Bool) (d : List Int) (X : AH), callA Γ g [.agg [.int .i64 i, .str m, .int .i64 pg, .int .i64 s, .lst f (d.map B), .int .i64 t], .ptr 0 0 0 0] (.var [.int .i64 x] :: X) =
    some (.bool (p ⟨i, m, pg, s, f, d, t⟩), .var [.int .i64 x] :: (X ++ [.var [.int .i64 i, .str m, .int .i64 pg, .int .i64 s, .lst f (d.map B), .int .i64 t]]))
theorem ask42 {n : Nat} (hn : 12 < n) (x : Int) : Asks (C23.tab n) 42 x (fun k => decide (k.ino = x)) := by
  intro i pg s t m f d X
  rw [p42 hn, runH_eq]
  simp -implicitDefEqProofs (disch := omega) [wrap_of, ilt_t, ilt_f, ile_t, ile_f, nlt_t, nlt_f, nle_t, nle_f, ieq_t, ieq_f, imin_l, imin_r, imax_l, imax_r, take_app1, take_map_all, c42]
theorem ask41 {n : Nat} (hn : 11 < n) (x : Int) : Asks (C23.tab n) 41 x (fun k => decide (k.til ≤ x)) := by
  intro i pg s t m f d X
  rw [p41 hn, runH_eq]
  simp -implicitDefEqProofs (disch := omega) [wrap_of, ilt_t, ilt_f, ile_t, ile_f, nlt_t, nlt_f, nle_t, nle_f, ieq_t, ieq_f, imin_l, imin_r, imax_l, imax_r, take_app1, take_map_all, c41]
theorem l47o {Γ : Tab} (g : FuncId) (x : Int) (p : K → Bool) (hp : Asks Γ g x p)
    (l : List K) (hl : l.length ≤ 1000000) (e0 : Env) (h0 : e0 0 = .own 1 0 0 l.length) (h1 : e0 1 = .fn (.func g) [] [.ptr 0 0 0 0]) (h7 : e0 7 = .int .i64 l.length) :
    iter (round Γ [8] [(.exit 0, []), (.ret, [4])] c47_1 e0 2 []) ([.int .i64 0], [.var [.int .i64 x], .row 0 6 (l.map D)]) = some ((l.find? p).elim (.exit 0, [], [.var [.int .i64 x], .row 0 6 (l.map D)]) (fun k => (.ret, [.int .i64 (l.findIdx p)], [.var [.int .i64 x], .row 0 6 (l.map D), .var (D k).cells]))) :=
  for_idx (f := round Γ [8] [(.exit 0, []), (.ret, [4])] c47_1 e0 2 []) (fun i => ([.int .i64 i], [.var [.int .i64 x], .row 0 6 (l.map D)])) l p (fun i k => (.ret, [.int .i64 i], [.var [.int .i64 x], .row 0 6 (l.map D), .var (D k).cells])) (.exit 0, [], [.var [.int .i64 x], .row 0 6 (l.map D)])
    (fun i hi => by
      have eta : ∀ k : K, p ⟨k.ino, k.name, k.page, k.is, k.fl, k.dat, k.til⟩ = p k := fun _ => rfl
      unfold Asks at hp
      cases h : p l[i] <;> simp -implicitDefEqProofs (disch := omega) [wrap_of, ilt_t, ilt_f, ile_t, ile_f, nlt_t, nlt_f, nle_t, nle_f, ieq_t, ieq_f, imin_l, imin_r, imax_l, imax_r, take_app1, take_map_all, round_eq, b47_1, h0, h1, h7, hi, hp, eta, h])
    (by simp -implicitDefEqProofs (disch := omega) [wrap_of, ilt_t, ilt_f, ile_t, ile_f, nlt_t, nlt_f, nle_t, nle_f, ieq_t, ieq_f, imin_l, imin_r, imax_l, imax_r, take_app1, take_map_all, round_eq, b47_1, h7])
theorem s47o {n : Nat} (hn : 13 < n) (g : FuncId) (x : Int) (p : K → Bool) (hp : Asks (C23.tab 13) g x p) (l : List K) (hl : l.length ≤ 1000000) :
    callA (C23.tab n) 47 [.own 1 0 0 l.length, .fn (.func g) [] [.ptr 0 0 0 0]] [.var [.int .i64 x], .row 0 6 (l.map D)] = some ((l.find? p).elim (.int .i64 (-1), [.var [.int .i64 x], .row 0 6 (l.map D)]) (fun k => (.int .i64 (l.findIdx p), [.var [.int .i64 x], .row 0 6 (l.map D), .var (D k).cells]))) := by
  rw [p47 hn, runH_eq]
  simp -implicitDefEqProofs (disch := omega) [wrap_of, ilt_t, ilt_f, ile_t, ile_f, nlt_t, nlt_f, nle_t, nle_f, ieq_t, ieq_f, imin_l, imin_r, imax_l, imax_r, take_app1, take_map_all, c47]
  rw [l47o g x p hp l hl _ (by simp -implicitDefEqProofs (disch := omega) [wrap_of, ilt_t, ilt_f, ile_t, ile_f, nlt_t, nlt_f, nle_t, nle_f, ieq_t, ieq_f, imin_l, imin_r, imax_l, imax_r, take_app1, take_map_all, ]) (by simp -implicitDefEqProofs (disch := omega) [wrap_of, ilt_t, ilt_f, ile_t, ile_f, nlt_t, nlt_f, nle_t, nle_f, ieq_t, ieq_f, imin_l, imin_r, imax_l, imax_r, take_app1, take_map_all, ]) (by simp -implicitDefEqProofs (disch := omega) [wrap_of, ilt_t, ilt_f, ile_t, ile_f, nlt_t, nlt_f, nle_t, nle_f, ieq_t, ieq_f, imin_l, imin_r, imax_l, imax_r, take_app1, take_map_all, ])]
  cases l.find? p <;> simp -implicitDefEqProofs (disch := omega) [wrap_of, ilt_t, ilt_f, ile_t, ile_f, nlt_t, nlt_f, nle_t, nle_f, ieq_t, ieq_f, imin_l, imin_r, imax_l, imax_r, take_app1, take_map_all, ]

/-- One round of DeleteFunc. -/
def delG (p : K → Bool) (s : Nat × List K) (x : K) : Nat × List K := if p x = true then s else (s.1 + 1, s.2.set s.1 x)
theorem del_fold (p : K → Bool) : ∀ (r : List K) (i : Nat) (ks : List K), i + r.length ≤ ks.length →
    (r.foldl (delG p) (i, ks)).2.length = ks.length ∧ (r.foldl (delG p) (i, ks)).1 ≤ i + r.length ∧ (r.foldl (delG p) (i, ks)).2.take (r.foldl (delG p) (i, ks)).1 = ks.take i ++ r.filter (fun x => !p x)
  | [], i, ks, h => by simp
  | x :: r, i, ks, h => by
    simp only [List.length_cons] at h
    rw [List.foldl_cons]
    cases hx : p x with
    | true =>
      have e : delG p (i, ks) x = (i, ks) := by simp [delG, hx]
      rw [e]
      obtain ⟨h1, h2, h3⟩ := del_fold p r i ks (by omega)
      refine ⟨h1, by simp only [List.length_cons]; omega, ?_⟩
      rw [h3]; simp [hx]
    | false =>
      have e : delG p (i, ks) x = (i + 1, ks.set i x) := by simp [delG, hx]
      rw [e]
      obtain ⟨h1, h2, h3⟩ := del_fold p r (i + 1) (ks.set i x) (by simp; omega)
      refine ⟨by rw [h1]; simp, by simp only [List.length_cons]; omega, ?_⟩
      rw [h3, List.take_succ_eq_append_getElem (by simp; omega)]
      simp [hx, List.take_set_of_le]
theorem l50 {Γ : Tab} (g : FuncId) (x : Int) (p : K → Bool) (hp : Asks Γ g x p) (l : List K) (hl : l.length ≤ 1000000) (i0 : Nat) (hi0 : i0 < l.length) (y : K) (e0 : Env) (h0 : e0 0 = .own 1 0 0 l.length) (h1 : e0 1 = .fn (.func g) [] [.ptr 0 0 0 0]) :
    iter (round Γ [5, 6] [(.exit 0, [5])] c50_1 e0 3 []) ([.int .i64 i0, .int .i64 ((i0 : Int) + 1)], [.var [.int .i64 x], .row 0 6 (l.map D), .var (D y).cells]) =
      some (.exit 0, [.int .i64 ((l.drop (i0 + 1)).foldl (delG p) (i0, l)).1], [.var [.int .i64 x], .row 0 6 (((l.drop (i0 + 1)).foldl (delG p) (i0, l)).2.map D), .var (D y).cells]) := by
  have := for_list (f := round Γ [5, 6] [(.exit 0, [5])] c50_1 e0 3 []) (fun j (s : Nat × List K) => ([.int .i64 s.1, .int .i64 ((i0 : Int) + 1 + j)], [.var [.int .i64 x], .row 0 6 (s.2.map D), .var (D y).cells])) (l.drop (i0 + 1)) (delG p) (fun s => (.exit 0, [.int .i64 s.1], [.var [.int .i64 x], .row 0 6 (s.2.map D), .var (D y).cells]))
    (fun j s => s.2.length = l.length ∧ s.1 ≤ i0 + j ∧ ∀ m, i0 + 1 + j ≤ m → s.2[m]? = l[m]?)
    (fun j hj s hs => by
      obtain ⟨i, ks⟩ := s
      obtain ⟨hs1, hs2, hs3⟩ := hs
      simp only at hs1 hs2 hs3
      have hj' : i0 + 1 + j < l.length := by simp at hj; omega
      have hk : i0 + 1 + j < ks.length := by omega
      have hik : i < ks.length := by omega
      have e1 : ((i0 : Int) + 1 + j).toNat = i0 + 1 + j := by omega
      have e2 : ((i0 : Int) + 1 + j + 1) = (i0 : Int) + 1 + ((j : Int) + 1) := by omega
      rw [List.getElem_drop]
      have hx : ks[i0 + 1 + j]? = some l[i0 + 1 + j] := by rw [hs3 _ (Nat.le_refl _)]; exact List.getElem?_eq_getElem hj'
      have hx' : ks[i0 + 1 + j] = l[i0 + 1 + j] := by rw [List.getElem?_eq_getElem hk] at hx; exact Option.some.inj hx
      have eta : ∀ k : K, p ⟨k.ino, k.name, k.page, k.is, k.fl, k.dat, k.til⟩ = p k := fun _ => rfl
      have hp' := hp
      unfold Asks at hp'
      cases h : p l[i0 + 1 + j] with
      | true =>
        have e : delG p (i, ks) l[i0 + 1 + j] = (i, ks) := by simp [delG, h]
        rw [e]
        refine ⟨⟨hs1, by simp only; omega, fun m hm => hs3 m (by omega)⟩, ?_⟩
        simp -implicitDefEqProofs (disch := omega) [wrap_of, ilt_t, ilt_f, ile_t, ile_f, nlt_t, nlt_f, nle_t, nle_f, ieq_t, ieq_f, imin_l, imin_r, imax_l, imax_r, take_app1, take_map_all, round_eq, b50_1, h0, h1, hk, hj', hp', eta, e1, e2, hx', h]
      | false =>
        have e : delG p (i, ks) l[i0 + 1 + j] = (i + 1, ks.set i l[i0 + 1 + j]) := by simp [delG, h]
        rw [e]
        refine ⟨⟨by simpa using hs1, by simp only; omega, fun m hm => ?_⟩, ?_⟩
        · simp only
          rw [List.getElem?_set_ne (by omega)]
          exact hs3 m (by omega)
        · simp -implicitDefEqProofs (disch := omega) [wrap_of, ilt_t, ilt_f, ile_t, ile_f, nlt_t, nlt_f, nle_t, nle_f, ieq_t, ieq_f, imin_l, imin_r, imax_l, imax_r, take_app1, take_map_all, round_eq, b50_1, h0, h1, hk, hj', hp', eta, e1, e2, hx', h, hik])
    (fun s hs => by
      obtain ⟨i, ks⟩ := s
      have e : ¬ ((i0 : Int) + 1 + ((l.drop (i0 + 1)).length : Nat) < l.length) := by simp; omega
      simp -implicitDefEqProofs (disch := omega) [wrap_of, ilt_t, ilt_f, ile_t, ile_f, nlt_t, nlt_f, nle_t, nle_f, ieq_t, ieq_f, imin_l, imin_r, imax_l, imax_r, take_app1, take_map_all, round_eq, b50_1, h0, e]) (i0, l) ⟨rfl, Nat.le_refl _, fun _ _ => rfl⟩
  have e : (i0 : Int) + 1 + ((0 : Nat) : Int) = (i0 : Int) + 1 := by omega
  rw [e] at this
  exact this
theorem filter_at (p : K → Bool) : ∀ (l : List K), l.findIdx p < l.length → l.take (l.findIdx p) ++ (l.drop (l.findIdx p + 1)).filter (fun x => !p x) = l.filter (fun x => !p x)
  | [], h => by simp at h
  | x :: l, h => by
    cases hx : p x with
    | true => simp [List.findIdx_cons, hx]
    | false =>
      have e : (x :: l).findIdx p = l.findIdx p + 1 := by simp [List.findIdx_cons, hx]
      rw [e] at h ⊢
      have := filter_at p l (by rw [List.length_cons] at h; omega)
      rw [List.take_succ_cons, List.drop_succ_cons, List.cons_append, this]
      simp [hx]
/-- slices.DeleteFunc -/
theorem s50 {n : Nat} (hn : 22 < n) (g : FuncId) (x : Int) (p : K → Bool) (hp : ∀ n, 12 < n → Asks (C23.tab n) g x p) (l : List K) (hl : l.length ≤ 1000000) :
    ∃ es ex, callA (C23.tab n) 50 [.own 1 0 0 l.length, .fn (.func g) [] [.ptr 0 0 0 0]] [.var [.int .i64 x], .row 0 6 (l.map D)] = some (.own 1 0 0 (l.filter fun k => !p k).length, .var [.int .i64 x] :: .row 0 6 es :: ex) ∧
      (l.filter fun k => !p k).length ≤ es.length ∧ es.take (l.filter fun k => !p k).length = (l.filter fun k => !p k).map D := by
  have hi := s47o (n := 22) (by omega) g x p (hp 13 (by omega)) l hl
  cases hf : l.find? p with
  | none =>
    rw [hf, Option.elim] at hi
    have e : l.filter (fun k => !p k) = l := by
      rw [List.filter_eq_self]
      intro y hy
      rw [List.find?_eq_none] at hf
      simpa using hf y hy
    rw [e]
    refine ⟨l.map D, [], ?_, by simp, List.take_of_length_le (by simp)⟩
    rw [p50 hn, runH_eq]
    simp -implicitDefEqProofs (disch := omega) [wrap_of, ilt_t, ilt_f, ile_t, ile_f, nlt_t, nlt_f, nle_t, nle_f, ieq_t, ieq_f, imin_l, imin_r, imax_l, imax_r, take_app1, take_map_all, c50, hi]
  | some y =>
    rw [hf, Option.elim] at hi
    have hlt : l.findIdx p < l.length := List.findIdx_lt_length_of_exists ⟨y, List.mem_of_find?_eq_some hf, List.find?_some hf⟩
    have hfl := filter_at p l hlt
    obtain ⟨i0, h0⟩ : ∃ i0, i0 = l.findIdx p := ⟨_, rfl⟩
    rw [← h0] at hi hlt hfl
    have hd := del_fold p (l.drop (i0 + 1)) i0 l (by simp; omega)
    obtain ⟨r, hr⟩ : ∃ r, r = (l.drop (i0 + 1)).foldl (delG p) (i0, l) := ⟨_, rfl⟩
    have hl50 := fun e0 h0 h1 => l50 (Γ := C23.tab 22) g x p (hp 22 (by omega)) l hl i0 hlt y e0 h0 h1
    rw [← hr] at hd hl50
    obtain ⟨m, ks⟩ := r
    obtain ⟨d1, d2, d3⟩ := hd
    simp only at d1 d2 d3 hl50
    rw [hfl] at d3
    have hm : m = (l.filter fun k => !p k).length := by
      rw [← d3, List.length_take, d1]
      have := d2
      simp only [List.length_drop] at this
      omega
    have hmk : m ≤ ks.length := by
      rw [d1]
      have := d2
      simp only [List.length_drop] at this
      omega
    rw [← hm, ← d3]
    refine ⟨over (ks.map D) m (List.replicate (l.length - m) (AV.agg [.int .i64 0, .str [], .int .i64 0, .int .i64 0, .lst true [], .int .i64 0])), [.var (D y).cells], ?_, ?_, ?_⟩
    · rw [p50 hn, runH_eq]
      simp only [D, AV.cells] at hi hl50 ⊢
      simp -implicitDefEqProofs (disch := omega) [wrap_of, ilt_t, ilt_f, ile_t, ile_f, nlt_t, nlt_f, nle_t, nle_f, ieq_t, ieq_f, imin_l, imin_r, imax_l, imax_r, take_app1, take_map_all, c50, hi]
      rw [hl50 _ (by simp -implicitDefEqProofs (disch := omega) [wrap_of, ilt_t, ilt_f, ile_t, ile_f, nlt_t, nlt_f, nle_t, nle_f, ieq_t, ieq_f, imin_l, imin_r, imax_l, imax_r, take_app1, take_map_all, ]) (by simp -implicitDefEqProofs (disch := omega) [wrap_of, ilt_t, ilt_f, ile_t, ile_f, nlt_t, nlt_f, nle_t, nle_f, ieq_t, ieq_f, imin_l, imin_r, imax_l, imax_r, take_app1, take_map_all, ])]
      simp -implicitDefEqProofs (disch := omega) [wrap_of, ilt_t, ilt_f, ile_t, ile_f, nlt_t, nlt_f, nle_t, nle_f, ieq_t, ieq_f, imin_l, imin_r, imax_l, imax_r, take_app1, take_map_all, d1]
    · rw [over_length _ _ _ (by simp; omega)]
      simpa using hmk
    · unfold over
      rw [List.append_assoc, List.take_append_of_le_length (by simp; omega), List.take_take, Nat.min_self, List.map_take]
theorem s40 {n : Nat} (hn : 24 < n) (g : FuncId) (x : Int) (p : K → Bool) (hp : ∀ n, 12 < n → Asks (C23.tab n) g x p) (l : List K) (hl : l.length ≤ 1000000) (f : Bool) :
    ∃ es ex, callA (C23.tab n) 40 [.lst f (l.map D), .fn (.func g) [] [.ptr 0 0 0 0]] [.var [.int .i64 x]] = some (.own 1 0 0 (l.filter fun k => !p k).length, .var [.int .i64 x] :: .row 0 6 es :: ex) ∧
      (l.filter fun k => !p k).length ≤ es.length ∧ es.take (l.filter fun k => !p k).length = (l.filter fun k => !p k).map D := by
  obtain ⟨es, ex, h1, h2, h3⟩ := s50 (n := 24) (by omega) g x p hp l hl
  refine ⟨es, ex, ?_, h2, h3⟩
  rw [p40 hn, runH_eq]
  simp -implicitDefEqProofs (disch := omega) [wrap_of, ilt_t, ilt_f, ile_t, ile_f, nlt_t, nlt_f, nle_t, nle_f, ieq_t, ieq_f, imin_l, imin_r, imax_l, imax_r, take_app1, take_map_all, c40, p51, h1]
/-- cache.Forget -/
theorem s22 {n : Nat} (hn : 26 < n) (l : List K) (hl : l.length ≤ 100000) (f : Bool) (ino : Int) :
    (C23.tab n).p 22 [.lst f (l.map D), .int .i64 ino] = some (.lst false ((l.filter fun k => !decide (k.ino = ino)).map D)) := by
  rw [p22 hn, runP_eq, runH_eq]
  obtain ⟨es, ex, h1, h2, h3⟩ := s40 (n := 26) (by omega) 42 ino _ (fun n hn => ask42 hn ino) l (by omega) f
  simp -implicitDefEqProofs (disch := omega) [wrap_of, ilt_t, ilt_f, ile_t, ile_f, nlt_t, nlt_f, nle_t, nle_f, ieq_t, ieq_f, imin_l, imin_r, imax_l, imax_r, take_app1, take_map_all, c22, h1, h3]
/-- cache.Age -/
theorem s21 {n : Nat} (hn : 25 < n) (l : List K) (hl : l.length ≤ 100000) (f : Bool) (now : Int) :
    (C23.tab n).p 21 [.lst f (l.map D), .int .i64 now] = some (.lst false ((l.filter fun k => !decide (k.til ≤ now)).map D)) := by
  rw [p21 hn, runP_eq, runH_eq]
  obtain ⟨es, ex, h1, h2, h3⟩ := s40 (n := 25) (by omega) 41 now _ (fun n hn => ask41 (by omega) now) l (by omega) f
  simp -implicitDefEqProofs (disch := omega) [wrap_of, ilt_t, ilt_f, ile_t, ile_f, nlt_t, nlt_f, nle_t, nle_f, ieq_t, ieq_f, imin_l, imin_r, imax_l, imax_r, take_app1, take_map_all, c21, h1, h3]
end Go.Proofs.Ytnokdfhhnjmeoaa
