import Derived.Test.YtnokdfhhnjmeoaaA23
set_option linter.unusedSimpArgs false
set_option linter.unusedVariables false
namespace Go.Proofs.Ytnokdfhhnjmeoaa
open Go.Am Go.Am.Kp

def rightB (k : K) : Bool := if k.name = [] then decide (k.is = 0) else decide (k.page = 0) && decide (k.dat.length = 0)
/-- cache.right -/
theorem s28 {n : Nat} (hn : 6 < n) (i p s t : Int) (m : List UInt8) (f : Bool) (d : List Int) :
    (C23.tab n).p 28 [.agg [.int .i64 i, .str m, .int .i64 p, .int .i64 s, .lst f (d.map B), .int .i64 t]] = some (.bool (rightB ⟨i, m, p, s, f, d, t⟩)) := by
  rw [p28 hn, runP_eq, runH_eq]
  unfold rightB
  by_cases h : m = []
  · simp -implicitDefEqProofs (disch := omega) [wrap_of, ilt_t, ilt_f, ile_t, ile_f, nlt_t, nlt_f, nle_t, nle_f, ieq_t, ieq_f, imin_l, imin_r, imax_l, imax_r, take_app1, take_map_all, c28, strBin, h]
  · by_cases h2 : p = 0
    · simp -implicitDefEqProofs (disch := omega) [wrap_of, ilt_t, ilt_f, ile_t, ile_f, nlt_t, nlt_f, nle_t, nle_f, ieq_t, ieq_f, imin_l, imin_r, imax_l, imax_r, take_app1, take_map_all, c28, strBin, h, h2]
    · simp -implicitDefEqProofs (disch := omega) [wrap_of, ilt_t, ilt_f, ile_t, ile_f, nlt_t, nlt_f, nle_t, nle_f, ieq_t, ieq_f, imin_l, imin_r, imax_l, imax_r, take_app1, take_map_all, c28, strBin, h, h2]
theorem s27 {n : Nat} (hn : 7 < n) (i p s t : Int) (m : List UInt8) (f : Bool) (d : List Int) :
    (C23.tab n).p 27 [.agg [.int .i64 i, .str m, .int .i64 p, .int .i64 s, .lst f (d.map B), .int .i64 t]] = some (.bool (!rightB ⟨i, m, p, s, f, d, t⟩)) := by
  rw [p27 hn, runP_eq, runH_eq]
  simp -implicitDefEqProofs (disch := omega) [wrap_of, ilt_t, ilt_f, ile_t, ile_f, nlt_t, nlt_f, nle_t, nle_f, ieq_t, ieq_f, imin_l, imin_r, imax_l, imax_r, take_app1, take_map_all, c27, a28, s28]
theorem l47 {Γ : Tab} (X : AH) (L : Nat) (hL : X.length = L) (hX : X.all plainB = true) (g : FuncId) (cap : List AV) (p : K → Bool) (j : K → AH)
    (hp : ∀ (i pg s t : Int) (m : List UInt8) (f : Bool) (d : List Int), callA Γ g (.agg [.int .i64 i, .str m, .int .i64 pg, .int .i64 s, .lst f (d.map B), .int .i64 t] :: cap) X = some (.bool (p ⟨i, m, pg, s, f, d, t⟩), X ++ j ⟨i, m, pg, s, f, d, t⟩))
    (l : List K) (hl : l.length ≤ 9223372036854775807) (f : Bool) (e0 : Env) (h0 : e0 0 = .lst f (l.map D)) (h1 : e0 1 = .fn (.func g) [] cap) (h7 : e0 7 = .int .i64 l.length) :
    iter (round Γ [8] [(.exit 0, []), (.ret, [4])] c47_1 e0 L []) ([.int .i64 0], X) = some ((l.find? p).elim (.exit 0, [], X) (fun x => (.ret, [.int .i64 (l.findIdx p)], X ++ j x))) := by
  subst hL
  exact for_idx (f := round Γ [8] [(.exit 0, []), (.ret, [4])] c47_1 e0 X.length []) (fun i => ([.int .i64 i], X)) l p (fun i x => (.ret, [.int .i64 i], X ++ j x)) (.exit 0, [], X)
    (fun i hi => by
      have eta : ∀ k : K, p ⟨k.ino, k.name, k.page, k.is, k.fl, k.dat, k.til⟩ = p k := fun _ => rfl
      have eta' : ∀ k : K, j ⟨k.ino, k.name, k.page, k.is, k.fl, k.dat, k.til⟩ = j k := fun _ => rfl
      cases h : p l[i] <;> simp -implicitDefEqProofs (disch := omega) [wrap_of, ilt_t, ilt_f, ile_t, ile_f, nlt_t, nlt_f, nle_t, nle_f, ieq_t, ieq_f, imin_l, imin_r, imax_l, imax_r, take_app1, take_map_all, round_eq, b47_1, h0, h1, h7, hi, hp, eta, eta', h, normH_plain _ _ X _ hX])
    (by simp -implicitDefEqProofs (disch := omega) [wrap_of, ilt_t, ilt_f, ile_t, ile_f, nlt_t, nlt_f, nle_t, nle_f, ieq_t, ieq_f, imin_l, imin_r, imax_l, imax_r, take_app1, take_map_all, round_eq, b47_1, h7])
/-- slices.IndexFunc, of what is not right -/
theorem s47a {n : Nat} (hn : 13 < n) (l : List K) (hl : l.length ≤ 9223372036854775807) (f : Bool) :
    callA (C23.tab n) 47 [.lst f (l.map D), .fn (.func 27) [] []] [] = some (.int .i64 (if l.all rightB = true then -1 else l.findIdx (fun k => !rightB k)), []) := by
  rw [p47 hn, runH_eq]
  simp -implicitDefEqProofs (disch := omega) [wrap_of, ilt_t, ilt_f, ile_t, ile_f, nlt_t, nlt_f, nle_t, nle_f, ieq_t, ieq_f, imin_l, imin_r, imax_l, imax_r, take_app1, take_map_all, c47]
  rw [l47 [] 0 rfl rfl 27 [] (fun k => !rightB k) (fun _ => []) (by intros; simp -implicitDefEqProofs (disch := omega) [wrap_of, ilt_t, ilt_f, ile_t, ile_f, nlt_t, nlt_f, nle_t, nle_f, ieq_t, ieq_f, imin_l, imin_r, imax_l, imax_r, take_app1, take_map_all, a27, s27]) l hl f _ (by simp -implicitDefEqProofs (disch := omega) [wrap_of, ilt_t, ilt_f, ile_t, ile_f, nlt_t, nlt_f, nle_t, nle_f, ieq_t, ieq_f, imin_l, imin_r, imax_l, imax_r, take_app1, take_map_all, ]) (by simp -implicitDefEqProofs (disch := omega) [wrap_of, ilt_t, ilt_f, ile_t, ile_f, nlt_t, nlt_f, nle_t, nle_f, ieq_t, ieq_f, imin_l, imin_r, imax_l, imax_r, take_app1, take_map_all, ]) (by simp -implicitDefEqProofs (disch := omega) [wrap_of, ilt_t, ilt_f, ile_t, ile_f, nlt_t, nlt_f, nle_t, nle_f, ieq_t, ieq_f, imin_l, imin_r, imax_l, imax_r, take_app1, take_map_all, ])]
  cases h : l.find? (fun k => !rightB k) with
  | none =>
    have : ∀ x ∈ l, rightB x = true := by simpa using h
    simp -implicitDefEqProofs (disch := omega) [wrap_of, ilt_t, ilt_f, ile_t, ile_f, nlt_t, nlt_f, nle_t, nle_f, ieq_t, ieq_f, imin_l, imin_r, imax_l, imax_r, take_app1, take_map_all, ]
    exact this
  | some x =>
    have : ∃ x, x ∈ l ∧ rightB x = false := ⟨x, List.mem_of_find?_eq_some h, by simpa using List.find?_some (p := fun k => !rightB k) h⟩
    simp -implicitDefEqProofs (disch := omega) [wrap_of, ilt_t, ilt_f, ile_t, ile_f, nlt_t, nlt_f, nle_t, nle_f, ieq_t, ieq_f, imin_l, imin_r, imax_l, imax_r, take_app1, take_map_all, this]
theorem s26a {n : Nat} (hn : 14 < n) (l : List K) (hl : l.length ≤ 9223372036854775807) (f : Bool) :
    callA (C23.tab n) 26 [.lst f (l.map D), .fn (.func 27) [] []] [] = some (.bool (!l.all rightB), []) := by
  rw [p26 hn, runH_eq]
  have h0 : (0 : Int) ≤ (l.findIdx (fun k => !rightB k) : Nat) := by omega
  cases h : l.all rightB <;> simp -implicitDefEqProofs (disch := omega) [wrap_of, ilt_t, ilt_f, ile_t, ile_f, nlt_t, nlt_f, nle_t, nle_f, ieq_t, ieq_f, imin_l, imin_r, imax_l, imax_r, take_app1, take_map_all, c26, s47a, h]
/-- Rows that rise, one by one. -/
def adj : List K → Bool
  | a :: b :: l => lt a b && adj (b :: l)
  | _ => true
theorem adj_zip : ∀ l : List K, (l.zip l.tail).all (fun p => lt p.1 p.2) = adj l
  | [] => rfl
  | [a] => rfl
  | a :: b :: l => by
    have := adj_zip (b :: l)
    simp only [List.tail_cons] at this
    simp only [List.tail_cons, List.zip_cons_cons, List.all_cons, this, adj]
theorem l11 {n : Nat} (hn : 5 < n) (l : List K) (hl : l.length ≤ 9223372036854775807) (f : Bool) (e0 : Env) (h0 : e0 0 = .lst f (l.map D)) (b : Bool) :
    iter (round (C23.tab n) [3, 4] [(.exit 0, [3])] c11_1 e0 0 []) ([.bool b, .int .i64 1], []) = some (.exit 0, [.bool ((l.zip l.tail).foldl (fun s p => s && lt p.1 p.2) b)], []) := by
  have := for_list (f := round (C23.tab n) [3, 4] [(.exit 0, [3])] c11_1 e0 0 []) (fun i (s : Bool) => ([.bool s, .int .i64 ((i : Int) + 1)], [])) (l.zip l.tail) (fun s p => s && lt p.1 p.2) (fun s => (.exit 0, [.bool s], [])) (fun _ _ => True)
    (fun i hi s _ => by
      have hi' : i + 1 < l.length := by simp at hi; omega
      have hi1 : i < l.length := by omega
      refine ⟨trivial, ?_⟩
      have e1 : ((i : Int) + 1).toNat = i + 1 := by omega
      have e2 : ((i : Int) + 1 - 1).toNat = i := by omega
      cases s with
      | false => simp -implicitDefEqProofs (disch := omega) [wrap_of, ilt_t, ilt_f, ile_t, ile_f, nlt_t, nlt_f, nle_t, nle_f, ieq_t, ieq_f, imin_l, imin_r, imax_l, imax_r, take_app1, take_map_all, round_eq, b11_1, h0, hi', hi1]
      | true =>
        cases h : lt l[i] l[i + 1] with
        | true => simp -implicitDefEqProofs (disch := omega) [wrap_of, ilt_t, ilt_f, ile_t, ile_f, nlt_t, nlt_f, nle_t, nle_f, ieq_t, ieq_f, imin_l, imin_r, imax_l, imax_r, take_app1, take_map_all, round_eq, b11_1, h0, hi', hi1, e1, e2, s25, h, ordI_neg h]
        | false =>
          have := ordI_nonneg h
          cases h' : lt l[i + 1] l[i] <;> rw [h'] at this <;> simp -implicitDefEqProofs (disch := omega) [wrap_of, ilt_t, ilt_f, ile_t, ile_f, nlt_t, nlt_f, nle_t, nle_f, ieq_t, ieq_f, imin_l, imin_r, imax_l, imax_r, take_app1, take_map_all, round_eq, b11_1, h0, hi', hi1, e1, e2, s25, h, this])
    (fun s _ => by
      have e : ¬ (((l.zip l.tail).length : Int) + 1 < l.length) := by simp; omega
      simp -implicitDefEqProofs (disch := omega) [wrap_of, ilt_t, ilt_f, ile_t, ile_f, nlt_t, nlt_f, nle_t, nle_f, ieq_t, ieq_f, imin_l, imin_r, imax_l, imax_r, take_app1, take_map_all, round_eq, b11_1, h0, e]) b trivial
  exact this
def rightL (l : List K) : Bool := adj l && l.all rightB
/-- cache.Right -/
theorem s11 {n : Nat} (hn : 15 < n) (l : List K) (hl : l.length ≤ 9223372036854775807) (f : Bool) :
    (C23.tab n).p 11 [.lst f (l.map D)] = some (.bool (rightL l)) := by
  rw [p11 hn, runP_eq, runH_eq]
  simp -implicitDefEqProofs (disch := omega) [wrap_of, ilt_t, ilt_f, ile_t, ile_f, nlt_t, nlt_f, nle_t, nle_f, ieq_t, ieq_f, imin_l, imin_r, imax_l, imax_r, take_app1, take_map_all, c11]
  rw [l11 (by omega) l hl f _ (by simp -implicitDefEqProofs (disch := omega) [wrap_of, ilt_t, ilt_f, ile_t, ile_f, nlt_t, nlt_f, nle_t, nle_f, ieq_t, ieq_f, imin_l, imin_r, imax_l, imax_r, take_app1, take_map_all, ])]
  have e : ∀ (z : List (K × K)) b, z.foldl (fun s p => s && lt p.1 p.2) b = (b && z.all (fun p => lt p.1 p.2)) := by
    intro z
    induction z with
    | nil => simp
    | cons x z ih => intro b; simp [ih, Bool.and_assoc]
  rw [e, adj_zip, Bool.true_and]
  unfold rightL
  cases h : adj l <;> simp -implicitDefEqProofs (disch := omega) [wrap_of, ilt_t, ilt_f, ile_t, ile_f, nlt_t, nlt_f, nle_t, nle_f, ieq_t, ieq_f, imin_l, imin_r, imax_l, imax_r, take_app1, take_map_all, h, s26a]
end Go.Proofs.Ytnokdfhhnjmeoaa
