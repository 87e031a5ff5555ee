import Derived.Test.YtjblbmcgpdmahaaD16
set_option linter.unusedSimpArgs false
set_option linter.unusedVariables false
namespace Go.Proofs.Ytjblbmcgpdmahaa
open Go.Am

@[simp] theorem szEd (l : List En) (i : Nat) : szOk 2 ((l.map E).drop i) = true := by rw [← List.map_drop]; exact szE _
@[simp] theorem szEt (l : List En) (i : Nat) : szOk 2 ((l.map E).take i) = true := by rw [← List.map_take]; exact szE _
theorem foldE_find {α τ : Type} (p : α → Bool) (hit : α → τ) : ∀ L : List α, foldE (fun (_ : Unit) k => if p k = true then .inr (hit k) else .inl ()) L () = (L.find? p).elim (.inl ()) fun k => .inr (hit k)
  | [] => rfl
  | x :: L => by
    simp only [foldE, List.find?_cons]
    cases h : p x with
    | true => rfl
    | false => simp only [Bool.false_eq_true, if_false]; exact foldE_find p hit L
theorem same_at {l more : List En} {p i : Nat} (h : p + i < l.length) (h' : i < more.length) : same l p more i = decide (core l[p + i] = core more[i]) := by
  unfold same
  rw [List.getElem?_eq_getElem h, List.getElem?_eq_getElem h']
theorem same_out {l more : List En} {p i : Nat} (h : ¬ p + i < l.length) : same l p more i = false := by
  unfold same
  rw [List.getElem?_eq_none (by omega)]
/-- What else stands there, then. -/
def ext36 (l more : List En) (p : Nat) : AH := [.var [.int .i64 ((more[agr (l.drop p) more]?).elim 0 En.te), .lst ((more[agr (l.drop p) more]?).elim true En.fl) (((more[agr (l.drop p) more]?).elim [] En.da).map B)]]
theorem l36 {n : Nat} (hn : 8 < n) (l more : List En) (p : Nat) (hl : GL l) (hm : GL more) (hp : p ≤ l.length) (f : Bool) (e0 : Env) (h1 : e0 1 = .int .i64 (p : Int)) (h3 : e0 3 = .lst f (more.map E)) (h21 : e0 21 = .lst f (more.map E)) (h22 : e0 22 = .int .i64 more.length) :
    iter (round (C16.tab n) [10, 23] [(.exit 0, [10])] c36_1 e0 1 [0]) ([.own 0 0 0 l.length, .int .i64 0], [.row 0 2 (l.map E)]) =
      some (if agr (l.drop p) more < more.length then (.exit 0, [.own 0 1 0 (putL l p more).length], .row 1 2 ((putL l p more).map E) :: ext36 l more p) else (.exit 0, [.own 0 0 0 l.length], [.row 0 2 (l.map E)])) := by
  have hll := hl.len
  have hml := hm.len
  have := for_listE (f := round (C16.tab n) [10, 23] [(.exit 0, [10])] c36_1 e0 1 [0]) (fun i (_ : Unit) => ([.own 0 0 0 l.length, .int .i64 (i : Int)], [.row 0 2 (l.map E)])) (List.range more.length)
    (fun _ i => if (!same l p more i) = true then .inr (.exit 0, [.own 0 1 0 ((l.take (p + i) ++ more.drop i).length)], [.row 1 2 ((l.take (p + i) ++ more.drop i).map E), .var [.int .i64 ((more[i]?).elim 0 En.te), .lst ((more[i]?).elim true En.fl) (((more[i]?).elim [] En.da).map B)]]) else .inl ()) (fun _ => (.exit 0, [.own 0 0 0 l.length], [.row 0 2 (l.map E)])) (fun i _ => p + i ≤ l.length)
    (fun i hi s hs => by
      have hi' : i < more.length := by simpa using hi
      rw [List.getElem_range]
      obtain ⟨x, hx⟩ : ∃ x, x = more[i] := ⟨_, rfl⟩
      have hxi : more[i]? = some x := by rw [hx]; exact List.getElem?_eq_getElem hi'
      rw [hxi]
      simp only [Option.elim_some]
      by_cases hq : p + i < l.length
      · obtain ⟨y, hy⟩ : ∃ y, y = l[p + i] := ⟨_, rfl⟩
        have hsm := same_at (p := p) hq hi'
        rw [← hx, ← hy] at hsm
        have h56 := s56 (n := n) hn y x
        simp only [E] at h56
        by_cases hc : core y = core x
        · rw [hsm, decide_eq_true hc]
          rw [decide_eq_true hc] at h56
          simp only [Bool.not_true, Bool.false_eq_true, if_false]
          refine ⟨by omega, ?_⟩
          simp -implicitDefEqProofs (disch := omega) [wrap_of, ilt_t, ilt_f, ile_t, ile_f, nlt_t, nlt_f, nle_t, nle_f, ieq_t, ieq_f, imin_l, imin_r, imax_l, imax_r, take_app1, take_map_all, round_eq, b36_1, h1, h3, h21, h22, hi', ← hx, hq, ← hy, a56, h56]
        · rw [hsm, decide_eq_false hc]
          rw [decide_eq_false hc] at h56
          simp only [Bool.not_false, if_true]
          simp -implicitDefEqProofs (disch := omega) [wrap_of, ilt_t, ilt_f, ile_t, ile_f, nlt_t, nlt_f, nle_t, nle_f, ieq_t, ieq_f, imin_l, imin_r, imax_l, imax_r, take_app1, take_map_all, round_eq, b36_1, h1, h3, h21, h22, hi', ← hx, hq, ← hy, a56, h56]
      · have hsm := same_out (more := more) hq
        rw [hsm]
        simp only [Bool.not_false, if_true]
        simp -implicitDefEqProofs (disch := omega) [wrap_of, ilt_t, ilt_f, ile_t, ile_f, nlt_t, nlt_f, nle_t, nle_f, ieq_t, ieq_f, imin_l, imin_r, imax_l, imax_r, take_app1, take_map_all, round_eq, b36_1, h1, h3, h21, h22, hi', ← hx, hq])
    (fun s _ => by rw [List.length_range]; simp -implicitDefEqProofs (disch := omega) [wrap_of, ilt_t, ilt_f, ile_t, ile_f, nlt_t, nlt_f, nle_t, nle_f, ieq_t, ieq_f, imin_l, imin_r, imax_l, imax_r, take_app1, take_map_all, round_eq, b36_1, h22]) () (by omega)
  simp only [Int.natCast_zero] at this
  rw [this, foldE_find (fun i => !same l p more i), find_agr]
  by_cases h : agr (l.drop p) more < more.length
  · rw [if_pos h]
    rw [if_pos h]
    unfold putL
    rw [if_pos h]
    rfl
  · rw [if_neg h, if_neg h]
    rfl
end Go.Proofs.Ytjblbmcgpdmahaa
