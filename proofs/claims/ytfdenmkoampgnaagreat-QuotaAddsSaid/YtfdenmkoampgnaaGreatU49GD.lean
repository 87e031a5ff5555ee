import Derived.Test.YtfdenmkoampgnaaGreatU49GA
import Derived.Test.YtfdenmkoampgnaaGreatTrGM
set_option linter.unusedSimpArgs false
set_option linter.unusedVariables false
namespace Go.Proofs.YtfdenmkoampgnaaGreat
open Go.Am Go.Tr

theorem s48 {n : Nat} (hn : 58 < n) (t : Tr.Tree) (hb : Bt t) (i : Int) : (C49.tab n).p 48 [Tv t, I i] = some (.bool (decide (dirE t i = 0))) := by
  rw [p48 hn, runP_eq, runH_eq]
  have hG := s14 (n := 58) (by decide) t hb i
  unfold getV at hG
  unfold dirE
  cases hf : find t.nodes i with
  | none =>
    rw [hf] at hG
    simp only [Option.elim_none, Tv, Nd, nodeZ, List.map_nil] at hG
    simp -implicitDefEqProofs (disch := omega) [wrap_of, ilt_t, ilt_f, ile_t, ile_f, nlt_t, nlt_f, nle_t, nle_f, ieq_t, ieq_f, imin_l, imin_r, imax_l, imax_r, take_app1, take_map_all, c48, a14, hG]
  | some q =>
    rw [hf] at hG
    simp only [Option.elim_some, Tv, Nd] at hG
    by_cases c1 : q.kind = 2
    · simp -implicitDefEqProofs (disch := omega) [wrap_of, ilt_t, ilt_f, ile_t, ile_f, nlt_t, nlt_f, nle_t, nle_f, ieq_t, ieq_f, imin_l, imin_r, imax_l, imax_r, take_app1, take_map_all, c48, a14, hG, c1]
    · simp -implicitDefEqProofs (disch := omega) [wrap_of, ilt_t, ilt_f, ile_t, ile_f, nlt_t, nlt_f, nle_t, nle_f, ieq_t, ieq_f, imin_l, imin_r, imax_l, imax_r, take_app1, take_map_all, c48, a14, hG, c1]
theorem l96 {Γ : Tab} (t : Tr.Tree) (hl : t.nodes.length ≤ 1000) (i : Int) (e0 : Env) (h2 : e0 2 = .rptr (Tb t)) (h1 : e0 1 = I i) :
    iter (round Γ [5] [(.exit 0, []), (.ret, [4])] c96_1 e0 0 []) ([.int .i64 0], []) = some ((t.nodes.find? fun q => decide (q.ino = i)).elim (.exit 0, [], []) fun _ => (.ret, [I (t.nodes.findIdx fun q => decide (q.ino = i) : Nat)], [])) :=
  for_idx (f := round Γ [5] [(.exit 0, []), (.ret, [4])] c96_1 e0 0 []) (fun i => ([.int .i64 (i : Int)], [])) t.nodes (fun q => decide (q.ino = i)) (fun k _ => (.ret, [I (k : Int)], [])) (.exit 0, [], [])
    (fun k hk => by
      obtain ⟨y, hy⟩ : ∃ y, y = t.nodes[k] := ⟨_, rfl⟩
      rw [← hy]
      by_cases c1 : y.ino = i
      · simp -implicitDefEqProofs (disch := omega) [wrap_of, ilt_t, ilt_f, ile_t, ile_f, nlt_t, nlt_f, nle_t, nle_f, ieq_t, ieq_f, imin_l, imin_r, imax_l, imax_r, take_app1, take_map_all, round_eq, b96_1, h2, h1, hk, ← hy, c1]
      · simp -implicitDefEqProofs (disch := omega) [wrap_of, ilt_t, ilt_f, ile_t, ile_f, nlt_t, nlt_f, nle_t, nle_f, ieq_t, ieq_f, imin_l, imin_r, imax_l, imax_r, take_app1, take_map_all, round_eq, b96_1, h2, h1, hk, ← hy, c1])
    (by simp -implicitDefEqProofs (disch := omega) [wrap_of, ilt_t, ilt_f, ile_t, ile_f, nlt_t, nlt_f, nle_t, nle_f, ieq_t, ieq_f, imin_l, imin_r, imax_l, imax_r, take_app1, take_map_all, round_eq, b96_1, h2])
def ixN (t : Tr.Tree) (i : Int) : Int := (find t.nodes i).elim (-1) fun _ => ((t.nodes.findIdx fun q => decide (q.ino = i) : Nat) : Int)
theorem s96 {n : Nat} (hn : 59 < n) (t : Tr.Tree) (hl : t.nodes.length ≤ 1000) (i : Int) : (C49.tab n).p 96 [Tv t, I i] = some (I (ixN t i)) := by
  rw [p96 hn, runP_eq, runH_eq]
  have h := l96 (Γ := C49.tab 59) t hl i
  unfold ixN find
  simp -implicitDefEqProofs (disch := omega) [wrap_of, ilt_t, ilt_f, ile_t, ile_f, nlt_t, nlt_f, nle_t, nle_f, ieq_t, ieq_f, imin_l, imin_r, imax_l, imax_r, take_app1, take_map_all, c96]
  rw [h _ (by simp -implicitDefEqProofs (disch := omega) [wrap_of, ilt_t, ilt_f, ile_t, ile_f, nlt_t, nlt_f, nle_t, nle_f, ieq_t, ieq_f, imin_l, imin_r, imax_l, imax_r, take_app1, take_map_all, ]) (by simp -implicitDefEqProofs (disch := omega) [wrap_of, ilt_t, ilt_f, ile_t, ile_f, nlt_t, nlt_f, nle_t, nle_f, ieq_t, ieq_f, imin_l, imin_r, imax_l, imax_r, take_app1, take_map_all, ])]
  cases t.nodes.find? fun q => decide (q.ino = i) with
  | none => simp -implicitDefEqProofs (disch := omega) [wrap_of, ilt_t, ilt_f, ile_t, ile_f, nlt_t, nlt_f, nle_t, nle_f, ieq_t, ieq_f, imin_l, imin_r, imax_l, imax_r, take_app1, take_map_all, ]
  | some y => simp -implicitDefEqProofs (disch := omega) [wrap_of, ilt_t, ilt_f, ile_t, ile_f, nlt_t, nlt_f, nle_t, nle_f, ieq_t, ieq_f, imin_l, imin_r, imax_l, imax_r, take_app1, take_map_all, ]
theorem ixN_some {t : Tr.Tree} {i : Int} {q : Tr.Node} (h : find t.nodes i = some q) : ∃ k : Nat, ixN t i = (k : Int) ∧ k < t.nodes.length ∧ t.nodes[k]? = some q := by
  refine ⟨t.nodes.findIdx fun q => decide (q.ino = i), by unfold ixN; rw [h]; rfl, ?_⟩
  obtain ⟨hm, hi⟩ := find_mem h
  have h1 : (t.nodes.findIdx fun q => decide (q.ino = i)) < t.nodes.length := List.findIdx_lt_length_of_exists ⟨q, hm, decide_eq_true hi⟩
  refine ⟨h1, ?_⟩
  unfold find at h
  rw [List.find?_eq_some_iff_getElem] at h
  obtain ⟨_, k, hk, hkq, hno⟩ := h
  have h3 : (t.nodes.findIdx fun q => decide (q.ino = i)) = k := by
    refine (List.findIdx_eq hk).2 ⟨?_, fun j hj => ?_⟩
    · rw [hkq]; exact decide_eq_true hi
    · have := hno j hj
      simpa using this
  rw [h3, List.getElem?_eq_getElem hk, hkq]
/-- Marks, as a row tells them. -/
abbrev Mk (t : Tr.Tree) (M : List Int) : List AV := t.nodes.map fun q => .bool (M.contains q.ino)
theorem Mk_set {t : Tr.Tree} (hs : Srt t.nodes) {M : List Int} {k : Nat} {q : Tr.Node} (hk : k < t.nodes.length) (hq : t.nodes[k]? = some q) : (Mk t M).set k (.bool true) = Mk t (M ++ [q.ino]) := by
  rw [List.getElem?_eq_getElem hk] at hq
  have hq := Option.some.inj hq
  apply List.ext_getElem
  · simp
  · intro j h1 h2
    rw [List.getElem_set]
    simp only [List.getElem_map]
    split
    · rename_i h; subst h; rw [hq]; simp
    · rename_i h
      have hj : j < t.nodes.length := by simpa using h2
      have : t.nodes[j].ino ≠ q.ino := by
        rw [← hq]
        rcases Nat.lt_or_gt_of_ne h with h | h
        · have := (List.pairwise_iff_getElem.1 hs) _ _ hk hj h; omega
        · have := (List.pairwise_iff_getElem.1 hs) _ _ hj hk h; omega
      simp [this]
theorem Mk_len (t : Tr.Tree) (M : List Int) : (Mk t M).length = t.nodes.length := List.length_map ..
theorem l81_1 {n : Nat} (hn : 59 < n) (t : Tr.Tree) (w : WFt t) (q : Tr.Node) (k : Nat) (hk : k < t.nodes.length) (hq : q = t.nodes[k]) (s : List Int × Bool) (e0 : Env) (h2 : e0 2 = .rptr (Tb t)) (h5 : e0 5 = .own 0 0 0 t.nodes.length) (h8 : e0 8 = I k) :
    iter (round (C49.tab n) [7, 9] [(.exit 4, [7])] c81_1 e0 1 []) ([.bool s.2, .int .i64 0], [.row 0 1 (Mk t s.1)]) = some (.exit 4, [.bool (q.ents.foldl mkE s).2], [.row 0 1 (Mk t (q.ents.foldl mkE s).1)]) := by
  have hl := (wbt w).len
  have hel : q.ents.length ≤ 1000 := by have := (w.bg.getZ q.ino).1; rw [getZ_of (find_of w.wf.srt (by rw [hq]; exact List.getElem_mem hk))] at this; omega
  exact for_list (f := round (C49.tab n) [7, 9] [(.exit 4, [7])] c81_1 e0 1 []) (fun i (s : List Int × Bool) => ([.bool s.2, .int .i64 (i : Int)], [.row 0 1 (Mk t s.1)])) q.ents mkE (fun s => (.exit 4, [.bool s.2], [.row 0 1 (Mk t s.1)])) (fun _ _ => True)
    (fun i hi s _ => by
      refine ⟨trivial, ?_⟩
      obtain ⟨e, he⟩ : ∃ e, e = q.ents[i] := ⟨_, rfl⟩
      have hen : (find t.nodes e.ino).isSome = true := ent_isN w (i := q.ino) (by rw [getZ_of (find_of w.wf.srt (by rw [hq]; exact List.getElem_mem hk)), he]; exact List.getElem_mem hi)
      rw [← he]
      obtain ⟨p, hp⟩ := Option.isSome_iff_exists.1 hen
      obtain ⟨j, hj, hjl, hjp⟩ := ixN_some hp
      have h55 := s96 (n := n) hn t hl e.ino
      have hset := fun M : List Int => Mk_set (M := M) w.wf.srt hjl hjp
      rw [(find_mem hp).2] at hset
      have hml := Mk_len t s.1
      have hget : ∀ h : j < (Mk t s.1).length, (Mk t s.1)[j] = .bool (s.1.contains e.ino) := fun h => by
        rw [List.getElem?_eq_getElem hjl] at hjp
        rw [List.getElem_map, Option.some.inj hjp, (find_mem hp).2]
      rw [hj] at h55
      simp only [Tv] at h55
      have hset := hset s.1
      unfold mkE
      cases hc : s.1.contains e.ino with
      | true =>
        rw [hc] at hget
        rw [if_pos rfl]
        generalize Mk t s.1 = R at *
        simp -implicitDefEqProofs (disch := omega) [wrap_of, ilt_t, ilt_f, ile_t, ile_f, nlt_t, nlt_f, nle_t, nle_f, ieq_t, ieq_f, imin_l, imin_r, imax_l, imax_r, take_app1, take_map_all, round_eq, b81_1, h2, h5, h8, hk, ← hq, hi, ← he, h55, hjl, hget, hml]
      | false =>
        rw [hc] at hget
        rw [if_neg (by simp)]
        generalize Mk t s.1 = R at *
        simp only
        rw [← hset]
        simp -implicitDefEqProofs (disch := omega) [wrap_of, ilt_t, ilt_f, ile_t, ile_f, nlt_t, nlt_f, nle_t, nle_f, ieq_t, ieq_f, imin_l, imin_r, imax_l, imax_r, take_app1, take_map_all, round_eq, b81_1, h2, h5, h8, hk, ← hq, hi, ← he, h55, hjl, hget, hml])
    (fun s _ => by simp -implicitDefEqProofs (disch := omega) [wrap_of, ilt_t, ilt_f, ile_t, ile_f, nlt_t, nlt_f, nle_t, nle_f, ieq_t, ieq_f, imin_l, imin_r, imax_l, imax_r, take_app1, take_map_all, round_eq, b81_1, h2, h8, hk, ← hq]) s trivial
theorem l81_2 {n : Nat} (hn : 59 < n) (t : Tr.Tree) (w : WFt t) (i : Int) (s : List Int × Bool) (e0 : Env) (h2 : e0 2 = .rptr (Tb t)) (h5 : e0 5 = .own 0 0 0 t.nodes.length) (h1 : e0 1 = I i) :
    iter (round (C49.tab n) [7, 8] [(.exit 2, [7])] c81_2 e0 1 []) ([.bool s.2, .int .i64 0], [.row 0 1 (Mk t s.1)]) = some (.exit 2, [.bool (t.nodes.foldl (rowU i) s).2], [.row 0 1 (Mk t (t.nodes.foldl (rowU i) s).1)]) := by
  have hl := (wbt w).len
  exact for_list (f := round (C49.tab n) [7, 8] [(.exit 2, [7])] c81_2 e0 1 []) (fun k (s : List Int × Bool) => ([.bool s.2, .int .i64 (k : Int)], [.row 0 1 (Mk t s.1)])) t.nodes (rowU i) (fun s => (.exit 2, [.bool s.2], [.row 0 1 (Mk t s.1)])) (fun _ _ => True)
    (fun k hk s _ => by
      refine ⟨trivial, ?_⟩
      obtain ⟨q, hq⟩ : ∃ q, q = t.nodes[k] := ⟨_, rfl⟩
      rw [← hq]
      have hml := Mk_len t s.1
      have hget : ∀ h : k < (Mk t s.1).length, (Mk t s.1)[k] = .bool (s.1.contains q.ino) := fun h => by rw [List.getElem_map, ← hq]
      have hin := fun e0 h2 h5 h8 => l81_1 (n := n) hn t w q k hk hq s e0 h2 h5 h8
      unfold rowU
      cases hc : s.1.contains q.ino with
      | true =>
        rw [hc] at hget
        rw [if_neg (by simp)]
        generalize q.ents.foldl mkE s = m at *
        have e1 : Mk t m.1 = Mk t m.1 := rfl
        generalize hR : Mk t s.1 = R at *
        generalize Mk t m.1 = R' at *
        simp -implicitDefEqProofs (disch := omega) [wrap_of, ilt_t, ilt_f, ile_t, ile_f, nlt_t, nlt_f, nle_t, nle_f, ieq_t, ieq_f, imin_l, imin_r, imax_l, imax_r, take_app1, take_map_all, round_eq, b81_2, h2, h5, h1, hk, ← hq, hget, hml]
        rw [hin _ (by simp -implicitDefEqProofs (disch := omega) [wrap_of, ilt_t, ilt_f, ile_t, ile_f, nlt_t, nlt_f, nle_t, nle_f, ieq_t, ieq_f, imin_l, imin_r, imax_l, imax_r, take_app1, take_map_all, h2]) (by simp -implicitDefEqProofs (disch := omega) [wrap_of, ilt_t, ilt_f, ile_t, ile_f, nlt_t, nlt_f, nle_t, nle_f, ieq_t, ieq_f, imin_l, imin_r, imax_l, imax_r, take_app1, take_map_all, h5]) (by simp -implicitDefEqProofs (disch := omega) [wrap_of, ilt_t, ilt_f, ile_t, ile_f, nlt_t, nlt_f, nle_t, nle_f, ieq_t, ieq_f, imin_l, imin_r, imax_l, imax_r, take_app1, take_map_all, ])]
        simp -implicitDefEqProofs (disch := omega) [wrap_of, ilt_t, ilt_f, ile_t, ile_f, nlt_t, nlt_f, nle_t, nle_f, ieq_t, ieq_f, imin_l, imin_r, imax_l, imax_r, take_app1, take_map_all, ]
      | false =>
        rw [hc] at hget
        by_cases c1 : q.ino = i
        · rw [if_neg (by simp [c1])]
          generalize q.ents.foldl mkE s = m at *
          generalize hR : Mk t s.1 = R at *
          generalize Mk t m.1 = R' at *
          simp -implicitDefEqProofs (disch := omega) [wrap_of, ilt_t, ilt_f, ile_t, ile_f, nlt_t, nlt_f, nle_t, nle_f, ieq_t, ieq_f, imin_l, imin_r, imax_l, imax_r, take_app1, take_map_all, round_eq, b81_2, h2, h5, h1, hk, ← hq, hget, hml, c1]
          rw [hin _ (by simp -implicitDefEqProofs (disch := omega) [wrap_of, ilt_t, ilt_f, ile_t, ile_f, nlt_t, nlt_f, nle_t, nle_f, ieq_t, ieq_f, imin_l, imin_r, imax_l, imax_r, take_app1, take_map_all, h2]) (by simp -implicitDefEqProofs (disch := omega) [wrap_of, ilt_t, ilt_f, ile_t, ile_f, nlt_t, nlt_f, nle_t, nle_f, ieq_t, ieq_f, imin_l, imin_r, imax_l, imax_r, take_app1, take_map_all, h5]) (by simp -implicitDefEqProofs (disch := omega) [wrap_of, ilt_t, ilt_f, ile_t, ile_f, nlt_t, nlt_f, nle_t, nle_f, ieq_t, ieq_f, imin_l, imin_r, imax_l, imax_r, take_app1, take_map_all, ])]
          simp -implicitDefEqProofs (disch := omega) [wrap_of, ilt_t, ilt_f, ile_t, ile_f, nlt_t, nlt_f, nle_t, nle_f, ieq_t, ieq_f, imin_l, imin_r, imax_l, imax_r, take_app1, take_map_all, ]
        · rw [if_pos ⟨c1, rfl⟩]
          generalize hR : Mk t s.1 = R at *
          simp -implicitDefEqProofs (disch := omega) [wrap_of, ilt_t, ilt_f, ile_t, ile_f, nlt_t, nlt_f, nle_t, nle_f, ieq_t, ieq_f, imin_l, imin_r, imax_l, imax_r, take_app1, take_map_all, round_eq, b81_2, h2, h5, h1, hk, ← hq, hget, hml, c1])
    (fun s _ => by simp -implicitDefEqProofs (disch := omega) [wrap_of, ilt_t, ilt_f, ile_t, ile_f, nlt_t, nlt_f, nle_t, nle_f, ieq_t, ieq_f, imin_l, imin_r, imax_l, imax_r, take_app1, take_map_all, round_eq, b81_2, h2]) s trivial
def undB (t : Tr.Tree) (i : Int) : Nat → List Int → Bool
  | 0, _ => false
  | k + 1, M => if (rndU t i M).2 = true then undB t i k (rndU t i M).1 else true
theorem l81_3 {n : Nat} (hn : 59 < n) (t : Tr.Tree) (w : WFt t) (i : Int) (e0 : Env) (h2 : e0 2 = .rptr (Tb t)) (h5 : e0 5 = .own 0 0 0 t.nodes.length) (h1 : e0 1 = I i) :
    ∀ (k j : Nat) (M : List Int), j + k = t.nodes.length → iter (round (C49.tab n) [6] [(.exit 0, []), (.ret, [4])] c81_3 e0 1 []) ([.int .i64 (j : Int)], [.row 0 1 (Mk t M)]) =
      some (if undB t i k M = true then (.ret, [.own 0 0 0 t.nodes.length], [.row 0 1 (Mk t (undU t i k M))]) else (.exit 0, [], [.row 0 1 (Mk t (undU t i k M))]))
  | 0, j, M, hj => by
    have hl := (wbt w).len
    rw [iter_eq]
    have hj' : j = t.nodes.length := by omega
    subst hj'
    simp -implicitDefEqProofs (disch := omega) [wrap_of, ilt_t, ilt_f, ile_t, ile_f, nlt_t, nlt_f, nle_t, nle_f, ieq_t, ieq_f, imin_l, imin_r, imax_l, imax_r, take_app1, take_map_all, round_eq, b81_3, h2, undU, undB]
  | k + 1, j, M, hj => by
    have hl := (wbt w).len
    have hjl : j < t.nodes.length := by omega
    have hin := fun e0 h2 h5 h1 => l81_2 (n := n) hn t w i (M, false) e0 h2 h5 h1
    change ∀ e0 h2 h5 h1, iter _ _ = some (AX.exit 2, [AV.bool (rndU t i M).2], [AB.row 0 1 (Mk t (rndU t i M).1)]) at hin
    unfold undU undB
    have hX := l81_3 hn t w i e0 h2 h5 h1 k (j + 1) (rndU t i M).1 (by omega)
    rw [iter_eq]
    cases hm : (rndU t i M).2 with
    | true =>
      rw [hm] at hin
      simp only [if_true]
      rw [← hX]
      clear hX
      generalize Mk t M = R at *
      generalize Mk t (rndU t i M).1 = R' at *
      simp -implicitDefEqProofs (disch := omega) [wrap_of, ilt_t, ilt_f, ile_t, ile_f, nlt_t, nlt_f, nle_t, nle_f, ieq_t, ieq_f, imin_l, imin_r, imax_l, imax_r, take_app1, take_map_all, round_eq, b81_3, h2, h5, h1, hjl]
      rw [hin _ (by simp -implicitDefEqProofs (disch := omega) [wrap_of, ilt_t, ilt_f, ile_t, ile_f, nlt_t, nlt_f, nle_t, nle_f, ieq_t, ieq_f, imin_l, imin_r, imax_l, imax_r, take_app1, take_map_all, h2]) (by simp -implicitDefEqProofs (disch := omega) [wrap_of, ilt_t, ilt_f, ile_t, ile_f, nlt_t, nlt_f, nle_t, nle_f, ieq_t, ieq_f, imin_l, imin_r, imax_l, imax_r, take_app1, take_map_all, h5]) (by simp -implicitDefEqProofs (disch := omega) [wrap_of, ilt_t, ilt_f, ile_t, ile_f, nlt_t, nlt_f, nle_t, nle_f, ieq_t, ieq_f, imin_l, imin_r, imax_l, imax_r, take_app1, take_map_all, h1])]
      simp -implicitDefEqProofs (disch := omega) [wrap_of, ilt_t, ilt_f, ile_t, ile_f, nlt_t, nlt_f, nle_t, nle_f, ieq_t, ieq_f, imin_l, imin_r, imax_l, imax_r, take_app1, take_map_all, ]
    | false =>
      rw [hm] at hin
      simp only [Bool.false_eq_true, if_false, if_true]
      clear hX
      generalize Mk t M = R at *
      generalize Mk t (rndU t i M).1 = R' at *
      simp -implicitDefEqProofs (disch := omega) [wrap_of, ilt_t, ilt_f, ile_t, ile_f, nlt_t, nlt_f, nle_t, nle_f, ieq_t, ieq_f, imin_l, imin_r, imax_l, imax_r, take_app1, take_map_all, round_eq, b81_3, h2, h5, h1, hjl]
      rw [hin _ (by simp -implicitDefEqProofs (disch := omega) [wrap_of, ilt_t, ilt_f, ile_t, ile_f, nlt_t, nlt_f, nle_t, nle_f, ieq_t, ieq_f, imin_l, imin_r, imax_l, imax_r, take_app1, take_map_all, h2]) (by simp -implicitDefEqProofs (disch := omega) [wrap_of, ilt_t, ilt_f, ile_t, ile_f, nlt_t, nlt_f, nle_t, nle_f, ieq_t, ieq_f, imin_l, imin_r, imax_l, imax_r, take_app1, take_map_all, h5]) (by simp -implicitDefEqProofs (disch := omega) [wrap_of, ilt_t, ilt_f, ile_t, ile_f, nlt_t, nlt_f, nle_t, nle_f, ieq_t, ieq_f, imin_l, imin_r, imax_l, imax_r, take_app1, take_map_all, h1])]
      simp -implicitDefEqProofs (disch := omega) [wrap_of, ilt_t, ilt_f, ile_t, ile_f, nlt_t, nlt_f, nle_t, nle_f, ieq_t, ieq_f, imin_l, imin_r, imax_l, imax_r, take_app1, take_map_all, h5]
theorem s81 {n : Nat} (hn : 60 < n) (t : Tr.Tree) (w : WFt t) (i : Int) : (C49.tab n).p 81 [Tv t, I i] = some (.lst false (Mk t (undL t i))) := by
  rw [p81 hn, runP_eq, runH_eq]
  have hl := (wbt w).len
  have h := fun e0 h2 h5 h1 => l81_3 (n := 60) (by decide) t w i e0 h2 h5 h1 t.nodes.length 0 [] (by omega)
  have hz : Mk t [] = List.replicate t.nodes.length (.bool false) := by
    unfold Mk
    simp [List.map_const']
  have hml := Mk_len t (undL t i)
  change ∀ (e0 : Env) (h2 : e0 2 = .rptr (Tb t)) (h5 : e0 5 = .own 0 0 0 t.nodes.length) (h1 : e0 1 = I i), iter (round (C49.tab 60) [6] [(.exit 0, []), (.ret, [4])] c81_3 e0 1 []) ([AV.int .i64 0], [.row 0 1 (Mk t [])]) = some (if undB t i t.nodes.length [] = true then (AX.ret, [AV.own 0 0 0 t.nodes.length], [AB.row 0 1 (Mk t (undL t i))]) else (AX.exit 0, [], [AB.row 0 1 (Mk t (undL t i))])) at h
  rw [hz] at h
  have hp : (Mk t (undL t i)).all AV.isE = true := by rw [List.all_eq_true]; intro x hx; obtain ⟨q, _, rfl⟩ := List.mem_map.1 hx; rfl
  have hz : szOk 1 (Mk t (undL t i)) = true := by simp [szOk]
  generalize Mk t (undL t i) = R at *
  generalize undB t i t.nodes.length [] = b at *
  have htk : List.take t.nodes.length R = R := List.take_of_length_le (by omega)
  simp -implicitDefEqProofs (disch := omega) [wrap_of, ilt_t, ilt_f, ile_t, ile_f, nlt_t, nlt_f, nle_t, nle_f, ieq_t, ieq_f, imin_l, imin_r, imax_l, imax_r, take_app1, take_map_all, c81]
  rw [h _ (by simp -implicitDefEqProofs (disch := omega) [wrap_of, ilt_t, ilt_f, ile_t, ile_f, nlt_t, nlt_f, nle_t, nle_f, ieq_t, ieq_f, imin_l, imin_r, imax_l, imax_r, take_app1, take_map_all, ]) (by simp -implicitDefEqProofs (disch := omega) [wrap_of, ilt_t, ilt_f, ile_t, ile_f, nlt_t, nlt_f, nle_t, nle_f, ieq_t, ieq_f, imin_l, imin_r, imax_l, imax_r, take_app1, take_map_all, ]) (by simp -implicitDefEqProofs (disch := omega) [wrap_of, ilt_t, ilt_f, ile_t, ile_f, nlt_t, nlt_f, nle_t, nle_f, ieq_t, ieq_f, imin_l, imin_r, imax_l, imax_r, take_app1, take_map_all, ])]
  cases b
  · simp -implicitDefEqProofs (disch := omega) [wrap_of, ilt_t, ilt_f, ile_t, ile_f, nlt_t, nlt_f, nle_t, nle_f, ieq_t, ieq_f, imin_l, imin_r, imax_l, imax_r, take_app1, take_map_all, hml, htk]
  · simp -implicitDefEqProofs (disch := omega) [wrap_of, ilt_t, ilt_f, ile_t, ile_f, nlt_t, nlt_f, nle_t, nle_f, ieq_t, ieq_f, imin_l, imin_r, imax_l, imax_r, take_app1, take_map_all, hml, htk]
theorem l49 {Γ : Tab} (t : Tr.Tree) (w : WFt t) (M : List Int) (e0 : Env) (h2 : e0 2 = .rptr (Tb t)) (h7 : e0 7 = .lst false (Mk t M)) :
    iter (round Γ [8, 9, 10] [(.exit 0, [8, 9])] c49_1 e0 0 []) ([.int .i64 0, .int .i64 0, .int .i64 0], []) = some (.exit 0, [.int .i64 (t.nodes.foldl (cntE M) (0, 0)).1, .int .i64 (t.nodes.foldl (cntE M) (0, 0)).2], []) := by
  have hl := (wbt w).len
  exact for_list (f := round Γ [8, 9, 10] [(.exit 0, [8, 9])] c49_1 e0 0 []) (fun k (s : Int × Int) => ([.int .i64 s.1, .int .i64 s.2, .int .i64 (k : Int)], [])) t.nodes (cntE M) (fun s => (.exit 0, [.int .i64 s.1, .int .i64 s.2], [])) (fun k s => 0 ≤ s.1 ∧ s.1 ≤ k ∧ 0 ≤ s.2 ∧ s.2 ≤ 4096 * (k : Int))
    (fun k hk s hs => by
      obtain ⟨q, hq⟩ : ∃ q, q = t.nodes[k] := ⟨_, rfl⟩
      have hqd := dat_le w q.ino
      unfold dat at hqd
      rw [getZ_of (find_of w.wf.srt (by rw [hq]; exact List.getElem_mem hk))] at hqd
      rw [← hq]
      have hml := Mk_len t M
      have hget : ∀ h : k < (Mk t M).length, (Mk t M)[k] = .bool (M.contains q.ino) := fun h => by rw [List.getElem_map, ← hq]
      unfold cntE
      cases hc : M.contains q.ino with
      | true =>
        rw [hc] at hget
        rw [if_pos rfl]
        refine ⟨⟨by simp only; omega, by simp only; omega, by simp only; omega, by simp only; omega⟩, ?_⟩
        generalize Mk t M = R at *
        simp -implicitDefEqProofs (disch := omega) [wrap_of, ilt_t, ilt_f, ile_t, ile_f, nlt_t, nlt_f, nle_t, nle_f, ieq_t, ieq_f, imin_l, imin_r, imax_l, imax_r, take_app1, take_map_all, round_eq, b49_1, h2, h7, hk, ← hq, hget, hml]
      | false =>
        rw [hc] at hget
        rw [if_neg (by simp)]
        refine ⟨⟨by omega, by omega, by omega, by omega⟩, ?_⟩
        generalize Mk t M = R at *
        simp -implicitDefEqProofs (disch := omega) [wrap_of, ilt_t, ilt_f, ile_t, ile_f, nlt_t, nlt_f, nle_t, nle_f, ieq_t, ieq_f, imin_l, imin_r, imax_l, imax_r, take_app1, take_map_all, round_eq, b49_1, h2, h7, hk, ← hq, hget, hml])
    (fun s hs => by
      have hml := Mk_len t M
      generalize Mk t M = R at *
      simp -implicitDefEqProofs (disch := omega) [wrap_of, ilt_t, ilt_f, ile_t, ile_f, nlt_t, nlt_f, nle_t, nle_f, ieq_t, ieq_f, imin_l, imin_r, imax_l, imax_r, take_app1, take_map_all, round_eq, b49_1, h2, h7, hml]) (0, 0) ⟨Int.le_refl _, Int.le_refl _, Int.le_refl _, Int.le_refl _⟩
theorem s49 {n : Nat} (hn : 61 < n) (t : Tr.Tree) (w : WFt t) (d : Int) : (C49.tab n).p 49 [Tv t, I d] = some (.tup [I (usedN t d), I (usedB t d)]) := by
  rw [p49 hn, runP_eq, runH_eq]
  have h34 := s48 (n := 61) (by decide) t (wbt w) d
  have h35 := s81 (n := 61) (by decide) t w d
  by_cases c1 : dirE t d = 0
  · have h := fun e0 h2 h7 => l49 (Γ := C49.tab 61) t w (undL t d) e0 h2 h7
    rw [cntE_used w c1] at h
    rw [decide_eq_true c1] at h34
    generalize Mk t (undL t d) = R at *
    generalize usedN t d = u at *
    generalize usedB t d = v at *
    simp only [Tv] at h34 h35
    simp -implicitDefEqProofs (disch := omega) [wrap_of, ilt_t, ilt_f, ile_t, ile_f, nlt_t, nlt_f, nle_t, nle_f, ieq_t, ieq_f, imin_l, imin_r, imax_l, imax_r, take_app1, take_map_all, c49, a48, h34, a81, h35]
    rw [h _ (by simp -implicitDefEqProofs (disch := omega) [wrap_of, ilt_t, ilt_f, ile_t, ile_f, nlt_t, nlt_f, nle_t, nle_f, ieq_t, ieq_f, imin_l, imin_r, imax_l, imax_r, take_app1, take_map_all, ]) (by simp -implicitDefEqProofs (disch := omega) [wrap_of, ilt_t, ilt_f, ile_t, ile_f, nlt_t, nlt_f, nle_t, nle_f, ieq_t, ieq_f, imin_l, imin_r, imax_l, imax_r, take_app1, take_map_all, ])]
    simp -implicitDefEqProofs (disch := omega) [wrap_of, ilt_t, ilt_f, ile_t, ile_f, nlt_t, nlt_f, nle_t, nle_f, ieq_t, ieq_f, imin_l, imin_r, imax_l, imax_r, take_app1, take_map_all, ]
  · rw [decide_eq_false c1] at h34
    unfold usedN usedB
    rw [if_neg c1, if_neg c1]
    simp only [Tv] at h34
    simp -implicitDefEqProofs (disch := omega) [wrap_of, ilt_t, ilt_f, ile_t, ile_f, nlt_t, nlt_f, nle_t, nle_f, ieq_t, ieq_f, imin_l, imin_r, imax_l, imax_r, take_app1, take_map_all, c49, a48, h34]
end Go.Proofs.YtfdenmkoampgnaaGreat

namespace Go.Proofs.YtfdenmkoampgnaaGreat
open Go.Am Go.Tr

def ixQ (l : List Qu) (i : Int) : Int := (findQ l i).elim (-1) fun _ => ((l.findIdx fun q => decide (q.ino = i) : Nat) : Int)
theorem ixQ_neg (l : List Qu) (i : Int) : ixQ l i < 0 ↔ findQ l i = none := by
  unfold ixQ
  cases findQ l i with
  | none => simp
  | some q => simp
theorem l50 {Γ : Tab} (l : List Qu) (hl : l.length ≤ 1000) (f : Bool) (i : Int) (e0 : Env) (h0 : e0 0 = .lst f (l.map Qv)) (h1 : e0 1 = I i) :
    iter (round Γ [5] [(.exit 0, []), (.ret, [4])] c50_1 e0 0 []) ([.int .i64 0], []) = some ((l.find? fun q => decide (q.ino = i)).elim (.exit 0, [], []) fun _ => (.ret, [I (l.findIdx fun q => decide (q.ino = i) : Nat)], [])) :=
  for_idx (f := round Γ [5] [(.exit 0, []), (.ret, [4])] c50_1 e0 0 []) (fun i => ([.int .i64 (i : Int)], [])) l (fun q => decide (q.ino = i)) (fun k _ => (.ret, [I (k : Int)], [])) (.exit 0, [], [])
    (fun k hk => by
      obtain ⟨y, hy⟩ : ∃ y, y = l[k] := ⟨_, rfl⟩
      rw [← hy]
      by_cases c1 : y.ino = i
      · simp -implicitDefEqProofs (disch := omega) [wrap_of, ilt_t, ilt_f, ile_t, ile_f, nlt_t, nlt_f, nle_t, nle_f, ieq_t, ieq_f, imin_l, imin_r, imax_l, imax_r, take_app1, take_map_all, round_eq, b50_1, h0, h1, hk, ← hy, c1]
      · simp -implicitDefEqProofs (disch := omega) [wrap_of, ilt_t, ilt_f, ile_t, ile_f, nlt_t, nlt_f, nle_t, nle_f, ieq_t, ieq_f, imin_l, imin_r, imax_l, imax_r, take_app1, take_map_all, round_eq, b50_1, h0, h1, hk, ← hy, c1])
    (by simp -implicitDefEqProofs (disch := omega) [wrap_of, ilt_t, ilt_f, ile_t, ile_f, nlt_t, nlt_f, nle_t, nle_f, ieq_t, ieq_f, imin_l, imin_r, imax_l, imax_r, take_app1, take_map_all, round_eq, b50_1, h0])
theorem s50 {n : Nat} (hn : 62 < n) (l : List Qu) (hl : l.length ≤ 1000) (f : Bool) (i : Int) : (C49.tab n).p 50 [.lst f (l.map Qv), I i] = some (I (ixQ l i)) := by
  rw [p50 hn, runP_eq, runH_eq]
  have h := l50 (Γ := C49.tab 62) l hl f i
  unfold ixQ findQ
  simp -implicitDefEqProofs (disch := omega) [wrap_of, ilt_t, ilt_f, ile_t, ile_f, nlt_t, nlt_f, nle_t, nle_f, ieq_t, ieq_f, imin_l, imin_r, imax_l, imax_r, take_app1, take_map_all, c50]
  rw [h _ (by simp -implicitDefEqProofs (disch := omega) [wrap_of, ilt_t, ilt_f, ile_t, ile_f, nlt_t, nlt_f, nle_t, nle_f, ieq_t, ieq_f, imin_l, imin_r, imax_l, imax_r, take_app1, take_map_all, ]) (by simp -implicitDefEqProofs (disch := omega) [wrap_of, ilt_t, ilt_f, ile_t, ile_f, nlt_t, nlt_f, nle_t, nle_f, ieq_t, ieq_f, imin_l, imin_r, imax_l, imax_r, take_app1, take_map_all, ])]
  cases l.find? fun q => decide (q.ino = i) with
  | none => simp -implicitDefEqProofs (disch := omega) [wrap_of, ilt_t, ilt_f, ile_t, ile_f, nlt_t, nlt_f, nle_t, nle_f, ieq_t, ieq_f, imin_l, imin_r, imax_l, imax_r, take_app1, take_map_all, ]
  | some y => simp -implicitDefEqProofs (disch := omega) [wrap_of, ilt_t, ilt_f, ile_t, ile_f, nlt_t, nlt_f, nle_t, nle_f, ieq_t, ieq_f, imin_l, imin_r, imax_l, imax_r, take_app1, take_map_all, ]
theorem l18 {Γ : Tab} (a b : List Qu) (hl : a.length = b.length) (ha : a.length ≤ 1000) (f g : Bool) (e0 : Env) (h0 : e0 0 = .lst f (a.map Qv)) (h1 : e0 1 = .lst g (b.map Qv)) :
    iter (round Γ [5] [(.exit 0, []), (.ret, [4])] c18_1 e0 0 []) ([.int .i64 0], []) = some (if (a.zip b).all (fun x => decide (x.1 = x.2)) = true then (.exit 0, [], []) else (.ret, [.bool false], [])) :=
  for_cmp (f := round Γ [5] [(.exit 0, []), (.ret, [4])] c18_1 e0 0 []) (fun i => ([.int .i64 (i : Int)], [])) a b hl (fun x y => decide (x = y)) (.exit 0, [], []) (.ret, [.bool false], [])
    (fun k hk hk' => by
      obtain ⟨x, hx⟩ : ∃ x, x = a[k] := ⟨_, rfl⟩
      obtain ⟨y, hy⟩ : ∃ y, y = b[k] := ⟨_, rfl⟩
      rw [← hx, ← hy]
      by_cases c : x = y
      · subst c
        simp -implicitDefEqProofs (disch := omega) [wrap_of, ilt_t, ilt_f, ile_t, ile_f, nlt_t, nlt_f, nle_t, nle_f, ieq_t, ieq_f, imin_l, imin_r, imax_l, imax_r, take_app1, take_map_all, round_eq, b18_1, h0, h1, hk, hk', ← hx, ← hy, cellsEq]
      · obtain ⟨x1, x2, x3⟩ := x
        obtain ⟨y1, y2, y3⟩ := y
        have c' : ¬ (x1 = y1 ∧ x2 = y2 ∧ x3 = y3) := fun h => c (by rw [h.1, h.2.1, h.2.2])
        rw [decide_eq_false c]
        by_cases d1 : x1 = y1
        · by_cases d2 : x2 = y2
          · by_cases d3 : x3 = y3
            · exact absurd ⟨d1, d2, d3⟩ c'
            · simp -implicitDefEqProofs (disch := omega) [wrap_of, ilt_t, ilt_f, ile_t, ile_f, nlt_t, nlt_f, nle_t, nle_f, ieq_t, ieq_f, imin_l, imin_r, imax_l, imax_r, take_app1, take_map_all, round_eq, b18_1, h0, h1, hk, hk', ← hx, ← hy, cellsEq, d1, d2, d3]
          · simp -implicitDefEqProofs (disch := omega) [wrap_of, ilt_t, ilt_f, ile_t, ile_f, nlt_t, nlt_f, nle_t, nle_f, ieq_t, ieq_f, imin_l, imin_r, imax_l, imax_r, take_app1, take_map_all, round_eq, b18_1, h0, h1, hk, hk', ← hx, ← hy, cellsEq, d1, d2]
        · simp -implicitDefEqProofs (disch := omega) [wrap_of, ilt_t, ilt_f, ile_t, ile_f, nlt_t, nlt_f, nle_t, nle_f, ieq_t, ieq_f, imin_l, imin_r, imax_l, imax_r, take_app1, take_map_all, round_eq, b18_1, h0, h1, hk, hk', ← hx, ← hy, cellsEq, d1])
    (by simp -implicitDefEqProofs (disch := omega) [wrap_of, ilt_t, ilt_f, ile_t, ile_f, nlt_t, nlt_f, nle_t, nle_f, ieq_t, ieq_f, imin_l, imin_r, imax_l, imax_r, take_app1, take_map_all, round_eq, b18_1, h0])
theorem zip_all {α : Type} [DecidableEq α] : ∀ {a b : List α}, a.length = b.length → ((a.zip b).all (fun x => decide (x.1 = x.2)) = true ↔ a = b)
  | [], [], _ => by simp
  | x :: a, y :: b, h => by
    have h' : a.length = b.length := by simpa using h
    rw [List.zip_cons_cons, List.all_cons, Bool.and_eq_true, zip_all h']
    simp
  | [], y :: b, h => by simp at h
  | x :: a, [], h => by simp at h
theorem s18 {n : Nat} (hn : 20 < n) (a b : List Qu) (ha : a.length ≤ 1000) (hb : b.length ≤ 1000) (f g : Bool) : (C49.tab n).p 18 [.lst f (a.map Qv), .lst g (b.map Qv)] = some (.bool (decide (a = b))) := by
  rw [p18 hn, runP_eq, runH_eq]
  by_cases hl : a.length = b.length
  · have h := fun e0 h0 h1 => l18 (Γ := C49.tab 20) a b hl ha f g e0 h0 h1
    have hz := zip_all hl
    by_cases c : a = b
    · rw [hz.2 c] at h
      rw [decide_eq_true c]
      clear c
      simp -implicitDefEqProofs (disch := omega) [wrap_of, ilt_t, ilt_f, ile_t, ile_f, nlt_t, nlt_f, nle_t, nle_f, ieq_t, ieq_f, imin_l, imin_r, imax_l, imax_r, take_app1, take_map_all, c18, hl]
      rw [h _ (by simp -implicitDefEqProofs (disch := omega) [wrap_of, ilt_t, ilt_f, ile_t, ile_f, nlt_t, nlt_f, nle_t, nle_f, ieq_t, ieq_f, imin_l, imin_r, imax_l, imax_r, take_app1, take_map_all, ]) (by simp -implicitDefEqProofs (disch := omega) [wrap_of, ilt_t, ilt_f, ile_t, ile_f, nlt_t, nlt_f, nle_t, nle_f, ieq_t, ieq_f, imin_l, imin_r, imax_l, imax_r, take_app1, take_map_all, ])]
      simp -implicitDefEqProofs (disch := omega) [wrap_of, ilt_t, ilt_f, ile_t, ile_f, nlt_t, nlt_f, nle_t, nle_f, ieq_t, ieq_f, imin_l, imin_r, imax_l, imax_r, take_app1, take_map_all, ]
    · have hz' : ¬ (a.zip b).all (fun x => decide (x.1 = x.2)) = true := fun h => c (hz.1 h)
      rw [if_neg hz'] at h
      rw [decide_eq_false c]
      simp -implicitDefEqProofs (disch := omega) [wrap_of, ilt_t, ilt_f, ile_t, ile_f, nlt_t, nlt_f, nle_t, nle_f, ieq_t, ieq_f, imin_l, imin_r, imax_l, imax_r, take_app1, take_map_all, c18, hl]
      rw [h _ (by simp -implicitDefEqProofs (disch := omega) [wrap_of, ilt_t, ilt_f, ile_t, ile_f, nlt_t, nlt_f, nle_t, nle_f, ieq_t, ieq_f, imin_l, imin_r, imax_l, imax_r, take_app1, take_map_all, ]) (by simp -implicitDefEqProofs (disch := omega) [wrap_of, ilt_t, ilt_f, ile_t, ile_f, nlt_t, nlt_f, nle_t, nle_f, ieq_t, ieq_f, imin_l, imin_r, imax_l, imax_r, take_app1, take_map_all, ])]
      simp -implicitDefEqProofs (disch := omega) [wrap_of, ilt_t, ilt_f, ile_t, ile_f, nlt_t, nlt_f, nle_t, nle_f, ieq_t, ieq_f, imin_l, imin_r, imax_l, imax_r, take_app1, take_map_all, ]
  · have c : ¬ a = b := fun h => hl (by rw [h])
    rw [decide_eq_false c]
    simp -implicitDefEqProofs (disch := omega) [wrap_of, ilt_t, ilt_f, ile_t, ile_f, nlt_t, nlt_f, nle_t, nle_f, ieq_t, ieq_f, imin_l, imin_r, imax_l, imax_r, take_app1, take_map_all, c18, hl]
end Go.Proofs.YtfdenmkoampgnaaGreat

namespace Go.Proofs.YtfdenmkoampgnaaGreat
open Go.Am Go.Tr

def sq (x : Qu) (s : List Qu × Bool) (q : Qu) : List Qu × Bool :=
  ((if s.2 = false ∧ x.ino ≤ q.ino then s.1 ++ [x] else s.1) ++ (if q.ino ≠ x.ino then [q] else []), s.2 || decide (x.ino ≤ q.ino))
def sfin (x : Qu) (s : List Qu × Bool) : List Qu := if s.2 = true then s.1 else s.1 ++ [x]
theorem sq_rest (x : Qu) : ∀ (l : List Qu) (a : List Qu), l.foldl (sq x) (a, true) = (a ++ remQ l x.ino, true)
  | [], a => by simp [remQ]
  | q :: l, a => by
    rw [List.foldl_cons]
    have h1 : sq x (a, true) q = (a ++ (if q.ino ≠ x.ino then [q] else []), true) := by unfold sq; simp
    rw [h1, sq_rest x l]
    unfold remQ
    rw [List.filter_cons]
    by_cases c : q.ino = x.ino <;> simp [c]
theorem sq_put (x : Qu) : ∀ (l : List Qu) (a : List Qu), sfin x (l.foldl (sq x) (a, false)) = a ++ putQ l x
  | [], a => by simp [sfin, putQ]
  | q :: l, a => by
    rw [List.foldl_cons]
    have hp : ∀ l : List Qu, putQ l x = (l.takeWhile fun q => decide (q.ino < x.ino)) ++ x :: (l.dropWhile fun q => decide (q.ino < x.ino)).filter fun q => decide (q.ino ≠ x.ino) := fun l => by
      unfold putQ cutQ
      rw [cutP_take, cutP_drop]
    by_cases c : x.ino ≤ q.ino
    · have c' : ¬ q.ino < x.ino := by omega
      have h1 : sq x (a, false) q = (a ++ [x] ++ (if q.ino ≠ x.ino then [q] else []), true) := by unfold sq; simp [c]
      rw [h1, sq_rest, hp, List.takeWhile_cons, List.dropWhile_cons]
      unfold sfin remQ
      simp only [c', decide_false, Bool.false_eq_true, if_false, if_true, List.nil_append, List.filter_cons]
      by_cases c2 : q.ino = x.ino <;> simp [c2]
    · have c' : q.ino < x.ino := by omega
      have c2 : q.ino ≠ x.ino := by omega
      have h1 : sq x (a, false) q = (a ++ [q], false) := by unfold sq; simp [c, c2]
      rw [h1, sq_put x l, hp, hp, List.takeWhile_cons, List.dropWhile_cons]
      simp [c']
theorem l23 {Γ : Tab} (l : List Qu) (hl : l.length ≤ 1000) (f : Bool) (q0 : Tr.Node) (x : Qu) (d : Bool) (e0 : Env) (h1 : e0 1 = .lst f (l.map Qv)) (h2 : e0 2 = I x.ino) (h3 : e0 3 = I x.nodes) (h4 : e0 4 = I x.bytes) :
    iter (round Γ [17, 18, 19] [(.exit 0, [17, 18])] c23_1 e0 2 [1]) ([.own 1 0 0 0, .bool d, .int .i64 0], [.var (Nc q0), .row 0 3 []]) =
      some (.exit 0, [.own 1 0 0 (l.foldl (sq x) ([], d)).1.length, .bool (l.foldl (sq x) ([], d)).2], [.var (Nc q0), .row 0 3 ((l.foldl (sq x) ([], d)).1.map Qv)]) := by
  exact for_list (f := round Γ [17, 18, 19] [(.exit 0, [17, 18])] c23_1 e0 2 [1]) (fun k (s : List Qu × Bool) => ([.own 1 0 0 s.1.length, .bool s.2, .int .i64 (k : Int)], [.var (Nc q0), .row 0 3 (s.1.map Qv)])) l (sq x) (fun s => (.exit 0, [.own 1 0 0 s.1.length, .bool s.2], [.var (Nc q0), .row 0 3 (s.1.map Qv)])) (fun k s => s.1.length ≤ 2 * k)
    (fun k hk s hs => by
      obtain ⟨q, hq⟩ : ∃ q, q = l[k] := ⟨_, rfl⟩
      obtain ⟨a, d⟩ := s
      rw [← hq]
      simp only at hs
      unfold sq
      by_cases c1 : q.ino = x.ino
      · cases d with
        | true =>
          refine ⟨by simp [c1]; omega, ?_⟩
          simp -implicitDefEqProofs (disch := omega) [wrap_of, ilt_t, ilt_f, ile_t, ile_f, nlt_t, nlt_f, nle_t, nle_f, ieq_t, ieq_f, imin_l, imin_r, imax_l, imax_r, take_app1, take_map_all, round_eq, b23_1, h1, h2, h3, h4, hk, ← hq, c1]
        | false =>
          refine ⟨by simp [c1]; omega, ?_⟩
          simp -implicitDefEqProofs (disch := omega) [wrap_of, ilt_t, ilt_f, ile_t, ile_f, nlt_t, nlt_f, nle_t, nle_f, ieq_t, ieq_f, imin_l, imin_r, imax_l, imax_r, take_app1, take_map_all, round_eq, b23_1, h1, h2, h3, h4, hk, ← hq, c1]
      · by_cases c2 : x.ino ≤ q.ino
        · cases d with
          | true =>
            refine ⟨by simp [c1, c2]; omega, ?_⟩
            simp -implicitDefEqProofs (disch := omega) [wrap_of, ilt_t, ilt_f, ile_t, ile_f, nlt_t, nlt_f, nle_t, nle_f, ieq_t, ieq_f, imin_l, imin_r, imax_l, imax_r, take_app1, take_map_all, round_eq, b23_1, h1, h2, h3, h4, hk, ← hq, c1, c2]
          | false =>
            refine ⟨by simp [c1, c2]; omega, ?_⟩
            simp -implicitDefEqProofs (disch := omega) [wrap_of, ilt_t, ilt_f, ile_t, ile_f, nlt_t, nlt_f, nle_t, nle_f, ieq_t, ieq_f, imin_l, imin_r, imax_l, imax_r, take_app1, take_map_all, round_eq, b23_1, h1, h2, h3, h4, hk, ← hq, c1, c2]
        · cases d with
          | true =>
            refine ⟨by simp [c1, c2]; omega, ?_⟩
            simp -implicitDefEqProofs (disch := omega) [wrap_of, ilt_t, ilt_f, ile_t, ile_f, nlt_t, nlt_f, nle_t, nle_f, ieq_t, ieq_f, imin_l, imin_r, imax_l, imax_r, take_app1, take_map_all, round_eq, b23_1, h1, h2, h3, h4, hk, ← hq, c1, c2]
          | false =>
            refine ⟨by simp [c1, c2]; omega, ?_⟩
            simp -implicitDefEqProofs (disch := omega) [wrap_of, ilt_t, ilt_f, ile_t, ile_f, nlt_t, nlt_f, nle_t, nle_f, ieq_t, ieq_f, imin_l, imin_r, imax_l, imax_r, take_app1, take_map_all, round_eq, b23_1, h1, h2, h3, h4, hk, ← hq, c1, c2])
    (fun s hs => by simp -implicitDefEqProofs (disch := omega) [wrap_of, ilt_t, ilt_f, ile_t, ile_f, nlt_t, nlt_f, nle_t, nle_f, ieq_t, ieq_f, imin_l, imin_r, imax_l, imax_r, take_app1, take_map_all, round_eq, b23_1, h1]) ([], d) (by simp)
theorem sq_len (x : Qu) : ∀ (l : List Qu) (s : List Qu × Bool), (l.foldl (sq x) s).1.length ≤ s.1.length + 2 * l.length
  | [], s => by simp
  | q :: l, s => by
    rw [List.foldl_cons]
    refine Nat.le_trans (sq_len x l _) ?_
    unfold sq
    simp only [List.length_append, List.length_cons]
    split <;> split <;> simp <;> omega
theorem s23 {n : Nat} (hn : 63 < n) (t : Tr.Tree) (w : WFt t) (l : List Qu) (hl : l.length ≤ 1000) (f : Bool) (i a b : Int) :
    (C49.tab n).p 23 [Tv t, .lst f (l.map Qv), I i, I a, I b] = some (.tup [.lst (f && !decide ((setP t l i a b).2 = 0)) ((setP t l i a b).1.map Qv), I (setP t l i a b).2]) := by
  rw [p23 hn, runP_eq, runH_eq]
  have hG := s14 (n := 63) (by decide) t (wbt w) i
  have h34 := s48 (n := 63) (by decide) t (wbt w) i
  have h14 := s49 (n := 63) (by decide) t w i
  have h40 := s50 (n := 63) (by decide) l hl f i
  have hu := used_le w i
  unfold getV at hG
  unfold setP
  cases hf : find t.nodes i with
  | none =>
    have hd : dirE t i = 70 := by unfold dirE; rw [hf]
    rw [hf] at hG
    rw [hd]
    simp only [Option.elim_none, Tv, Nd, nodeZ, List.map_nil] at hG
    simp -implicitDefEqProofs (disch := omega) [wrap_of, ilt_t, ilt_f, ile_t, ile_f, nlt_t, nlt_f, nle_t, nle_f, ieq_t, ieq_f, imin_l, imin_r, imax_l, imax_r, take_app1, take_map_all, c23, a14, hG]
  | some q =>
    rw [hf] at hG
    simp only [Option.elim_some, Tv, Nd] at hG
    by_cases c1 : q.kind = 2
    · have hd : dirE t i = 0 := by unfold dirE; rw [hf]; simp [c1]
      rw [hd] at h34 ⊢
      simp only [decide_true, Tv] at h34 h14
      have hL := fun e0 h1 h2 h3 h4 d => l23 (Γ := C49.tab 63) l hl f q ⟨i, a, b⟩ d e0 h1 h2 h3 h4
      simp only [Nc] at hL
      have hsl := fun d => sq_len ⟨i, a, b⟩ l ([], d)
      simp only [List.length_nil, Nat.zero_add] at hsl
      by_cases c2 : a < 0
      · have c2' : ¬ 0 ≤ a := by omega
        have hr := sq_rest ⟨i, a, b⟩ l []
        have hL := fun e0 h1 h2 h3 h4 => hL e0 h1 h2 h3 h4 true
        have hsl := hsl true
        rw [hr, List.nil_append] at hL hsl
        simp only at hL hsl
        generalize remQ l i = r at *
        generalize usedN t i = u at *
        generalize usedB t i = v at *
        clear h40 hr
        simp -implicitDefEqProofs (disch := omega) [wrap_of, ilt_t, ilt_f, ile_t, ile_f, nlt_t, nlt_f, nle_t, nle_f, ieq_t, ieq_f, imin_l, imin_r, imax_l, imax_r, take_app1, take_map_all, c23, a14, hG, a48, h34, a49, h14, c2, c2']
        rw [hL _ (by simp -implicitDefEqProofs (disch := omega) [wrap_of, ilt_t, ilt_f, ile_t, ile_f, nlt_t, nlt_f, nle_t, nle_f, ieq_t, ieq_f, imin_l, imin_r, imax_l, imax_r, take_app1, take_map_all, ]) (by simp -implicitDefEqProofs (disch := omega) [wrap_of, ilt_t, ilt_f, ile_t, ile_f, nlt_t, nlt_f, nle_t, nle_f, ieq_t, ieq_f, imin_l, imin_r, imax_l, imax_r, take_app1, take_map_all, ]) (by simp -implicitDefEqProofs (disch := omega) [wrap_of, ilt_t, ilt_f, ile_t, ile_f, nlt_t, nlt_f, nle_t, nle_f, ieq_t, ieq_f, imin_l, imin_r, imax_l, imax_r, take_app1, take_map_all, ]) (by simp -implicitDefEqProofs (disch := omega) [wrap_of, ilt_t, ilt_f, ile_t, ile_f, nlt_t, nlt_f, nle_t, nle_f, ieq_t, ieq_f, imin_l, imin_r, imax_l, imax_r, take_app1, take_map_all, ])]
        simp -implicitDefEqProofs (disch := omega) [wrap_of, ilt_t, ilt_f, ile_t, ile_f, nlt_t, nlt_f, nle_t, nle_f, ieq_t, ieq_f, imin_l, imin_r, imax_l, imax_r, take_app1, take_map_all, ]
      · have c2' : 0 ≤ a := by omega
        by_cases co3 : a < usedN t i
        · generalize usedN t i = u at *
          generalize usedB t i = v at *
          simp -implicitDefEqProofs (disch := omega) [wrap_of, ilt_t, ilt_f, ile_t, ile_f, nlt_t, nlt_f, nle_t, nle_f, ieq_t, ieq_f, imin_l, imin_r, imax_l, imax_r, take_app1, take_map_all, c23, a14, hG, a48, h34, a49, h14, c2, c2', co3]
        · by_cases co4 : b < usedB t i
          · generalize usedN t i = u at *
            generalize usedB t i = v at *
            simp -implicitDefEqProofs (disch := omega) [wrap_of, ilt_t, ilt_f, ile_t, ile_f, nlt_t, nlt_f, nle_t, nle_f, ieq_t, ieq_f, imin_l, imin_r, imax_l, imax_r, take_app1, take_map_all, c23, a14, hG, a48, h34, a49, h14, c2, c2', co3, co4]
          · have hx := ixQ_neg l i
            have hp := sq_put ⟨i, a, b⟩ l []
            have hL := fun e0 h1 h2 h3 h4 => hL e0 h1 h2 h3 h4 false
            have hsl := hsl false
            rw [List.nil_append] at hp
            generalize putQ l ⟨i, a, b⟩ = pq at *
            generalize l.foldl (sq ⟨i, a, b⟩) ([], false) = r at *
            generalize ixQ l i = x at *
            generalize usedN t i = u at *
            generalize usedB t i = v at *
            obtain ⟨r, d⟩ := r
            unfold sfin at hp
            simp only at hp hL hsl
            by_cases co5 : x < 0
            · have c5' := hx.1 co5
              rw [c5']
              by_cases co6 : 16 ≤ l.length
              · clear hL
                simp -implicitDefEqProofs (disch := omega) [wrap_of, ilt_t, ilt_f, ile_t, ile_f, nlt_t, nlt_f, nle_t, nle_f, ieq_t, ieq_f, imin_l, imin_r, imax_l, imax_r, take_app1, take_map_all, c23, a14, hG, a48, h34, a49, h14, c2, c2', co3, co4, a50, h40, co5, co6]
              · simp -implicitDefEqProofs (disch := omega) [wrap_of, ilt_t, ilt_f, ile_t, ile_f, nlt_t, nlt_f, nle_t, nle_f, ieq_t, ieq_f, imin_l, imin_r, imax_l, imax_r, take_app1, take_map_all, c23, a14, hG, a48, h34, a49, h14, c2, c2', co3, co4, a50, h40, co5, co6]
                rw [hL _ (by simp -implicitDefEqProofs (disch := omega) [wrap_of, ilt_t, ilt_f, ile_t, ile_f, nlt_t, nlt_f, nle_t, nle_f, ieq_t, ieq_f, imin_l, imin_r, imax_l, imax_r, take_app1, take_map_all, ]) (by simp -implicitDefEqProofs (disch := omega) [wrap_of, ilt_t, ilt_f, ile_t, ile_f, nlt_t, nlt_f, nle_t, nle_f, ieq_t, ieq_f, imin_l, imin_r, imax_l, imax_r, take_app1, take_map_all, ]) (by simp -implicitDefEqProofs (disch := omega) [wrap_of, ilt_t, ilt_f, ile_t, ile_f, nlt_t, nlt_f, nle_t, nle_f, ieq_t, ieq_f, imin_l, imin_r, imax_l, imax_r, take_app1, take_map_all, ]) (by simp -implicitDefEqProofs (disch := omega) [wrap_of, ilt_t, ilt_f, ile_t, ile_f, nlt_t, nlt_f, nle_t, nle_f, ieq_t, ieq_f, imin_l, imin_r, imax_l, imax_r, take_app1, take_map_all, ])]
                cases d with
                | true =>
                  simp only [if_true] at hp
                  subst hp
                  simp -implicitDefEqProofs (disch := omega) [wrap_of, ilt_t, ilt_f, ile_t, ile_f, nlt_t, nlt_f, nle_t, nle_f, ieq_t, ieq_f, imin_l, imin_r, imax_l, imax_r, take_app1, take_map_all, ]
                | false =>
                  simp only [Bool.false_eq_true, if_false] at hp
                  subst hp
                  simp -implicitDefEqProofs (disch := omega) [wrap_of, ilt_t, ilt_f, ile_t, ile_f, nlt_t, nlt_f, nle_t, nle_f, ieq_t, ieq_f, imin_l, imin_r, imax_l, imax_r, take_app1, take_map_all, ]
            · have c5' : ¬ findQ l i = none := fun h => co5 (hx.2 h)
              simp -implicitDefEqProofs (disch := omega) [wrap_of, ilt_t, ilt_f, ile_t, ile_f, nlt_t, nlt_f, nle_t, nle_f, ieq_t, ieq_f, imin_l, imin_r, imax_l, imax_r, take_app1, take_map_all, c23, a14, hG, a48, h34, a49, h14, c2, c2', co3, co4, a50, h40, co5, c5']
              rw [hL _ (by simp -implicitDefEqProofs (disch := omega) [wrap_of, ilt_t, ilt_f, ile_t, ile_f, nlt_t, nlt_f, nle_t, nle_f, ieq_t, ieq_f, imin_l, imin_r, imax_l, imax_r, take_app1, take_map_all, ]) (by simp -implicitDefEqProofs (disch := omega) [wrap_of, ilt_t, ilt_f, ile_t, ile_f, nlt_t, nlt_f, nle_t, nle_f, ieq_t, ieq_f, imin_l, imin_r, imax_l, imax_r, take_app1, take_map_all, ]) (by simp -implicitDefEqProofs (disch := omega) [wrap_of, ilt_t, ilt_f, ile_t, ile_f, nlt_t, nlt_f, nle_t, nle_f, ieq_t, ieq_f, imin_l, imin_r, imax_l, imax_r, take_app1, take_map_all, ]) (by simp -implicitDefEqProofs (disch := omega) [wrap_of, ilt_t, ilt_f, ile_t, ile_f, nlt_t, nlt_f, nle_t, nle_f, ieq_t, ieq_f, imin_l, imin_r, imax_l, imax_r, take_app1, take_map_all, ])]
              cases d with
              | true =>
                simp only [if_true] at hp
                subst hp
                simp -implicitDefEqProofs (disch := omega) [wrap_of, ilt_t, ilt_f, ile_t, ile_f, nlt_t, nlt_f, nle_t, nle_f, ieq_t, ieq_f, imin_l, imin_r, imax_l, imax_r, take_app1, take_map_all, ]
              | false =>
                simp only [Bool.false_eq_true, if_false] at hp
                subst hp
                simp -implicitDefEqProofs (disch := omega) [wrap_of, ilt_t, ilt_f, ile_t, ile_f, nlt_t, nlt_f, nle_t, nle_f, ieq_t, ieq_f, imin_l, imin_r, imax_l, imax_r, take_app1, take_map_all, ]
    · have hd : dirE t i = 73 := by unfold dirE; rw [hf]; simp [c1]
      rw [hd] at h34 ⊢
      simp only [show decide ((73 : Int) = 0) = false from rfl, Tv] at h34
      simp -implicitDefEqProofs (disch := omega) [wrap_of, ilt_t, ilt_f, ile_t, ile_f, nlt_t, nlt_f, nle_t, nle_f, ieq_t, ieq_f, imin_l, imin_r, imax_l, imax_r, take_app1, take_map_all, c23, a14, hG, a48, h34]
end Go.Proofs.YtfdenmkoampgnaaGreat
