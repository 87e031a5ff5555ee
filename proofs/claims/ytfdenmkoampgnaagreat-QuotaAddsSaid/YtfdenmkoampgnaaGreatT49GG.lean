import Derived.Test.YtfdenmkoampgnaaGreatT49GA
set_option linter.unusedSimpArgs false
set_option linter.unusedVariables false
namespace Go.Proofs.YtfdenmkoampgnaaGreat
open Go.Am Go.Tr

theorem dirN_ents {t : Tr.Tree} (hb : Bt t) (i : Int) : (dirN t i).ents.length ≤ 1000 := by
  unfold dirN
  cases hf : find t.nodes i with
  | none => simp [nodeZ]
  | some p =>
    simp only
    split
    · exact hb.ents _ (find_mem hf).1
    · simp [nodeZ]
theorem ent_at {l : List Tr.Ent} {s : List UInt8} {e : Tr.Ent} (h : (l.find? fun e => decide (e.name = s)) = some e) : ∃ k : Nat, idxE l s = k ∧ k < l.length ∧ l[k]? = some e := by
  have hf : (l.findIdx fun e => decide (e.name = s)) < l.length := List.findIdx_lt_length_of_exists ⟨e, List.mem_of_find?_eq_some h, by have := List.find?_some h; simpa using this⟩
  refine ⟨l.findIdx fun e => decide (e.name = s), by unfold idxE; rw [h]; rfl, hf, ?_⟩
  rw [getElem?_findIdx]
  exact h
theorem s70 {n : Nat} (hn : 46 < n) (t : Tr.Tree) (hb : Bt t) (i : Int) (s : List UInt8) (hs : s.length ≤ 9223372036854775807) : (C49.tab n).p 70 [Tv t, I i, .str s] = some (.tup [I (Tr.look okN t i s).1, I (Tr.look okN t i s).2]) := by
  rw [p70 hn, runP_eq, runH_eq]
  have hD := s73 (n := 46) (by decide) t hb i
  have hR := s74 (n := 46) (by decide) s hs
  have hq := dirN_ents hb i
  have hN := s75 (n := 46) (by decide) (dirN t i) hq s
  unfold Tr.look
  generalize dirN t i = q at *
  generalize dirE t i = c at *
  simp only [Tv, Nd] at hD hN
  by_cases c0 : c = 0
  · cases c1 : okN s with
    | false =>
      rw [c1] at hR
      simp -implicitDefEqProofs (disch := omega) [wrap_of, ilt_t, ilt_f, ile_t, ile_f, nlt_t, nlt_f, nle_t, nle_f, ieq_t, ieq_f, imin_l, imin_r, imax_l, imax_r, take_app1, take_map_all, c70, a73, hD, c0, a74, hR]
    | true =>
      rw [c1] at hR
      unfold entOf
      cases hf : q.ents.find? fun e => decide (e.name = s) with
      | none =>
        have e1 : idxE q.ents s = -1 := by unfold idxE; rw [hf]; rfl
        rw [e1] at hN
        simp -implicitDefEqProofs (disch := omega) [wrap_of, ilt_t, ilt_f, ile_t, ile_f, nlt_t, nlt_f, nle_t, nle_f, ieq_t, ieq_f, imin_l, imin_r, imax_l, imax_r, take_app1, take_map_all, c70, a73, hD, c0, a74, hR, a75, hN]
      | some e =>
        obtain ⟨k, hk, hkl, he⟩ := ent_at hf
        rw [hk] at hN
        have he' : e = q.ents[k] := by rw [List.getElem?_eq_getElem hkl] at he; exact (Option.some.inj he).symm
        simp -implicitDefEqProofs (disch := omega) [wrap_of, ilt_t, ilt_f, ile_t, ile_f, nlt_t, nlt_f, nle_t, nle_f, ieq_t, ieq_f, imin_l, imin_r, imax_l, imax_r, take_app1, take_map_all, c70, a73, hD, c0, a74, hR, a75, hN, hkl, ← he']
  · simp -implicitDefEqProofs (disch := omega) [wrap_of, ilt_t, ilt_f, ile_t, ile_f, nlt_t, nlt_f, nle_t, nle_f, ieq_t, ieq_f, imin_l, imin_r, imax_l, imax_r, take_app1, take_map_all, c70, a73, hD, c0]
theorem s39 {n : Nat} (hn : 40 < n) (t : Tr.Tree) (hb : Bt t) (i : Int) (f : Bool) (d : List UInt8) (hd : d.length ≤ 9223372036854775807) : (C49.tab n).p 39 [Tv t, I i, .lst f (d.map B)] = some (.tup [Tv (put t i d).1, I (put t i d).2]) := by
  rw [p39 hn, runP_eq, runH_eq]
  have hG := s14 (n := 40) (by decide) t hb i
  unfold put
  unfold getV at hG
  cases hf : find t.nodes i with
  | none =>
    rw [hf] at hG
    simp only [Option.elim_none, Tv, Nd] at hG
    simp -implicitDefEqProofs (disch := omega) [wrap_of, ilt_t, ilt_f, ile_t, ile_f, nlt_t, nlt_f, nle_t, nle_f, ieq_t, ieq_f, imin_l, imin_r, imax_l, imax_r, take_app1, take_map_all, c39, a14, hG]
  | some q =>
    have hw := s67 (m := 40) (by decide) t hb { q with fd := false, data := d }
    rw [hf] at hG
    simp only [Option.elim_some, Tv, Nd] at hG hw
    by_cases c1 : q.kind = 2
    · simp -implicitDefEqProofs (disch := omega) [wrap_of, ilt_t, ilt_f, ile_t, ile_f, nlt_t, nlt_f, nle_t, nle_f, ieq_t, ieq_f, imin_l, imin_r, imax_l, imax_r, take_app1, take_map_all, c39, a14, hG, c1]
    · by_cases c2 : 4096 < d.length
      · simp -implicitDefEqProofs (disch := omega) [wrap_of, ilt_t, ilt_f, ile_t, ile_f, nlt_t, nlt_f, nle_t, nle_f, ieq_t, ieq_f, imin_l, imin_r, imax_l, imax_r, take_app1, take_map_all, c39, a14, hG, c1, c2]
      · simp -implicitDefEqProofs (disch := omega) [wrap_of, ilt_t, ilt_f, ile_t, ile_f, nlt_t, nlt_f, nle_t, nle_f, ieq_t, ieq_f, imin_l, imin_r, imax_l, imax_r, take_app1, take_map_all, c39, a14, hG, c1, c2, a67, hw]
end Go.Proofs.YtfdenmkoampgnaaGreat

namespace Go.Proofs.YtfdenmkoampgnaaGreat
open Go.Am Go.Tr

theorem getZ_ents {t : Tr.Tree} (hb : Bt t) (i : Int) : (getZ t i).ents.length ≤ 1000 := by
  obtain ⟨_, _, h | h⟩ := getZ_V t i
  · rw [h]; simp [nodeZ]
  · exact hb.ents _ h
theorem s45 {n : Nat} (hn : 50 < n) (t : Tr.Tree) (hb : Bt t) (i : Int) (s : List UInt8) (hs : s.length ≤ 9223372036854775807) (hb2 : (Tr.look okN t i s).2 = 0 → Bt (left t i s))
    (hk : ∀ q, find (left t i s).nodes (Tr.look okN t i s).1 = some q → -4398046511104 ≤ q.links ∧ q.links ≤ 4398046511104) :
    (C49.tab n).p 45 [Tv t, I i, .str s] = some (.tup [Tv (Tr.un okN t i s).1, I (Tr.un okN t i s).2.1, I (Tr.un okN t i s).2.2]) := by
  rw [p45 hn, runP_eq, runH_eq]
  have hL := s70 (n := 50) (by decide) t hb i s hs
  have hlf := s72 (m := 50) (by decide) t hb i s
  unfold Tr.un
  generalize Tr.look okN t i s = r at *
  obtain ⟨x, e⟩ := r
  simp only at hL hb2 hk ⊢
  have hG := s14 (n := 50) (by decide) t hb x
  obtain ⟨b, hv, _⟩ := getZ_V t x
  rw [hv] at hG
  have hqe := getZ_ents hb x
  generalize getZ t x = q at *
  by_cases c0 : e = 0
  · subst c0
    have hU := s71 (m := 50) (by decide) (left t i s) (hb2 rfl) x hk
    simp only [Tv, Nd] at hL hlf hG hU
    by_cases c1 : 0 < q.ents.length
    · simp -implicitDefEqProofs (disch := omega) [wrap_of, ilt_t, ilt_f, ile_t, ile_f, nlt_t, nlt_f, nle_t, nle_f, ieq_t, ieq_f, imin_l, imin_r, imax_l, imax_r, take_app1, take_map_all, c45, a70, hL, a14, hG, c1]
    · simp -implicitDefEqProofs (disch := omega) [wrap_of, ilt_t, ilt_f, ile_t, ile_f, nlt_t, nlt_f, nle_t, nle_f, ieq_t, ieq_f, imin_l, imin_r, imax_l, imax_r, take_app1, take_map_all, c45, a70, hL, a14, hG, c1, a72, hlf, a71, hU]
  · simp only [Tv, Nd] at hL
    simp -implicitDefEqProofs (disch := omega) [wrap_of, ilt_t, ilt_f, ile_t, ile_f, nlt_t, nlt_f, nle_t, nle_f, ieq_t, ieq_f, imin_l, imin_r, imax_l, imax_r, take_app1, take_map_all, c45, a70, hL, c0]
end Go.Proofs.YtfdenmkoampgnaaGreat

namespace Go.Proofs.YtfdenmkoampgnaaGreat
open Go.Am Go.Tr

theorem s38 {n : Nat} (hn : 39 < n) (t : Tr.Tree) (hb : Bt t) (i to : Int) (s : List UInt8) (hs : s.length ≤ 9223372036854775807) (hck : t.cookie < 4398046511104)
    (hb2 : ∀ q, find t.nodes i = some q → Bt (withN t { q with links := q.links + 1 }))
    (hk : ∀ q, find t.nodes i = some q → -4398046511104 ≤ q.links ∧ q.links ≤ 4398046511104) :
    (C49.tab n).p 38 [Tv t, I i, I to, .str s] = some (.tup [Tv (Tr.ln okN sLess t i to s).1, I (Tr.ln okN sLess t i to s).2]) := by
  rw [p38 hn, runP_eq, runH_eq]
  have hG := s14 (n := 39) (by decide) t hb i
  have hE := s65 (n := 39) (by decide) t hb to s hs
  unfold Tr.ln
  unfold getV at hG
  cases hf : find t.nodes i with
  | none =>
    rw [hf] at hG
    simp only [Option.elim_none, Tv, Nd] at hG
    simp -implicitDefEqProofs (disch := omega) [wrap_of, ilt_t, ilt_f, ile_t, ile_f, nlt_t, nlt_f, nle_t, nle_f, ieq_t, ieq_f, imin_l, imin_r, imax_l, imax_r, take_app1, take_map_all, c38, a14, hG]
  | some q =>
    have hw := s67 (m := 39) (by decide) t hb { q with links := q.links + 1 }
    have he := s66 (m := 39) (by decide) (withN t { q with links := q.links + 1 }) (hb2 q hf) to s i hck
    have hlk := hk q hf
    rw [hf] at hG
    simp only [Option.elim_some] at hG
    generalize enter okN t to s = c at *
    dsimp only
    obtain ⟨v, hv⟩ : ∃ v, v = withN t { q with links := q.links + 1 } := ⟨_, rfl⟩
    rw [← hv] at hw he ⊢
    generalize entered sLess v to s i = u at *
    simp only [Tv, Nd] at hG hw he hE
    by_cases c1 : q.kind = 1
    · by_cases c2 : q.links = 0
      · simp -implicitDefEqProofs (disch := omega) [wrap_of, ilt_t, ilt_f, ile_t, ile_f, nlt_t, nlt_f, nle_t, nle_f, ieq_t, ieq_f, imin_l, imin_r, imax_l, imax_r, take_app1, take_map_all, c38, a14, hG, c1, c2]
      · rw [c1] at hw
        by_cases co3 : c = 0
        · simp -implicitDefEqProofs (disch := omega) [wrap_of, ilt_t, ilt_f, ile_t, ile_f, nlt_t, nlt_f, nle_t, nle_f, ieq_t, ieq_f, imin_l, imin_r, imax_l, imax_r, take_app1, take_map_all, c38, a14, hG, c1, c2, a65, hE, co3, a67, hw, a66, he]
        · simp -implicitDefEqProofs (disch := omega) [wrap_of, ilt_t, ilt_f, ile_t, ile_f, nlt_t, nlt_f, nle_t, nle_f, ieq_t, ieq_f, imin_l, imin_r, imax_l, imax_r, take_app1, take_map_all, c38, a14, hG, c1, c2, a65, hE, co3]
    · by_cases c2 : q.kind = 2
      · simp -implicitDefEqProofs (disch := omega) [wrap_of, ilt_t, ilt_f, ile_t, ile_f, nlt_t, nlt_f, nle_t, nle_f, ieq_t, ieq_f, imin_l, imin_r, imax_l, imax_r, take_app1, take_map_all, c38, a14, hG, c2]
      · by_cases co3 : c = 0
        · simp -implicitDefEqProofs (disch := omega) [wrap_of, ilt_t, ilt_f, ile_t, ile_f, nlt_t, nlt_f, nle_t, nle_f, ieq_t, ieq_f, imin_l, imin_r, imax_l, imax_r, take_app1, take_map_all, c38, a14, hG, c1, c2, a65, hE, co3, a67, hw, a66, he]
        · simp -implicitDefEqProofs (disch := omega) [wrap_of, ilt_t, ilt_f, ile_t, ile_f, nlt_t, nlt_f, nle_t, nle_f, ieq_t, ieq_f, imin_l, imin_r, imax_l, imax_r, take_app1, take_map_all, c38, a14, hG, c1, c2, a65, hE, co3]
end Go.Proofs.YtfdenmkoampgnaaGreat

namespace Go.Proofs.YtfdenmkoampgnaaGreat
open Go.Am Go.Tr

theorem s37 {n : Nat} (hn : 38 < n) (t : Tr.Tree) (hb : Bt t) (i : Int) (s : List UInt8) (hs : s.length ≤ 9223372036854775807) (kind : Int) (hck : t.cookie < 4398046511104)
    (hb2 : t.next < 1099511627776 → t.nodes.length < 200 → Bt (moreT t kind (if kind = 2 then i else 0))) :
    (C49.tab n).p 37 [Tv t, I i, .str s, I kind] = some (.tup [Tv (Tr.add okN sLess t i s kind).1, I (Tr.add okN sLess t i s kind).2.1, I (Tr.add okN sLess t i s kind).2.2]) := by
  rw [p37 hn, runP_eq, runH_eq]
  have hE := s65 (n := 38) (by decide) t hb i s hs
  have hl := hb.len
  have hn0 := hb.nx0
  have hn1 := hb.nx
  unfold Tr.add
  generalize enter okN t i s = c at *
  by_cases c1 : kind ≠ 1 ∧ kind ≠ 2
  · rw [if_pos c1]
    obtain ⟨k1, k2⟩ := c1
    simp -implicitDefEqProofs (disch := omega) [wrap_of, ilt_t, ilt_f, ile_t, ile_f, nlt_t, nlt_f, nle_t, nle_f, ieq_t, ieq_f, imin_l, imin_r, imax_l, imax_r, take_app1, take_map_all, c37, k1, k2]
  · rw [if_neg c1]
    by_cases c2 : c = 0
    · rw [if_neg (show ¬ (c ≠ 0) from fun h => h c2)]
      simp only [Tv] at hE
      by_cases co3 : 200 ≤ t.nodes.length
      · rw [if_pos (show 200 ≤ t.nodes.length ∨ 1099511627776 ≤ t.next from .inl co3)]
        by_cases k2 : kind = 2
        · simp -implicitDefEqProofs (disch := omega) [wrap_of, ilt_t, ilt_f, ile_t, ile_f, nlt_t, nlt_f, nle_t, nle_f, ieq_t, ieq_f, imin_l, imin_r, imax_l, imax_r, take_app1, take_map_all, c37, k2, a65, hE, c2, co3]
        · have k1 : kind = 1 := by omega
          simp -implicitDefEqProofs (disch := omega) [wrap_of, ilt_t, ilt_f, ile_t, ile_f, nlt_t, nlt_f, nle_t, nle_f, ieq_t, ieq_f, imin_l, imin_r, imax_l, imax_r, take_app1, take_map_all, c37, k1, a65, hE, c2, co3]
      · by_cases co4 : 1099511627776 ≤ t.next
        · rw [if_pos (show 200 ≤ t.nodes.length ∨ 1099511627776 ≤ t.next from .inr co4)]
          by_cases k2 : kind = 2
          · simp -implicitDefEqProofs (disch := omega) [wrap_of, ilt_t, ilt_f, ile_t, ile_f, nlt_t, nlt_f, nle_t, nle_f, ieq_t, ieq_f, imin_l, imin_r, imax_l, imax_r, take_app1, take_map_all, c37, k2, a65, hE, c2, co3, co4]
          · have k1 : kind = 1 := by omega
            simp -implicitDefEqProofs (disch := omega) [wrap_of, ilt_t, ilt_f, ile_t, ile_f, nlt_t, nlt_f, nle_t, nle_f, ieq_t, ieq_f, imin_l, imin_r, imax_l, imax_r, take_app1, take_map_all, c37, k1, a65, hE, c2, co3, co4]
        · rw [if_neg (show ¬ (200 ≤ t.nodes.length ∨ 1099511627776 ≤ t.next) by omega)]
          have hb3 := hb2 (by omega) (by omega)
          have hbn : Bt ⟨t.fn, t.nodes, t.next + 1, t.cookie⟩ := ⟨hb.len, hb.ents, hb.ck0, hb.ck, by simp only; omega, by simp only; omega⟩
          have hw := s67 (m := 38) (by decide) ⟨t.fn, t.nodes, t.next + 1, t.cookie⟩ hbn (newN t kind (if kind = 2 then i else 0))
          have he := s66 (m := 38) (by decide) (moreT t kind (if kind = 2 then i else 0)) hb3 i s t.next hck
          obtain ⟨v, hv⟩ : ∃ v, v = moreT t kind (if kind = 2 then i else 0) := ⟨_, rfl⟩
          have hv' : withN ⟨t.fn, t.nodes, t.next + 1, t.cookie⟩ (newN t kind (if kind = 2 then i else 0)) = v := hv.symm
          have hv2 : withN ⟨t.fn, t.nodes, t.next + 1, t.cookie⟩ ⟨t.next, kind, 1, true, [], true, [], if kind = 2 then i else 0⟩ = v := hv.symm
          rw [hv2]
          rw [hv'] at hw
          rw [← hv] at he
          generalize entered sLess v i s t.next = u at *
          simp only [Tv, Nd, newN, List.map_nil] at hw he
          by_cases k2 : kind = 2
          · subst k2
            simp only [if_true] at hw
            simp -implicitDefEqProofs (disch := omega) [wrap_of, ilt_t, ilt_f, ile_t, ile_f, nlt_t, nlt_f, nle_t, nle_f, ieq_t, ieq_f, imin_l, imin_r, imax_l, imax_r, take_app1, take_map_all, c37, a65, hE, c2, co3, co4, hw, he]
          · have k1 : kind = 1 := by omega
            subst k1
            simp only [show ¬ ((1 : Int) = 2) by omega, if_false] at hw
            simp -implicitDefEqProofs (disch := omega) [wrap_of, ilt_t, ilt_f, ile_t, ile_f, nlt_t, nlt_f, nle_t, nle_f, ieq_t, ieq_f, imin_l, imin_r, imax_l, imax_r, take_app1, take_map_all, c37, a65, hE, c2, co3, co4, hw, he]
    · rw [if_pos (show c ≠ 0 from c2)]
      simp only [Tv] at hE
      by_cases k2 : kind = 2
      · simp -implicitDefEqProofs (disch := omega) [wrap_of, ilt_t, ilt_f, ile_t, ile_f, nlt_t, nlt_f, nle_t, nle_f, ieq_t, ieq_f, imin_l, imin_r, imax_l, imax_r, take_app1, take_map_all, c37, k2, a65, hE, c2]
      · have k1 : kind = 1 := by omega
        simp -implicitDefEqProofs (disch := omega) [wrap_of, ilt_t, ilt_f, ile_t, ile_f, nlt_t, nlt_f, nle_t, nle_f, ieq_t, ieq_f, imin_l, imin_r, imax_l, imax_r, take_app1, take_map_all, c37, k1, a65, hE, c2]
end Go.Proofs.YtfdenmkoampgnaaGreat

namespace Go.Proofs.YtfdenmkoampgnaaGreat
open Go.Am Go.Tr

theorem s77 {n : Nat} (hn : 52 < n) (t : Tr.Tree) (hb : Bt t) (x : Tr.Node) (y : Int) : (C49.tab n).p 77 [Tv t, Nd x, I y] = some (I (Tr.clash t x y)) := by
  rw [p77 hn, runP_eq, runH_eq]
  have hG := s14 (n := 52) (by decide) t hb y
  unfold Tr.clash
  unfold getV at hG
  cases hf : find t.nodes y with
  | none =>
    rw [hf] at hG
    simp only [Option.elim_none, Tv, Nd] at hG
    simp -implicitDefEqProofs (disch := omega) [wrap_of, ilt_t, ilt_f, ile_t, ile_f, nlt_t, nlt_f, nle_t, nle_f, ieq_t, ieq_f, imin_l, imin_r, imax_l, imax_r, take_app1, take_map_all, c77, a14, hG]
  | some q =>
    have hq := hb.ents _ (find_mem hf).1
    rw [hf] at hG
    simp only [Option.elim_some, Tv, Nd] at hG
    by_cases c1 : x.kind = 2
    · by_cases c2 : q.kind = 2
      · by_cases co3 : 0 < q.ents.length
        · simp -implicitDefEqProofs (disch := omega) [wrap_of, ilt_t, ilt_f, ile_t, ile_f, nlt_t, nlt_f, nle_t, nle_f, ieq_t, ieq_f, imin_l, imin_r, imax_l, imax_r, take_app1, take_map_all, c77, a14, hG, c1, c2, co3]
        · simp -implicitDefEqProofs (disch := omega) [wrap_of, ilt_t, ilt_f, ile_t, ile_f, nlt_t, nlt_f, nle_t, nle_f, ieq_t, ieq_f, imin_l, imin_r, imax_l, imax_r, take_app1, take_map_all, c77, a14, hG, c1, c2, co3]
      · simp -implicitDefEqProofs (disch := omega) [wrap_of, ilt_t, ilt_f, ile_t, ile_f, nlt_t, nlt_f, nle_t, nle_f, ieq_t, ieq_f, imin_l, imin_r, imax_l, imax_r, take_app1, take_map_all, c77, a14, hG, c1, c2]
    · by_cases c2 : q.kind = 2
      · simp -implicitDefEqProofs (disch := omega) [wrap_of, ilt_t, ilt_f, ile_t, ile_f, nlt_t, nlt_f, nle_t, nle_f, ieq_t, ieq_f, imin_l, imin_r, imax_l, imax_r, take_app1, take_map_all, c77, a14, hG, c1, c2]
      · by_cases co3 : 0 < q.ents.length
        · simp -implicitDefEqProofs (disch := omega) [wrap_of, ilt_t, ilt_f, ile_t, ile_f, nlt_t, nlt_f, nle_t, nle_f, ieq_t, ieq_f, imin_l, imin_r, imax_l, imax_r, take_app1, take_map_all, c77, a14, hG, c1, c2, co3]
        · simp -implicitDefEqProofs (disch := omega) [wrap_of, ilt_t, ilt_f, ile_t, ile_f, nlt_t, nlt_f, nle_t, nle_f, ieq_t, ieq_f, imin_l, imin_r, imax_l, imax_r, take_app1, take_map_all, c77, a14, hG, c1, c2, co3]
end Go.Proofs.YtfdenmkoampgnaaGreat

namespace Go.Proofs.YtfdenmkoampgnaaGreat
open Go.Am Go.Tr

theorem depF_le (t : Tr.Tree) : ∀ (k : Nat) (i : Int), depF t k i ≤ k
  | 0, i => by simp [depF]
  | k + 1, i => by
    simp only [depF]
    split
    · omega
    · have := depF_le t k (upN t i)
      omega
theorem depth_le (t : Tr.Tree) (i : Int) : depth t i ≤ 201 := depF_le t 201 i
def hg (t : Tr.Tree) (i at_ : Int) (m : Int) (n : Tr.Node) : Int := if n.kind = 2 ∧ below t n.ino i = true then max m (at_ + depth t n.ino - depth t i + if 0 < n.ents.length then 1 else 0) else m
theorem l79 {n : Nat} (hn : 53 ≤ n) (t : Tr.Tree) (hb : Bt t) (i at_ : Int) (ha0 : 0 ≤ at_) (ha1 : at_ ≤ 1000) (e0 : Env) (h3 : e0 3 = .rptr [.lst t.fn (t.nodes.map Nd), .int .i64 t.next, .int .i64 t.cookie]) (h1 : e0 1 = I i) (h2 : e0 2 = I at_) (h8 : e0 8 = I (depth t i)) :
    iter (round (C49.tab n) [7, 9] [(.exit 0, [7])] c79_1 e0 0 []) ([.int .i64 0, .int .i64 0], []) = some (.exit 0, [.int .i64 (t.nodes.foldl (hg t i at_) 0)], []) := by
  have := for_list (f := round (C49.tab n) [7, 9] [(.exit 0, [7])] c79_1 e0 0 []) (fun k (m : Int) => ([.int .i64 m, .int .i64 (k : Int)], [])) t.nodes (hg t i at_) (fun m => (.exit 0, [.int .i64 m], [])) (fun _ m => 0 ≤ m ∧ m ≤ 2000)
    (fun k hk m hm => by
      have hl := hb.len
      have hd1 := depth_le t i
      obtain ⟨q, hq⟩ : ∃ q, q = t.nodes[k] := ⟨_, rfl⟩
      have hqe : q.ents.length ≤ 1000 := by rw [hq]; exact hb.ents _ (List.getElem_mem hk)
      have hB := s76 (n := n) (by omega) t hb q.ino i
      have hD := s78 (n := n) (by omega) t hb q.ino
      have hd2 := depth_le t q.ino
      rw [← hq]
      simp only [Tv] at hB hD
      unfold hg
      generalize depth t q.ino = d2 at *
      generalize depth t i = d1 at *
      by_cases c1 : q.kind = 2
      · cases c2 : below t q.ino i with
        | true =>
          rw [c2] at hB
          by_cases co3 : 0 < q.ents.length
          · refine ⟨by simp only [c1, co3, and_self, if_true]; omega, ?_⟩
            have hmx := Int.le_total (at_ + (d2 : Int) - d1 + 1) m
            rcases hmx with hmx | hmx
            · rw [if_pos ⟨c1, rfl⟩, if_pos co3, Int.max_eq_left hmx]
              simp -implicitDefEqProofs (disch := omega) [wrap_of, ilt_t, ilt_f, ile_t, ile_f, nlt_t, nlt_f, nle_t, nle_f, ieq_t, ieq_f, imin_l, imin_r, imax_l, imax_r, take_app1, take_map_all, round_eq, b79_1, h3, h1, h2, h8, hk, ← hq, c1, a76, hB, a78, hD, co3, hmx]
            · rw [if_pos ⟨c1, rfl⟩, if_pos co3, Int.max_eq_right hmx]
              simp -implicitDefEqProofs (disch := omega) [wrap_of, ilt_t, ilt_f, ile_t, ile_f, nlt_t, nlt_f, nle_t, nle_f, ieq_t, ieq_f, imin_l, imin_r, imax_l, imax_r, take_app1, take_map_all, round_eq, b79_1, h3, h1, h2, h8, hk, ← hq, c1, a76, hB, a78, hD, co3, hmx]
          · refine ⟨by simp only [c1, co3, and_self, if_true, if_false]; omega, ?_⟩
            have hmx := Int.le_total (at_ + (d2 : Int) - d1) m
            rcases hmx with hmx | hmx
            · rw [if_pos ⟨c1, rfl⟩, if_neg co3, Int.add_zero, Int.max_eq_left hmx]
              simp -implicitDefEqProofs (disch := omega) [wrap_of, ilt_t, ilt_f, ile_t, ile_f, nlt_t, nlt_f, nle_t, nle_f, ieq_t, ieq_f, imin_l, imin_r, imax_l, imax_r, take_app1, take_map_all, round_eq, b79_1, h3, h1, h2, h8, hk, ← hq, c1, a76, hB, a78, hD, co3, hmx]
            · rw [if_pos ⟨c1, rfl⟩, if_neg co3, Int.add_zero, Int.max_eq_right hmx]
              simp -implicitDefEqProofs (disch := omega) [wrap_of, ilt_t, ilt_f, ile_t, ile_f, nlt_t, nlt_f, nle_t, nle_f, ieq_t, ieq_f, imin_l, imin_r, imax_l, imax_r, take_app1, take_map_all, round_eq, b79_1, h3, h1, h2, h8, hk, ← hq, c1, a76, hB, a78, hD, co3, hmx]
        | false =>
          rw [c2] at hB
          refine ⟨by simp; omega, ?_⟩
          simp -implicitDefEqProofs (disch := omega) [wrap_of, ilt_t, ilt_f, ile_t, ile_f, nlt_t, nlt_f, nle_t, nle_f, ieq_t, ieq_f, imin_l, imin_r, imax_l, imax_r, take_app1, take_map_all, round_eq, b79_1, h3, h1, h2, h8, hk, ← hq, c1, a76, hB]
      · refine ⟨by simp [c1]; omega, ?_⟩
        simp -implicitDefEqProofs (disch := omega) [wrap_of, ilt_t, ilt_f, ile_t, ile_f, nlt_t, nlt_f, nle_t, nle_f, ieq_t, ieq_f, imin_l, imin_r, imax_l, imax_r, take_app1, take_map_all, round_eq, b79_1, h3, h1, h2, h8, hk, ← hq, c1])
    (fun m hm => by have hl := hb.len; simp -implicitDefEqProofs (disch := omega) [wrap_of, ilt_t, ilt_f, ile_t, ile_f, nlt_t, nlt_f, nle_t, nle_f, ieq_t, ieq_f, imin_l, imin_r, imax_l, imax_r, take_app1, take_map_all, round_eq, b79_1, h3]) 0 (by omega)
  simpa using this
theorem s79 {n : Nat} (hn : 53 < n) (t : Tr.Tree) (hb : Bt t) (i at_ : Int) (ha0 : 0 ≤ at_) (ha1 : at_ ≤ 1000) : (C49.tab n).p 79 [Tv t, I i, I at_] = some (I (high t i at_)) := by
  rw [p79 hn, runP_eq, runH_eq]
  have h := l79 (n := 53) (by decide) t hb i at_ ha0 ha1
  have hD := s78 (n := 53) (by decide) t hb i
  have e : high t i at_ = t.nodes.foldl (hg t i at_) 0 := rfl
  rw [e]
  simp only [Tv] at hD
  simp -implicitDefEqProofs (disch := omega) [wrap_of, ilt_t, ilt_f, ile_t, ile_f, nlt_t, nlt_f, nle_t, nle_f, ieq_t, ieq_f, imin_l, imin_r, imax_l, imax_r, take_app1, take_map_all, c79, a78, hD]
  rw [h _ (by simp -implicitDefEqProofs (disch := omega) [wrap_of, ilt_t, ilt_f, ile_t, ile_f, nlt_t, nlt_f, nle_t, nle_f, ieq_t, ieq_f, imin_l, imin_r, imax_l, imax_r, take_app1, take_map_all, ]) (by simp -implicitDefEqProofs (disch := omega) [wrap_of, ilt_t, ilt_f, ile_t, ile_f, nlt_t, nlt_f, nle_t, nle_f, ieq_t, ieq_f, imin_l, imin_r, imax_l, imax_r, take_app1, take_map_all, ]) (by simp -implicitDefEqProofs (disch := omega) [wrap_of, ilt_t, ilt_f, ile_t, ile_f, nlt_t, nlt_f, nle_t, nle_f, ieq_t, ieq_f, imin_l, imin_r, imax_l, imax_r, take_app1, take_map_all, ]) (by simp -implicitDefEqProofs (disch := omega) [wrap_of, ilt_t, ilt_f, ile_t, ile_f, nlt_t, nlt_f, nle_t, nle_f, ieq_t, ieq_f, imin_l, imin_r, imax_l, imax_r, take_app1, take_map_all, ])]
  simp -implicitDefEqProofs (disch := omega) [wrap_of, ilt_t, ilt_f, ile_t, ile_f, nlt_t, nlt_f, nle_t, nle_f, ieq_t, ieq_f, imin_l, imin_r, imax_l, imax_r, take_app1, take_map_all, ]
end Go.Proofs.YtfdenmkoampgnaaGreat
