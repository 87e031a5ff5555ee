import Derived.Test.YtfdenmkoampgnaaGreatCfg49
import Derived.Test.YtfdenmkoampgnaaGreatAmGT
import Derived.Test.YtfdenmkoampgnaaGreatTrGA
set_option linter.unusedSimpArgs false
set_option linter.unusedVariables false
namespace Go.Proofs.YtfdenmkoampgnaaGreat
open Go.Am Go.Tr

abbrev I (n : Int) : AV := .int .i64 n
abbrev B (b : UInt8) : AV := .int .u8 (b.toNat : Int)
@[simp] def En (e : Tr.Ent) : AV := .agg [.str e.name, .int .i64 e.ino, .int .i64 e.cookie]
@[simp] def Nd (n : Tr.Node) : AV := .agg [.int .i64 n.ino, .int .i64 n.kind, .int .i64 n.links, .lst n.fd (n.data.map B), .lst n.fe (n.ents.map En), .int .i64 n.up]
@[simp] def Tv (t : Tr.Tree) : AV := .agg [.lst t.fn (t.nodes.map Nd), .int .i64 t.next, .int .i64 t.cookie]
@[simp] theorem szI (l : List Int) : szOk 1 (l.map I) = true := by simp [szOk]
@[simp] theorem szB (l : List UInt8) : szOk 1 (l.map B) = true := by simp [szOk]
@[simp] theorem szEn (l : List Tr.Ent) : szOk 3 (l.map En) = true := by simp [szOk]
@[simp] theorem szNd (l : List Tr.Node) : szOk 6 (l.map Nd) = true := by simp [szOk]
/-- What a machine can go through. -/
structure Bt (t : Tr.Tree) : Prop where
  len : t.nodes.length ≤ 1000
  ents : ∀ n ∈ t.nodes, n.ents.length ≤ 1000
  ck0 : 0 ≤ t.cookie
  ck : t.cookie ≤ 4398046511104
  nx0 : 0 ≤ t.next
  nx : t.next ≤ 4398046511104
def idxN (l : List Tr.Node) (i : Int) : Int := (find l i).elim (-1) fun _ => ((l.findIdx fun n => decide (n.ino = i) : Nat) : Int)
theorem l36 {Γ : Tab} (t : Tr.Tree) (hb : Bt t) (i : Int) (e0 : Env) (h2 : e0 2 = .rptr [.lst t.fn (t.nodes.map Nd), .int .i64 t.next, .int .i64 t.cookie]) (h1 : e0 1 = I i) :
    iter (round Γ [5] [(.exit 0, []), (.ret, [4])] c36_1 e0 0 []) ([.int .i64 0], []) = some ((t.nodes.find? fun n => decide (n.ino = i)).elim (.exit 0, [], []) fun _ => (.ret, [.int .i64 (t.nodes.findIdx fun n => decide (n.ino = i) : Nat)], [])) :=
  for_idx (f := round Γ [5] [(.exit 0, []), (.ret, [4])] c36_1 e0 0 []) (fun i => ([.int .i64 (i : Int)], [])) t.nodes (fun n => decide (n.ino = i)) (fun k _ => (.ret, [.int .i64 (k : Int)], [])) (.exit 0, [], [])
    (fun k hk => by
      have hl := hb.len
      obtain ⟨y, hy⟩ : ∃ y, y = t.nodes[k] := ⟨_, rfl⟩
      rw [← hy]
      by_cases h : y.ino = i
      · simp -implicitDefEqProofs (disch := omega) [wrap_of, ilt_t, ilt_f, ile_t, ile_f, nlt_t, nlt_f, nle_t, nle_f, ieq_t, ieq_f, imin_l, imin_r, imax_l, imax_r, take_app1, take_map_all, round_eq, b36_1, h2, h1, hk, ← hy, h]
      · simp -implicitDefEqProofs (disch := omega) [wrap_of, ilt_t, ilt_f, ile_t, ile_f, nlt_t, nlt_f, nle_t, nle_f, ieq_t, ieq_f, imin_l, imin_r, imax_l, imax_r, take_app1, take_map_all, round_eq, b36_1, h2, h1, hk, ← hy, h])
    (by simp -implicitDefEqProofs (disch := omega) [wrap_of, ilt_t, ilt_f, ile_t, ile_f, nlt_t, nlt_f, nle_t, nle_f, ieq_t, ieq_f, imin_l, imin_r, imax_l, imax_r, take_app1, take_map_all, round_eq, b36_1, h2])
theorem s36 {n : Nat} (hn : 28 < n) (t : Tr.Tree) (hb : Bt t) (i : Int) : (C49.tab n).p 36 [Tv t, I i] = some (I (idxN t.nodes i)) := by
  rw [p36 hn, runP_eq, runH_eq]
  have h := l36 (Γ := C49.tab 28) t hb i
  have hl := hb.len
  unfold idxN find
  simp -implicitDefEqProofs (disch := omega) [wrap_of, ilt_t, ilt_f, ile_t, ile_f, nlt_t, nlt_f, nle_t, nle_f, ieq_t, ieq_f, imin_l, imin_r, imax_l, imax_r, take_app1, take_map_all, c36]
  rw [h _ (by simp -implicitDefEqProofs (disch := omega) [wrap_of, ilt_t, ilt_f, ile_t, ile_f, nlt_t, nlt_f, nle_t, nle_f, ieq_t, ieq_f, imin_l, imin_r, imax_l, imax_r, take_app1, take_map_all, ]) (by simp -implicitDefEqProofs (disch := omega) [wrap_of, ilt_t, ilt_f, ile_t, ile_f, nlt_t, nlt_f, nle_t, nle_f, ieq_t, ieq_f, imin_l, imin_r, imax_l, imax_r, take_app1, take_map_all, ])]
  cases t.nodes.find? fun n => decide (n.ino = i) with
  | none => simp -implicitDefEqProofs (disch := omega) [wrap_of, ilt_t, ilt_f, ile_t, ile_f, nlt_t, nlt_f, nle_t, nle_f, ieq_t, ieq_f, imin_l, imin_r, imax_l, imax_r, take_app1, take_map_all, ]
  | some y => simp -implicitDefEqProofs (disch := omega) [wrap_of, ilt_t, ilt_f, ile_t, ile_f, nlt_t, nlt_f, nle_t, nle_f, ieq_t, ieq_f, imin_l, imin_r, imax_l, imax_r, take_app1, take_map_all, ]
theorem find_at {l : List Tr.Node} {i : Int} {q : Tr.Node} (h : find l i = some q) : ∃ k : Nat, idxN l i = k ∧ k < l.length ∧ l[k]? = some q := by
  have hf : (l.findIdx fun n => decide (n.ino = i)) < l.length := List.findIdx_lt_length_of_exists ⟨q, (find_mem h).1, by simpa using (find_mem h).2⟩
  refine ⟨l.findIdx fun n => decide (n.ino = i), by unfold idxN; rw [h]; rfl, hf, ?_⟩
  rw [getElem?_findIdx]
  exact h
def getV (o : Option Tr.Node) : AV := o.elim (.tup [Nd nodeZ, .bool false]) fun n => .tup [Nd n, .bool true]
theorem s14 {n : Nat} (hn : 29 < n) (t : Tr.Tree) (hb : Bt t) (i : Int) : (C49.tab n).p 14 [Tv t, I i] = some (getV (find t.nodes i)) := by
  rw [p14 hn, runP_eq, runH_eq]
  have h := s36 (n := 29) (by decide) t hb i
  have hl := hb.len
  simp only [Tv] at h
  unfold getV
  cases hf : find t.nodes i with
  | none =>
    have e : idxN t.nodes i = -1 := by unfold idxN; rw [hf]; rfl
    rw [e] at h
    simp -implicitDefEqProofs (disch := omega) [wrap_of, ilt_t, ilt_f, ile_t, ile_f, nlt_t, nlt_f, nle_t, nle_f, ieq_t, ieq_f, imin_l, imin_r, imax_l, imax_r, take_app1, take_map_all, c14, a36, h, nodeZ]
  | some q =>
    obtain ⟨k, hk, hkl, hq⟩ := find_at hf
    rw [hk] at h
    have hq' : q = t.nodes[k] := by rw [List.getElem?_eq_getElem hkl] at hq; exact (Option.some.inj hq).symm
    simp -implicitDefEqProofs (disch := omega) [wrap_of, ilt_t, ilt_f, ile_t, ile_f, nlt_t, nlt_f, nle_t, nle_f, ieq_t, ieq_f, imin_l, imin_r, imax_l, imax_r, take_app1, take_map_all, c14, a36, h, hkl, ← hq']
theorem s73 {n : Nat} (hn : 30 < n) (t : Tr.Tree) (hb : Bt t) (i : Int) : (C49.tab n).p 73 [Tv t, I i] = some (.tup [Nd (dirN t i), I (dirE t i)]) := by
  rw [p73 hn, runP_eq, runH_eq]
  have h := s14 (n := 30) (by decide) t hb i
  simp only [Tv] at h
  unfold dirN dirE
  unfold getV at h
  cases hf : find t.nodes i with
  | none =>
    rw [hf] at h
    simp only [Option.elim_none] at h
    simp -implicitDefEqProofs (disch := omega) [wrap_of, ilt_t, ilt_f, ile_t, ile_f, nlt_t, nlt_f, nle_t, nle_f, ieq_t, ieq_f, imin_l, imin_r, imax_l, imax_r, take_app1, take_map_all, c73, a14, h, nodeZ]
  | some q =>
    rw [hf] at h
    simp only [Option.elim_some, Nd] at h
    by_cases hk : q.kind = 2
    · simp -implicitDefEqProofs (disch := omega) [wrap_of, ilt_t, ilt_f, ile_t, ile_f, nlt_t, nlt_f, nle_t, nle_f, ieq_t, ieq_f, imin_l, imin_r, imax_l, imax_r, take_app1, take_map_all, c73, a14, h, hk]
    · simp -implicitDefEqProofs (disch := omega) [wrap_of, ilt_t, ilt_f, ile_t, ile_f, nlt_t, nlt_f, nle_t, nle_f, ieq_t, ieq_f, imin_l, imin_r, imax_l, imax_r, take_app1, take_map_all, c73, a14, h, hk, nodeZ]
def idxE (l : List Tr.Ent) (s : List UInt8) : Int := (l.find? fun e => decide (e.name = s)).elim (-1) fun _ => ((l.findIdx fun e => decide (e.name = s) : Nat) : Int)
theorem l75 {Γ : Tab} (q : Tr.Node) (hq : q.ents.length ≤ 1000) (s : List UInt8) (e0 : Env) (h2 : e0 2 = .rptr [.int .i64 q.ino, .int .i64 q.kind, .int .i64 q.links, .lst q.fd (q.data.map B), .lst q.fe (q.ents.map En), .int .i64 q.up]) (h1 : e0 1 = .str s) :
    iter (round Γ [5] [(.exit 0, []), (.ret, [4])] c75_1 e0 0 []) ([.int .i64 0], []) = some ((q.ents.find? fun e => decide (e.name = s)).elim (.exit 0, [], []) fun _ => (.ret, [.int .i64 (q.ents.findIdx fun e => decide (e.name = s) : Nat)], [])) :=
  for_idx (f := round Γ [5] [(.exit 0, []), (.ret, [4])] c75_1 e0 0 []) (fun i => ([.int .i64 (i : Int)], [])) q.ents (fun e => decide (e.name = s)) (fun k _ => (.ret, [.int .i64 (k : Int)], [])) (.exit 0, [], [])
    (fun k hk => by
      obtain ⟨y, hy⟩ : ∃ y, y = q.ents[k] := ⟨_, rfl⟩
      rw [← hy]
      by_cases h : y.name = s
      · simp -implicitDefEqProofs (disch := omega) [wrap_of, ilt_t, ilt_f, ile_t, ile_f, nlt_t, nlt_f, nle_t, nle_f, ieq_t, ieq_f, imin_l, imin_r, imax_l, imax_r, take_app1, take_map_all, round_eq, b75_1, h2, h1, hk, ← hy, h]
      · simp -implicitDefEqProofs (disch := omega) [wrap_of, ilt_t, ilt_f, ile_t, ile_f, nlt_t, nlt_f, nle_t, nle_f, ieq_t, ieq_f, imin_l, imin_r, imax_l, imax_r, take_app1, take_map_all, round_eq, b75_1, h2, h1, hk, ← hy, h])
    (by simp -implicitDefEqProofs (disch := omega) [wrap_of, ilt_t, ilt_f, ile_t, ile_f, nlt_t, nlt_f, nle_t, nle_f, ieq_t, ieq_f, imin_l, imin_r, imax_l, imax_r, take_app1, take_map_all, round_eq, b75_1, h2])
theorem s75 {n : Nat} (hn : 32 < n) (q : Tr.Node) (hq : q.ents.length ≤ 1000) (s : List UInt8) : (C49.tab n).p 75 [Nd q, .str s] = some (I (idxE q.ents s)) := by
  rw [p75 hn, runP_eq, runH_eq]
  have h := l75 (Γ := C49.tab 32) q hq s
  unfold idxE
  simp -implicitDefEqProofs (disch := omega) [wrap_of, ilt_t, ilt_f, ile_t, ile_f, nlt_t, nlt_f, nle_t, nle_f, ieq_t, ieq_f, imin_l, imin_r, imax_l, imax_r, take_app1, take_map_all, c75]
  rw [h _ (by simp -implicitDefEqProofs (disch := omega) [wrap_of, ilt_t, ilt_f, ile_t, ile_f, nlt_t, nlt_f, nle_t, nle_f, ieq_t, ieq_f, imin_l, imin_r, imax_l, imax_r, take_app1, take_map_all, ]) (by simp -implicitDefEqProofs (disch := omega) [wrap_of, ilt_t, ilt_f, ile_t, ile_f, nlt_t, nlt_f, nle_t, nle_f, ieq_t, ieq_f, imin_l, imin_r, imax_l, imax_r, take_app1, take_map_all, ])]
  cases q.ents.find? fun e => decide (e.name = s) with
  | none => simp -implicitDefEqProofs (disch := omega) [wrap_of, ilt_t, ilt_f, ile_t, ile_f, nlt_t, nlt_f, nle_t, nle_f, ieq_t, ieq_f, imin_l, imin_r, imax_l, imax_r, take_app1, take_map_all, ]
  | some y => simp -implicitDefEqProofs (disch := omega) [wrap_of, ilt_t, ilt_f, ile_t, ile_f, nlt_t, nlt_f, nle_t, nle_f, ieq_t, ieq_f, imin_l, imin_r, imax_l, imax_r, take_app1, take_map_all, ]
end Go.Proofs.YtfdenmkoampgnaaGreat

namespace Go.Proofs.YtfdenmkoampgnaaGreat
open Go.Am Go.Tr

theorem getZ_up (t : Tr.Tree) (i : Int) : (find t.nodes i = none ∧ upN t i = 0) ∨ ∃ q, find t.nodes i = some q ∧ upN t i = q.up := by
  cases h : find t.nodes i with
  | none => exact .inl ⟨rfl, by unfold upN; rw [h]; rfl⟩
  | some q => exact .inr ⟨q, rfl, upN_of h⟩
theorem l78 {n : Nat} (hn : 29 < n) (t : Tr.Tree) (hb : Bt t) (e0 : Env) (h2 : e0 2 = .rptr [.lst t.fn (t.nodes.map Nd), .int .i64 t.next, .int .i64 t.cookie]) : ∀ (k : Nat) (i : Int) (d : Nat), d + k = 201 →
    iter (round (C49.tab n) [1, 5] [(.exit 0, [5])] c78_1 e0 0 []) ([.int .i64 i, .int .i64 (d : Int)], []) = some (.exit 0, [.int .i64 ((d + depF t k i : Nat) : Int)], [])
  | 0, i, d, hd => by
    have hd' : d = 201 := by omega
    subst hd'
    rw [iter_eq]
    by_cases h1 : i = 1
    · subst h1
      simp -implicitDefEqProofs (disch := omega) [wrap_of, ilt_t, ilt_f, ile_t, ile_f, nlt_t, nlt_f, nle_t, nle_f, ieq_t, ieq_f, imin_l, imin_r, imax_l, imax_r, take_app1, take_map_all, round_eq, b78_1, h2, depF]
    · simp -implicitDefEqProofs (disch := omega) [wrap_of, ilt_t, ilt_f, ile_t, ile_f, nlt_t, nlt_f, nle_t, nle_f, ieq_t, ieq_f, imin_l, imin_r, imax_l, imax_r, take_app1, take_map_all, round_eq, b78_1, h2, h1, depF]
  | k + 1, i, d, hd => by
    rw [iter_eq]
    by_cases h1 : i = 1
    · subst h1
      simp -implicitDefEqProofs (disch := omega) [wrap_of, ilt_t, ilt_f, ile_t, ile_f, nlt_t, nlt_f, nle_t, nle_f, ieq_t, ieq_f, imin_l, imin_r, imax_l, imax_r, take_app1, take_map_all, round_eq, b78_1, h2, depF]
    · have hG := s14 (n := n) hn t hb i
      have ih := l78 hn t hb e0 h2 k (upN t i) (d + 1) (by omega)
      have e : d + 1 + depF t k (upN t i) = d + depF t (k + 1) i := by simp only [depF]; rw [if_neg h1]; omega
      rw [e] at ih
      have hdl : d ≤ 200 := by omega
      have hc : ((d + 1 : Nat) : Int) = (d : Int) + 1 := by omega
      rw [hc] at ih
      simp only [Tv, getV] at hG
      rcases getZ_up t i with ⟨hf, hu⟩ | ⟨q, hf, hu⟩
      · rw [hf] at hG
        rw [hu] at ih
        simp only [Option.elim_none, Nd, nodeZ, List.map_nil] at hG
        generalize d + depF t (k + 1) i = r at *
        simp -implicitDefEqProofs (disch := omega) [wrap_of, ilt_t, ilt_f, ile_t, ile_f, nlt_t, nlt_f, nle_t, nle_f, ieq_t, ieq_f, imin_l, imin_r, imax_l, imax_r, take_app1, take_map_all, round_eq, b78_1, h2, h1, hdl, a14, hG]
        exact ih
      · rw [hf] at hG
        rw [hu] at ih
        simp only [Option.elim_some, Nd] at hG
        generalize d + depF t (k + 1) i = r at *
        simp -implicitDefEqProofs (disch := omega) [wrap_of, ilt_t, ilt_f, ile_t, ile_f, nlt_t, nlt_f, nle_t, nle_f, ieq_t, ieq_f, imin_l, imin_r, imax_l, imax_r, take_app1, take_map_all, round_eq, b78_1, h2, h1, hdl, a14, hG]
        exact ih
theorem s78 {n : Nat} (hn : 33 < n) (t : Tr.Tree) (hb : Bt t) (i : Int) : (C49.tab n).p 78 [Tv t, I i] = some (I (depth t i)) := by
  rw [p78 hn, runP_eq, runH_eq]
  have h := fun e0 h2 => l78 (n := 33) (by decide) t hb e0 h2 201 i 0 rfl
  simp only [Nat.zero_add, Int.natCast_zero] at h
  unfold depth
  simp -implicitDefEqProofs (disch := omega) [wrap_of, ilt_t, ilt_f, ile_t, ile_f, nlt_t, nlt_f, nle_t, nle_f, ieq_t, ieq_f, imin_l, imin_r, imax_l, imax_r, take_app1, take_map_all, c78]
  rw [h _ (by simp -implicitDefEqProofs (disch := omega) [wrap_of, ilt_t, ilt_f, ile_t, ile_f, nlt_t, nlt_f, nle_t, nle_f, ieq_t, ieq_f, imin_l, imin_r, imax_l, imax_r, take_app1, take_map_all, ])]
  simp -implicitDefEqProofs (disch := omega) [wrap_of, ilt_t, ilt_f, ile_t, ile_f, nlt_t, nlt_f, nle_t, nle_f, ieq_t, ieq_f, imin_l, imin_r, imax_l, imax_r, take_app1, take_map_all, ]
/-- What is found, going up; none: too far. -/
def belX (t : Tr.Tree) : Nat → Int → Int → Option Bool
  | 0, _, _ => none
  | k + 1, i, o => if i = o then some true else if i = 1 then some false else belX t k (upN t i) o
theorem belX_eq (t : Tr.Tree) (o : Int) : ∀ (k : Nat) (i : Int), (belX t k i o).getD false = belF t k i o
  | 0, i => rfl
  | k + 1, i => by
    simp only [belX, belF]
    split
    · rfl
    · split
      · rfl
      · exact belX_eq t o k _
theorem l76 {n : Nat} (hn : 29 < n) (t : Tr.Tree) (hb : Bt t) (o : Int) (e0 : Env) (h3 : e0 3 = .rptr [.lst t.fn (t.nodes.map Nd), .int .i64 t.next, .int .i64 t.cookie]) (h2 : e0 2 = I o) : ∀ (k : Nat) (i : Int) (j : Nat), j + k = t.nodes.length + 1 →
    iter (round (C49.tab n) [1, 7] [(.exit 0, []), (.ret, [6])] c76_1 e0 0 []) ([.int .i64 i, .int .i64 (j : Int)], []) = some ((belX t k i o).elim (.exit 0, [], []) fun b => (.ret, [.bool b], []))
  | 0, i, j, hj => by
    have hl := hb.len
    rw [iter_eq]
    simp -implicitDefEqProofs (disch := omega) [wrap_of, ilt_t, ilt_f, ile_t, ile_f, nlt_t, nlt_f, nle_t, nle_f, ieq_t, ieq_f, imin_l, imin_r, imax_l, imax_r, take_app1, take_map_all, round_eq, b76_1, h2, h3, belX]
  | k + 1, i, j, hj => by
    have hl := hb.len
    have hjl : j ≤ t.nodes.length := by omega
    rw [iter_eq]
    simp only [belX]
    by_cases h1 : i = o
    · simp -implicitDefEqProofs (disch := omega) [wrap_of, ilt_t, ilt_f, ile_t, ile_f, nlt_t, nlt_f, nle_t, nle_f, ieq_t, ieq_f, imin_l, imin_r, imax_l, imax_r, take_app1, take_map_all, round_eq, b76_1, h2, h3, h1, hjl]
    · by_cases h4 : i = 1
      · simp -implicitDefEqProofs (disch := omega) [wrap_of, ilt_t, ilt_f, ile_t, ile_f, nlt_t, nlt_f, nle_t, nle_f, ieq_t, ieq_f, imin_l, imin_r, imax_l, imax_r, take_app1, take_map_all, round_eq, b76_1, h2, h3, h1, h4, hjl]
      · have hG := s14 (n := n) hn t hb i
        have ih := l76 hn t hb o e0 h3 h2 k (upN t i) (j + 1) (by omega)
        have hc : ((j + 1 : Nat) : Int) = (j : Int) + 1 := by omega
        rw [hc] at ih
        rw [if_neg h1, if_neg h4]
        simp only [Tv, getV] at hG
        rcases getZ_up t i with ⟨hf, hu⟩ | ⟨q, hf, hu⟩
        · rw [hf] at hG
          rw [hu] at ih ⊢
          simp only [Option.elim_none, Nd, nodeZ, List.map_nil] at hG
          rw [← ih]
          simp -implicitDefEqProofs (disch := omega) [wrap_of, ilt_t, ilt_f, ile_t, ile_f, nlt_t, nlt_f, nle_t, nle_f, ieq_t, ieq_f, imin_l, imin_r, imax_l, imax_r, take_app1, take_map_all, round_eq, b76_1, h2, h3, h1, h4, hjl, a14, hG]
        · rw [hf] at hG
          rw [hu] at ih ⊢
          simp only [Option.elim_some, Nd] at hG
          rw [← ih]
          simp -implicitDefEqProofs (disch := omega) [wrap_of, ilt_t, ilt_f, ile_t, ile_f, nlt_t, nlt_f, nle_t, nle_f, ieq_t, ieq_f, imin_l, imin_r, imax_l, imax_r, take_app1, take_map_all, round_eq, b76_1, h2, h3, h1, h4, hjl, a14, hG]
theorem s76 {n : Nat} (hn : 51 < n) (t : Tr.Tree) (hb : Bt t) (i o : Int) : (C49.tab n).p 76 [Tv t, I i, I o] = some (.bool (below t i o)) := by
  rw [p76 hn, runP_eq, runH_eq]
  have h := fun e0 h2 h3 => l76 (n := 51) (by decide) t hb o e0 h2 h3 (t.nodes.length + 1) i 0 (by omega)
  simp only [Int.natCast_zero] at h
  unfold below
  rw [← belX_eq]
  simp -implicitDefEqProofs (disch := omega) [wrap_of, ilt_t, ilt_f, ile_t, ile_f, nlt_t, nlt_f, nle_t, nle_f, ieq_t, ieq_f, imin_l, imin_r, imax_l, imax_r, take_app1, take_map_all, c76]
  rw [h _ (by simp -implicitDefEqProofs (disch := omega) [wrap_of, ilt_t, ilt_f, ile_t, ile_f, nlt_t, nlt_f, nle_t, nle_f, ieq_t, ieq_f, imin_l, imin_r, imax_l, imax_r, take_app1, take_map_all, ]) (by simp -implicitDefEqProofs (disch := omega) [wrap_of, ilt_t, ilt_f, ile_t, ile_f, nlt_t, nlt_f, nle_t, nle_f, ieq_t, ieq_f, imin_l, imin_r, imax_l, imax_r, take_app1, take_map_all, ])]
  cases belX t (t.nodes.length + 1) i o with
  | none => simp -implicitDefEqProofs (disch := omega) [wrap_of, ilt_t, ilt_f, ile_t, ile_f, nlt_t, nlt_f, nle_t, nle_f, ieq_t, ieq_f, imin_l, imin_r, imax_l, imax_r, take_app1, take_map_all, ]
  | some b => simp -implicitDefEqProofs (disch := omega) [wrap_of, ilt_t, ilt_f, ile_t, ile_f, nlt_t, nlt_f, nle_t, nle_f, ieq_t, ieq_f, imin_l, imin_r, imax_l, imax_r, take_app1, take_map_all, ]
theorem s94 {n : Nat} (hn : 34 < n) (t : Tr.Tree) (hb : Bt t) (q : Tr.Node) (hq : q.ents.length ≤ 1000) : (C49.tab n).p 94 [Tv t, Nd q] = some (.bool (full t q)) := by
  rw [p94 hn, runP_eq, runH_eq]
  have h := s78 (n := 34) (by decide) t hb q.ino
  simp only [Tv] at h
  unfold full
  by_cases c1 : 64 ≤ q.ents.length
  · simp -implicitDefEqProofs (disch := omega) [wrap_of, ilt_t, ilt_f, ile_t, ile_f, nlt_t, nlt_f, nle_t, nle_f, ieq_t, ieq_f, imin_l, imin_r, imax_l, imax_r, take_app1, take_map_all, c94, c1]
  · by_cases c2 : 12 ≤ depth t q.ino
    · simp -implicitDefEqProofs (disch := omega) [wrap_of, ilt_t, ilt_f, ile_t, ile_f, nlt_t, nlt_f, nle_t, nle_f, ieq_t, ieq_f, imin_l, imin_r, imax_l, imax_r, take_app1, take_map_all, c94, c1, a78, h, c2]
    · by_cases co3 : 1099511627776 ≤ t.cookie
      · simp -implicitDefEqProofs (disch := omega) [wrap_of, ilt_t, ilt_f, ile_t, ile_f, nlt_t, nlt_f, nle_t, nle_f, ieq_t, ieq_f, imin_l, imin_r, imax_l, imax_r, take_app1, take_map_all, c94, c1, a78, h, c2, co3]
      · simp -implicitDefEqProofs (disch := omega) [wrap_of, ilt_t, ilt_f, ile_t, ile_f, nlt_t, nlt_f, nle_t, nle_f, ieq_t, ieq_f, imin_l, imin_r, imax_l, imax_r, take_app1, take_map_all, c94, c1, a78, h, c2, co3]
end Go.Proofs.YtfdenmkoampgnaaGreat

namespace Go.Proofs.YtfdenmkoampgnaaGreat
open Go.Am Go.Tr

/-! with, without. -/
def wg (n : Tr.Node) (s : List Tr.Node × Bool) (m : Tr.Node) : List Tr.Node × Bool :=
  if s.2 = false ∧ n.ino ≤ m.ino then ((s.1 ++ [n]) ++ (if m.ino ≠ n.ino then [m] else []), true) else (s.1 ++ (if m.ino ≠ n.ino then [m] else []), s.2)
def wfin (n : Tr.Node) (s : List Tr.Node × Bool) : List Tr.Node := if s.2 = false then s.1 ++ [n] else s.1
theorem wg_rest (n : Tr.Node) : ∀ (l a : List Tr.Node), l.foldl (wg n) (a, true) = (a ++ l.filter (fun m => decide (m.ino ≠ n.ino)), true)
  | [], a => by simp
  | m :: l, a => by
    rw [List.foldl_cons]
    have e : wg n (a, true) m = (a ++ (if m.ino ≠ n.ino then [m] else []), true) := by unfold wg; simp
    rw [e, wg_rest n l, List.filter_cons]
    by_cases h : m.ino = n.ino <;> simp [h]
theorem wg_ins (n : Tr.Node) : ∀ (l a : List Tr.Node), wfin n (l.foldl (wg n) (a, false)) = a ++ ins n l
  | [], a => by simp [wfin, ins]
  | m :: l, a => by
    rw [List.foldl_cons]
    by_cases h : n.ino ≤ m.ino
    · have e : wg n (a, false) m = ((a ++ [n]) ++ (if m.ino ≠ n.ino then [m] else []), true) := by unfold wg; simp [h]
      rw [e, wg_rest]
      unfold wfin ins
      have h' : ¬ m.ino < n.ino := by omega
      simp only [List.takeWhile_cons, List.dropWhile_cons, decide_eq_false h', List.filter_cons]
      by_cases h2 : m.ino = n.ino <;> simp [h2]
    · have e : wg n (a, false) m = (a ++ [m], false) := by
        unfold wg
        have : m.ino ≠ n.ino := by omega
        simp [h, this]
      rw [e, wg_ins n l]
      unfold ins
      have h' : m.ino < n.ino := by omega
      simp [h']
theorem l67 {Γ : Tab} (t : Tr.Tree) (hb : Bt t) (n : Tr.Node) (e0 : Env) (h2 : e0 2 = .ptr 0 0 0 0) (h3 : e0 3 = .rptr [.int .i64 n.ino, .int .i64 n.kind, .int .i64 n.links, .lst n.fd (n.data.map B), .lst n.fe (n.ents.map En), .int .i64 n.up]) :
    iter (round Γ [5, 6, 7] [(.exit 0, [5, 6])] c67_1 e0 3 [2]) ([.own 2 0 0 0, .bool false, .int .i64 0], [.var [.lst t.fn (t.nodes.map Nd), .int .i64 t.next, .int .i64 t.cookie], .var [.lst true [], .int .i64 0, .int .i64 0], .row 0 6 []]) =
      some (.exit 0, [.own 2 0 0 (t.nodes.foldl (wg n) ([], false)).1.length, .bool (t.nodes.foldl (wg n) ([], false)).2], [.var [.lst t.fn (t.nodes.map Nd), .int .i64 t.next, .int .i64 t.cookie], .var [.lst true [], .int .i64 0, .int .i64 0], .row 0 6 ((t.nodes.foldl (wg n) ([], false)).1.map Nd)]) :=
  for_list (f := round Γ [5, 6, 7] [(.exit 0, [5, 6])] c67_1 e0 3 [2]) (fun i (s : List Tr.Node × Bool) => ([.own 2 0 0 s.1.length, .bool s.2, .int .i64 (i : Int)], [.var [.lst t.fn (t.nodes.map Nd), .int .i64 t.next, .int .i64 t.cookie], .var [.lst true [], .int .i64 0, .int .i64 0], .row 0 6 (s.1.map Nd)])) t.nodes (wg n) (fun s => (.exit 0, [.own 2 0 0 s.1.length, .bool s.2], [.var [.lst t.fn (t.nodes.map Nd), .int .i64 t.next, .int .i64 t.cookie], .var [.lst true [], .int .i64 0, .int .i64 0], .row 0 6 (s.1.map Nd)])) (fun i s => s.1.length ≤ 2 * i)
    (fun i hi s hs => by
      have hl := hb.len
      obtain ⟨m, hm⟩ : ∃ m, m = t.nodes[i] := ⟨_, rfl⟩
      obtain ⟨a, d⟩ := s
      rw [← hm]
      simp only at hs
      unfold wg
      by_cases c1 : n.ino ≤ m.ino
      · by_cases c2 : m.ino = n.ino
        · cases d with
          | false =>
            refine ⟨by simp [c2]; omega, ?_⟩
            simp -implicitDefEqProofs (disch := omega) [wrap_of, ilt_t, ilt_f, ile_t, ile_f, nlt_t, nlt_f, nle_t, nle_f, ieq_t, ieq_f, imin_l, imin_r, imax_l, imax_r, take_app1, take_map_all, round_eq, b67_1, h2, h3, hi, ← hm, c2]
          | true =>
            refine ⟨by simp [c2]; omega, ?_⟩
            simp -implicitDefEqProofs (disch := omega) [wrap_of, ilt_t, ilt_f, ile_t, ile_f, nlt_t, nlt_f, nle_t, nle_f, ieq_t, ieq_f, imin_l, imin_r, imax_l, imax_r, take_app1, take_map_all, round_eq, b67_1, h2, h3, hi, ← hm, c2]
        · cases d with
          | false =>
            refine ⟨by simp [c1, c2]; omega, ?_⟩
            simp -implicitDefEqProofs (disch := omega) [wrap_of, ilt_t, ilt_f, ile_t, ile_f, nlt_t, nlt_f, nle_t, nle_f, ieq_t, ieq_f, imin_l, imin_r, imax_l, imax_r, take_app1, take_map_all, round_eq, b67_1, h2, h3, hi, ← hm, c1, c2]
          | true =>
            refine ⟨by simp [c2]; omega, ?_⟩
            simp -implicitDefEqProofs (disch := omega) [wrap_of, ilt_t, ilt_f, ile_t, ile_f, nlt_t, nlt_f, nle_t, nle_f, ieq_t, ieq_f, imin_l, imin_r, imax_l, imax_r, take_app1, take_map_all, round_eq, b67_1, h2, h3, hi, ← hm, c1, c2]
      · have c2 : ¬ m.ino = n.ino := by omega
        cases d with
        | false =>
          refine ⟨by simp [c1, c2]; omega, ?_⟩
          simp -implicitDefEqProofs (disch := omega) [wrap_of, ilt_t, ilt_f, ile_t, ile_f, nlt_t, nlt_f, nle_t, nle_f, ieq_t, ieq_f, imin_l, imin_r, imax_l, imax_r, take_app1, take_map_all, round_eq, b67_1, h2, h3, hi, ← hm, c1, c2]
        | true =>
          refine ⟨by simp [c2]; omega, ?_⟩
          simp -implicitDefEqProofs (disch := omega) [wrap_of, ilt_t, ilt_f, ile_t, ile_f, nlt_t, nlt_f, nle_t, nle_f, ieq_t, ieq_f, imin_l, imin_r, imax_l, imax_r, take_app1, take_map_all, round_eq, b67_1, h2, h3, hi, ← hm, c1, c2])
    (fun s hs => by have hl := hb.len; simp -implicitDefEqProofs (disch := omega) [wrap_of, ilt_t, ilt_f, ile_t, ile_f, nlt_t, nlt_f, nle_t, nle_f, ieq_t, ieq_f, imin_l, imin_r, imax_l, imax_r, take_app1, take_map_all, round_eq, b67_1, h2]) ([], false) (by simp)
theorem s67 {m : Nat} (hn : 36 < m) (t : Tr.Tree) (hb : Bt t) (n : Tr.Node) : (C49.tab m).p 67 [Tv t, Nd n] = some (Tv (withN t n)) := by
  rw [p67 hn, runP_eq, runH_eq]
  have h := l67 (Γ := C49.tab 36) t hb n
  have hf := wg_ins n t.nodes []
  have hl := hb.len
  rw [List.nil_append] at hf
  unfold withN
  rw [← hf]
  have hlen : (t.nodes.foldl (wg n) ([], false)).1.length ≤ 2 * t.nodes.length := by
    have key : ∀ (l : List Tr.Node) (s : List Tr.Node × Bool), (l.foldl (wg n) s).1.length ≤ s.1.length + 2 * l.length := by
      intro l
      induction l with
      | nil => intro s; simp
      | cons m l ih =>
        intro s
        rw [List.foldl_cons]
        refine Nat.le_trans (ih _) ?_
        unfold wg
        split <;> split <;> simp <;> omega
    have := key t.nodes ([], false)
    simpa using this
  simp -implicitDefEqProofs (disch := omega) [wrap_of, ilt_t, ilt_f, ile_t, ile_f, nlt_t, nlt_f, nle_t, nle_f, ieq_t, ieq_f, imin_l, imin_r, imax_l, imax_r, take_app1, take_map_all, c67]
  rw [h _ (by simp -implicitDefEqProofs (disch := omega) [wrap_of, ilt_t, ilt_f, ile_t, ile_f, nlt_t, nlt_f, nle_t, nle_f, ieq_t, ieq_f, imin_l, imin_r, imax_l, imax_r, take_app1, take_map_all, ]) (by simp -implicitDefEqProofs (disch := omega) [wrap_of, ilt_t, ilt_f, ile_t, ile_f, nlt_t, nlt_f, nle_t, nle_f, ieq_t, ieq_f, imin_l, imin_r, imax_l, imax_r, take_app1, take_map_all, ])]
  generalize t.nodes.foldl (wg n) ([], false) = s at *
  obtain ⟨a, d⟩ := s
  unfold wfin
  simp only at hlen
  cases d with
  | false => simp -implicitDefEqProofs (disch := omega) [wrap_of, ilt_t, ilt_f, ile_t, ile_f, nlt_t, nlt_f, nle_t, nle_f, ieq_t, ieq_f, imin_l, imin_r, imax_l, imax_r, take_app1, take_map_all, ]
  | true => simp -implicitDefEqProofs (disch := omega) [wrap_of, ilt_t, ilt_f, ile_t, ile_f, nlt_t, nlt_f, nle_t, nle_f, ieq_t, ieq_f, imin_l, imin_r, imax_l, imax_r, take_app1, take_map_all, ]
end Go.Proofs.YtfdenmkoampgnaaGreat

namespace Go.Proofs.YtfdenmkoampgnaaGreat
open Go.Am Go.Tr

theorem fold_filter {α : Type} (p : α → Bool) : ∀ (l a : List α), l.foldl (fun a x => if p x = true then a ++ [x] else a) a = a ++ l.filter p
  | [], a => by simp
  | x :: l, a => by
    rw [List.foldl_cons, fold_filter p l, List.filter_cons]
    cases h : p x <;> simp [h]
theorem l80 {Γ : Tab} (t : Tr.Tree) (hb : Bt t) (i : Int) (e0 : Env) (h2 : e0 2 = .ptr 0 0 0 0) (h1 : e0 1 = I i) :
    iter (round Γ [5, 6] [(.exit 0, [5])] c80_1 e0 3 [2]) ([.own 2 0 0 0, .int .i64 0], [.var [.lst t.fn (t.nodes.map Nd), .int .i64 t.next, .int .i64 t.cookie], .var [.lst true [], .int .i64 0, .int .i64 0], .row 0 6 []]) =
      some (.exit 0, [.own 2 0 0 (t.nodes.filter fun m => decide (m.ino ≠ i)).length], [.var [.lst t.fn (t.nodes.map Nd), .int .i64 t.next, .int .i64 t.cookie], .var [.lst true [], .int .i64 0, .int .i64 0], .row 0 6 ((t.nodes.filter fun m => decide (m.ino ≠ i)).map Nd)]) := by
  have := for_list (f := round Γ [5, 6] [(.exit 0, [5])] c80_1 e0 3 [2]) (fun k (a : List Tr.Node) => ([.own 2 0 0 a.length, .int .i64 (k : Int)], [.var [.lst t.fn (t.nodes.map Nd), .int .i64 t.next, .int .i64 t.cookie], .var [.lst true [], .int .i64 0, .int .i64 0], .row 0 6 (a.map Nd)])) t.nodes (fun a x => if decide (x.ino ≠ i) = true then a ++ [x] else a) (fun a => (.exit 0, [.own 2 0 0 a.length], [.var [.lst t.fn (t.nodes.map Nd), .int .i64 t.next, .int .i64 t.cookie], .var [.lst true [], .int .i64 0, .int .i64 0], .row 0 6 (a.map Nd)])) (fun k a => a.length ≤ k)
    (fun k hk a ha => by
      have hl := hb.len
      obtain ⟨m, hm⟩ : ∃ m, m = t.nodes[k] := ⟨_, rfl⟩
      rw [← hm]
      by_cases c : m.ino = i
      · refine ⟨by simp [c]; omega, ?_⟩
        simp -implicitDefEqProofs (disch := omega) [wrap_of, ilt_t, ilt_f, ile_t, ile_f, nlt_t, nlt_f, nle_t, nle_f, ieq_t, ieq_f, imin_l, imin_r, imax_l, imax_r, take_app1, take_map_all, round_eq, b80_1, h2, h1, hk, ← hm, c]
      · refine ⟨by simp [c]; omega, ?_⟩
        simp -implicitDefEqProofs (disch := omega) [wrap_of, ilt_t, ilt_f, ile_t, ile_f, nlt_t, nlt_f, nle_t, nle_f, ieq_t, ieq_f, imin_l, imin_r, imax_l, imax_r, take_app1, take_map_all, round_eq, b80_1, h2, h1, hk, ← hm, c])
    (fun s hs => by have hl := hb.len; simp -implicitDefEqProofs (disch := omega) [wrap_of, ilt_t, ilt_f, ile_t, ile_f, nlt_t, nlt_f, nle_t, nle_f, ieq_t, ieq_f, imin_l, imin_r, imax_l, imax_r, take_app1, take_map_all, round_eq, b80_1, h2]) [] (by simp)
  rw [fold_filter, List.nil_append] at this
  simpa using this
theorem s80 {m : Nat} (hn : 47 < m) (t : Tr.Tree) (hb : Bt t) (i : Int) : (C49.tab m).p 80 [Tv t, I i] = some (Tv (without t i)) := by
  rw [p80 hn, runP_eq, runH_eq]
  have h := l80 (Γ := C49.tab 47) t hb i
  have hl := hb.len
  unfold without
  have hlen := List.length_filter_le (fun m : Tr.Node => decide (m.ino ≠ i)) t.nodes
  generalize (t.nodes.filter fun m => decide (m.ino ≠ i)) = r at *
  simp -implicitDefEqProofs (disch := omega) [wrap_of, ilt_t, ilt_f, ile_t, ile_f, nlt_t, nlt_f, nle_t, nle_f, ieq_t, ieq_f, imin_l, imin_r, imax_l, imax_r, take_app1, take_map_all, c80]
  rw [h _ (by simp -implicitDefEqProofs (disch := omega) [wrap_of, ilt_t, ilt_f, ile_t, ile_f, nlt_t, nlt_f, nle_t, nle_f, ieq_t, ieq_f, imin_l, imin_r, imax_l, imax_r, take_app1, take_map_all, ]) (by simp -implicitDefEqProofs (disch := omega) [wrap_of, ilt_t, ilt_f, ile_t, ile_f, nlt_t, nlt_f, nle_t, nle_f, ieq_t, ieq_f, imin_l, imin_r, imax_l, imax_r, take_app1, take_map_all, ])]
  simp -implicitDefEqProofs (disch := omega) [wrap_of, ilt_t, ilt_f, ile_t, ile_f, nlt_t, nlt_f, nle_t, nle_f, ieq_t, ieq_f, imin_l, imin_r, imax_l, imax_r, take_app1, take_map_all, ]
abbrev vN (q : Tr.Node) : AB := .var [.int .i64 q.ino, .int .i64 q.kind, .int .i64 q.links, .lst q.fd (q.data.map B), .lst q.fe (q.ents.map En), .int .i64 q.up]
theorem l72 {Γ : Tab} (q : Tr.Node) (hq : q.ents.length ≤ 1000) (s : List UInt8) (e0 : Env) (h7 : e0 7 = .ptr 1 0 0 0) (h2 : e0 2 = .str s) :
    iter (round Γ [9, 10] [(.exit 0, [9])] c72_1 e0 3 [2]) ([.own 2 0 0 0, .int .i64 0], [.var [.lst true [], .int .i64 0, .int .i64 0], vN q, .row 0 3 []]) =
      some (.exit 0, [.own 2 0 0 (q.ents.filter fun e => decide (e.name ≠ s)).length], [.var [.lst true [], .int .i64 0, .int .i64 0], vN q, .row 0 3 ((q.ents.filter fun e => decide (e.name ≠ s)).map En)]) := by
  have := for_list (f := round Γ [9, 10] [(.exit 0, [9])] c72_1 e0 3 [2]) (fun k (a : List Tr.Ent) => ([.own 2 0 0 a.length, .int .i64 (k : Int)], [.var [.lst true [], .int .i64 0, .int .i64 0], vN q, .row 0 3 (a.map En)])) q.ents (fun a x => if decide (x.name ≠ s) = true then a ++ [x] else a) (fun a => (.exit 0, [.own 2 0 0 a.length], [.var [.lst true [], .int .i64 0, .int .i64 0], vN q, .row 0 3 (a.map En)])) (fun k a => a.length ≤ k)
    (fun k hk a ha => by
      obtain ⟨m, hm⟩ : ∃ m, m = q.ents[k] := ⟨_, rfl⟩
      rw [← hm]
      by_cases c : m.name = s
      · refine ⟨by simp [c]; omega, ?_⟩
        simp -implicitDefEqProofs (disch := omega) [wrap_of, ilt_t, ilt_f, ile_t, ile_f, nlt_t, nlt_f, nle_t, nle_f, ieq_t, ieq_f, imin_l, imin_r, imax_l, imax_r, take_app1, take_map_all, round_eq, b72_1, h7, h2, hk, ← hm, c]
      · refine ⟨by simp [c]; omega, ?_⟩
        simp -implicitDefEqProofs (disch := omega) [wrap_of, ilt_t, ilt_f, ile_t, ile_f, nlt_t, nlt_f, nle_t, nle_f, ieq_t, ieq_f, imin_l, imin_r, imax_l, imax_r, take_app1, take_map_all, round_eq, b72_1, h7, h2, hk, ← hm, c])
    (fun s hs => by simp -implicitDefEqProofs (disch := omega) [wrap_of, ilt_t, ilt_f, ile_t, ile_f, nlt_t, nlt_f, nle_t, nle_f, ieq_t, ieq_f, imin_l, imin_r, imax_l, imax_r, take_app1, take_map_all, round_eq, b72_1, h7]) [] (by simp)
  rw [fold_filter, List.nil_append] at this
  simpa using this
theorem getZ_V (t : Tr.Tree) (i : Int) : ∃ b, getV (find t.nodes i) = .tup [Nd (getZ t i), .bool b] ∧ (getZ t i = nodeZ ∨ getZ t i ∈ t.nodes) := by
  unfold getZ getV
  cases h : find t.nodes i with
  | none => exact ⟨false, rfl, .inl rfl⟩
  | some q => exact ⟨true, rfl, .inr (find_mem h).1⟩
theorem s72 {m : Nat} (hn : 49 < m) (t : Tr.Tree) (hb : Bt t) (i : Int) (s : List UInt8) : (C49.tab m).p 72 [Tv t, I i, .str s] = some (Tv (left t i s)) := by
  rw [p72 hn, runP_eq, runH_eq]
  have hl := hb.len
  have hG := s14 (n := 49) (by decide) t hb i
  obtain ⟨b, hv, hz⟩ := getZ_V t i
  rw [hv] at hG
  have hq : (getZ t i).ents.length ≤ 1000 := by
    rcases hz with h | h
    · rw [h]; simp [nodeZ]
    · exact hb.ents _ h
  unfold left
  generalize getZ t i = q at *
  have h := l72 (Γ := C49.tab 49) q hq s
  have hw := s67 (m := 49) (by decide) t hb { q with fe := false, ents := q.ents.filter fun e => decide (e.name ≠ s) }
  have hlen := List.length_filter_le (fun e : Tr.Ent => decide (e.name ≠ s)) q.ents
  generalize (q.ents.filter fun e => decide (e.name ≠ s)) = r at *
  simp only [Tv, Nd] at hG hw
  simp -implicitDefEqProofs (disch := omega) [wrap_of, ilt_t, ilt_f, ile_t, ile_f, nlt_t, nlt_f, nle_t, nle_f, ieq_t, ieq_f, imin_l, imin_r, imax_l, imax_r, take_app1, take_map_all, c72, a14, hG]
  rw [h _ (by simp -implicitDefEqProofs (disch := omega) [wrap_of, ilt_t, ilt_f, ile_t, ile_f, nlt_t, nlt_f, nle_t, nle_f, ieq_t, ieq_f, imin_l, imin_r, imax_l, imax_r, take_app1, take_map_all, ]) (by simp -implicitDefEqProofs (disch := omega) [wrap_of, ilt_t, ilt_f, ile_t, ile_f, nlt_t, nlt_f, nle_t, nle_f, ieq_t, ieq_f, imin_l, imin_r, imax_l, imax_r, take_app1, take_map_all, ])]
  simp -implicitDefEqProofs (disch := omega) [wrap_of, ilt_t, ilt_f, ile_t, ile_f, nlt_t, nlt_f, nle_t, nle_f, ieq_t, ieq_f, imin_l, imin_r, imax_l, imax_r, take_app1, take_map_all, a67, hw]
end Go.Proofs.YtfdenmkoampgnaaGreat

namespace Go.Proofs.YtfdenmkoampgnaaGreat
open Go.Am Go.Tr

def eg (e : Tr.Ent) (s : List Tr.Ent × Bool) (x : Tr.Ent) : List Tr.Ent × Bool := if s.2 = false ∧ sLess e.name x.name = true then ((s.1 ++ [e]) ++ [x], true) else (s.1 ++ [x], s.2)
def efin (e : Tr.Ent) (s : List Tr.Ent × Bool) : List Tr.Ent := if s.2 = false then s.1 ++ [e] else s.1
theorem eg_rest (e : Tr.Ent) : ∀ (l a : List Tr.Ent), l.foldl (eg e) (a, true) = (a ++ l, true)
  | [], a => by simp
  | x :: l, a => by
    rw [List.foldl_cons]
    have h : eg e (a, true) x = (a ++ [x], true) := by unfold eg; simp
    rw [h, eg_rest e l]
    simp
theorem eg_ins (e : Tr.Ent) : ∀ (l a : List Tr.Ent), efin e (l.foldl (eg e) (a, false)) = a ++ insE sLess e l
  | [], a => by simp [efin, insE]
  | x :: l, a => by
    rw [List.foldl_cons, insE_cons]
    by_cases h : sLess e.name x.name = true
    · have h1 : eg e (a, false) x = ((a ++ [e]) ++ [x], true) := by unfold eg; simp [h]
      rw [h1, eg_rest, if_pos h]
      unfold efin
      simp
    · have h1 : eg e (a, false) x = (a ++ [x], false) := by unfold eg; simp [h]
      rw [h1, eg_ins e l, if_neg h]
      simp
theorem l66 {Γ : Tab} (q : Tr.Node) (hq : q.ents.length ≤ 1000) (e : Tr.Ent) (T : List AV) (t : Tr.Tree) (hT : T = [.lst t.fn (t.nodes.map Nd), .int .i64 t.next, .int .i64 t.cookie]) (e0 : Env) (h9 : e0 9 = .ptr 2 0 0 0) (h11 : e0 11 = .ptr 3 0 0 0) (h2 : e0 2 = .str e.name) :
    iter (round Γ [12, 13, 14] [(.exit 0, [12, 13])] c66_1 e0 5 [4]) ([.own 4 0 0 0, .bool false, .int .i64 0], [.var T, .var [.lst true [], .int .i64 0, .int .i64 0], vN q, .var [.str e.name, .int .i64 e.ino, .int .i64 e.cookie], .row 0 3 []]) =
      some (.exit 0, [.own 4 0 0 (q.ents.foldl (eg e) ([], false)).1.length, .bool (q.ents.foldl (eg e) ([], false)).2], [.var T, .var [.lst true [], .int .i64 0, .int .i64 0], vN q, .var [.str e.name, .int .i64 e.ino, .int .i64 e.cookie], .row 0 3 ((q.ents.foldl (eg e) ([], false)).1.map En)]) := by
  subst hT
  exact for_list (f := round Γ [12, 13, 14] [(.exit 0, [12, 13])] c66_1 e0 5 [4]) (fun k (s : List Tr.Ent × Bool) => ([.own 4 0 0 s.1.length, .bool s.2, .int .i64 (k : Int)], [.var [.lst t.fn (t.nodes.map Nd), .int .i64 t.next, .int .i64 t.cookie], .var [.lst true [], .int .i64 0, .int .i64 0], vN q, .var [.str e.name, .int .i64 e.ino, .int .i64 e.cookie], .row 0 3 (s.1.map En)])) q.ents (eg e) (fun s => (.exit 0, [.own 4 0 0 s.1.length, .bool s.2], [.var [.lst t.fn (t.nodes.map Nd), .int .i64 t.next, .int .i64 t.cookie], .var [.lst true [], .int .i64 0, .int .i64 0], vN q, .var [.str e.name, .int .i64 e.ino, .int .i64 e.cookie], .row 0 3 (s.1.map En)])) (fun k s => s.1.length ≤ 2 * k)
    (fun k hk s hs => by
      obtain ⟨x, hx⟩ : ∃ x, x = q.ents[k] := ⟨_, rfl⟩
      obtain ⟨a, d⟩ := s
      rw [← hx]
      simp only at hs
      unfold eg
      cases d with
      | true =>
        refine ⟨by simp; omega, ?_⟩
        simp -implicitDefEqProofs (disch := omega) [wrap_of, ilt_t, ilt_f, ile_t, ile_f, nlt_t, nlt_f, nle_t, nle_f, ieq_t, ieq_f, imin_l, imin_r, imax_l, imax_r, take_app1, take_map_all, round_eq, b66_1, h9, h11, h2, hk, ← hx]
      | false =>
        rcases sLess_tot e.name x.name with c | c | c
        · have c1 := sLess_asym c
          have c2 : ¬ x.name = e.name := fun h => sLess_ne c h.symm
          refine ⟨by simp [c]; omega, ?_⟩
          simp -implicitDefEqProofs (disch := omega) [wrap_of, ilt_t, ilt_f, ile_t, ile_f, nlt_t, nlt_f, nle_t, nle_f, ieq_t, ieq_f, imin_l, imin_r, imax_l, imax_r, take_app1, take_map_all, round_eq, b66_1, h9, h11, h2, hk, ← hx, c, c1, c2]
        · have c1 : sLess e.name x.name = false := by rw [c]; exact sLess_irr _
          refine ⟨by simp [c1]; omega, ?_⟩
          simp -implicitDefEqProofs (disch := omega) [wrap_of, ilt_t, ilt_f, ile_t, ile_f, nlt_t, nlt_f, nle_t, nle_f, ieq_t, ieq_f, imin_l, imin_r, imax_l, imax_r, take_app1, take_map_all, round_eq, b66_1, h9, h11, h2, hk, ← hx, c, sLess_irr]
        · have c1 := sLess_asym c
          refine ⟨by simp [c1]; omega, ?_⟩
          simp -implicitDefEqProofs (disch := omega) [wrap_of, ilt_t, ilt_f, ile_t, ile_f, nlt_t, nlt_f, nle_t, nle_f, ieq_t, ieq_f, imin_l, imin_r, imax_l, imax_r, take_app1, take_map_all, round_eq, b66_1, h9, h11, h2, hk, ← hx, c, c1])
    (fun s hs => by simp -implicitDefEqProofs (disch := omega) [wrap_of, ilt_t, ilt_f, ile_t, ile_f, nlt_t, nlt_f, nle_t, nle_f, ieq_t, ieq_f, imin_l, imin_r, imax_l, imax_r, take_app1, take_map_all, round_eq, b66_1, h9]) ([], false) (by simp)
theorem s66 {m : Nat} (hn : 37 < m) (t : Tr.Tree) (hb : Bt t) (i : Int) (s : List UInt8) (of : Int) (hck : t.cookie < 4398046511104) : (C49.tab m).p 66 [Tv t, I i, .str s, I of] = some (Tv (entered sLess t i s of)) := by
  rw [p66 hn, runP_eq, runH_eq]
  have hl := hb.len
  have hck0 := hb.ck0
  have hG := s14 (n := 37) (by decide) t hb i
  obtain ⟨b, hv, hz⟩ := getZ_V t i
  rw [hv] at hG
  have hq : (getZ t i).ents.length ≤ 1000 := by
    rcases hz with h | h
    · rw [h]; simp [nodeZ]
    · exact hb.ents _ h
  unfold entered
  generalize getZ t i = q at *
  obtain ⟨e, he⟩ : ∃ e : Tr.Ent, e = ⟨s, of, t.cookie⟩ := ⟨_, rfl⟩
  have h := l66 (Γ := C49.tab 37) q hq e _ t rfl
  have hf := eg_ins e q.ents []
  rw [List.nil_append] at hf
  have hlen : (q.ents.foldl (eg e) ([], false)).1.length ≤ 2 * q.ents.length := by
    have key : ∀ (l : List Tr.Ent) (s : List Tr.Ent × Bool), (l.foldl (eg e) s).1.length ≤ s.1.length + 2 * l.length := by
      intro l
      induction l with
      | nil => intro s; simp
      | cons m l ih =>
        intro s
        rw [List.foldl_cons]
        refine Nat.le_trans (ih _) ?_
        unfold eg
        split <;> simp <;> omega
    have := key q.ents ([], false)
    simpa using this
  have hb' : Bt ⟨t.fn, t.nodes, t.next, t.cookie + 1⟩ := ⟨hb.len, hb.ents, by simp only; omega, by simp only; omega, hb.nx0, hb.nx⟩
  have hw := s67 (m := 37) (by decide) ⟨t.fn, t.nodes, t.next, t.cookie + 1⟩ hb' { q with fe := false, ents := insE sLess e q.ents }
  subst he
  rw [← hf] at hw ⊢
  simp only [Tv, Nd] at hG hw h
  simp -implicitDefEqProofs (disch := omega) [wrap_of, ilt_t, ilt_f, ile_t, ile_f, nlt_t, nlt_f, nle_t, nle_f, ieq_t, ieq_f, imin_l, imin_r, imax_l, imax_r, take_app1, take_map_all, c66, a14, hG]
  rw [h _ (by simp -implicitDefEqProofs (disch := omega) [wrap_of, ilt_t, ilt_f, ile_t, ile_f, nlt_t, nlt_f, nle_t, nle_f, ieq_t, ieq_f, imin_l, imin_r, imax_l, imax_r, take_app1, take_map_all, ]) (by simp -implicitDefEqProofs (disch := omega) [wrap_of, ilt_t, ilt_f, ile_t, ile_f, nlt_t, nlt_f, nle_t, nle_f, ieq_t, ieq_f, imin_l, imin_r, imax_l, imax_r, take_app1, take_map_all, ]) (by simp -implicitDefEqProofs (disch := omega) [wrap_of, ilt_t, ilt_f, ile_t, ile_f, nlt_t, nlt_f, nle_t, nle_f, ieq_t, ieq_f, imin_l, imin_r, imax_l, imax_r, take_app1, take_map_all, ])]
  generalize q.ents.foldl (eg ⟨s, of, t.cookie⟩) ([], false) = r at *
  obtain ⟨a, d⟩ := r
  unfold efin at hw ⊢
  simp only at hlen
  cases d with
  | true =>
    simp only [Bool.true_eq_false, if_false] at hw
    simp -implicitDefEqProofs (disch := omega) [wrap_of, ilt_t, ilt_f, ile_t, ile_f, nlt_t, nlt_f, nle_t, nle_f, ieq_t, ieq_f, imin_l, imin_r, imax_l, imax_r, take_app1, take_map_all, a67, hw]
  | false =>
    simp only [if_true, List.map_append, List.map_cons, List.map_nil, En] at hw
    simp -implicitDefEqProofs (disch := omega) [wrap_of, ilt_t, ilt_f, ile_t, ile_f, nlt_t, nlt_f, nle_t, nle_f, ieq_t, ieq_f, imin_l, imin_r, imax_l, imax_r, take_app1, take_map_all, a67, hw]
theorem s71 {m : Nat} (hn : 48 < m) (t : Tr.Tree) (hb : Bt t) (i : Int) (hk : ∀ q, find t.nodes i = some q → -4398046511104 ≤ q.links ∧ q.links ≤ 4398046511104) : (C49.tab m).p 71 [Tv t, I i] = some (Tv (unnamed t i)) := by
  rw [p71 hn, runP_eq, runH_eq]
  have hG := s14 (n := 48) (by decide) t hb i
  have hw := s80 (m := 48) (by decide) t hb i
  have hlk : -4398046511104 ≤ (getZ t i).links ∧ (getZ t i).links ≤ 4398046511104 := by
    unfold getZ
    cases hf : find t.nodes i with
    | none => simp [nodeZ]
    | some q => exact hk q hf
  obtain ⟨b, hv, hz⟩ := getZ_V t i
  rw [hv] at hG
  unfold unnamed
  generalize getZ t i = q at *
  have hw2 := s67 (m := 48) (by decide) t hb { q with links := q.links - 1 }
  by_cases c : q.kind = 2
  · rw [if_pos c]
    simp only [Tv, Nd] at hG hw
    simp -implicitDefEqProofs (disch := omega) [wrap_of, ilt_t, ilt_f, ile_t, ile_f, nlt_t, nlt_f, nle_t, nle_f, ieq_t, ieq_f, imin_l, imin_r, imax_l, imax_r, take_app1, take_map_all, c71, a14, hG, c, a80, hw]
  · rw [if_neg c]
    simp only [Tv, Nd] at hG hw2
    simp -implicitDefEqProofs (disch := omega) [wrap_of, ilt_t, ilt_f, ile_t, ile_f, nlt_t, nlt_f, nle_t, nle_f, ieq_t, ieq_f, imin_l, imin_r, imax_l, imax_r, take_app1, take_map_all, c71, a14, hG, c, a67, hw2]
end Go.Proofs.YtfdenmkoampgnaaGreat

namespace Go.Proofs.YtfdenmkoampgnaaGreat
open Go.Am Go.Tr

def okB (b : UInt8) : Bool := decide (32 ≤ b.toNat) && !decide (b.toNat = 47)
def okN (s : List UInt8) : Bool := decide (1 ≤ s.length ∧ s.length ≤ 32 ∧ s ≠ [46] ∧ s ≠ [46, 46]) && s.all okB
theorem l74 {Γ : Tab} (s : List UInt8) (hs : s.length ≤ 32) (e0 : Env) (h0 : e0 0 = .str s) :
    iter (round Γ [3] [(.exit 0, []), (.ret, [2])] c74_1 e0 0 []) ([.int .i64 0], []) = some (if s.all okB = true then (.exit 0, [], []) else (.ret, [.bool false], [])) :=
  for_all (f := round Γ [3] [(.exit 0, []), (.ret, [2])] c74_1 e0 0 []) (fun i => ([.int .i64 (i : Int)], [])) s okB _ _ (fun i hi => by
      obtain ⟨b, hb⟩ : ∃ b, b = s[i] := ⟨_, rfl⟩
      rw [← hb]
      unfold okB
      by_cases c1 : 32 ≤ b.toNat
      · have c1' : ¬ ((b.toNat : Int) < 32) := by omega
        by_cases c2 : b.toNat = 47
        · have c2' : (b.toNat : Int) = 47 := by omega
          simp -implicitDefEqProofs (disch := omega) [wrap_of, ilt_t, ilt_f, ile_t, ile_f, nlt_t, nlt_f, nle_t, nle_f, ieq_t, ieq_f, imin_l, imin_r, imax_l, imax_r, take_app1, take_map_all, round_eq, b74_1, h0, hi, ← hb, c1, c2, c1', c2']
        · have c2' : ¬ (b.toNat : Int) = 47 := by omega
          simp -implicitDefEqProofs (disch := omega) [wrap_of, ilt_t, ilt_f, ile_t, ile_f, nlt_t, nlt_f, nle_t, nle_f, ieq_t, ieq_f, imin_l, imin_r, imax_l, imax_r, take_app1, take_map_all, round_eq, b74_1, h0, hi, ← hb, c1, c2, c1', c2']
      · have c1' : (b.toNat : Int) < 32 := by omega
        simp -implicitDefEqProofs (disch := omega) [wrap_of, ilt_t, ilt_f, ile_t, ile_f, nlt_t, nlt_f, nle_t, nle_f, ieq_t, ieq_f, imin_l, imin_r, imax_l, imax_r, take_app1, take_map_all, round_eq, b74_1, h0, hi, ← hb, c1, c1'])
    (by simp -implicitDefEqProofs (disch := omega) [wrap_of, ilt_t, ilt_f, ile_t, ile_f, nlt_t, nlt_f, nle_t, nle_f, ieq_t, ieq_f, imin_l, imin_r, imax_l, imax_r, take_app1, take_map_all, round_eq, b74_1, h0])
theorem s74 {n : Nat} (hn : 31 < n) (s : List UInt8) (hs : s.length ≤ 9223372036854775807) : (C49.tab n).p 74 [.str s] = some (.bool (okN s)) := by
  rw [p74 hn, runP_eq, runH_eq]
  unfold okN
  by_cases c1 : s.length < 1
  · simp -implicitDefEqProofs (disch := omega) [wrap_of, ilt_t, ilt_f, ile_t, ile_f, nlt_t, nlt_f, nle_t, nle_f, ieq_t, ieq_f, imin_l, imin_r, imax_l, imax_r, take_app1, take_map_all, c74, c1]
  · by_cases c2 : 32 < s.length
    · simp -implicitDefEqProofs (disch := omega) [wrap_of, ilt_t, ilt_f, ile_t, ile_f, nlt_t, nlt_f, nle_t, nle_f, ieq_t, ieq_f, imin_l, imin_r, imax_l, imax_r, take_app1, take_map_all, c74, c1, c2]
    · by_cases co3 : s = [46]
      · subst co3
        simp -implicitDefEqProofs (disch := omega) [wrap_of, ilt_t, ilt_f, ile_t, ile_f, nlt_t, nlt_f, nle_t, nle_f, ieq_t, ieq_f, imin_l, imin_r, imax_l, imax_r, take_app1, take_map_all, c74]
      · by_cases co4 : s = [46, 46]
        · subst co4
          simp -implicitDefEqProofs (disch := omega) [wrap_of, ilt_t, ilt_f, ile_t, ile_f, nlt_t, nlt_f, nle_t, nle_f, ieq_t, ieq_f, imin_l, imin_r, imax_l, imax_r, take_app1, take_map_all, c74]
        · have h := l74 (Γ := C49.tab 31) s (by omega)
          generalize s.all okB = q at *
          simp -implicitDefEqProofs (disch := omega) [wrap_of, ilt_t, ilt_f, ile_t, ile_f, nlt_t, nlt_f, nle_t, nle_f, ieq_t, ieq_f, imin_l, imin_r, imax_l, imax_r, take_app1, take_map_all, c74, c1, c2, co3, co4]
          rw [h _ (by simp -implicitDefEqProofs (disch := omega) [wrap_of, ilt_t, ilt_f, ile_t, ile_f, nlt_t, nlt_f, nle_t, nle_f, ieq_t, ieq_f, imin_l, imin_r, imax_l, imax_r, take_app1, take_map_all, ])]
          cases q with
          | true => simp -implicitDefEqProofs (disch := omega) [wrap_of, ilt_t, ilt_f, ile_t, ile_f, nlt_t, nlt_f, nle_t, nle_f, ieq_t, ieq_f, imin_l, imin_r, imax_l, imax_r, take_app1, take_map_all, ]
          | false => simp -implicitDefEqProofs (disch := omega) [wrap_of, ilt_t, ilt_f, ile_t, ile_f, nlt_t, nlt_f, nle_t, nle_f, ieq_t, ieq_f, imin_l, imin_r, imax_l, imax_r, take_app1, take_map_all, ]
theorem s65 {n : Nat} (hn : 35 < n) (t : Tr.Tree) (hb : Bt t) (i : Int) (s : List UInt8) (hs : s.length ≤ 9223372036854775807) : (C49.tab n).p 65 [Tv t, I i, .str s] = some (I (enter okN t i s)) := by
  rw [p65 hn, runP_eq, runH_eq]
  have hD := s73 (n := 35) (by decide) t hb i
  have hR := s74 (n := 35) (by decide) s hs
  have hq : (dirN t i).ents.length ≤ 1000 := by
    unfold dirN
    cases hf : find t.nodes i with
    | none => simp [nodeZ]
    | some p =>
      simp only
      split
      · exact hb.ents _ (find_mem hf).1
      · simp [nodeZ]
  have hN := s75 (n := 35) (by decide) (dirN t i) hq s
  have hF := s94 (n := 35) (by decide) t hb (dirN t i) hq
  unfold enter
  have hno : (0 ≤ idxE (dirN t i).ents s) ↔ (entOf (dirN t i) s).isSome = true := by
    unfold idxE entOf
    cases (dirN t i).ents.find? fun e => decide (e.name = s) with
    | none => simp
    | some e => simp
  generalize dirN t i = q at *
  generalize dirE t i = c at *
  simp only [Tv, Nd] at hD hN hF
  by_cases c0 : c = 0
  · cases c1 : okN s with
    | false =>
      rw [c1] at hR
      simp -implicitDefEqProofs (disch := omega) [wrap_of, ilt_t, ilt_f, ile_t, ile_f, nlt_t, nlt_f, nle_t, nle_f, ieq_t, ieq_f, imin_l, imin_r, imax_l, imax_r, take_app1, take_map_all, c65, a73, hD, c0, a74, hR]
    | true =>
      rw [c1] at hR
      by_cases c2 : 0 ≤ idxE q.ents s
      · have c2' := hno.1 c2
        simp -implicitDefEqProofs (disch := omega) [wrap_of, ilt_t, ilt_f, ile_t, ile_f, nlt_t, nlt_f, nle_t, nle_f, ieq_t, ieq_f, imin_l, imin_r, imax_l, imax_r, take_app1, take_map_all, c65, a73, hD, c0, a74, hR, a75, hN, c2, c2']
      · have c2' : (entOf q s).isSome = false := by
          cases hq : (entOf q s).isSome with
          | false => rfl
          | true => exact absurd (hno.2 hq) c2
        cases co3 : full t q with
        | true =>
          rw [co3] at hF
          simp -implicitDefEqProofs (disch := omega) [wrap_of, ilt_t, ilt_f, ile_t, ile_f, nlt_t, nlt_f, nle_t, nle_f, ieq_t, ieq_f, imin_l, imin_r, imax_l, imax_r, take_app1, take_map_all, c65, a73, hD, c0, a74, hR, a75, hN, c2, c2', a94, hF]
        | false =>
          rw [co3] at hF
          simp -implicitDefEqProofs (disch := omega) [wrap_of, ilt_t, ilt_f, ile_t, ile_f, nlt_t, nlt_f, nle_t, nle_f, ieq_t, ieq_f, imin_l, imin_r, imax_l, imax_r, take_app1, take_map_all, c65, a73, hD, c0, a74, hR, a75, hN, c2, c2', a94, hF]
  · simp -implicitDefEqProofs (disch := omega) [wrap_of, ilt_t, ilt_f, ile_t, ile_f, nlt_t, nlt_f, nle_t, nle_f, ieq_t, ieq_f, imin_l, imin_r, imax_l, imax_r, take_app1, take_map_all, c65, a73, hD, c0]
theorem s21 {n : Nat} (hn : 27 < n) : (C49.tab n).p 21 [] = some (Tv newT) := by
  rw [p21 hn, runP_eq, runH_eq]
  simp -implicitDefEqProofs (disch := omega) [wrap_of, ilt_t, ilt_f, ile_t, ile_f, nlt_t, nlt_f, nle_t, nle_f, ieq_t, ieq_f, imin_l, imin_r, imax_l, imax_r, take_app1, take_map_all, c21, newT]
theorem s47 {n : Nat} (hn : 55 < n) (t : Tr.Tree) (hb : Bt t) (i : Int) : (C49.tab n).p 47 [Tv t, I i] = some (.tup [Tv (free t i).1, I (free t i).2]) := by
  rw [p47 hn, runP_eq, runH_eq]
  have hG := s14 (n := 55) (by decide) t hb i
  have hw := s80 (m := 55) (by decide) t hb i
  unfold free
  unfold getV at hG
  cases hf : find t.nodes i with
  | none =>
    rw [hf] at hG
    simp only [Option.elim_none, Tv, Nd] at hG
    simp -implicitDefEqProofs (disch := omega) [wrap_of, ilt_t, ilt_f, ile_t, ile_f, nlt_t, nlt_f, nle_t, nle_f, ieq_t, ieq_f, imin_l, imin_r, imax_l, imax_r, take_app1, take_map_all, c47, a14, hG]
  | some q =>
    rw [hf] at hG
    simp only [Option.elim_some, Tv, Nd] at hG hw
    by_cases c1 : q.kind = 2
    · simp -implicitDefEqProofs (disch := omega) [wrap_of, ilt_t, ilt_f, ile_t, ile_f, nlt_t, nlt_f, nle_t, nle_f, ieq_t, ieq_f, imin_l, imin_r, imax_l, imax_r, take_app1, take_map_all, c47, a14, hG, c1]
    · by_cases c2 : 0 < q.links
      · simp -implicitDefEqProofs (disch := omega) [wrap_of, ilt_t, ilt_f, ile_t, ile_f, nlt_t, nlt_f, nle_t, nle_f, ieq_t, ieq_f, imin_l, imin_r, imax_l, imax_r, take_app1, take_map_all, c47, a14, hG, c1, c2]
      · simp -implicitDefEqProofs (disch := omega) [wrap_of, ilt_t, ilt_f, ile_t, ile_f, nlt_t, nlt_f, nle_t, nle_f, ieq_t, ieq_f, imin_l, imin_r, imax_l, imax_r, take_app1, take_map_all, c47, a14, hG, c1, c2, a80, hw]
end Go.Proofs.YtfdenmkoampgnaaGreat
