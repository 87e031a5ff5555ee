import Derived.Test.YtfdenmkoampgnaaGreatU49GG
import Derived.Test.YtfdenmkoampgnaaGreatTrGM
import Derived.Test.YtfdenmkoampgnaaGreatAmGT
set_option linter.unusedSimpArgs false
set_option linter.unusedVariables false
namespace Go.Proofs.YtfdenmkoampgnaaGreat
open Go.Am Go.Tr Go.Am.Nm

/-- A tree in a box. -/
structure Bx (X : AH) (k : Nat) (t : Tr.Tree) : Prop where
  pl : X.all plainB = true
  at_ : X[k]? = some (.var [.lst t.fn (t.nodes.map Nd), .int .i64 t.next, .int .i64 t.cookie])
theorem Bx.lt {X : AH} {k : Nat} {t : Tr.Tree} (h : Bx X k t) : k < X.length := (List.getElem?_eq_some_iff.1 h.at_).1
theorem Bx.get {X : AH} {k : Nat} {t : Tr.Tree} (h : Bx X k t) (hk : k < X.length) : X[k] = .var [.lst t.fn (t.nodes.map Nd), .int .i64 t.next, .int .i64 t.cookie] := by
  have := h.at_
  rw [List.getElem?_eq_getElem hk] at this
  exact Option.some.inj this
theorem Bx.app {X : AH} {k : Nat} {t : Tr.Tree} (h : Bx X k t) {Y : AH} (hY : Y.all plainB = true) : Bx (X ++ Y) k t :=
  ⟨by rw [List.all_append, h.pl, hY]; rfl, by rw [List.getElem?_append_left h.lt]; exact h.at_⟩
theorem Bx.set {X : AH} {k : Nat} {t : Tr.Tree} (h : Bx X k t) (u : Tr.Tree) : Bx (X.set k (.var (Tb u))) k u := by
  refine ⟨?_, by rw [List.getElem?_set_self h.lt]⟩
  rw [List.all_eq_true]
  intro b hb
  rcases List.mem_or_eq_of_mem_set hb with hb | rfl
  · exact List.all_eq_true.1 h.pl b hb
  · rfl
theorem Bx.here (k : Nat) {X : AH} {t : Tr.Tree} (hp : X.all plainB = true) (hk : X[k]? = some (.var (Tb t))) : Bx X k t := ⟨hp, hk⟩
theorem s33h {n : Nat} (hn : 12 < n) (t : Tr.Tree) (hs : Srt t.nodes) (hl : t.nodes.length ≤ 1000) (i : Int) {X : AH} {k : Nat} (B : Bx X k t) :
    callA (C49.tab n) 33 [.ptr k 0 0 0, I i] X = some (.tup [Nd (getZ t i), .bool (find t.nodes i).isSome], X ++ [.var (Nc (getZ t i))]) := by
  rw [p33 hn, runH_eq]
  have hB := B.app (Y := [.var [.int .i64 0, .int .i64 0, .int .i64 0, .lst true [], .lst true [], .int .i64 0]]) rfl
  have hA := s55 (n := 12) (by decide) t hs hl i _ hB.pl k hB.at_
  have hk := B.get
  have hlt := B.lt
  rcases at_get hs i with ⟨q, hf, hc, hq⟩ | hf
  · rw [getZ_of hf]
    rw [hf] at hA ⊢
    have hq' : q = t.nodes[cutN t.nodes i] := by rw [List.getElem?_eq_getElem hc] at hq; exact (Option.some.inj hq).symm
    generalize cutN t.nodes i = c at *
    simp -implicitDefEqProofs (disch := omega) [wrap_of, ilt_t, ilt_f, ile_t, ile_f, nlt_t, nlt_f, nle_t, nle_f, ieq_t, ieq_f, imin_l, imin_r, imax_l, imax_r, take_app1, take_map_all, c33, hA, hc, ← hq', hk, gsa_at, gsa_ne, gsa_ge, ssa_at, ssa_ge, gap_l, gap_r, sap_l, sap_r]
  · have hz : getZ t i = nodeZ := by unfold getZ; rw [hf]; rfl
    rw [hz]
    rw [hf] at hA ⊢
    generalize cutN t.nodes i = c at *
    simp -implicitDefEqProofs (disch := omega) [wrap_of, ilt_t, ilt_f, ile_t, ile_f, nlt_t, nlt_f, nle_t, nle_f, ieq_t, ieq_f, imin_l, imin_r, imax_l, imax_r, take_app1, take_map_all, c33, hA, hk, nodeZ, gsa_at, gsa_ne, gsa_ge, ssa_at, ssa_ge, gap_l, gap_r, sap_l, sap_r]
end Go.Proofs.YtfdenmkoampgnaaGreat

namespace Go.Proofs.YtfdenmkoampgnaaGreat
open Go.Am Go.Tr Go.Am.Nm

/-- A box's tree is another one; there may be more blocks, all else is as it was. -/
structure Gw (X Y : AH) (k : Nat) (u : Tr.Tree) : Prop where
  bx : Bx Y k u
  le : X.length ≤ Y.length
  old : ∀ j, j < X.length → j ≠ k → Y[j]? = X[j]?
theorem Gw.trans {X Y Z : AH} {k : Nat} {u v : Tr.Tree} (h : Gw X Y k u) (h' : Gw Y Z k v) : Gw X Z k v :=
  ⟨h'.bx, Nat.le_trans h.le h'.le, fun j hj hne => (h'.old j (Nat.lt_of_lt_of_le hj h.le) hne).trans (h.old j hj hne)⟩
theorem Gw.of {X : AH} {k : Nat} {t : Tr.Tree} (B : Bx X k t) (u : Tr.Tree) (E : AH) (hE : E.all plainB = true) : Gw X (X.set k (.var (Tb u)) ++ E) k u :=
  ⟨(B.set u).app hE, by simp, fun j hj hne => by
    rw [List.getElem?_append_left (by simpa using hj), List.getElem?_set_ne (Ne.symm hne)]⟩
theorem withN_len {t : Tr.Tree} (hs : Srt t.nodes) (n : Tr.Node) : (withN t n).nodes.length ≤ t.nodes.length + 1 := by
  rcases cutN_find hs n.ino with ⟨hc, hi, _⟩ | ⟨hf, _⟩
  · rw [withN_at hs hc hi rfl]; simp
  · rw [withN_new hs hf rfl]; simp; omega
theorem s26h {m : Nat} (hn : 68 < m) (t : Tr.Tree) (hs : Srt t.nodes) (hl : t.nodes.length ≤ 1000) (n : Tr.Node) {X : AH} {k : Nat} (B : Bx X k t) :
    ∃ Y, callA (C49.tab m) 26 [.ptr k 0 0 0, Nd n] X = some (.tup [], Y) ∧ Gw X Y k (withN t n) := by
  rw [p26 hn, runH_eq]
  have hA := s55 (n := 68) (by decide) t hs hl n.ino _ B.pl k B.at_
  have hk := B.get
  have hlt := B.lt
  have hcl := p56 (n := 68) (by decide)
  have hin := p57 (n := 68) (by decide)
  rcases cutN_find hs n.ino with ⟨hc, hi, hf⟩ | ⟨hf, _⟩
  · rw [withN_at hs hc hi rfl]
    rw [hf] at hA
    generalize cutN t.nodes n.ino = c at *
    refine ⟨X.set k (.var (Tb ⟨false, t.nodes.set c n, t.next, t.cookie⟩)) ++ [.fro 0 6 ((t.nodes.set c n).map Nd)], ?_, Gw.of B _ _ rfl⟩
    simp -implicitDefEqProofs (disch := omega) [wrap_of, ilt_t, ilt_f, ile_t, ile_f, nlt_t, nlt_f, nle_t, nle_f, ieq_t, ieq_f, imin_l, imin_r, imax_l, imax_r, take_app1, take_map_all, c26, hA, hc, hk, hcl, cloneH, gsa_at, gsa_ne, gsa_ge, ssa_at, ssa_ge, gap_l, gap_r, sap_l, sap_r]
    rw [List.take_of_length_le (by simp)]
    simp [Tb, List.map_set]
  · rw [withN_new hs hf rfl]
    rw [hf] at hA
    have hcle : cutN t.nodes n.ino ≤ t.nodes.length := cutP_le _ _
    generalize cutN t.nodes n.ino = c at *
    refine ⟨X.set k (.var (Tb ⟨false, t.nodes.take c ++ n :: t.nodes.drop c, t.next, t.cookie⟩)) ++ [.fro 1 6 ((t.nodes.take c ++ n :: t.nodes.drop c).map Nd)], ?_, Gw.of B _ _ rfl⟩
    simp -implicitDefEqProofs (disch := omega) [wrap_of, ilt_t, ilt_f, ile_t, ile_f, nlt_t, nlt_f, nle_t, nle_f, ieq_t, ieq_f, imin_l, imin_r, imax_l, imax_r, take_app1, take_map_all, c26, hA, hk, hcl, cloneH, hin, insertH, gsa_at, gsa_ne, gsa_ge, ssa_at, ssa_ge, gap_l, gap_r, sap_l, sap_r]
    rw [List.take_of_length_le (by simp; omega)]
    simp [Tb]
end Go.Proofs.YtfdenmkoampgnaaGreat

namespace Go.Proofs.YtfdenmkoampgnaaGreat
open Go.Am Go.Tr Go.Am.Nm Go.Lib

theorem cmp_neg {a b : List UInt8} : compareBytes a b < 0 ↔ sLess a b = true := by
  rw [compare_eq]
  by_cases h : a = b
  · subst h
    rw [if_pos rfl, sLess_irr]; simp
  · rw [if_neg h]
    cases sLess a b <;> simp
theorem cmp_zero {a b : List UInt8} : compareBytes a b = 0 ↔ a = b := by
  rw [compare_eq]
  by_cases h : a = b
  · simp [h]
  · rw [if_neg h]
    cases sLess a b <;> simp [h]
theorem s84 {n : Nat} (hn : 5 < n) (a b : List UInt8) : (C49.tab n).p 84 [.str a, .str b] = some (I (compareBytes a b)) := by
  rw [p84 hn, runP_eq, runH_eq]
  have h : (C49.tab 5).p 97 [.str a, .str b] = some (.int .i64 (compareBytes a b)) := by rw [p97 (by decide)]; rfl
  simp -implicitDefEqProofs (disch := omega) [wrap_of, ilt_t, ilt_f, ile_t, ile_f, nlt_t, nlt_f, nle_t, nle_f, ieq_t, ieq_f, imin_l, imin_r, imax_l, imax_r, take_app1, take_map_all, c84, a97, h]
theorem s83 {n : Nat} (hn : 6 < n) (e : Tr.Ent) (s : List UInt8) : (C49.tab n).p 83 [En e, .str s] = some (I (compareBytes e.name s)) := by
  rw [p83 hn, runP_eq, runH_eq]
  have h := s84 (n := 6) (by decide) e.name s
  simp -implicitDefEqProofs (disch := omega) [wrap_of, ilt_t, ilt_f, ile_t, ile_f, nlt_t, nlt_f, nle_t, nle_f, ieq_t, ieq_f, imin_l, imin_r, imax_l, imax_r, take_app1, take_map_all, c83, a84, h]
theorem l82 {n : Nat} (hn : 6 < n) (l : List Tr.Ent) (hs : SrtE sLess l) (hl : l.length ≤ 1000) (f : Bool) (s : List UInt8) (e0 : Env) (h0 : e0 0 = .lst f (l.map En)) (h1 : e0 1 = .str s) (h2 : e0 2 = .fn (.func 83) [] []) (X : AH) (hX : X.all plainB = true) :
    iter (round (C49.tab n) [9, 10] [(.exit 0, [9])] c82_1 e0 X.length []) ([.int .i64 0, .int .i64 l.length], X) = some (.exit 0, [.int .i64 (cutE sLess l s : Nat)], X) :=
  for_half (f := round (C49.tab n) [9, 10] [(.exit 0, [9])] c82_1 e0 X.length []) (fun i j => ([.int .i64 (i : Int), .int .i64 (j : Int)], X)) l.length (cutE sLess l s) (cutP_le _ _) (fun c => (.exit 0, [.int .i64 (c : Int)], X))
    (fun a j haj hj => by
      have hh := half2 (i := a) (j := j)
      obtain ⟨m, hmm⟩ : ∃ m, m = (a + j) / 2 := ⟨_, rfl⟩
      rw [← hmm] at hh ⊢
      have hm : m < l.length := by omega
      have hlt := cutE_iff ord_sLess hs s hm
      obtain ⟨x, hx⟩ : ∃ x, x = l[m] := ⟨_, rfl⟩
      rw [← hx] at hlt
      have hc := s83 (n := n) hn x s
      have hci := cmp_neg (a := x.name) (b := s)
      simp only [En] at hc
      generalize compareBytes x.name s = ci at *
      by_cases h : m < cutE sLess l s
      · have hc' : ci < 0 := hci.2 (hlt.1 h)
        simp -implicitDefEqProofs (disch := omega) [wrap_of, ilt_t, ilt_f, ile_t, ile_f, nlt_t, nlt_f, nle_t, nle_f, ieq_t, ieq_f, imin_l, imin_r, imax_l, imax_r, take_app1, take_map_all, round_eq, b82_1, h0, h1, h2, wrap_u64, hh, hm, ← hx, a83, hc, h, hc', normH_plain _ _ X _ hX]
      · have hc' : ¬ ci < 0 := fun h' => h (hlt.2 (hci.1 h'))
        simp -implicitDefEqProofs (disch := omega) [wrap_of, ilt_t, ilt_f, ile_t, ile_f, nlt_t, nlt_f, nle_t, nle_f, ieq_t, ieq_f, imin_l, imin_r, imax_l, imax_r, take_app1, take_map_all, round_eq, b82_1, h0, h1, h2, wrap_u64, hh, hm, ← hx, a83, hc, h, hc', normH_plain _ _ X _ hX])
    (fun a ha => by simp -implicitDefEqProofs (disch := omega) [wrap_of, ilt_t, ilt_f, ile_t, ile_f, nlt_t, nlt_f, nle_t, nle_f, ieq_t, ieq_f, imin_l, imin_r, imax_l, imax_r, take_app1, take_map_all, round_eq, b82_1, h0, normH_plain _ _ X _ hX]) _ 0 l.length rfl (Nat.zero_le _) (cutP_le _ _) (Nat.le_refl _)
theorem s82 {n : Nat} (hn : 71 < n) (l : List Tr.Ent) (hs : SrtE sLess l) (hl : l.length ≤ 1000) (f : Bool) (s : List UInt8) (X : AH) (hX : X.all plainB = true) :
    callA (C49.tab n) 82 [.lst f (l.map En), .str s, .fn (.func 83) [] []] X = some (.tup [I (cutE sLess l s : Nat), .bool (l.find? fun e => decide (e.name = s)).isSome], X) := by
  rw [p82 hn, runH_eq]
  have h1 := fun e0 h0 h1 h2 => l82 (n := 71) (by decide) l hs hl f s e0 h0 h1 h2 X hX
  have hf := cutE_find ord_sLess hs s
  simp -implicitDefEqProofs (disch := omega) [wrap_of, ilt_t, ilt_f, ile_t, ile_f, nlt_t, nlt_f, nle_t, nle_f, ieq_t, ieq_f, imin_l, imin_r, imax_l, imax_r, take_app1, take_map_all, c82, normH_plain _ _ X _ hX]
  rw [h1 _ (by simp -implicitDefEqProofs (disch := omega) [wrap_of, ilt_t, ilt_f, ile_t, ile_f, nlt_t, nlt_f, nle_t, nle_f, ieq_t, ieq_f, imin_l, imin_r, imax_l, imax_r, take_app1, take_map_all, ]) (by simp -implicitDefEqProofs (disch := omega) [wrap_of, ilt_t, ilt_f, ile_t, ile_f, nlt_t, nlt_f, nle_t, nle_f, ieq_t, ieq_f, imin_l, imin_r, imax_l, imax_r, take_app1, take_map_all, ]) (by simp -implicitDefEqProofs (disch := omega) [wrap_of, ilt_t, ilt_f, ile_t, ile_f, nlt_t, nlt_f, nle_t, nle_f, ieq_t, ieq_f, imin_l, imin_r, imax_l, imax_r, take_app1, take_map_all, ])]
  generalize cutE sLess l s = c at *
  rcases hf with ⟨hc, hi, hf⟩ | ⟨hf, hi⟩
  · rw [hf]
    obtain ⟨x, hx⟩ : ∃ x, x = l[c] := ⟨_, rfl⟩
    have hg := s83 (n := 71) (by decide) x s
    have hci := (cmp_zero (a := x.name) (b := s)).2 (by rw [hx]; exact hi)
    rw [hci] at hg
    simp only [En] at hg
    simp -implicitDefEqProofs (disch := omega) [wrap_of, ilt_t, ilt_f, ile_t, ile_f, nlt_t, nlt_f, nle_t, nle_f, ieq_t, ieq_f, imin_l, imin_r, imax_l, imax_r, take_app1, take_map_all, hc, ← hx, a83, hg]
  · rw [hf]
    by_cases hc : c < l.length
    · obtain ⟨x, hx⟩ : ∃ x, x = l[c] := ⟨_, rfl⟩
      have hg := s83 (n := 71) (by decide) x s
      have hci : ¬ compareBytes x.name s = 0 := fun h => hi hc (by rw [← hx]; exact cmp_zero.1 h)
      generalize compareBytes x.name s = ci at *
      simp only [En] at hg
      simp -implicitDefEqProofs (disch := omega) [wrap_of, ilt_t, ilt_f, ile_t, ile_f, nlt_t, nlt_f, nle_t, nle_f, ieq_t, ieq_f, imin_l, imin_r, imax_l, imax_r, take_app1, take_map_all, hc, ← hx, a83, hg, hci]
    · simp -implicitDefEqProofs (disch := omega) [wrap_of, ilt_t, ilt_f, ile_t, ile_f, nlt_t, nlt_f, nle_t, nle_f, ieq_t, ieq_f, imin_l, imin_r, imax_l, imax_r, take_app1, take_map_all, hc]
theorem s53 {n : Nat} (hn : 72 < n) (q : Tr.Node) (hs : SrtE sLess q.ents) (hl : q.ents.length ≤ 1000) (s : List UInt8) :
    (C49.tab n).p 53 [Nd q, .str s] = some (.tup [I (cutE sLess q.ents s : Nat), .bool (entOf q s).isSome]) := by
  rw [p53 hn, runP_eq, runH_eq]
  have h := s82 (n := 72) (by decide) q.ents hs hl q.fe s [] rfl
  unfold entOf
  simp -implicitDefEqProofs (disch := omega) [wrap_of, ilt_t, ilt_f, ile_t, ile_f, nlt_t, nlt_f, nle_t, nle_f, ieq_t, ieq_f, imin_l, imin_r, imax_l, imax_r, take_app1, take_map_all, c53, h]
theorem s52 {n : Nat} (hn : 70 < n) (s : List UInt8) : (C49.tab n).p 52 [.str s] = some (.bool (okN s)) := by
  rw [p52 hn]
  have h : rightN s = okN s := by
    unfold rightN okN
    have hb : ∀ b, okb b = okB b := fun b => by
      unfold okb okB
      by_cases h1 : b.toNat < 32 <;> by_cases h2 : b.toNat = 47 <;> simp [h1, h2] <;> omega
    have : s.all okb = s.all okB := by congr 1; funext b; exact hb b
    rw [this]
    congr 1
    cases s with
    | nil => simp
    | cons x l =>
      have h1 : 1 ≤ (x :: l).length := by simp
      have h0 : ¬ (x :: l) = [] := by simp
      generalize x :: l = y at *
      by_cases h2 : 32 < y.length
      · have : ¬ y.length ≤ 32 := by omega
        simp [h0, h2, this]
      · have : y.length ≤ 32 := by omega
        simp [h0, h1, h2, this]
  rw [← h]
  rfl
end Go.Proofs.YtfdenmkoampgnaaGreat

namespace Go.Proofs.YtfdenmkoampgnaaGreat
open Go.Am Go.Tr Go.Am.Nm Go.Lib

theorem Gw.same {X : AH} {k : Nat} {t : Tr.Tree} (B : Bx X k t) {E : AH} (hE : E.all plainB = true) : Gw X (X ++ E) k t :=
  ⟨B.app hE, by simp, fun j hj _ => List.getElem?_append_left hj⟩
theorem s51h {n : Nat} (hn : 69 < n) (t : Tr.Tree) (hs : Srt t.nodes) (hl : t.nodes.length ≤ 1000) (i : Int) {X : AH} {k : Nat} (B : Bx X k t) :
    ∃ Y, callA (C49.tab n) 51 [.ptr k 0 0 0, I i] X = some (.tup [Nd (dirN t i), I (dirE t i)], Y) ∧ Gw X Y k t := by
  rw [p51 hn, runH_eq]
  have hG := s33h (n := 69) (by decide) t hs hl i (B.app (Y := [.var [.int .i64 0, .int .i64 0, .int .i64 0, .lst true [], .lst true [], .int .i64 0]]) rfl)
  have hlt := B.lt
  unfold dirN dirE
  unfold getZ at hG
  refine ⟨X ++ [.var (Nc (dirN t i)), .var (Nc (getZ t i)), .var (Nc (getZ t i))], ?_, Gw.same B rfl⟩
  unfold dirN getZ
  cases hf : find t.nodes i with
  | none =>
    rw [hf] at hG
    simp only [Option.getD_none, nodeZ, Nd, Nc, List.map_nil] at hG
    simp -implicitDefEqProofs (disch := omega) [wrap_of, ilt_t, ilt_f, ile_t, ile_f, nlt_t, nlt_f, nle_t, nle_f, ieq_t, ieq_f, imin_l, imin_r, imax_l, imax_r, take_app1, take_map_all, c51, hG, nodeZ, gap_l, gap_r, sap_l, sap_r]
  | some q =>
    rw [hf] at hG
    simp only [Option.getD_some, Nd, Nc] at hG
    by_cases c1 : q.kind = 2
    · simp -implicitDefEqProofs (disch := omega) [wrap_of, ilt_t, ilt_f, ile_t, ile_f, nlt_t, nlt_f, nle_t, nle_f, ieq_t, ieq_f, imin_l, imin_r, imax_l, imax_r, take_app1, take_map_all, c51, hG, c1, nodeZ, gap_l, gap_r, sap_l, sap_r]
    · simp -implicitDefEqProofs (disch := omega) [wrap_of, ilt_t, ilt_f, ile_t, ile_f, nlt_t, nlt_f, nle_t, nle_f, ieq_t, ieq_f, imin_l, imin_r, imax_l, imax_r, take_app1, take_map_all, c51, hG, c1, nodeZ, gap_l, gap_r, sap_l, sap_r]
/-- What stands above, one by one. -/
def upsF (t : Tr.Tree) : Nat → Int → List Int
  | 0, _ => []
  | d + 1, i => upN t i :: upsF t d (upN t i)
theorem upsF_len (t : Tr.Tree) : ∀ (d : Nat) (i : Int), (upsF t d i).length = d
  | 0, _ => rfl
  | d + 1, i => by simp [upsF, upsF_len t d]
theorem l85 {n : Nat} (hn : 12 < n) (t : Tr.Tree) (w : WFt t) {X : AH} {k : Nat} (B : Bx X k t) (e0 : Env) (h0 : e0 0 = .ptr k 0 0 0) {d : Nat} {i : Int} (hd : Dep t i d) : ∀ (l : List Int), l.length + d ≤ t.nodes.length →
    iter (round (C49.tab n) [1, 5] [(.exit 0, [5]), (.ret, [4])] c85_1 e0 (X.length + 1) [X.length]) ([I i, .own X.length 0 0 l.length], X ++ [.row 0 1 (l.map I)]) = some (.exit 0, [.own X.length 0 0 (l ++ upsF t d i).length], X ++ [.row 0 1 ((l ++ upsF t d i).map I)]) := by
  have hl := (wbt w).len
  have hlt := B.lt
  have hk := B.get
  induction hd with
  | root =>
    intro l hj
    rw [iter_eq]
    simp -implicitDefEqProofs (disch := omega) [wrap_of, ilt_t, ilt_f, ile_t, ile_f, nlt_t, nlt_f, nle_t, nle_f, ieq_t, ieq_f, imin_l, imin_r, imax_l, imax_r, take_app1, take_map_all, round_eq, b85_1, h0, upsF, gap_l, gap_r, sap_l, sap_r]
  | @up i q d hf hk2 h1 hd ih =>
    intro l hj
    have hit := ih (l ++ [q.up]) (by simp; omega)
    have hG := s33h (n := n) hn t w.wf.srt hl i (B.app (Y := [.row 0 1 (l.map I)]) rfl)
    rw [getZ_of hf, hf] at hG
    simp only [Nd, Nc] at hG
    have hu : upN t i = q.up := by unfold upN; rw [hf]; rfl
    have he : l ++ upsF t (d + 1) i = l ++ [q.up] ++ upsF t d q.up := by
      simp only [upsF, hu]
      simp
    rw [he]
    rw [iter_eq]
    have hjl : l.length ≤ t.nodes.length := by omega
    have hpl := fun Y h0 => normH_tail (X.length + 1) [X.length] h0 B.pl (by simp) Y
    have htk := take_tail X
    have hc : (l ++ [q.up]).length = l.length + 1 := by simp
    rw [hc] at hit
    generalize l ++ [q.up] ++ upsF t d q.up = l' at *
    simp -implicitDefEqProofs (disch := omega) [wrap_of, ilt_t, ilt_f, ile_t, ile_f, nlt_t, nlt_f, nle_t, nle_f, ieq_t, ieq_f, imin_l, imin_r, imax_l, imax_r, take_app1, take_map_all, round_eq, b85_1, h0, h1, hk, hjl, hG, hk2, hpl, htk, gap_l, gap_r, sap_l, sap_r]
    simpa using hit
end Go.Proofs.YtfdenmkoampgnaaGreat
