import Derived.Test.YtgefdmkmobaefaaX19GB
import Derived.Test.YtgefdmkmobaefaaAmGT
set_option linter.unusedSimpArgs false
set_option linter.unusedVariables false
namespace Go.Proofs.Ytgefdmkmobaefaa
open Go.Am Go.Am.Nm Go.Lib Go.Cr
def IncI (l : List Int) : Prop := ∀ i j (_ : i < j) (h : j < l.length), l[i] < l[j]
theorem IncI.of {l : List Int} (h : l.Pairwise (· < ·)) : IncI l := fun i j hij hj => List.pairwise_iff_getElem.1 h i j (by omega) hj hij
theorem cutI_le (l : List Int) (s : Int) : cutI l s ≤ l.length := List.findIdx_le_length
theorem cutI_iff {l : List Int} (hi : IncI l) (s : Int) {i : Nat} (h : i < l.length) : i < cutI l s ↔ l[i] < s := by
 constructor
 ·intro hlt
  have := List.not_of_lt_findIdx hlt
  simpa using this
 ·intro hlt
  refine Decidable.byContradiction fun hge => ?_
  have hcl : cutI l s < l.length := by omega
  have hn := List.findIdx_getElem (w := hcl)
  have hn' : s ≤ l[cutI l s] := of_decide_eq_true hn
  rcases Nat.lt_or_ge (cutI l s) i with h2 | h2
  ·have := hi _ _ h2 h
   omega
  ·have : cutI l s = i := by omega
   simp only [this] at hn'
   omega
theorem cutI_mem {l : List Int} (hi : IncI l) (s : Int) : decide (s ∈ l) = decide (l[cutI l s]? = some s) := by
 by_cases h : s ∈ l
 ·rw [decide_eq_true h]
  obtain ⟨i, hl, e⟩ := List.getElem_of_mem h
  have hc : cutI l s = i := by
   rcases Nat.lt_trichotomy (cutI l s) i with h1 | h1 | h1
   ·have h2 : cutI l s < l.length := by omega
    have h3 : ¬ l[cutI l s] < s := fun e => by have := (cutI_iff hi s h2).2 e; omega
    have := hi _ _ h1 hl
    omega
   ·exact h1
   ·have := (cutI_iff hi s hl).1 h1
    omega
  rw [hc, List.getElem?_eq_getElem hl, e]
  simp
 ·rw [decide_eq_false h, decide_eq_false fun e => h (List.mem_of_getElem? e)]
theorem s111 {n : Nat} (hn : 20 < n) (x : Int) : (C19.tab n).p 111 [I x] = some (.bool false) := by
 rw [p111 hn, runP_eq, runH_eq]
 simp -implicitDefEqProofs (disch := omega) [c111]
theorem s106 {n : Nat} (hn : 22 < n) (x : Int) : (C19.tab n).p 106 [I x] = some (.bool false) := by
 rw [p106 hn, runP_eq, runH_eq]
 simp -implicitDefEqProofs (disch := omega) [c106]
theorem s105 {n : Nat} (hn : 21 < n) (x y : Int) : (C19.tab n).p 105 [I x, I y] = some (.bool (decide (x < y))) := by
 rw [p105 hn, runP_eq, runH_eq]
 have h1 := s111 (n := 21) (by decide) x
 have h2 := s111 (n := 21) (by decide) y
 simp -implicitDefEqProofs (disch := omega) [c105, a111, h1, h2]
theorem half {i j : Nat} : bin .shr (.int .u64 ((i : Int) + j)) (.int .u64 1) = some (.int .u64 (((i + j) / 2 : Nat) : Int)) := by
 have h : ((i : Int) + j).fdiv 2 = (((i + j) / 2 : Nat) : Int) := by
  rw [Int.fdiv_eq_ediv_of_nonneg _ (by omega)]
  omega
 simp only [bin]
 rw [← h]
 rfl
theorem l100 {n : Nat} (hn : 21 < n) (l : List Int) (hi : IncI l) (hl : l.length ≤ 1000000) (f : Bool) (s : Int) (e0 : Env) (h0 : e0 0 = .lst f (l.map I)) (h1 : e0 1 = I s) :
  iter (round (C19.tab n) [7, 8] [(.exit 0, [7])] c100_1 e0 0 []) ([.int .i64 0, .int .i64 l.length], []) = some (.exit 0, [.int .i64 (cutI l s : Nat)], []) :=
 for_half (f := round (C19.tab n) [7, 8] [(.exit 0, [7])] c100_1 e0 0 []) (fun i j => ([.int .i64 (i : Int), .int .i64 (j : Int)], [])) l.length (cutI l s) (cutI_le l s) (fun c => (.exit 0, [.int .i64 (c : Int)], []))
  (fun i j hij hj => by
   have hh := half (i := i) (j := j)
   obtain ⟨m, hmm⟩ : ∃ m, m = (i + j) / 2 := ⟨_, rfl⟩
   rw [← hmm] at hh ⊢
   have hm : m < l.length := by omega
   have hlt := cutI_iff hi s hm
   obtain ⟨x, hx⟩ : ∃ x, x = l[m] := ⟨_, rfl⟩
   rw [← hx] at hlt
   have h105 := s105 (n := n) hn x s
   by_cases h : m < cutI l s
   ·have hc' : x < s := hlt.1 h
    simp -implicitDefEqProofs (disch := omega) [round_eq, b100_1, h0, h1, wrap_u64, hh, hm, ← hx, a105, h105, h, hc']
   ·have hc' : ¬ x < s := fun h' => h (hlt.2 h')
    simp -implicitDefEqProofs (disch := omega) [round_eq, b100_1, h0, h1, wrap_u64, hh, hm, ← hx, a105, h105, h, hc'])
  (fun i hi => by simp -implicitDefEqProofs (disch := omega) [round_eq, b100_1, h0]) _ 0 l.length rfl (Nat.zero_le _) (cutI_le l s) (Nat.le_refl _)
theorem s100 {n : Nat} (hn : 23 < n) (l : List Int) (hi : IncI l) (hl : l.length ≤ 1000000) (f : Bool) (s : Int) :
  (C19.tab n).p 100 [.lst f (l.map I), I s] = some (.tup [.int .i64 (cutI l s : Nat), .bool (decide (s ∈ l))]) := by
 rw [p100 hn, runP_eq, runH_eq, cutI_mem hi]
 have hc := cutI_le l s
 have h1 := fun e0 h0 h1 => l100 (n := 23) (by decide) l hi hl f s e0 h0 h1
 simp -implicitDefEqProofs (disch := omega) [c100]
 rw [h1 _ (by simp -implicitDefEqProofs (disch := omega)) (by simp -implicitDefEqProofs (disch := omega))]
 by_cases h : cutI l s < l.length
 ·obtain ⟨x, hx⟩ : ∃ x, x = l[cutI l s] := ⟨_, rfl⟩
  have h106 := s106 (n := 23) (by decide) x
  by_cases hxs : x = s
  ·simp -implicitDefEqProofs (disch := omega) [h, ← hx, a106, h106, hxs]
  ·simp -implicitDefEqProofs (disch := omega) [h, ← hx, a106, h106, hxs]
 ·simp -implicitDefEqProofs (disch := omega) [h]
end Go.Proofs.Ytgefdmkmobaefaa

namespace Go.Proofs.Ytgefdmkmobaefaa
open Go.Am Go.Am.Nm Go.Lib Go.Cr
def Nm (X : AH) : Prop := ∀ (L r : Nat) h0 Y, X.length + 2 ≤ r → r < L → normH L [r] h0 0 (X ++ Y) = X ++ normH L [r] h0 X.length Y
theorem normH_app (L : Nat) (R : List Nat) (h0 : AH) : ∀ (A B : AH) (i : Nat), normH L R h0 i (A ++ B) = normH L R h0 i A ++ normH L R h0 (i + A.length) B
 | [], B, i => rfl
 | a :: A, B, i => by
  simp only [List.cons_append, normH, normH_app L R h0 A B (i + 1), List.length_cons]
  rw [show i + 1 + A.length = i + (A.length + 1) by omega]
def Wk (X : AH) (v : Nat) (b : Bo) (i fr : Int) (cs : List Ca) (E : AH) : AH := X ++ .row v 5 (cs.map Cv) :: .var [I b.id, I b.next, .own X.length v 0 cs.length, I i, I fr] :: E
theorem s90 {n : Nat} (hn : 7 < n) (X : AH) (v : Nat) (b : Bo) (i : Nat) (fr : Int) (cs : List Ca) (E : AH) (hi : i < cs.length) :
  callA (C19.tab n) 90 [.ptr (X.length + 1) 0 0 0] (Wk X v b i fr cs E) = some (.ptr X.length v i 0, Wk X v b i fr cs E) := by
 rw [p90 hn, runH_eq]
 simp -implicitDefEqProofs (disch := omega) [c90, Wk, gap_r, hi]
 done
theorem wkF {X E : AH} (hX : Nm X) (hE : E.all plainB = true) :
  (∀ h0, normH (X.length + 2 + E.length + 1) [X.length + 2 + E.length] h0 (X.length + 1 + 1) E = E) ∧
  (∀ h0 Y, normH (X.length + 2 + E.length + 1) [X.length + 2 + E.length] h0 0 (X ++ Y) = X ++ normH (X.length + 2 + E.length + 1) [X.length + 2 + E.length] h0 X.length Y) ∧
  (∀ (a b R : AB), List.take (X.length + 2 + E.length + 1) (X ++ a :: b :: (E ++ [R])) = X ++ a :: b :: (E ++ [R])) ∧
  (¬ (X.length = X.length + 2 + E.length) ∧ ¬ (X.length + 1 = X.length + 2 + E.length)) ∧ (X.length + 1 + 1 + E.length = X.length + 2 + E.length) ∧
  (∀ (a b R : AB), (a :: b :: (E ++ [R]))[X.length + 2 + E.length - X.length]? = some R) ∧
  (∀ (a b R R' : AB), (a :: b :: (E ++ [R])).set (X.length + 2 + E.length - X.length) R' = a :: b :: (E ++ [R'])) := by
 refine ⟨fun h0 => normH_keep _ _ h0 E _ hE (fun r hr => by simp only [List.mem_singleton] at hr; omega), fun h0 Y => hX _ _ h0 Y (by omega) (by omega), fun a b R => List.take_of_length_le (by simp; omega), ⟨by omega, by omega⟩, by omega, fun a b R => ?_, fun a b R R' => ?_⟩
 ·rw [show X.length + 2 + E.length - X.length = E.length + 1 + 1 by omega]; simp
 ·rw [show X.length + 2 + E.length - X.length = E.length + 1 + 1 by omega]; simp
theorem l91 {n : Nat} (hn : 8 < n) (X : AH) (hX : Nm X) (v : Nat) (b : Bo) (i : Nat) (fr k : Int) (cs : List Ca) (E : AH) (hE : E.all plainB = true) (hi : i < cs.length) (c : Ca) (hc : c = cs[i]) (hl : c.de.grs.length ≤ 1000000) (e0 : Env)
  (h0 : e0 0 = .ptr (X.length + 1) 0 0 0) (h1 : e0 1 = I k) (h13 : e0 13 = .lst c.de.fg (c.de.grs.map I)) (h14 : e0 14 = .int .i64 c.de.grs.length) :
  iter (round (C19.tab n) [5, 15] [(.exit 0, [5])] c91_1 e0 (X.length + 2 + E.length + 1) [X.length + 2 + E.length]) ([.own (X.length + 2 + E.length) 0 0 0, .int .i64 0], Wk X v b i fr cs (E ++ [.row 0 5 []])) =
   some (.exit 0, [.own (X.length + 2 + E.length) 0 0 c.de.grs.length], Wk X v b i fr cs (E ++ [.row 0 5 ((allP b c.de k).map Mv)])) := by
 have := for_list (f := round (C19.tab n) [5, 15] [(.exit 0, [5])] c91_1 e0 (X.length + 2 + E.length + 1) [X.length + 2 + E.length]) (fun i' (s : List Mg) => ([.own (X.length + 2 + E.length) 0 0 s.length, .int .i64 (i' : Int)], Wk X v b i fr cs (E ++ [.row 0 5 (s.map Mv)]))) c.de.grs
  (fun s g => s ++ [msgP b.id g k c.de.id]) (fun s => (.exit 0, [.own (X.length + 2 + E.length) 0 0 s.length], Wk X v b i fr cs (E ++ [.row 0 5 (s.map Mv)]))) (fun i s => s.length = i)
  (fun j hj s hs => by
   refine ⟨by simp [hs], ?_⟩
   obtain ⟨x, hx⟩ : ∃ x, x = c.de.grs[j] := ⟨_, rfl⟩
   have h90 := s90 (n := n) (by omega) X v b i fr cs (E ++ [.row 0 5 (s.map Mv)]) hi
   have h49 := s49 (n := n) hn b.id x k c.de.id
   obtain ⟨hnE, hX', htk, hlq, hl2, hget, hset⟩ := wkF hX hE
   simp only [Mv, Cv] at h49
   rw [← hx]
   simp only [Wk] at h90 ⊢
   simp -implicitDefEqProofs (disch := omega) [round_eq, b91_1, h0, h1, h13, h14, hj, ← hx, ← hc, hi, a49, h49, h90, hs, Mv, Cv, szM, gap_r, sap_r, hX', hget, hset, htk, hlq, hl2, normH_app, hnE]
   done)
  (fun s hs => by
   simp -implicitDefEqProofs (disch := omega) [round_eq, b91_1, h13, h14, hs]
   done) [] rfl
 rw [foldl_snoc] at this
 simpa [allP] using this
theorem s91 {n : Nat} (hn : 9 < n) (X : AH) (hX : Nm X) (v : Nat) (b : Bo) (i : Nat) (fr k : Int) (cs : List Ca) (E : AH) (hE : E.all plainB = true) (hi : i < cs.length) (c : Ca) (hc : c = cs[i]) (hl : c.de.grs.length ≤ 1000000) :
  callA (C19.tab n) 91 [.ptr (X.length + 1) 0 0 0, I k] (Wk X v b i fr cs E) = some (.own (X.length + 2 + E.length) 0 0 c.de.grs.length, Wk X v b i fr cs (E ++ [.row 0 5 ((allP b c.de k).map Mv)])) := by
 rw [p91 hn, runH_eq]
 have h90 := s90 (n := 9) (by decide) X v b i fr cs E hi
 have h91 := l91 (n := 9) (by decide) X hX v b i fr k cs E hE hi c hc hl
 simp only [Wk, List.cons_append, ← List.append_assoc] at h90 h91 ⊢
 have e1 : X.length + (E.length + 1 + 1) = X.length + 2 + E.length := by omega
 have e2 : X.length + (E.length + 1 + 1 + 1) = X.length + 2 + E.length + 1 := by omega
 obtain ⟨hnE, hX', htk, hlq, hl2, hget, hset⟩ := wkF hX hE
 simp -implicitDefEqProofs (disch := omega) [c91, h90, hi, ← hc, Cv, gap_r, e1, e2, hget, hX', htk, hlq, hl2, normH_app, hnE]
 rw [h91 _ (by simp -implicitDefEqProofs (disch := omega) [hlq]) (by simp -implicitDefEqProofs (disch := omega)) (by simp -implicitDefEqProofs (disch := omega)) (by simp -implicitDefEqProofs (disch := omega))]
 simp -implicitDefEqProofs (disch := omega)
 done
theorem s92 {n : Nat} (hn : 11 < n) (X : AH) (v : Nat) (b : Bo) (i : Nat) (fr : Int) (cs : List Ca) (E : AH) (hi : i < cs.length) (hl : cs.length ≤ 1000000) :
  callA (C19.tab n) 92 [.ptr (X.length + 1) 0 0 0] (Wk X v b i fr cs E) = some (.tup [], Wk X (v + 1) b i fr (cs.eraseIdx i) E) := by
 rw [p92 hn, runH_eq]
 have hdl := p99 (n := 11) (by decide)
 have e1 : i + (cs.length - (i + 1)) = (cs.eraseIdx i).length := by rw [List.length_eraseIdx_of_lt hi]; omega
 simp -implicitDefEqProofs (disch := omega) [c92, hi, Wk, gap_r, sap_r, hdl, deleteH, e1]
 rw [List.eraseIdx_eq_take_drop_succ]
 simp
theorem s93 {n : Nat} (hn : 25 < n) (X : AH) (v : Nat) (b : Bo) (i : Nat) (fr : Int) (cs : List Ca) (E : AH) (hE : E.all plainB = true) (hi : i < cs.length) (c : Ca) (hc : c = cs[i]) (hl : c.de.grs.length ≤ 1000000)
  (hh : c.heard.Pairwise (· < ·)) (hhl : c.heard.length ≤ 1000000) :
  ∃ E', E'.all plainB = true ∧ callA (C19.tab n) 93 [.ptr (X.length + 1) 0 0 0] (Wk X v b i fr cs E) = some (.bool (decide ((hearL c.heard fr).length = c.de.grs.length)), Wk X v b i fr (cs.set i { c with fh := hearF c fr, heard := hearL c.heard fr }) E') := by
 rw [p93 hn, runH_eq]
 have h90 := s90 (n := 25) (by decide) X v b i fr cs E hi
 have h100 := s100 (n := 25) (by decide) c.heard (IncI.of hh) hhl c.fh fr
 have h40 := fun a h => p40 (n := 25) (by decide) a h
 have h101 := fun a h => p101 (n := 25) (by decide) a h
 have hcl := cutI_le c.heard fr
 have e1 : X.length + (E.length + 1 + 1) = X.length + 2 + E.length := by omega
 obtain ⟨di, su, fh, he⟩ := c
 simp only at hl hh hhl h100 hcl
 unfold hearL hearF
 have hget : ∀ (a b R : AB), (a :: b :: (E ++ [R]))[2 + E.length]? = some R := fun a b R => by
  rw [show 2 + E.length = E.length + 1 + 1 by omega]; simp
 have hset : ∀ (a b R R' : AB), (a :: b :: (E ++ [R])).set (2 + E.length) R' = a :: b :: (E ++ [R']) := fun a b R R' => by
  rw [show 2 + E.length = E.length + 1 + 1 by omega]; simp
 have htk2 : ∀ (a b R : AB), List.take (X.length + 2 + E.length) (X ++ a :: b :: (E ++ [R])) = X ++ a :: b :: E := fun a b R => by
  rw [show X.length + 2 + E.length = X.length + (E.length + 1 + 1) by omega, take_tail]
  simp
 have e2 : X.length + 2 + E.length - X.length = 2 + E.length := by omega
 have e3 : (insI he fr).length = he.length + 1 := by unfold insI; simp; omega
 have e4 : (insI he fr).map I = (he.map I).take (cutI he fr) ++ I fr :: (he.map I).drop (cutI he fr) := by unfold insI; simp [List.map_take, List.map_drop]
 have e5 : List.take (he.length + 1) (List.take (cutI he fr) (he.map I) ++ I fr :: List.drop (cutI he fr) (he.map I)) = List.take (cutI he fr) (he.map I) ++ I fr :: List.drop (cutI he fr) (he.map I) := List.take_of_length_le (by simp; omega)
 have e6 : ∀ a : AV, ((cs.map Cv).set i a)[i]? = some a := fun a => by rw [List.getElem?_set_self (by simpa using hi)]
 by_cases hm : fr ∈ he
 ·refine ⟨E, hE, ?_⟩
  simp only [Wk, if_pos hm, decide_eq_true hm] at h90 h100 ⊢
  have : cs.set i ⟨di, su, fh, he⟩ = cs := by rw [hc]; exact List.set_getElem_self hi
  simp -implicitDefEqProofs (disch := omega) [c93, h90, hi, ← hc, Cv, gap_r, a100, h100, this]
  omega
 ·refine ⟨E ++ [.fro 1 1 ((insI he fr).map I)], by simp [hE, plainB], ?_⟩
  simp only [Wk, if_neg hm, decide_eq_false hm] at h90 h100 ⊢
  simp -implicitDefEqProofs (disch := omega) [c93, h90, hi, ← hc, Cv, gap_r, sap_r, a100, h100, h40, h101, insertH, e1, htk2, e2, hget, hset, e3, e4, e5, e6]
  omega
end Go.Proofs.Ytgefdmkmobaefaa

namespace Go.Proofs.Ytgefdmkmobaefaa
open Go.Am Go.Am.Nm Go.Lib Go.Cr
theorem s74 {n : Nat} (hn : 18 < n) (X : AH) (v : Nat) (b : Bo) (i : Nat) (fr : Int) (cs : List Ca) (E : AH) (hi : i < cs.length) (c : Ca) (hc : c = cs[i]) :
  callA (C19.tab n) 74 [.ptr (X.length + 1) 0 0 0] (Wk X v b i fr cs E) = some (.lst true ((if c.sure = true then [msgP b.id fr 4 c.de.id] else []).map Mv), Wk X v b i fr cs E) := by
 rw [p74 hn, runH_eq]
 have h90 := s90 (n := 18) (by decide) X v b i fr cs E hi
 have h49 := s49 (n := 18) (by decide) b.id fr 4 c.de.id
 simp only [Mv] at h49
 obtain ⟨di, su, fh, he⟩ := c
 simp only [Wk] at h90 ⊢
 simp only at h49
 cases su
 ·simp -implicitDefEqProofs (disch := omega) [c74, h90, hi, ← hc, Cv, gap_r]
 ·simp -implicitDefEqProofs (disch := omega) [c74, h90, hi, ← hc, Cv, gap_r, a49, h49, Mv]
theorem s64 {n : Nat} (hn : 12 < n) (X : AH) (hX : Nm X) (v : Nat) (b : Bo) (i : Nat) (fr : Int) (cs : List Ca) (E : AH) (hE : E.all plainB = true) (hi : i < cs.length) (hcs : cs.length ≤ 1000000) (c : Ca) (hc : c = cs[i]) (hl : c.de.grs.length ≤ 1000000) :
  callA (C19.tab n) 64 [.ptr (X.length + 1) 0 0 0] (Wk X v b i fr cs E) = some (if c.sure = true then (.lst true [], Wk X v b i fr cs E) else (.own (X.length + 2 + E.length) 0 0 c.de.grs.length, Wk X (v + 1) b i fr (cs.eraseIdx i) (E ++ [.row 0 5 ((allP b c.de 6).map Mv)]))) := by
 rw [p64 hn, runH_eq]
 have h90 := s90 (n := 12) (by decide) X v b i fr cs E hi
 have h91 := s91 (n := 12) (by decide) X hX v b i fr 6 cs E hE hi c hc hl
 have h92 := s92 (n := 12) (by decide) X v b i fr cs (E ++ [.row 0 5 ((allP b c.de 6).map Mv)]) hi hcs
 obtain ⟨di, su, fh, he⟩ := c
 simp only [Wk] at h90 h91 h92 ⊢
 cases su
 ·simp -implicitDefEqProofs (disch := omega) [c64, h90, hi, ← hc, Cv, gap_r, h91, h92]
 ·simp -implicitDefEqProofs (disch := omega) [c64, h90, hi, ← hc, Cv, gap_r]
theorem s73 {n : Nat} (hn : 27 < n) (X : AH) (v : Nat) (b : Bo) (i : Nat) (fr : Int) (cs : List Ca) (E : AH) (hE : E.all plainB = true) (hi : i < cs.length) (hcs : cs.length ≤ 1000000) (c : Ca) (hc : c = cs[i]) (hl : c.de.grs.length ≤ 1000000)
  (hh : c.heard.Pairwise (· < ·)) (hhl : c.heard.length ≤ 1000000) :
  ∃ v' E', E'.all plainB = true ∧ callA (C19.tab n) 73 [.ptr (X.length + 1) 0 0 0] (Wk X v b i fr cs E) = some (.lst true [], Wk X v' b i fr (if c.sure = true then (if (hearL c.heard fr).length = c.de.grs.length then cs.eraseIdx i else cs.set i { c with fh := hearF c fr, heard := hearL c.heard fr }) else cs) E') := by
 rw [p73 hn, runH_eq]
 have h90 := s90 (n := 27) (by decide) X v b i fr cs E hi
 obtain ⟨E', hE', h93⟩ := s93 (n := 27) (by decide) X v b i fr cs E hE hi c hc hl hh hhl
 have hlen : (cs.set i { c with fh := hearF c fr, heard := hearL c.heard fr }).length = cs.length := by simp
 have h92 := s92 (n := 27) (by decide) X v b i fr (cs.set i { c with fh := hearF c fr, heard := hearL c.heard fr }) E' (by rw [hlen]; exact hi) (by rw [hlen]; exact hcs)
 have her : (cs.set i { c with fh := hearF c fr, heard := hearL c.heard fr }).eraseIdx i = cs.eraseIdx i := by rw [List.eraseIdx_set_eq]
 rw [her] at h92
 have hw : ∀ cs', Wk X v b i fr cs' E = X ++ .row v 5 (cs'.map Cv) :: .var [I b.id, I b.next, .own X.length v 0 cs'.length, I i, I fr] :: E := fun _ => rfl
 rw [hw] at h93 h90 ⊢
 cases hsu : c.sure with
 | false =>
  obtain ⟨di, su, fh, he⟩ := c
  simp only at hsu
  subst hsu
  exact ⟨v, E, hE, by simp only [Wk]; simp -implicitDefEqProofs (disch := omega) [c73, h90, hi, ← hc, Cv, gap_r]⟩
 | true =>
  by_cases hq : (hearL c.heard fr).length = c.de.grs.length
  ·refine ⟨v + 1, E', hE', ?_⟩
   rw [decide_eq_true hq] at h93
   generalize Wk X v b i fr (cs.set i { c with fh := hearF c fr, heard := hearL c.heard fr }) E' = W at h93 h92
   obtain ⟨di, su, fh, he⟩ := c
   simp only at hsu hq
   subst hsu
   simp -implicitDefEqProofs (disch := omega) [c73, h90, hi, ← hc, Cv, gap_r, h93, h92, hq]
  ·refine ⟨v, E', hE', ?_⟩
   rw [decide_eq_false hq] at h93
   rw [hsu] at h93
   obtain ⟨W, hW⟩ : ∃ W, W = Wk X v b i fr (cs.set i { de := c.de, sure := true, fh := hearF c fr, heard := hearL c.heard fr }) E' := ⟨_, rfl⟩
   simp only [if_true]
   rw [if_neg hq, ← hW]
   rw [← hW] at h93
   clear h92
   obtain ⟨di, su, fh, he⟩ := c
   simp only at hsu hq
   subst hsu
   simp -implicitDefEqProofs (disch := omega) [c73, h90, hi, ← hc, Cv, gap_r, h93]
theorem s72 {n : Nat} (hn : 26 < n) (X : AH) (hX : Nm X) (v : Nat) (b : Bo) (i : Nat) (fr : Int) (cs : List Ca) (E : AH) (hE : E.all plainB = true) (hi : i < cs.length) (hcs : cs.length ≤ 1000000) (c : Ca) (hc : c = cs[i]) (hl : c.de.grs.length ≤ 1000000)
  (hh : c.heard.Pairwise (· < ·)) (hhl : c.heard.length ≤ 1000000) :
  ∃ E', E'.all plainB = true ∧ callA (C19.tab n) 72 [.ptr (X.length + 1) 0 0 0] (Wk X v b i fr cs E) = some (if c.sure = true then (.lst true ([msgP b.id fr 4 c.de.id].map Mv), Wk X v b i fr cs E) else
   if (hearL c.heard fr).length = c.de.grs.length then (.own (X.length + 2 + E'.length) 0 0 c.de.grs.length, Wk X v b i fr (cs.set i { c with sure := true, fh := true, heard := [] }) (E' ++ [.row 0 5 ((allP b c.de 4).map Mv)]))
   else (.lst true [], Wk X v b i fr (cs.set i { c with fh := hearF c fr, heard := hearL c.heard fr }) E')) := by
 rw [p72 hn, runH_eq]
 have h90 := s90 (n := 26) (by decide) X v b i fr cs E hi
 have h74 := s74 (n := 26) (by decide) X v b i fr cs E hi c hc
 obtain ⟨E', hE', h93⟩ := s93 (n := 26) (by decide) X v b i fr cs E hE hi c hc hl hh hhl
 obtain ⟨c1, hc1⟩ : ∃ c1 : Ca, c1 = { c with fh := hearF c fr, heard := hearL c.heard fr } := ⟨_, rfl⟩
 obtain ⟨c2, hc2⟩ : ∃ c2 : Ca, c2 = { c with sure := true, fh := true, heard := [] } := ⟨_, rfl⟩
 rw [← hc1] at h93
 rw [← hc1, ← hc2]
 have hlen2 : (cs.set i c2).length = cs.length := by simp
 have h91 := s91 (n := 26) (by decide) X hX v b i fr 4 (cs.set i c2) E' hE' (by rw [hlen2]; exact hi) c2 (by simp) (by rw [hc2]; exact hl)
 have hd : c2.de = c.de := by rw [hc2]
 rw [hd] at h91
 refine ⟨E', hE', ?_⟩
 cases hsu : c.sure with
 | true =>
  rw [hsu] at h74
  simp only [if_true] at h74 ⊢
  obtain ⟨di, su, fh, he⟩ := c
  simp only at hsu
  subst hsu
  simp only [Wk] at h90 h74 ⊢
  simp -implicitDefEqProofs (disch := omega) [c72, h90, h74, hi, ← hc, Cv, gap_r]
 | false =>
  simp only [Bool.false_eq_true, if_false]
  have hset : (cs.set i c1).set i c2 = cs.set i c2 := by simp
  by_cases hq : (hearL c.heard fr).length = c.de.grs.length
  ·rw [decide_eq_true hq] at h93
   rw [if_pos hq]
   obtain ⟨di, su, fh, he⟩ := c
   simp only at hsu hq hc1 hc2
   subst hsu hc1 hc2
   simp only [Wk, Cv, List.length_set, List.map_set, List.map_nil] at h90 h91 h93 ⊢
   have e6 : ∀ a : AV, ((cs.map Cv).set i a)[i]? = some a := fun a => by rw [List.getElem?_set_self (by simpa using hi)]
   simp -implicitDefEqProofs (disch := omega) [c72, h90, hi, ← hc, Cv, gap_r, sap_r, h93, h91, e6]
   done
  ·rw [decide_eq_false hq] at h93
   rw [if_neg hq]
   obtain ⟨W, hW⟩ : ∃ W, W = Wk X v b i fr (cs.set i c1) E' := ⟨_, rfl⟩
   rw [← hW] at h93 ⊢
   clear hc1 hc2
   obtain ⟨di, su, fh, he⟩ := c
   simp only at hsu hq
   subst hsu
   simp only [Wk] at h90 h93 ⊢
   simp -implicitDefEqProofs (disch := omega) [c72, h90, hi, ← hc, Cv, gap_r, h93]
end Go.Proofs.Ytgefdmkmobaefaa

namespace Go.Proofs.Ytgefdmkmobaefaa
open Go.Am Go.Am.Nm Go.Lib Go.Cr
theorem s89 {n : Nat} (hn : 30 < n) (c : Ca) (id : Int) : callA (C19.tab n) 89 [Cv c, .ptr 0 0 0 0] [.var [I id]] = some (.bool (decide (c.de.id = id)), [.var [I id]]) := by
 rw [p89 hn, runH_eq]
 simp -implicitDefEqProofs (disch := omega) [c89, Cv]
theorem s79 {n : Nat} (hn : 41 < n) (l : List Ca) (id : Int) (f : Bool) (hl : l.length ≤ 1000000) :
  callA (C19.tab n) 79 [.lst f (l.map Cv), .fn (.func 89) [] [.ptr 0 0 0 0]] [.var [I id]] = some (I ((l.find? fun c => decide (c.de.id = id)).elim (-1) fun _ => ((l.findIdx fun c => decide (c.de.id = id) : Nat) : Int)), [.var [I id]]) := by
 rw [p79 hn, runH_eq]
 have h : ∀ e0 : Env, e0 0 = .lst f (l.map Cv) → e0 1 = .fn (.func 89) [] [.ptr 0 0 0 0] → e0 7 = .int .i64 l.length → iter (round (C19.tab 41) [8] [(.exit 0, []), (.ret, [4])] c79_1 e0 1 []) ([.int .i64 0], [.var [I id]]) = some ((l.find? fun c => decide (c.de.id = id)).elim (.exit 0, [], [.var [I id]]) fun _ => (.ret, [.int .i64 (l.findIdx fun c => decide (c.de.id = id) : Nat)], [.var [I id]])) := fun e0 h0 h1 h7 =>
  for_idx (f := round (C19.tab 41) [8] [(.exit 0, []), (.ret, [4])] c79_1 e0 1 []) (fun i => ([.int .i64 (i : Int)], [.var [I id]])) l (fun c => decide (c.de.id = id)) (fun i _ => (.ret, [.int .i64 (i : Int)], [.var [I id]])) (.exit 0, [], [.var [I id]])
   (fun i hi => by
    obtain ⟨y, hy⟩ : ∃ y, y = l[i] := ⟨_, rfl⟩
    rw [← hy]
    have h89 := s89 (n := 41) (by decide) y id
    simp only [Cv] at h89
    by_cases h : y.de.id = id
    ·simp only [h, decide_true] at h89
     simp -implicitDefEqProofs (disch := omega) [round_eq, b79_1, h0, h1, h7, hi, ← hy, h, h89, Cv]
    ·simp -implicitDefEqProofs (disch := omega) [round_eq, b79_1, h0, h1, h7, hi, ← hy, h, h89, Cv])
   (by simp -implicitDefEqProofs (disch := omega) [round_eq, b79_1, h0, h1, h7])
 simp -implicitDefEqProofs (disch := omega) [c79]
 rw [h _ (by simp -implicitDefEqProofs (disch := omega)) (by simp -implicitDefEqProofs (disch := omega)) (by simp -implicitDefEqProofs (disch := omega))]
 cases hf : l.find? fun c => decide (c.de.id = id) with
 | none => simp -implicitDefEqProofs (disch := omega)
 | some y => simp -implicitDefEqProofs (disch := omega)
def placeI (b : Bo) (id : Int) : Int := (b.cases.find? fun c => decide (c.de.id = id)).elim (-1) fun _ => ((caseAt b id : Nat) : Int)
theorem s63 {n : Nat} (hn : 51 < n) (b : Bo) (id : Int) (hl : b.cases.length ≤ 1000000) : (C19.tab n).p 63 [Bv b, I id] = some (I (placeI b id)) := by
 rw [p63 hn, runP_eq, runH_eq]
 have h79 := s79 (n := 51) (by decide) b.cases id b.fc hl
 unfold placeI caseAt
 simp -implicitDefEqProofs (disch := omega) [c63, Bv, h79]
def does : List (Int × AV) := [(2, .fn (.func 72) [] []), (3, .fn (.func 64) [] []), (5, .fn (.func 73) [] []), (7, .fn (.func 74) [] [])]
theorem Nm3 (b : Bo) (m : Nat) : Nm [.var [I b.id, I b.next, .own 3 0 0 m], .var [.int .i64 0, .int .i64 0, .lst true []], .mp does] := by
 intro L r h0 Y hr hL
 simp only [List.length_cons, List.length_nil] at hr
 have h1 : ¬ 3 = r := by omega
 have h2 : 3 < L := by omega
 simp [normH, normB, normS, h1, h2, does]
 done
theorem Nm2 (b : Bo) (m : Nat) : Nm [.var [I b.id, I b.next, .own 2 0 0 m], .var [.int .i64 0, .int .i64 0, .lst true []]] := by
 intro L r h0 Y hr hL
 simp only [List.length_cons, List.length_nil] at hr
 have h1 : ¬ 2 = r := by omega
 have h2 : 2 < L := by omega
 simp [normH, normB, normS, h1, h2]
 done
end Go.Proofs.Ytgefdmkmobaefaa
