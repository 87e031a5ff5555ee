import Derived.Test.YtgefdmkmobaefaaWo19
import Derived.Test.YtgefdmkmobaefaaCrGG
import Derived.Test.YtgefdmkmobaefaaWp19
set_option linter.unusedSimpArgs false
set_option linter.unusedVariables false
namespace Go.Proofs.Ytgefdmkmobaefaa
open Go.Am Go.Am.Nm Go.Lib Go.Cr
theorem Cl.take {n : Nat} {h : AH} (H : Cl n h) (k : Nat) : Cl n (h.take k) := by
 unfold Cl at H ⊢
 rw [List.all_eq_true] at H ⊢
 exact fun B hB => H B (List.mem_of_mem_take hB)
theorem Hd_norm {P : AH} {k : Nat} (w : Wd) (hk : k < P.length) (hcl : Cl P.length P) : normH (P.length + 5) [P.length, P.length + 1, P.length + 2, P.length + 3, P.length + 4] (Hd P k w) 0 (Hd P k w) = Hd P k w := by
 apply List.ext_getElem?
 intro i
 rw [normH_get, Nat.zero_add]
 by_cases h1 : i < P.length
 ·have hni : [P.length, P.length + 1, P.length + 2, P.length + 3, P.length + 4].contains i = false := by
   rw [Bool.eq_false_iff]
   intro hh
   simp at hh
   omega
  by_cases h2 : i = k
  ·subst h2
   rw [Hd_box P i w hk]
   simp only [Option.map_some, normB, Option.some.injEq, AB.var.injEq]
   have r : ∀ j, j < 5 → (Hd P i w)[P.length + j]? = some (.row 0 (szW j) (esW w j)) := fun j hj => Hd_row P i w j hj
   have r0 := r 0 (by decide)
   simp only [Nat.add_zero] at r0
   simp [WC, normS, r0, r 1 (by decide), r 2 (by decide), r 3 (by decide), r 4 (by decide)]
  ·rw [Hd_old P k w i h1 h2]
   cases hB : P[i]? with
   | none => rfl
   | some B => rw [Option.map_some, normB_cl (n := P.length) (by omega) (fun r hr => by simp at hr; omega) (List.all_eq_true.1 hcl B (List.mem_of_getElem? hB)) hni]
 ·by_cases h5 : i < P.length + 5
  ·obtain ⟨j, rfl⟩ : ∃ j, i = P.length + j := ⟨i - P.length, by omega⟩
   rw [Hd_row P k w j (by omega)]
   have hcn : [P.length, P.length + 1, P.length + 2, P.length + 3, P.length + 4].contains (P.length + j) = true := by
    simp; omega
   simp only [Option.map_some, normB, hcn, if_true]
  ·rw [List.getElem?_eq_none (by rw [Hd_len]; omega)]
   rfl
structure Fk (P : AH) (k : Nat) (h : AH) (b : Nat → Nat) : Prop where
 le : P.length + 5 ≤ h.length
 old : ∀ i, i < P.length → i ≠ k → h[i]? = P[i]?
 row : ∀ j, j < 5 → RowAt h (P.length + j)
 new : ∀ j, j < 5 → b j = P.length + j ∨ P.length + 5 ≤ b j
theorem Fk.app {P : AH} {k : Nat} {h : AH} {b : Nat → Nat} (F : Fk P k h b) (T : AH) : Fk P k (h ++ T) b :=
 ⟨by rw [List.length_append]; have := F.le; omega, fun i hi hne => by rw [List.getElem?_append_left (by have := F.le; omega)]; exact F.old i hi hne, fun j hj => (F.row j hj).app T, F.new⟩
end Go.Proofs.Ytgefdmkmobaefaa

namespace Go.Proofs.Ytgefdmkmobaefaa
open Go.Am Go.Am.Nm Go.Lib Go.Cr
end Go.Proofs.Ytgefdmkmobaefaa

namespace Go.Proofs.Ytgefdmkmobaefaa
open Go.Am Go.Am.Nm Go.Lib Go.Cr
end Go.Proofs.Ytgefdmkmobaefaa

namespace Go.Proofs.Ytgefdmkmobaefaa
open Go.Am Go.Am.Nm Go.Lib Go.Cr
theorem Fk.fresh {P : AH} {k : Nat} {h : AH} {b : Nat → Nat} (F : Fk P k h b) {P' : AH} (hl : P'.length = h.length) (ho : ∀ i, i < h.length → i ≠ k → (∀ j, j < 5 → i ≠ b j) → P'[i]? = h[i]?) (hr : ∀ i, i < h.length → RowAt h i → RowAt P' i) (w : Wd) (hk : k < P.length) : Fk P k (Hd P' k w) (fun j => P'.length + j) := by
 have hle := F.le
 refine ⟨by rw [Hd_len]; omega, fun i hi hne => ?_, fun j hj => ?_, fun j hj => .inr (by omega)⟩
 ·rw [Hd_old P' k w i (by omega) hne, ho i (by omega) hne fun j hj => by rcases F.new j hj with e | e <;> omega, F.old i hi hne]
 ·obtain ⟨C, q1, q2⟩ := hr _ (by omega) (F.row j hj)
  exact ⟨C, by rw [Hd_old P' k w _ (by omega) (by omega)]; exact q1, q2⟩
theorem tgt5 (τ : Nat) (a b c d e : Nat × Nat × Nat) : tgt τ [a, b, c, d, e] = [τ, τ + 1, τ + 2, τ + 3, τ + 4] := rfl
theorem Hd_take (P : AH) (k : Nat) (w : Wd) : (Hd P k w).take (P.length + 5) = Hd P k w := List.take_of_length_le (by rw [Hd_len]; exact Nat.le_refl _)
end Go.Proofs.Ytgefdmkmobaefaa

namespace Go.Proofs.Ytgefdmkmobaefaa
open Go.Am Go.Am.Nm Go.Lib Go.Cr
section
variable {PS : List (List UInt8)} {w : Wd} {n : Nat} {G : AH} {N : Nat} {b u : Nat → Nat}
end
end Go.Proofs.Ytgefdmkmobaefaa

namespace Go.Proofs.Ytgefdmkmobaefaa
open Go.Am Go.Am.Nm Go.Lib Go.Deep Go.Cr
theorem eval_loopHd {Γ : Tab} {V : Nat → Bool} {ρ : Type} {t k : Nat} {P h : AH} {w : Wd} {e : Env} {keep : List Nat} {wr : List (Nat × Nat)} {outs : List (AX × List Nat)} {c : AC} {k0 : AX → St → Option ρ} {r : AX × List AV × AH} {ks : List AV}
  (hl : P.length = h.length) (hk : k < P.length) (cl : Cl P.length P) (hf : freshA [(t, 0, 3), (t, 1, 3), (t, 2, 5), (t, 3, 3), (t, 4, 1)] ⟨e, h⟩ = ⟨e, Hd P k w⟩)
  (hks : headK (P.length + 5) [P.length, P.length + 1, P.length + 2, P.length + 3, P.length + 4] (Hd P k w) e keep = ks)
  (hx : iter (roundA Γ P.length [(t, 0, 3), (t, 1, 3), (t, 2, 5), (t, 3, 3), (t, 4, 1)] keep outs c ((baseEnv [P.length, P.length + 1, P.length + 2, P.length + 3, P.length + 4] e).killR wr) (P.length + 5) [P.length, P.length + 1, P.length + 2, P.length + 3, P.length + 4]) (ks, Hd P k w) = some r) :
  eval Γ (.loopA [(t, 0, 3), (t, 1, 3), (t, 2, 5), (t, 3, 3), (t, 4, 1)] keep wr [] outs c) V ρ k0 ⟨e, h⟩ = pickExit ((baseEnv [P.length, P.length + 1, P.length + 2, P.length + 3, P.length + 4] e).killR wr) k0 r outs := by
 rw [eval_loopA']
 simp only [preOwn, rowsOf, List.all_nil, if_true, List.append_nil, ← hl, hf, tgt5, head_eq, hks, Hd_len, Hd_take, Hd_norm w hk cl, hx, bnd_some]
def H0 : AH := [.var [.own 2 0 0 4, .own 3 0 0 4, .lst true [], .lst true [], .own 4 0 0 4], .var [.own 2 0 0 4, .own 3 0 0 4, .lst true [], .lst true [], .own 4 0 0 4], .row 0 3 (freshW.bs.map Bv), .row 0 3 (freshW.ps.map Pv), .row 0 1 (freshW.did.map dv), .var [.own 2 0 0 4, .own 3 0 0 4, .lst true [], .lst true [], .own 4 0 0 4]]
theorem eval_loop0 {Γ : Tab} {V : Nat → Bool} {ρ : Type} (t : Nat) {e : Env} {keep : List Nat} {wr : List (Nat × Nat)} {outs : List (AX × List Nat)} {c : AC} {k0 : AX → St → Option ρ} {r : AX × List AV × AH} {ks : List AV}
  (he : e t = .ptr 5 0 0 0) (hks : headK 11 [6, 7, 8, 9, 10] (Hd P0 5 freshW) e keep = ks)
  (hx : iter (roundA Γ 6 [(t, 0, 3), (t, 1, 3), (t, 2, 5), (t, 3, 3), (t, 4, 1)] keep outs c ((baseEnv [6, 7, 8, 9, 10] e).killR wr) 11 [6, 7, 8, 9, 10]) (ks, Hd P0 5 freshW) = some r) :
  eval Γ (.loopA [(t, 0, 3), (t, 1, 3), (t, 2, 5), (t, 3, 3), (t, 4, 1)] keep wr [] outs c) V ρ k0 ⟨e, H0⟩ = pickExit ((baseEnv [6, 7, 8, 9, 10] e).killR wr) k0 r outs := by
 have hl : P0.length = H0.length := rfl
 exact eval_loopHd (P := P0) (k := 5) (w := freshW) hl (by decide) P0_cl (fresh_start e t he) hks hx
end Go.Proofs.Ytgefdmkmobaefaa
