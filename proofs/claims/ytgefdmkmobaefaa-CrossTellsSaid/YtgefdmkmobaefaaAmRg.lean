/-
 The abstract machine: functions that range over a function, step by step.
-/
import Derived.Test.YtgefdmkmobaefaaAmRf
import Derived.RangeFuncLeaves
set_option linter.unusedSimpArgs false
set_option linter.unusedVariables false
namespace Go.Am
open Go.RowKit
section
variable {P : Program} {Γ : Tab}
structure At (n : Nat) (Z : Nat → Prop) (β : Bds) (h : AH) (w : World) (Zc : Nat → Prop) (ds : List Deferred) (s : St) (a : Act) (β' : Bds) (W : World) : Prop where
 rel : Rel Zc β' s.h W
 keep : ∀ b, b < w.heap.size → Z b → W.heap[b]? = w.heap[b]?
 os : W.os = w.os
 tape : W.tape = w.tape
 output : W.output = w.output
 ext : ∀ i v bd, β i v = some bd → β' i v = some bd
 stay : Stay (Own Z β h) w (Own Zc β' s.h) W
 env : EnvR Zc β' s.h W s.e a n
 defers : a.defers = ds
 sub : ∀ b, Z b → Zc b
variable {n : Nat} {Z : Nat → Prop} {β : Bds} {h : AH} {w : World} {Zc : Nat → Prop} {ds : List Deferred} {s : St} {a : Act} {β' : Bds} {W : World}
theorem At.next {V : Nat → Bool} (A : At n Z β h w Zc ds s a β' W) (R : Rel Z β h w) (hV : ∀ i, V i = true → h.length ≤ i) {s' : St} {a' : Act} {β'' : Bds} {W' : World} (R' : Rel Zc β'' s'.h W') (F : FrV V Zc β' s.h W β'' s'.h W') (E : EnvR Zc β'' s'.h W' s'.e a' n) (hd : a'.defers = a.defers) :
  At n Z β h w Zc ds s' a' β'' W' :=
 ⟨R', fun b hb hz => (F.xkeep b (Nat.lt_of_lt_of_le hb A.stay.1) (A.sub b hz)).trans (A.keep b hb hz), F.os.trans A.os, F.tape.trans A.tape, F.output.trans A.output, fun i v bd hb => F.ext i v bd (by
  cases hv : V i with
  | false => rfl
  | true => rw [R.fresh i v (hV i hv)] at hb; cases hb) (A.ext i v bd hb), A.stay.trans F.stay, E, hd.trans A.defers, A.sub⟩
theorem At.step (hm : P.follows .mixedOrders = true) (hΓ : TabOK P Γ) (A : At n Z β h w Zc ds s a β' W) (R : Rel Z β h w) {c : Code} {c' : AC} (ok : okCode P n c c' = true) {x : AX} {s1 : St}
  (he : eval Γ c' (fun i => decide (h.length ≤ i)) (AX × St) (fun x s => some (x, s)) s = some (x, s1)) {m : Nat} {Q : Exit → Act → World → Prop}
  (K : ∀ a' β'' W', At n Z β h w Zc ds s1 a' β'' W' → Q x.exit' a' W') : c.wpIn Fence.wide m P Q a W := by
 refine wpIn_wide.2 (eval_sound hm hΓ c' c ok he (W := fun _ => true) (fun _ _ => rfl) A.rel A.env fun x' s' a' w' β'' hk R' F' E' K' => ?_)
 simp only [Option.some.injEq, Prod.mk.injEq] at hk
 obtain ⟨rfl, rfl⟩ := hk
 exact K a' β'' w' (A.next R (fun i hi => by simpa using hi) R' F' E' K'.defers)
theorem At.start {args : List AV} {vs : List Value} (R : Rel Z β h w) (hl : args.length = vs.length) (hv : ∀ (j : Nat) (y : AV) (u : Value), args[j]? = some y → vs[j]? = some u → VR β (Own Z β h) w y u) (hn : args.length ≤ n) :
  At n Z β h w Z [] ⟨argEnv args, h⟩ { tmps := vs.toArray ++ Array.replicate (n - vs.toArray.size) undef, defers := [] } β w := by
 refine ⟨R, fun _ _ _ => rfl, rfl, rfl, rfl, fun _ _ _ e => e, Stay.refl _ _, ⟨by simp; omega, fun t => ?_⟩, rfl, fun _ h => h⟩
 show VR β (Own Z β h) w (args.getD t .dead) ((vs.toArray ++ Array.replicate (n - vs.toArray.size) undef).getD t undef)
 by_cases ht : t < args.length
 ·have h1 : args[t]? = some args[t] := List.getElem?_eq_getElem ht
  have h2 : vs[t]? = some (vs[t]'(by omega)) := List.getElem?_eq_getElem (by omega)
  have := hv t _ _ h1 h2
  rw [List.getD_eq_getElem?_getD, h1]
  rw [Array.getD_eq_getD_getElem?, Array.getElem?_append_left (by simp; omega)]
  simp only [List.getElem?_toArray, h2, Option.getD_some]
  exact this
 ·rw [List.getD_eq_getElem?_getD, List.getElem?_eq_none (by omega)]
  exact .dead _
theorem At.behind (A : At n Z β h w Z [] s a β' W) (R : Rel Z β h w) {D : Nat} (hD : W.heap.size ≤ D) {hh : AH} {β'' : Bds} {W' : World} (R' : Rel (ZD Z D) β'' hh W') (F : Fr Z β' s.h W β'' hh W') :
  At n Z β h w (ZD Z D) [{ target := .collected D, args := #[] }] ⟨s.e, hh⟩ (coll a D) β'' W' := by
 have st : Stay (Own Z β' s.h) W (Own (ZD Z D) β'' hh) W' := ⟨F.stay.1, fun b hb hO => by
  obtain ⟨e1, e2⟩ := F.stay.2 b hb hO
  refine ⟨e1, fun hO' => e2 ?_⟩
  rcases hO' with (hz | hz) | hz
  ·exact .inl hz
  ·omega
  ·exact .inr hz⟩
 exact ⟨R', fun b hb hz => (F.xkeep b (Nat.lt_of_lt_of_le hb A.stay.1) hz).trans (A.keep b hb hz), F.os.trans A.os, F.tape.trans A.tape, F.output.trans A.output, fun i v bd hb => F.ext i v bd (A.ext i v bd hb), A.stay.trans st, ⟨A.env.1, fun t => (A.env.2 t).mono F.ext st⟩, by simp [coll, A.defers], fun b hb => .inl hb⟩
theorem At.leave0 {fn : Func} {res : List AR} {m : Nat} {r : AV} (A : At n Z β h w Z [] s a β' W) (ok : okRes P fn.results.toList res = true) (hr : resV s res = some r) {x : Exit} (hx : x = .ret ∨ x = .normal) {R' : Ending → World → Prop} (K : ∀ u β' W', Rel Z β' s.h W' → Fr Z β h w β' s.h W' → VR β' (Own Z β' s.h) W' r u → R' (.returned u) W') :
  bodyPostM Fence.wide m P fn R' x a W := by
 obtain ⟨u, h1, h2⟩ := resV_rel A.rel A.env ok hr
 have : LeavesInM Fence.wide m P fn a.tmps R' a.defers .returning W := by
  rw [A.defers]
  exact ⟨u, h1, K u β' W A.rel ⟨A.keep, A.os, A.tape, A.output, A.ext, A.stay⟩ h2⟩
 rcases hx with rfl | rfl <;> exact this
theorem At.leave1 {fn : Func} {res : List AR} {m : Nat} {r : AV} {D : Nat} (A : At n Z β h w (ZD Z D) [{ target := .collected D, args := #[] }] s a β' W) (R : Rel Z β h w) (hD : w.heap.size ≤ D) (hk : W.heap[D]? = some (.deferred (some [])))
  (ok : okRes P fn.results.toList res = true) (hr : resV s res = some r) {x : Exit} (hx : x = .ret ∨ x = .normal) {R' : Ending → World → Prop} (K : ∀ u β' W', Rel Z β' s.h W' → Fr Z β h w β' s.h W' → VR β' (Own Z β' s.h) W' r u → R' (.returned u) W') :
  bodyPostM Fence.wide m P fn R' x a W := by
 obtain ⟨W', hW'⟩ : ∃ W', W' = W.putObj D (.deferred none) := ⟨_, rfl⟩
 have ho : ∀ b, b ≠ D → W'.heap[b]? = W.heap[b]? := fun b hb => by rw [hW']; exact World.putObj_heap_other hb
 have hsz : W'.heap.size = W.heap.size := by rw [hW']; simp
 have st : Stay (Own (ZD Z D) β' s.h) W (Own Z β' s.h) W' := ⟨by omega, fun b hb hO => ⟨ho b (fun e => hO (.inl (.inr e))), fun hO' => hO (by
  rcases hO' with hz | hz
  ·exact .inl (.inl hz)
  ·exact .inr hz)⟩⟩
 have R1 : Rel Z β' s.h W' := A.rel.shift st (fun i c hc => ho c (fun e => A.rel.xap i c hc (.inr e))) (fun c hc => by
   have := R.xlt c hc; have := A.stay.1; omega) (fun i c hc hz => A.rel.xap i c hc (.inl hz))
 have E' : EnvR Z β' s.h W' s.e a n := ⟨A.env.1, fun t => (A.env.2 t).mono (fun _ _ _ e => e) st⟩
 obtain ⟨u, h1, h2⟩ := resV_rel R1 E' ok hr
 have : LeavesInM Fence.wide m P fn a.tmps R' a.defers .returning W := by
  rw [A.defers]
  refine ⟨by simp, .inl ⟨_, _, rfl, run_takeDeferred hk, ?_⟩⟩
  rw [← hW']
  refine ⟨u, h1, K u β' W' R1 ⟨fun b hb hz => ?_, by rw [hW']; exact A.os, by rw [hW']; exact A.tape, by rw [hW']; exact A.output, A.ext, A.stay.trans st⟩ h2⟩
  exact (ho b (by omega)).trans (A.keep b hb hz)
 rcases hx with rfl | rfl <;> exact this
theorem At.mark {D : Nat} {s1 : St} {β'' : Bds} {W' : World} (A : At n Z β h w (ZD Z D) ds s a β' W) (hk : W.heap[D]? = some (.deferred (some []))) {V : Nat → Bool} (F : FrV V (ZD Z D) β' s.h W β'' s1.h W') : W'.heap[D]? = some (.deferred (some [])) :=
 (F.xkeep D (Array.getElem?_eq_some_iff.1 hk).1 (.inr rfl)).trans hk
theorem At.step1 (hm : P.follows .mixedOrders = true) (hΓ : TabOK P Γ) {D : Nat} (A : At n Z β h w (ZD Z D) ds s a β' W) (R : Rel Z β h w) (hk : W.heap[D]? = some (.deferred (some []))) {c : Code} {c' : AC} (ok : okCode P n c c' = true) {x : AX} {s1 : St}
  (he : eval Γ c' (fun i => decide (h.length ≤ i)) (AX × St) (fun x s => some (x, s)) s = some (x, s1)) {m : Nat} {Q : Exit → Act → World → Prop}
  (K : ∀ a' β'' W', At n Z β h w (ZD Z D) ds s1 a' β'' W' → W'.heap[D]? = some (.deferred (some [])) → Q x.exit' a' W') : c.wpIn Fence.wide m P Q a W := by
 refine wpIn_wide.2 (eval_sound hm hΓ c' c ok he (W := fun _ => true) (fun _ _ => rfl) A.rel A.env fun x' s' a' w' β'' hk' R' F' E' K' => ?_)
 simp only [Option.some.injEq, Prod.mk.injEq] at hk'
 obtain ⟨rfl, rfl⟩ := hk'
 exact K a' β'' w' (A.next R (fun i hi => by simpa using hi) R' F' E' K'.defers) (A.mark hk F')
end
end Go.Am
