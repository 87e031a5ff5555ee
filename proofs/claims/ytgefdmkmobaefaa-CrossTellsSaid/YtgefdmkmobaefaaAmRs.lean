/-
 The abstract machine: summaries of functions of values; a call of yield.
-/
import Derived.Test.YtgefdmkmobaefaaAmRg
set_option linter.unusedSimpArgs false
set_option linter.unusedVariables false
namespace Go.Am
open Go.RowKit
section
variable {P : Program} {Γ : Tab} {Z : Nat → Prop} {β : Bds} {h : AH} {w : World}
theorem Rel.reval (R : Rel Z β h w) {i : Nat} {cs cs' : List AV} (hi : h[i]? = some (.var cs)) (hl : cs'.length = cs.length)
  (hv : ∀ (j : Nat) (y y' : AV) (v : Value), cs[j]? = some y → cs'[j]? = some y' → VR β (Own Z β h) w y v → VR β (Own Z β h) w y' v) :
  Rel Z β (h.set i (.var cs')) w ∧ Fr Z β h w β (h.set i (.var cs')) w := by
 have hlt : i < h.length := (List.getElem?_eq_some_iff.1 hi).1
 have get : ∀ {k X}, (h.set i (.var cs'))[k]? = some X → (k = i ∧ X = .var cs') ∨ (k ≠ i ∧ h[k]? = some X) := by
  intro k X hX
  rw [List.getElem?_set] at hX
  by_cases e : i = k
  ·rw [if_pos e, if_pos (e ▸ hlt)] at hX; cases hX; exact .inl ⟨e.symm, rfl⟩
  ·rw [if_neg e] at hX; exact .inr ⟨fun e' => e e'.symm, hX⟩
 have ow : ∀ {k c}, owned β (h.set i (.var cs')) k c ↔ owned β h k c := by
  intro k c
  constructor
  ·rintro ⟨X, hX, ho⟩
   rcases get hX with ⟨rfl, rfl⟩ | ⟨_, hX⟩
   ·exact ⟨_, hi, ho⟩
   ·exact ⟨X, hX, ho⟩
  ·rintro ⟨X, hX, ho⟩
   by_cases e : k = i
   ·subst e
    rw [hi] at hX; cases hX
    exact ⟨.var cs', by rw [List.getElem?_set]; simp [hlt], ho⟩
   ·exact ⟨X, by rw [List.getElem?_set_ne (fun e' => e e'.symm)]; exact hX, ho⟩
 have oo : ∀ c, Own Z β (h.set i (.var cs')) c ↔ Own Z β h c := fun c => ⟨fun hc => hc.imp id fun ⟨k, hk⟩ => ⟨k, ow.1 hk⟩, fun hc => hc.imp id fun ⟨k, hk⟩ => ⟨k, ow.2 hk⟩⟩
 have st : Stay (Own Z β h) w (Own Z β (h.set i (.var cs'))) w := ⟨Nat.le_refl _, fun b _ hO => ⟨rfl, fun hh => hO ((oo b).1 hh)⟩⟩
 refine ⟨⟨R.xlt, fun k c ho => R.xap k c (ow.1 ho), fun k v hk => R.fresh k v (by simpa using hk), fun k v sz es v' hX hv => ?_, fun k X hX => ?_, fun k j c h1 h2 => R.apart k j c (ow.1 h1) (ow.1 h2)⟩, ⟨fun _ _ _ => rfl, rfl, rfl, rfl, fun _ _ _ e => e, st⟩⟩
 ·rcases get hX with ⟨rfl, hq⟩ | ⟨_, hX⟩
  ·cases hq
  ·exact R.later k v sz es v' hX hv
 ·rcases get hX with ⟨rfl, rfl⟩ | ⟨_, hX⟩
  ·obtain ⟨c, cur, elem, e1, e2, e3, e4⟩ := R.blk k _ hi
   refine ⟨c, cur, elem, by rw [hl]; exact e1, e2, by rw [hl]; exact e3, fun j y' hy' => ?_⟩
   have hj : j < cs.length := by rw [← hl]; exact (List.getElem?_eq_some_iff.1 hy').1
   obtain ⟨v, g1, g2, g3⟩ := e4 j _ (List.getElem?_eq_getElem hj)
   exact ⟨v, g1, g2, (hv j _ y' v (List.getElem?_eq_getElem hj) hy' g3).mono (fun _ _ _ e => e) st⟩
  ·exact (R.blk k X hX).mono st (fun _ _ _ e => e) (fun _ _ => rfl)
theorem At.preOwn {n : Nat} {Zc : Nat → Prop} {ds : List Deferred} {s : St} {a : Act} {β' : Bds} {W : World} (A : At n Z β h w Zc ds s a β' W) {i sz : Nat} (hsz : 0 < sz) (hi : s.h[i]? = some (.var [.lst true []])) :
  ∃ β'', At n Z β h w Zc ds ⟨s.e, (s.h.set i (.var [.own s.h.length 0 0 0])) ++ [.row 0 sz []]⟩ a β'' W := by
 have hlt : i < s.h.length := (List.getElem?_eq_some_iff.1 hi).1
 obtain ⟨β1, R1, F1, hv⟩ := A.rel.push_none sz hsz
 have hi1 : (s.h ++ [AB.row 0 sz []])[i]? = some (.var [.lst true []]) := by rw [List.getElem?_append_left hlt]; exact hi
 obtain ⟨R2, F2⟩ := R1.reval hi1 (cs' := [.own s.h.length 0 0 0]) rfl (fun j y y' v hy hy' h0 => by
  have hj : j = 0 := by have := (List.getElem?_eq_some_iff.1 hy).1; simpa using this
  subst hj
  simp only [List.getElem?_cons_zero, Option.some.injEq] at hy hy'
  subst hy hy'
  have h1 := h0.lst_inv
  generalize hlen : ([] : List AV).length = len at h1
  cases h1 with
  | lst _ _ ad c _ _ _ _ hf _ _ _ _ _ _ =>
   have hc := hf rfl
   simp only [List.length_nil] at hc hlen ⊢
   subst hc
   exact hv ad)
 have F := F1.trans F2
 rw [List.set_append_left _ _ hlt] at R2 F
 exact ⟨β1, R2, fun b hb hz => A.keep b hb hz, A.os, A.tape, A.output, fun k v bd hb => F.ext k v bd (A.ext k v bd hb), A.stay.trans F.stay, A.env.fr F, A.defers, A.sub⟩
/-! ### In a function that is not in a round -/
theorem rows_wide {m : Nat} {row : String} {args : Array Value} {R : Value → World → Prop} (h : Rows P row args w R) : RowsIn Fence.wide m P row args w R := by
 intro c cs _
 obtain ⟨v, w', r, s⟩ := h c cs
 exact ⟨v, w', r, stepsIn_wide.2 s⟩
theorem oper_wide {m : Nat} {o : Oper} {a : Act} {next : Act → World → Prop} {Q : Exit → Act → World → Prop} (h : o.wp P a w next Q) : o.wpIn Fence.wide m P a w next Q := by
 refine ⟨fun _ _ => trivial, ?_⟩
 have e : o.semAt Fence.wide.round a.eval = execOp a.eval o := Oper.semAt_none _ _
 rw [e]
 unfold Oper.wp at h
 generalize (execOp a.eval o).run P w = r at h
 unfold Oper.upon at h
 unfold Oper.uponIn
 split at h
 ·exact h
 ·exact h
 ·exact h
 ·exact ⟨fun h => by simp [Fence.wide] at h, callsIn_wide.2 h⟩
 ·exact ⟨fun h => by simp [Fence.wide] at h, rows_wide h⟩
 ·exact h
 ·exact h.elim
theorem list_wide {m : Nat} {ops : Array Oper} {Q Q' : Exit → Act → World → Prop} (hQ : ¬ LetsOut Q) (rest : List Oper) (hn : ∀ a w, Q .normal a w → wpListIn Fence.wide m P ops Q' rest a w) (hp : ∀ ch a w, Q (.panic ch) a w → Q' (.panic ch) a w) :
  ∀ (os : List Oper) (a : Act) (w : World), wpList P ops Q os a w → wpListIn Fence.wide m P ops Q' (os ++ rest) a w
 | [], a, w, h => hn a w h
 | o :: os, a, w, h => by
  have ih := list_wide hQ rest hn hp os
  unfold wpList at h
  rw [List.cons_append]
  unfold wpListIn
  split at h
  ·rename_i hw
   rw [if_pos hw]
   rcases h with h | ⟨_, h⟩
   ·refine oper_wide ?_
    unfold Oper.wp at h ⊢
    generalize (execOp a.eval o).run P w = r at h
    unfold Oper.upon at h ⊢
    split at h
    ·exact ih _ _ h
    ·exact ih _ _ h
    ·exact ih _ _ h
    ·refine h.mono ?_
     rintro e w'' he
     cases e with
     | returned v => exact ih _ _ he
     | panicked ch => exact hp _ _ _ he
     | outgrown => exact absurd he hQ
    ·exact h.mono fun v w' hv => ih _ _ hv
    ·exact hp _ _ _ h
    ·exact h.elim
   ·exact absurd h hQ
  ·rename_i hw
   rw [if_neg hw]
   exact ⟨fun _ _ => trivial, ih _ _ h⟩
theorem yield_wide {o : Oper} {t : Tmp} {args : Array Operand} {ats : Array TypeId} (ho : o.op = .call { callee := .value (.tmp t), args, argTypes := ats }) {l : Nat} {a : Act} (ht : a.eval (.tmp t) = .func (.yield l) #[] #[])
  {vs : Array Value} (hvs : args.map a.eval = vs) {R : Ending → World → Prop} (hy : YieldAt Fence.wide 0 P l vs w R) {next : Act → World → Prop} {Q : Exit → Act → World → Prop}
  (hR : ∀ e W', R e W' → ∃ b, e = .returned (.bool b)) (K : ∀ b W', R (.returned (.bool b)) W' → next (a.put o.dst (.bool b)) W') : o.wpIn Fence.wide 0 P a w next Q := by
 obtain ⟨fn, tmps, assign, body, hy, hr⟩ := hy
 refine ⟨fun _ _ => trivial, ?_⟩
 have e : o.semAt Fence.wide.round a.eval = execOp a.eval o := Oper.semAt_none _ _
 rw [e]
 have hx : (execOp a.eval o).run P w = .ok (.round l fn tmps assign body) w := by
  unfold execOp
  simp only [ho, resolve, ht]
  simp only [Sem.run_bind, Sem.run_pure, Result.andThen_ok, Deferred.ofValue, invoke]
  simpa [hvs] using hy
 rw [hx, Oper.uponIn_round]
 refine ⟨fun h => by simp [Fence.wide] at h, hr.mono ?_⟩
 intro e W' he
 obtain ⟨b, rfl⟩ := hR e W' he
 exact K b W' he
end
end Go.Am
