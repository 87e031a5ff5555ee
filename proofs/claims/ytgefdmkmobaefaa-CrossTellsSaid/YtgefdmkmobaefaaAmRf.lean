/-
 The abstract machine: a range over a function.
-/
import Derived.Test.YtgefdmkmobaefaaAmRi
import Derived.RangeFuncFrom
import Derived.RangeFuncOwn
set_option linter.unusedSimpArgs false
set_option linter.unusedVariables false
namespace Go.Am
open Go.RowKit
section
variable {P : Program} {Z : Nat → Prop} {Γ : Tab} {β : Bds} {h : AH} {w : World}
structure StayC (O : Nat → Prop) (w : World) (O' : Nat → Prop) (w' : World) : Prop where
 size : w.heap.size ≤ w'.heap.size
 keep : ∀ b o, w.heap[b]? = some o → o.isCells = true → ¬ O b → w'.heap[b]? = w.heap[b]? ∧ ¬ O' b
theorem PVR.monoC {O O' : Nat → Prop} {w w' : World} (hst : StayC O w O' w') {a : AV} {v : Value} (h : PVR O w a v) : PVR O' w' a v := by
 induction h with
 | bool b => exact .bool b
 | int k n => exact .int k n
 | str s => exact .str s
 | nilp => exact .nilp
 | nilm => exact .nilm
 | nilf => exact .nilf
 | nili => exact .nili
 | lst full es a c blk o sz f hf hc ha hs h1 h3 h2 ih =>
  have key : es ≠ [] → w'.heap[blk]? = w.heap[blk]? ∧ ¬ O' blk := fun hne => by
   obtain ⟨e1, e2, e3⟩ := ha hne
   obtain ⟨x, hx⟩ : ∃ x, es[0]? = some x := by
    cases es with
    | nil => exact absurd rfl hne
    | cons x l => exact ⟨x, rfl⟩
   obtain ⟨q1, q2⟩ := hs 0 x hx
   have hy : x.cells[0]? = some (x.cells[0]'(by omega)) := List.getElem?_eq_getElem _
   obtain ⟨ob, o1, o2⟩ := cells_of_cell (h1 0 x hx 0 _ hy)
   exact hst.keep blk ob o1 o2 e2
  refine .lst full es a c blk o sz f hf hc (fun hne => ?_) hs (fun i x hx j y hy => ?_) h3 ih
  ·obtain ⟨e1, e2, e3⟩ := ha hne
   exact ⟨e1, (key hne).2, Nat.lt_of_lt_of_le e3 hst.size⟩
  ·have hne : es ≠ [] := by intro he; rw [he] at hx; simp at hx
   rw [World.cell?_of_block (a := ⟨blk, o + i * sz + j, none⟩) (key hne).1]
   exact h1 i x hx j y hy
 | agg cs vs hl h1 h2 ih => exact .agg cs vs hl h1 ih
def AV.okM : AV → Bool
 | .rptr _ => false
 | .fn .. => false
 | .agg _ => false
 | .tup _ => false
 | .ifc _ _ => false
 | _ => true
def okMB : AB → Bool
 | .var cs => cs.all AV.okM
 | .mp _ => false
 | _ => true
theorem VR.monoC {O O' : Nat → Prop} {w w' : World} (hst : StayC O w O' w') {a : AV} {v : Value} (ok : a.okM = true) (h : VR β O w a v) : VR β O' w' a v := by
 cases h with
 | pure _ _ h => exact .pure _ _ (h.monoC hst)
 | dead v => exact .dead v
 | undef => exact .undef
 | ptr b v i o bd c h1 h2 => exact .ptr b v i o bd c h1 h2
 | rptr cs blk o f => cases ok
 | own b v o n bd a c h1 h2 => exact .own b v o n bd a c h1 h2
 | agg cs vs => cases ok
 | tup cs vs => cases ok
 | fn => cases ok
 | ifc => cases ok
 | anyb b => exact .anyb b
 | mpv b bd c h1 h2 => exact .mpv b bd c h1 h2
theorem SrcAt.monoC {O O' : Nat → Prop} {w w' : World} (hst : StayC O w O' w') {f : Nat → Option Value} {sz : Nat} {es : List AV} (h : SrcAt O w f sz es) : SrcAt O' w' f sz es := by
 intro i x hx
 obtain ⟨h1, h2⟩ := h i x hx
 refine ⟨h1, fun j y hy => ?_⟩
 obtain ⟨v, e1, e2, e3⟩ := h2 j y hy
 exact ⟨v, e1, e2, e3.monoC hst⟩
theorem BlkRel.monoC {O O' : Nat → Prop} {w w' : World} (hst : StayC O w O' w') {i : Nat} {X : AB} (ok : okMB X = true)
  (hb : ∀ c, ownsB β i X c → w'.heap[c]? = w.heap[c]?) (h : BlkRel β O w i X) : BlkRel β O' w' i X := by
 cases X with
 | gone => trivial
 | mp es => cases ok
 | var cs =>
  obtain ⟨c, cur, elem, e1, e2, e3, e4⟩ := h
  refine ⟨c, cur, elem, e1, (hb c ⟨_, rfl, e1⟩).trans e2, e3, fun j y hy => ?_⟩
  obtain ⟨v, g1, g2, g3⟩ := e4 j y hy
  exact ⟨v, g1, g2, g3.monoC hst (List.all_eq_true.1 ok y (List.mem_of_getElem? hy))⟩
 | row v sz es =>
  obtain ⟨h0, bd, e1, e2, e3⟩ := h
  refine ⟨h0, bd, e1, e2, ?_⟩
  rcases e3 with e3 | ⟨c, cur, elem, g1, g2, g3, g4, g5⟩
  ·exact .inl e3
  ·exact .inr ⟨c, cur, elem, g1, (hb c ⟨bd, g1, e1⟩).trans g2, g3, g4, SrcAt.monoC hst g5⟩
 | fro v sz es =>
  obtain ⟨h0, bd, e1, e2, e3⟩ := h
  refine ⟨h0, bd, e1, e2, ?_⟩
  rcases e3 with e3 | ⟨c, cur, elem, fr, g1, g2, g3, g4, g5, g6⟩
  ·exact .inl e3
  ·obtain ⟨k1, k2⟩ := hst.keep c _ g3 rfl g2
   exact .inr ⟨c, cur, elem, fr, g1, k2, k1.trans g3, g4, g5, SrcAt.monoC hst g6⟩
theorem Rel.shiftC {Z' : Nat → Prop} {w' : World} (R : Rel Z β h w) (ok : h.all okMB = true) (hst : StayC (Own Z β h) w (Own Z' β h) w') (hown : ∀ i c, owned β h i c → w'.heap[c]? = w.heap[c]?)
  (hx : ∀ c, Z' c → c < w'.heap.size) (hap : ∀ i c, owned β h i c → ¬ Z' c) : Rel Z' β h w' :=
 ⟨hx, hap, R.fresh, R.later, fun i X hX => (R.blk i X hX).monoC hst (List.all_eq_true.1 ok X (List.mem_of_getElem? hX)) (fun c hc => hown i c ⟨X, hX, hc⟩), R.apart⟩
theorem Rel.shift {Z' : Nat → Prop} {w' : World} (R : Rel Z β h w) (hst : Stay (Own Z β h) w (Own Z' β h) w') (hown : ∀ i c, owned β h i c → w'.heap[c]? = w.heap[c]?)
  (hx : ∀ c, Z' c → c < w'.heap.size) (hap : ∀ i c, owned β h i c → ¬ Z' c) : Rel Z' β h w' :=
 ⟨hx, hap, R.fresh, R.later, fun i X hX => (R.blk i X hX).mono hst (fun _ _ _ e => e) (fun c hc => hown i c ⟨X, hX, hc⟩), R.apart⟩
theorem Rel.own_cells (R : Rel Z β h w) (ok : h.all okMB = true) {i c : Nat} (ho : owned β h i c) : ∃ o, w.heap[c]? = some o ∧ o.isCells = true := by
 obtain ⟨X, hX, bd, hc, hb⟩ := ho
 have hr := R.blk i X hX
 have ok := List.all_eq_true.1 ok X (List.mem_of_getElem? hX)
 cases X with
 | gone => exact hb.elim
 | mp es => cases ok
 | var cs =>
  obtain ⟨c', cur, elem, e1, e2, _⟩ := hr
  simp only at hb
  rw [e1] at hb
  cases hb
  simp at hc
  subst hc
  exact ⟨_, e2, rfl⟩
 | row v sz es =>
  obtain ⟨_, bd', e1, e2, e3⟩ := hr
  simp only at hb
  rw [e1] at hb
  cases hb
  rcases e3 with ⟨e3, _⟩ | ⟨c', cur, elem, g1, g2, _⟩
  ·rw [e3] at hc; cases hc
  ·rw [g1] at hc; cases hc
   exact ⟨_, g2, rfl⟩
 | fro v sz es => exact hb.elim
def Zx (Z : Nat → Prop) (B c : Nat) (W : World) : Nat → Prop := fun b => Z b ∨ b = c ∨ (B ≤ b ∧ ∃ o, W.heap[b]? = some o ∧ o.isCells = false)
def ZD (Z : Nat → Prop) (D : Nat) : Nat → Prop := fun b => Z b ∨ b = D
structure RX (Z : Nat → Prop) (β : Bds) (h : AH) (w : World) (c : Nat) (hh : AH) (β' : Bds) (W : World) : Prop where
 rel : Rel (Zx Z w.heap.size c W) β' hh W
 keep : ∀ b, b < w.heap.size → Z b → W.heap[b]? = w.heap[b]?
 os : W.os = w.os
 tape : W.tape = w.tape
 output : W.output = w.output
 ext : ∀ i v bd, β i v = some bd → β' i v = some bd
 stay : Stay (Own Z β h) w (Own (Zx Z w.heap.size c W) β' hh) W
theorem RX.grown {c : Nat} {hh : AH} {β' : Bds} {W W' : World} {row : Option Nat} (X : RX Z β h w c hh β' W) (ok : hh.all okMB = true) (hZ : ∀ b, Z b → b < w.heap.size) (hc : c < w.heap.size) (hcZ : ¬ Z c) (hcO : Own Z β h c) (hg : W.grownBy W' row)
  (hr : ∀ r, row = some r → r = c ∨ (w.heap.size ≤ r ∧ ∃ o : Obj, W.heap[r]? = some o ∧ o.isCells = false)) : RX Z β h w c hh β' W' := by
 have hne : ∀ b o, W.heap[b]? = some o → b ≠ c → (o.isCells = true ∨ b < w.heap.size) → W'.heap[b]? = W.heap[b]? := fun b o hb hbc ho => by
  refine hg.block b (Array.getElem?_eq_some_iff.1 hb).1 fun e => ?_
  rcases hr b e.symm with h0 | ⟨h1, o', h2, h3⟩
  ·exact hbc h0
  ·rw [hb] at h2; cases h2
   rcases ho with ho | ho
   ·rw [ho] at h3; cases h3
   ·omega
 have hne' : ∀ b, b < w.heap.size → b ≠ c → W'.heap[b]? = W.heap[b]? := fun b hb hbc => by
  have hlt : b < W.heap.size := Nat.lt_of_lt_of_le hb X.stay.1
  exact hne b _ (Array.getElem?_eq_getElem hlt) hbc (.inr hb)
 have hoc0 : ∀ i c', owned β' hh i c' → c' ≠ c := fun i c' ho e => X.rel.xap i c' ho (.inr (.inl e))
 have hoc : ∀ i c', owned β' hh i c' → W'.heap[c']? = W.heap[c']? := fun i c' ho => by
  obtain ⟨o, h1, h2⟩ := X.rel.own_cells ok ho
  exact hne c' o h1 (hoc0 i c' ho) (.inl h2)
 have hnz : ∀ b, (∃ o, W'.heap[b]? = some o ∧ o.isCells = true) → ¬ Zx Z w.heap.size c W b → ¬ Zx Z w.heap.size c W' b := by
  rintro b ⟨o, h1, h2⟩ hn (hz | hz | ⟨hz, o', h3, h4⟩)
  ·exact hn (.inl hz)
  ·exact hn (.inr (.inl hz))
  ·rw [h1] at h3; cases h3; rw [h2] at h4; cases h4
 refine ⟨X.rel.shiftC ok ⟨hg.size, fun b o hb ho hO => ?_⟩ hoc (fun b hb => ?_) (fun i b ho => ?_), fun b hb hz => (hne' b hb (fun e => hcZ (e ▸ hz))).trans (X.keep b hb hz), hg.os.trans X.os, hg.tape.trans X.tape, hg.output.trans X.output, X.ext, ?_, fun b hb hO => ?_⟩
 ·have e := hne b o hb (fun e => hO (.inl (.inr (.inl e)))) (.inl ho)
  refine ⟨e, fun hO' => ?_⟩
  rcases hO' with hz | hz
  ·exact hnz b ⟨o, e.trans hb, ho⟩ (fun hz => hO (.inl hz)) hz
  ·exact hO (.inr hz)
 ·rcases hb with hb | hb | ⟨_, o, hb, _⟩
  ·exact Nat.lt_of_lt_of_le (hZ b hb) (Nat.le_trans X.stay.1 hg.size)
  ·exact Nat.lt_of_lt_of_le (hb ▸ hc) (Nat.le_trans X.stay.1 hg.size)
  ·exact (Array.getElem?_eq_some_iff.1 hb).1
 ·obtain ⟨o, h1, h2⟩ := X.rel.own_cells ok ho
  exact hnz b ⟨o, (hne b o h1 (hoc0 i b ho) (.inl h2)).trans h1, h2⟩ (X.rel.xap i b ho)
 ·exact Nat.le_trans X.stay.1 hg.size
 ·obtain ⟨e1, e2⟩ := X.stay.2 b hb hO
  refine ⟨(hne' b hb (fun e => hO (e ▸ hcO))).trans e1, fun hO' => e2 ?_⟩
  rcases hO' with (hz | hz | ⟨hz, _⟩) | hz
  ·exact .inl (.inl hz)
  ·exact .inl (.inr (.inl hz))
  ·omega
  ·exact .inr hz
theorem RX.body {c : Nat} {hh h' : AH} {β' β'' : Bds} {W W' : World} {L : Nat} (X : RX Z β h w c hh β' W) (hL : L = h.length) (R : Rel Z β h w) (ok : h'.all okMB = true) (hZ : ∀ b, Z b → b < w.heap.size) (hc : c < w.heap.size)
  (R' : Rel (Zx Z w.heap.size c W) β'' h' W') (F : FrV (volIn [] L) (Zx Z w.heap.size c W) β' hh W β'' h' W') : RX Z β h w c h' β'' W' := by
 have hs := F.stay.1
 have hw := X.stay.1
 refine ⟨R'.shiftC ok ⟨Nat.le_refl _, fun b o hb ho hO => ⟨rfl, fun hO' => ?_⟩⟩ (fun _ _ _ => rfl) (fun b hb => ?_) (fun i b ho => ?_), fun b hb hz => ?_, F.os.trans X.os, F.tape.trans X.tape, F.output.trans X.output, fun i v bd hb => ?_, Nat.le_trans hw hs, fun b hb hO => ?_⟩
 ·rcases hO' with (hz | hz | ⟨_, o', h3, h4⟩) | hz
  ·exact hO (.inl (.inl hz))
  ·exact hO (.inl (.inr (.inl hz)))
  ·rw [hb] at h3; cases h3; rw [ho] at h4; cases h4
  ·exact hO (.inr hz)
 ·rcases hb with hb | hb | ⟨_, o, hb, _⟩
  ·exact Nat.lt_of_lt_of_le (hZ b hb) (Nat.le_trans hw hs)
  ·exact Nat.lt_of_lt_of_le (hb ▸ hc) (Nat.le_trans hw hs)
  ·exact (Array.getElem?_eq_some_iff.1 hb).1
 ·obtain ⟨o, h1, h2⟩ := R'.own_cells ok ho
  rintro (hz | hz | ⟨_, o', h3, h4⟩)
  ·exact R'.xap i b ho (.inl hz)
  ·exact R'.xap i b ho (.inr (.inl hz))
  ·rw [h1] at h3; cases h3; rw [h2] at h4; cases h4
 ·exact (F.xkeep b (Nat.lt_of_lt_of_le hb hw) (.inl hz)).trans (X.keep b hb hz)
 ·refine F.ext i v bd ?_ (X.ext i v bd hb)
  unfold volIn
  have : i < L := by
   rcases Nat.lt_or_ge i L with h1 | h1
   ·exact h1
   ·rw [R.fresh i v (by omega)] at hb; cases hb
  simp; omega
 ·obtain ⟨e1, e2⟩ := X.stay.2 b hb hO
  obtain ⟨e3, e4⟩ := F.stay.2 b (Nat.lt_of_lt_of_le hb hw) e2
  refine ⟨e3.trans e1, fun hO' => e4 ?_⟩
  rcases hO' with (hz | hz | ⟨hz, _⟩) | hz
  ·exact .inl (.inl hz)
  ·exact .inl (.inr (.inl hz))
  ·omega
  ·exact .inr hz
theorem RX.out {c : Nat} {hh : AH} {β' : Bds} {W : World} {D : Nat} (X : RX Z β h w c hh β' W) (hD : w.heap.size ≤ D) (hk : W.heap[D]? = some (.deferred (some []))) :
  Rel (ZD Z D) β' hh W ∧ Fr Z β h w β' hh W := by
 have hsub : ∀ b, ZD Z D b → Zx Z w.heap.size c W b := by
  rintro b (hz | rfl)
  ·exact .inl hz
  ·exact .inr (.inr ⟨hD, _, hk, rfl⟩)
 refine ⟨X.rel.shift ⟨Nat.le_refl _, fun b hb hO => ⟨rfl, fun hO' => hO ?_⟩⟩ (fun _ _ _ => rfl) (fun b hb => X.rel.xlt b (hsub b hb)) (fun i b ho hz => X.rel.xap i b ho (hsub b hz)), X.keep, X.os, X.tape, X.output, X.ext, X.stay.1, fun b hb hO => ?_⟩
 ·rcases hO' with hz | hz
  ·exact .inl (hsub b hz)
  ·exact .inr hz
 ·obtain ⟨e1, e2⟩ := X.stay.2 b hb hO
  exact ⟨e1, fun hO' => e2 (by
   rcases hO' with hz | hz
   ·exact .inl (.inl hz)
   ·exact .inr hz)⟩
def coll (a : Act) (D : Nat) : Act := { a with defers := { target := .collected D, args := #[] } :: a.defers }
def codeOf : AX → Code
 | .normal => .skip
 | .exit id => .exit id
 | .ret => .ret
theorem getElem?_set_gone {h : AH} {kb i : Nat} {X : AB} (hX : (h.set kb .gone)[i]? = some X) : (i = kb ∧ X = .gone) ∨ (i ≠ kb ∧ h[i]? = some X) := by
 rw [List.getElem?_set] at hX
 by_cases e : kb = i
 ·rw [if_pos e] at hX
  split at hX
  ·cases hX; exact .inl ⟨e.symm, rfl⟩
  ·cases hX
 ·rw [if_neg e] at hX
  exact .inr ⟨fun e' => e e'.symm, hX⟩
theorem RX.start (R : Rel Z β h w) {kb c : Nat} (hc : owned β h kb c) : RX Z β h w c (h.set kb .gone) β w := by
 have ow : ∀ {i b}, owned β (h.set kb .gone) i b → i ≠ kb ∧ owned β h i b := by
  rintro i b ⟨X, hX, ho⟩
  rcases getElem?_set_gone hX with ⟨rfl, rfl⟩ | ⟨hne, hX⟩
  ·obtain ⟨_, _, h2⟩ := ho; exact h2.elim
  ·exact ⟨hne, X, hX, ho⟩
 have hst : Stay (Own Z β h) w (Own (Zx Z w.heap.size c w) β (h.set kb .gone)) w := by
  refine ⟨Nat.le_refl _, fun b hb hO => ⟨rfl, fun hO' => hO ?_⟩⟩
  rcases hO' with (hz | rfl | ⟨hz, _⟩) | ⟨i, hz⟩
  ·exact .inl hz
  ·exact .inr ⟨kb, hc⟩
  ·omega
  ·exact .inr ⟨i, (ow hz).2⟩
 refine ⟨⟨fun b hb => ?_, fun i b ho => ?_, fun i v hi => R.fresh i v (by simpa using hi), fun i v sz es v' hX hv => ?_, fun i X hX => ?_, fun i j b hi hj => R.apart i j b (ow hi).2 (ow hj).2⟩, fun _ _ _ => rfl, rfl, rfl, rfl, fun _ _ _ e => e, hst⟩
 ·rcases hb with hb | rfl | ⟨_, o, hb, _⟩
  ·exact R.xlt b hb
  ·exact R.own_lt hc
  ·exact (Array.getElem?_eq_some_iff.1 hb).1
 ·obtain ⟨hne, ho⟩ := ow ho
  have hlt := R.own_lt ho
  rintro (hz | rfl | ⟨hz, _⟩)
  ·exact R.xap i b ho hz
  ·exact hne (R.apart i kb b ho hc)
  ·omega
 ·rcases getElem?_set_gone hX with ⟨rfl, hq⟩ | ⟨_, hX⟩
  ·cases hq
  ·exact R.later i v sz es v' hX hv
 ·rcases getElem?_set_gone hX with ⟨rfl, rfl⟩ | ⟨_, hX⟩
  ·trivial
  ·exact (R.blk i X hX).mono hst (fun _ _ _ e => e) (fun _ _ => rfl)
def Gives (P : Program) (gf : Nat) (lb : Array Value) (encs : List (Array Value)) (c : Nat) (Kb : Nat → Prop) (w : World) : Prop :=
 ∀ (l : Nat) (J : Nat → World → Prop) (Jx : World → Prop) (W : World), (∀ b, b < w.heap.size → W.heap[b]? = w.heap[b]?) → w.heap.size ≤ W.heap.size →
  (∀ i A B, J i A → A.grownBy B (some c) → J i B) → (∀ A B, Jx A → A.grownBy B (some c) → Jx B) →
  (∀ (i : Nat) (hi : i < encs.length) (W1 : World), J i W1 → YieldAt Fence.wide 0 P l encs[i] W1 fun e W' =>
   (e = .returned (.bool true) ∧ J (i + 1) W' ∧ ∀ b, b < w.heap.size → (b = c ∨ Kb b) → W'.heap[b]? = W1.heap[b]?) ∨ (e = .returned (.bool false) ∧ Jx W')) →
  J 0 W → CallsIn Fence.wide 0 P gf (#[.func (.yield l) #[] #[]] ++ lb) W fun e W' => (∃ v, e = .returned v) ∧ (J encs.length W' ∨ Jx W')
theorem grown_put (W : World) (l : Nat) (o : Obj) : W.grownBy (W.putObj l o) (some l) :=
 ⟨rfl, rfl, rfl, by simp, fun k _ hk => World.putObj_heap_other (fun e => hk (by rw [e]))⟩
theorem rf_sound (hm : P.follows .mixedOrders = true) (hΓ : TabOK P Γ) {n : Nat} {ps : Array Tmp} {asg body : Code} {g : Operand} {bA : AC} (okb : okCode P n body bA = true) (ndb : ndC body = true)
  {a : Act} (R : Rel Z β h w) {kb c : Nat} (hc : owned β h kb c) {gf : Nat} {lb : Array Value} (hg : a.eval g = .func (.func gf) #[] lb) (eg : ∀ args w, (callFunc gf args).run P w = .ok (.enter gf args) w)
  {encs : List (Array Value)} (hseq : Gives P gf lb encs c (fun b => ¬ Own Z β h b) w) (hps : ∀ x ∈ encs, x.size = ps.size)
  (I : Nat → AH → Prop) (X : AX → AH → Prop) (L : Nat) (hL : L = h.length) (hIok : ∀ i hh, I i hh → hh.all okMB = true) (hXok : ∀ ex hh, X ex hh → hh.all okMB = true)
  (h0 : I 0 (h.set kb .gone)) (a₁ : (i : Nat) → i < encs.length → Act)
  (hasg : ∀ (l i : Nat) (hi : i < encs.length) (W : World) (K : Act → World → Prop), K (a₁ i hi) W → asg.wpIn (Fence.wide.inRound l) 0 P (Exit.then K (fun _ _ _ => False)) { tmps := (ps.zip encs[i]).foldl (fun t (p, v) => t.setIfInBounds p v) a.tmps, defers := [] } W)
  (e₁ : Nat → Env) (hE : ∀ (i : Nat) (hi : i < encs.length) (O' : Nat → Prop) (β' : Bds) (W : World), Stay (Own Z β h) w O' W → (∀ i v bd, β i v = some bd → β' i v = some bd) → (a₁ i hi).tmps.size = n ∧ ∀ t, VR β' O' W (e₁ i t) ((a₁ i hi).tmps.getD t Go.undef))
  (hstep : ∀ i hh, i < encs.length → I i hh → ∃ ex h', eval Γ bA (volIn [] L) (AX × AH) (fun ex s => some (ex, s.h)) ⟨e₁ i, hh⟩ = some (ex, h') ∧
   (ex = .normal → I (i + 1) (normH L [] h' 0 (h'.take L))) ∧ (ex ≠ .normal → X ex h'))
  {Q : Exit → Act → World → Prop}
  (hdone : ∀ (D : Nat) (W : World) (hh : AH) (β' : Bds), w.heap.size ≤ D → I encs.length hh → Rel (ZD Z D) β' hh W → Fr Z β h w β' hh W → W.heap[D]? = some (.deferred (some [])) → Q .normal (coll a D) W)
  (hstop : ∀ (D : Nat) (ex : AX) (W : World) (hh : AH) (β' : Bds), w.heap.size ≤ D → ex ≠ .normal → X ex hh → Rel (ZD Z D) β' hh W → Fr Z β h w β' hh W → W.heap[D]? = some (.deferred (some [])) → Q ex.exit' (coll a D) W) :
  (Code.rangeFunc g ps asg body).wpIn Fence.wide 1 P Q a w := by
 have hZ : ∀ b, Z b → b < w.heap.size := R.xlt
 have hcw : c < w.heap.size := R.own_lt hc
 have hcZ : ¬ Z c := R.xap kb c hc
 have hcO : Own Z β h c := .inr ⟨kb, hc⟩
 refine wpIn_rangeFunc fun fn _ => ?_
 obtain ⟨rec, hrec⟩ : ∃ rec : LoopState → Option Code → Loop, rec = fun st pe => { state := st, pending := pe, fn, tmps := a.tmps, params := ps, assign := asg, body, defers := w.heap.size } := ⟨_, rfl⟩
 obtain ⟨W1, hW1⟩ : ∃ W1, (w.alloc (.deferred (some []))).alloc (.loop (rec .ready none)) = W1 := ⟨_, rfl⟩
 have hs1 : W1.heap.size = w.heap.size + 2 := by rw [← hW1]; simp
 have hlt1 : ∀ b, b < w.heap.size → W1.heap[b]? = w.heap[b]? := fun b hb => by
  rw [← hW1]; exact (Below.heap_alloc _ _ _ (by simp; omega)).trans (Below.heap_alloc _ _ _ hb)
 have hL1 : W1.heap[w.heap.size + 1]? = some (.loop (rec .ready none)) := by
  rw [← hW1]; have := World.alloc_heap_new (w.alloc (.deferred (some []))) (.loop (rec .ready none)); rwa [World.size_alloc] at this
 have hK1 : W1.heap[w.heap.size]? = some (.deferred (some [])) := by
  rw [← hW1]; exact (Below.heap_alloc _ _ _ (by simp)).trans (World.alloc_heap_new w _)
 -- what holds between rounds
 obtain ⟨II, hII⟩ : ∃ II : Nat → World → Prop, II = fun i W => ∃ hh β', I i hh ∧ RX Z β h w c hh β' W := ⟨_, rfl⟩
 obtain ⟨IX, hIX⟩ : ∃ IX : Code → World → Prop, IX = fun cd W => ∃ ex hh β', cd = codeOf ex ∧ ex ≠ .normal ∧ X ex hh ∧ RX Z β h w c hh β' W := ⟨_, rfl⟩
 have tI : ∀ {i : Nat} {A B : World} {row : Option Nat}, II i A → A.grownBy B row → (∀ r, row = some r → r = c ∨ (w.heap.size ≤ r ∧ ∃ o : Obj, A.heap[r]? = some o ∧ o.isCells = false)) → II i B := by
  rw [hII]
  rintro i A B row ⟨hh, β', hi, x⟩ hg hr
  exact ⟨hh, β', hi, x.grown (hIok i hh hi) hZ hcw hcZ hcO hg hr⟩
 have tX : ∀ {cd : Code} {A B : World} {row : Option Nat}, IX cd A → A.grownBy B row → (∀ r, row = some r → r = c ∨ (w.heap.size ≤ r ∧ ∃ o : Obj, A.heap[r]? = some o ∧ o.isCells = false)) → IX cd B := by
  rw [hIX]
  rintro cd A B row ⟨ex, hh, β', he, hne, hi, x⟩ hg hr
  exact ⟨ex, hh, β', he, hne, hi, x.grown (hXok ex hh hi) hZ hcw hcZ hcO hg hr⟩
 have pI : ∀ {i : Nat} {W : World} {l : Nat} {o o' : Obj}, II i W → w.heap.size ≤ l → W.heap[l]? = some o → o.isCells = false → II i (W.putObj l o') := fun hi hl ho hn =>
  tI hi (grown_put _ _ _) fun r e => by cases e; exact .inr ⟨hl, _, ho, hn⟩
 have pX : ∀ {cd : Code} {W : World} {l : Nat} {o o' : Obj}, IX cd W → w.heap.size ≤ l → W.heap[l]? = some o → o.isCells = false → IX cd (W.putObj l o') := fun hi hl ho hn =>
  tX hi (grown_put _ _ _) fun r e => by cases e; exact .inr ⟨hl, _, ho, hn⟩
 have hI0 : II 0 W1 := by
  have h1 : II 0 w := by rw [hII]; exact ⟨_, β, h0, RX.start R hc⟩
  have h2 : II 0 (w.alloc (.deferred (some []))) := tI h1 (World.grownBy_alloc w _ none) fun r e => by cases e
  rw [← hW1]
  exact tI h2 (World.grownBy_alloc _ _ none) fun r e => by cases e
 refine ⟨w.heap.size + 1, [{ target := .collected w.heap.size, args := #[] }], W1, { target := .fn (.func gf) lb, args := #[.func (.yield (w.heap.size + 1)) #[] #[]] }, W1, gf,
  #[.func (.yield (w.heap.size + 1)) #[] #[]] ++ lb, W1, ?_, ?_, fun _ _ => trivial, ?_, fun h => by simp [Fence.wide] at h, ?_⟩
 ·rw [← hW1, hrec]; exact run_enterLoop_outer _ _ _ _ _
 ·simp only [resolve, hg]
  simp [go_sem]
 ·simp [invoke, go_sem, eg]
 ·have other : ∀ {A B : World} {k : Nat} {o : Obj}, A.grownBy B (some c) → w.heap.size ≤ k → A.heap[k]? = some o → B.heap[k]? = some o := fun hg hk ho =>
   (hg.block _ (Array.getElem?_eq_some_iff.1 ho).1 (fun e => by injection e with e; omega)).trans ho
  refine (hseq (w.heap.size + 1)
   (fun i W => II i W ∧ W.heap[w.heap.size + 1]? = some (.loop (rec .ready none)) ∧ W.heap[w.heap.size]? = some (.deferred (some [])))
   (fun W => ∃ cd, IX cd W ∧ W.heap[w.heap.size + 1]? = some (.loop (rec .done (some cd))) ∧ W.heap[w.heap.size]? = some (.deferred (some [])))
   W1 hlt1 (by omega)
   (fun i A B hs hg' => ⟨tI hs.1 hg' (fun r e => by cases e; exact .inl rfl), other hg' (by omega) hs.2.1, other hg' (Nat.le_refl _) hs.2.2⟩)
   (fun A B hs hg' => by
    obtain ⟨cd, h1, h2, h3⟩ := hs
    exact ⟨cd, tX h1 hg' (fun r e => by cases e; exact .inl rfl), other hg' (by omega) h2, other hg' (Nat.le_refl _) h3⟩)
   ?_ ⟨hI0, hL1, hK1⟩).mono ?_
  · -- one round
   rintro i hi W ⟨hii, hl, hk⟩
   have hlt : w.heap.size + 1 < W.heap.size := (Array.getElem?_eq_some_iff.1 hl).1
   have hy := run_yield (P := P) (args := encs[i]) hl (by rw [hrec]; exact hps _ (List.getElem_mem hi))
   rw [hrec] at hy
   refine ⟨fn, _, asg, body, hy, roundIn_of_wpIn trivial (hasg _ i hi W _ ⟨_, run_beginRound hl (by rw [hrec]), ?_⟩)⟩
   obtain ⟨W2, hW2⟩ : ∃ W2, W2 = W.putObj (w.heap.size + 1) (.loop { rec .ready none with state := .busy }) := ⟨_, rfl⟩
   have hl2 : W2.heap[w.heap.size + 1]? = some (.loop { rec .ready none with state := .busy }) := by rw [hW2]; exact World.putObj_heap_same hlt
   have hk2 : W2.heap[w.heap.size]? = some (.deferred (some [])) := by rw [hW2]; exact (World.putObj_heap_other (by omega)).trans hk
   have hi2 : II i W2 := by rw [hW2]; exact pI hii (by omega) hl rfl
   have hb2 : ∀ b, b < w.heap.size → W2.heap[b]? = W.heap[b]? := fun b hb => by rw [hW2]; exact World.putObj_heap_other (by omega)
   rw [hII] at hi2
   obtain ⟨hh, β', hi1, X0⟩ := hi2
   obtain ⟨ex, h', hev, hn, hx⟩ := hstep i hh hi hi1
   refine wpIn_mono (Q := fun e a3 W3 => ∃ ex', e = ex'.exit' ∧ KeepsOthers W2 W3 ∧ (∀ b, b < w.heap.size → (b = c ∨ ¬ Own Z β h b) → W3.heap[b]? = W2.heap[b]?) ∧ (ex' = .normal → II (i + 1) W3) ∧ (ex' ≠ .normal → IX (codeOf ex') W3)) ?_ ?_
   ·suffices hs : body.wpIn (Fence.wide.inRound (w.heap.size + 1)) 0 P (fun e a3 W3 => ∃ ex', e = ex'.exit' ∧ KeepsOthers W2 W3 ∧ (∀ b, b < w.heap.size → (b = c ∨ ¬ Own Z β h b) → W3.heap[b]? = W2.heap[b]?) ∧ (ex' = .normal → II (i + 1) W3) ∧ (ex' ≠ .normal → IX (codeOf ex') W3)) (a₁ i hi) W2 by
     rw [hW2, hrec] at hs
     rw [hW2, hrec]
     exact hs
    refine eval_soundIn (lr := w.heap.size + 1) hm hΓ bA body okb ndb hev (W := fun _ => true) (fun _ _ => rfl) X0.rel (hE i hi _ β' W2 X0.stay X0.ext) (fun ex' s' a' w' β'' hk R' F' E'' K' => ?_)
    simp only [Option.some.injEq, Prod.mk.injEq] at hk
    obtain ⟨rfl, rfl⟩ := hk
    refine ⟨ex', rfl, ⟨F'.stay.1, fun k o hk ho => ?_⟩, fun b hb hB => ?_, fun he => ?_, fun he => ?_⟩
    ·have hlt : k < W2.heap.size := (Array.getElem?_eq_some_iff.1 hk).1
     by_cases hO : Own (Zx Z w.heap.size c W2) β' hh k
     ·rcases hO with hz | ⟨i, hz⟩
      ·exact (F'.xkeep k hlt hz).trans hk
      ·obtain ⟨o', h1, h2⟩ := X0.rel.own_cells (hIok _ _ hi1) hz
       rw [hk] at h1; cases h1; rw [ho] at h2; cases h2
     ·exact (F'.stay.2 k hlt hO).1.trans hk
    ·have hlt : b < W2.heap.size := Nat.lt_of_lt_of_le hb X0.stay.1
     rcases hB with rfl | hB
     ·exact F'.xkeep b hlt (.inr (.inl rfl))
     ·exact (F'.stay.2 b hlt (X0.stay.2 b hb hB).2).1
    ·rw [hII]
     exact ⟨normH L [] s'.h 0 (s'.h.take L), bdH β'' s'.h L [], hn he, X0.body hL R (hIok _ _ (hn he)) hZ hcw (head_rel R' L []) (F'.trans head_frV)⟩
    ·rw [hIX]
     exact ⟨ex', s'.h, β'', rfl, he, hx he, X0.body hL R (hXok _ _ (hx he)) hZ hcw R' F'⟩
   ·have fin : ∀ (jump : Option Code) (W3 : World), KeepsOthers W2 W3 →
      (Instr.endRound (w.heap.size + 1) jump).run P W3 = .ok (.bool jump.isNone) (W3.putObj (w.heap.size + 1) (.loop (rec (if jump.isNone then .ready else .done) jump))) ∧
      W3.heap[w.heap.size + 1]? = some (.loop { rec .ready none with state := .busy }) ∧
      (W3.putObj (w.heap.size + 1) (.loop (rec (if jump.isNone then .ready else .done) jump))).heap[w.heap.size + 1]? = some (.loop (rec (if jump.isNone then .ready else .done) jump)) ∧
      (W3.putObj (w.heap.size + 1) (.loop (rec (if jump.isNone then .ready else .done) jump))).heap[w.heap.size]? = some (.deferred (some [])) := fun jump W3 hk3 => by
     have hl3 := hk3.same _ _ hl2 rfl
     have := run_endRound (P := P) jump hl3
     rw [hrec] at this ⊢
     exact ⟨this, by rw [hrec] at hl3; exact hl3, World.putObj_heap_same (Array.getElem?_eq_some_iff.1 hl3).1, (World.putObj_heap_other (by omega)).trans (hk3.same _ _ hk2 rfl)⟩
    rintro e a3 W3 ⟨ex', rfl, hk3, hkp3, hn3, hx3⟩
    cases ex' with
    | normal =>
     obtain ⟨hr, hl3, hl4, hk4⟩ := fin none W3 hk3
     exact ⟨_, _, hr, .inl ⟨rfl, ⟨pI (hn3 rfl) (by omega) hl3 rfl, hl4, hk4⟩, fun b hb hB => (World.putObj_heap_other (by omega)).trans ((hkp3 b hb hB).trans (hb2 b hb))⟩⟩
    | ret =>
     obtain ⟨hr, hl3, hl4, hk4⟩ := fin (some .ret) W3 hk3
     exact ⟨_, _, hr, .inr ⟨rfl, .ret, pX (hx3 (by simp)) (by omega) hl3 rfl, hl4, hk4⟩⟩
    | exit id =>
     obtain ⟨hr, hl3, hl4, hk4⟩ := fin (some (.exit id)) W3 hk3
     exact ⟨_, _, hr, .inr ⟨rfl, .exit id, pX (hx3 (by simp)) (by omega) hl3 rfl, hl4, hk4⟩⟩
  · -- behind the iterator
   rintro e W2 ⟨⟨v, rfl⟩, (⟨hi, hl, hk⟩ | ⟨cd, hi, hl, hk⟩)⟩
   ·refine ⟨none, _, by have := run_endLoop (P := P) hl (by rw [hrec]; simp); rw [hrec] at this; exact this, ?_⟩
    have key : ∀ (o' : Obj), Q .normal (coll a w.heap.size) (W2.putObj (w.heap.size + 1) o') := fun o' => by
     have hi' := pI (o' := o') hi (by omega) hl rfl
     rw [hII] at hi'
     obtain ⟨hh, β', hi1, X0⟩ := hi'
     have hk' : (W2.putObj (w.heap.size + 1) o').heap[w.heap.size]? = some (.deferred (some [])) := (World.putObj_heap_other (by omega)).trans hk
     obtain ⟨r1, r2⟩ := X0.out (Nat.le_refl _) hk'
     exact hdone _ _ hh β' (Nat.le_refl _) hi1 r1 r2 hk'
    exact key _
   ·refine ⟨some cd, _, by have := run_endLoop (P := P) hl (by rw [hrec]; simp); rw [hrec] at this; exact this, ?_⟩
    have key : ∀ (o' : Obj), cd.wpIn Fence.wide 1 P Q (coll a w.heap.size) (W2.putObj (w.heap.size + 1) o') := fun o' => by
     have hi' := pX (o' := o') hi (by omega) hl rfl
     rw [hIX] at hi'
     obtain ⟨ex, hh, β', rfl, hne, hi1, X0⟩ := hi'
     have hk' : (W2.putObj (w.heap.size + 1) o').heap[w.heap.size]? = some (.deferred (some [])) := (World.putObj_heap_other (by omega)).trans hk
     obtain ⟨r1, r2⟩ := X0.out (Nat.le_refl _) hk'
     have := hstop _ ex _ hh β' (Nat.le_refl _) hne hi1 r1 r2 hk'
     cases ex with
     | normal => exact absurd rfl hne
     | ret => exact wpIn_ret this
     | exit id => exact wpIn_exit this
    exact key _
end
end Go.Am
