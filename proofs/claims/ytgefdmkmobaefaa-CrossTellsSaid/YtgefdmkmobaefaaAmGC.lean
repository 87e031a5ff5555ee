/-
 The abstract machine and the model's memory: what it means that a value stands for another one, and rows for blocks.
-/
import Derived.Test.YtgefdmkmobaefaaAmGA
import Derived.Laws.AppendOwn
import Derived.Laws.CopyRow
import Derived.Laws.StructEq
import Derived.Laws.MakeOwn
set_option linter.unusedSimpArgs false
set_option linter.unusedVariables false
namespace Go.Am
theorem okc_of_isS {a : AV} (h : a.isS = true) : a.okc = true := by cases a <;> simp_all [AV.isS, AV.okc]
inductive PVR (O : Nat → Prop) (w : World) : AV → Value → Prop where
 | bool (b : Bool) : PVR O w (.bool b) (.bool b)
 | int (k : IntKind) (n : Int) : PVR O w (.int k n) (.int k n)
 | str (s : ByteArray) : PVR O w (.str s.data.toList) (.string s)
 | nilp : PVR O w .nilp (.pointer none)
 | nilm : PVR O w .nilm (.map none)
 | nilf : PVR O w .nilf .nilFunc
 | nili : PVR O w .nili .nilIface
 | lst (full : Bool) (es : List AV) (a : Option Addr) (c blk o sz : Nat) (f : Nat → Nat → Value)
   (hf : full = true → c = es.length) (hc : es.length ≤ c)
   (ha : es ≠ [] → a = some ⟨blk, o, none⟩ ∧ ¬ O blk ∧ blk < w.heap.size)
   (hs : ∀ (i : Nat) (x : AV), es[i]? = some x → x.cells.length = sz ∧ 0 < sz)
   (h1 : ∀ (i : Nat) (x : AV), es[i]? = some x → ∀ (j : Nat) (y : AV), x.cells[j]? = some y → w.cell? ⟨blk, o + i * sz + j, none⟩ = some (f i j))
   (h3 : ∀ (i : Nat) (x : AV), es[i]? = some x → ∀ (j : Nat) (y : AV), x.cells[j]? = some y → (f i j).oneCell' = true)
   (h2 : ∀ (i : Nat) (x : AV), es[i]? = some x → ∀ (j : Nat) (y : AV), x.cells[j]? = some y → PVR O w y (f i j)) : PVR O w (.lst full es) (.slice a es.length c)
 | agg (cs : List AV) (vs : List Value) (hl : cs.length = vs.length) (h1 : ∀ v ∈ vs, v.oneCell' = true)
   (h2 : ∀ (j : Nat) (y : AV) (v : Value), cs[j]? = some y → vs[j]? = some v → PVR O w y v) : PVR O w (.agg cs) (.agg vs.toArray)
structure Bd where
 cb : Option Nat
 base : Nat
 csz : Nat
 sz : Nat
abbrev Bds := Nat → Nat → Option Bd
inductive VR (β : Bds) (O : Nat → Prop) (w : World) : AV → Value → Prop where
 | pure (a : AV) (v : Value) (h : PVR O w a v) : VR β O w a v
 | dead (v : Value) : VR β O w .dead v
 | undef : VR β O w .undef Go.undef
 | ptr (b v i o : Nat) (bd : Bd) (c : Nat) (h1 : β b v = some bd) (h2 : bd.cb = some c) : VR β O w (.ptr b v i o) (.pointer (some ⟨c, bd.base + i * bd.sz + o, none⟩))
 | rptr (cs : List AV) (blk o : Nat) (f : Nat → Value) (hO : ¬ O blk) (hw : blk < w.heap.size)
   (h1 : ∀ (j : Nat) (y : AV), cs[j]? = some y → w.cell? ⟨blk, o + j, none⟩ = some (f j)) (h3 : ∀ (j : Nat) (y : AV), cs[j]? = some y → (f j).oneCell' = true)
   (h2 : ∀ (j : Nat) (y : AV), cs[j]? = some y → PVR O w y (f j)) : VR β O w (.rptr cs) (.pointer (some ⟨blk, o, none⟩))
 | own (b v o n : Nat) (bd : Bd) (a : Option Addr) (c : Nat) (h1 : β b v = some bd)
   (h2 : (c = 0 ∧ n = 0) ∨ ∃ cb, bd.cb = some cb ∧ a = some ⟨cb, bd.base + o * bd.sz, none⟩ ∧ n ≤ c ∧ bd.base + (o + c) * bd.sz ≤ bd.csz) : VR β O w (.own b v o n) (.slice a n c)
 | agg (cs : List AV) (vs : List Value) (hl : cs.length = vs.length) (h1 : ∀ v ∈ vs, v.oneCell' = true)
   (h2 : ∀ (j : Nat) (y : AV) (v : Value), cs[j]? = some y → vs[j]? = some v → VR β O w y v) : VR β O w (.agg cs) (.agg vs.toArray)
 | tup (cs : List AV) (vs : List Value) (hl : cs.length = vs.length)
   (h2 : ∀ (j : Nat) (y : AV) (v : Value), cs[j]? = some y → vs[j]? = some v → VR β O w y v) : VR β O w (.tup cs) (.tuple vs.toArray)
 | fn (f : Fn) (a c : List AV) (va vc : List Value) (hl : a.length = va.length) (hl' : c.length = vc.length)
   (h1 : ∀ (j : Nat) (y : AV) (v : Value), a[j]? = some y → va[j]? = some v → VR β O w y v) (h2 : ∀ (j : Nat) (y : AV) (v : Value), c[j]? = some y → vc[j]? = some v → VR β O w y v) :
   VR β O w (.fn f a c) (.func f va.toArray vc.toArray)
 | ifc (t : TypeId) (a : AV) (v : Value) (h : VR β O w a v) : VR β O w (.ifc t a) (.iface t v)
 | anyb (b : Bool) : VR β O w .anyb (.bool b)
 | mpv (b : Nat) (bd : Bd) (c : Nat) (h1 : β b 0 = some bd) (h2 : bd.cb = some c) : VR β O w (.mpv b) (.map (some c))
def Stay (O : Nat → Prop) (w : World) (O' : Nat → Prop) (w' : World) : Prop :=
 w.heap.size ≤ w'.heap.size ∧ ∀ b, b < w.heap.size → ¬ O b → w'.heap[b]? = w.heap[b]? ∧ ¬ O' b
theorem cell_lt {w : World} {a : Addr} {v : Value} (h : w.cell? a = some v) : a.block < w.heap.size := by
 unfold World.cell? at h
 rcases Nat.lt_or_ge a.block w.heap.size with h' | h'
 ·exact h'
 ·simp [Array.getElem?_eq_none h'] at h
theorem cell_stay {O O' : Nat → Prop} {w w' : World} (hst : Stay O w O' w') {a : Addr} (hO : ¬ O a.block) (hb : a.block < w.heap.size) : w'.cell? a = w.cell? a := by
 unfold World.cell?
 rw [(hst.2 a.block hb hO).1]
theorem PVR.mono {O O' : Nat → Prop} {w w' : World} (hst : Stay O w O' w') {a : AV} {v : Value} (h : PVR O w a v) : PVR O' w' a v := by
 induction h with
 | bool b => exact .bool b
 | int k n => exact .int k n
 | str s => exact .str s
 | nilp => exact .nilp
 | nilm => exact .nilm
 | nilf => exact .nilf
 | nili => exact .nili
 | lst full es a c blk o sz f hf hc ha hs h1 h3 h2 ih =>
  refine .lst full es a c blk o sz f hf hc (fun hne => ?_) hs (fun i x hx j y hy => ?_) h3 ih
  ·obtain ⟨e1, e2, e3⟩ := ha hne
   exact ⟨e1, (hst.2 blk e3 e2).2, Nat.lt_of_lt_of_le e3 hst.1⟩
  ·have hne : es ≠ [] := by intro he; rw [he] at hx; simp at hx
   obtain ⟨_, e2, e3⟩ := ha hne
   rw [cell_stay hst (a := ⟨blk, o + i * sz + j, none⟩) e2 e3]
   exact h1 i x hx j y hy
 | agg cs vs hl h1 h2 ih => exact .agg cs vs hl h1 ih
theorem VR.mono {β β' : Bds} {O O' : Nat → Prop} {w w' : World} (hβ : ∀ i v bd, β i v = some bd → β' i v = some bd) (hst : Stay O w O' w') {a : AV} {v : Value} (h : VR β O w a v) : VR β' O' w' a v := by
 induction h with
 | pure a v h => exact .pure a v (h.mono hst)
 | dead v => exact .dead v
 | undef => exact .undef
 | ptr b v i o bd c h1 h2 => exact .ptr b v i o bd c (hβ _ _ _ h1) h2
 | rptr cs blk o f hO hw h1 h3 h2 =>
  refine .rptr cs blk o f (hst.2 blk hw hO).2 (Nat.lt_of_lt_of_le hw hst.1) (fun j y hy => ?_) h3 (fun j y hy => (h2 j y hy).mono hst)
  rw [cell_stay hst (a := ⟨blk, o + j, none⟩) hO hw]
  exact h1 j y hy
 | own b v o n bd a c h1 h2 => exact .own b v o n bd a c (hβ _ _ _ h1) h2
 | agg cs vs hl h1 h2 ih => exact .agg cs vs hl h1 ih
 | tup cs vs hl h2 ih => exact .tup cs vs hl ih
 | fn f a c va vc hl hl' h1 h2 ih1 ih2 => exact .fn f a c va vc hl hl' ih1 ih2
 | ifc t a v h ih => exact .ifc t a v ih
 | anyb b => exact .anyb b
 | mpv b bd c h1 h2 => exact .mpv b bd c (hβ _ _ _ h1) h2
theorem Stay.refl (O : Nat → Prop) (w : World) : Stay O w O w := ⟨Nat.le_refl _, fun _ _ h => ⟨rfl, h⟩⟩
theorem Stay.trans {O O' O'' : Nat → Prop} {w w' w'' : World} (h : Stay O w O' w') (h' : Stay O' w' O'' w'') : Stay O w O'' w'' :=
 ⟨Nat.le_trans h.1 h'.1, fun b hb hO => by
  obtain ⟨e1, e2⟩ := h.2 b hb hO
  obtain ⟨e3, e4⟩ := h'.2 b (Nat.lt_of_lt_of_le hb h.1) e2
  exact ⟨e3.trans e1, e4⟩⟩
def ownsB (β : Bds) (i : Nat) (X : AB) (c : Nat) : Prop :=
 ∃ bd, bd.cb = some c ∧ match X with
  | .var _ => β i 0 = some bd
  | .row v _ _ => β i v = some bd
  | .mp _ => β i 0 = some bd
  | _ => False
def owned (β : Bds) (h : AH) (i c : Nat) : Prop := ∃ X, h[i]? = some X ∧ ownsB β i X c
def Own (Z : Nat → Prop) (β : Bds) (h : AH) (c : Nat) : Prop := Z c ∨ ∃ i, owned β h i c
def SrcAt (O : Nat → Prop) (w : World) (f : Nat → Option Value) (sz : Nat) (es : List AV) : Prop :=
 ∀ (i : Nat) (x : AV), es[i]? = some x → x.cells.length = sz ∧ ∀ (j : Nat) (y : AV), x.cells[j]? = some y → ∃ v, f (i * sz + j) = some v ∧ v.oneCell' = true ∧ PVR O w y v
def ElemsAt (O : Nat → Prop) (w : World) (cur : Array Value) (base sz : Nat) (es : List AV) : Prop := SrcAt O w (fun k => cur[base + k]?) sz es
def BlkRel (β : Bds) (O : Nat → Prop) (w : World) (i : Nat) : AB → Prop
 | .gone => True
 | .var cs => ∃ c cur elem, β i 0 = some ⟨some c, 0, cs.length, cs.length⟩ ∧ w.heap[c]? = some (.cells cur elem (0, 0)) ∧ cur.size = cs.length ∧
   ∀ (j : Nat) (y : AV), cs[j]? = some y → ∃ v, cur[j]? = some v ∧ v.oneCell' = true ∧ VR β O w y v
 | .mp es => ∃ c arr clock, β i 0 = some ⟨some c, 0, 0, 0⟩ ∧ w.heap[c]? = some (.map arr clock) ∧ arr.size = es.length ∧
   ∀ (j : Nat) (p : Int × AV), es[j]? = some p → ∃ e : MapEntry, arr[j]? = some e ∧ e.key = .int .i64 p.1 ∧ e.val.oneCell' = true ∧ VR β O w p.2 e.val
 | .row v sz es => 0 < sz ∧ ∃ bd, β i v = some bd ∧ bd.sz = sz ∧ ((bd.cb = none ∧ es = []) ∨
   ∃ c cur elem, bd.cb = some c ∧ w.heap[c]? = some (.cells cur elem (0, 0)) ∧ cur.size = bd.csz ∧ bd.base + es.length * sz ≤ bd.csz ∧ ElemsAt O w cur bd.base sz es)
 | .fro v sz es => 0 < sz ∧ ∃ bd, β i v = some bd ∧ bd.sz = sz ∧ ((bd.cb = none ∧ es = []) ∨
   ∃ c cur elem fr, bd.cb = some c ∧ ¬ O c ∧ w.heap[c]? = some (.cells cur elem fr) ∧ cur.size = bd.csz ∧ bd.base + es.length * sz ≤ bd.csz ∧ ElemsAt O w cur bd.base sz es)
structure Rel (Z : Nat → Prop) (β : Bds) (h : AH) (w : World) : Prop where
 xlt : ∀ c, Z c → c < w.heap.size
 xap : ∀ i c, owned β h i c → ¬ Z c
 fresh : ∀ i v, h.length ≤ i → β i v = none
 later : ∀ (i v sz : Nat) (es : List AV) (v' : Nat), h[i]? = some (.row v sz es) → v < v' → β i v' = none
 blk : ∀ (i : Nat) (b : AB), h[i]? = some b → BlkRel β (Own Z β h) w i b
 apart : ∀ i j c, owned β h i c → owned β h j c → i = j
structure Fr (Z : Nat → Prop) (β : Bds) (h : AH) (w : World) (β' : Bds) (h' : AH) (w' : World) : Prop where
 xkeep : ∀ b, b < w.heap.size → Z b → w'.heap[b]? = w.heap[b]?
 os : w'.os = w.os
 tape : w'.tape = w.tape
 output : w'.output = w.output
 ext : ∀ i v bd, β i v = some bd → β' i v = some bd
 stay : Stay (Own Z β h) w (Own Z β' h') w'
theorem Fr.refl (Z : Nat → Prop) (β : Bds) (h : AH) (w : World) : Fr Z β h w β h w := ⟨fun _ _ _ => rfl, rfl, rfl, rfl, fun _ _ _ e => e, Stay.refl _ _⟩
theorem Fr.trans {Z : Nat → Prop} {β β' β'' : Bds} {h h' h'' : AH} {w w' w'' : World} (a : Fr Z β h w β' h' w') (b : Fr Z β' h' w' β'' h'' w'') : Fr Z β h w β'' h'' w'' :=
 ⟨fun k hk hx => (b.xkeep k (Nat.lt_of_lt_of_le hk a.stay.1) hx).trans (a.xkeep k hk hx), b.os.trans a.os, b.tape.trans a.tape, b.output.trans a.output, fun i v bd e => b.ext i v bd (a.ext i v bd e), a.stay.trans b.stay⟩
theorem VR.fr {Z : Nat → Prop} {β β' : Bds} {h h' : AH} {w w' : World} (f : Fr Z β h w β' h' w') {a : AV} {v : Value} (hv : VR β (Own Z β h) w a v) : VR β' (Own Z β' h') w' a v := hv.mono f.ext f.stay
theorem Stay.drew {O O' : Nat → Prop} {w w' : World} {n : Nat} (h : Stay O w O' w') : Stay O { w with drawn := n } O' w' := h
def EnvR (Z : Nat → Prop) (β : Bds) (h : AH) (w : World) (e : Env) (a : Act) (n : Nat) : Prop :=
 a.tmps.size = n ∧ ∀ t, VR β (Own Z β h) w (e t) (a.tmps.getD t Go.undef)
theorem EnvR.fr {Z : Nat → Prop} {β β' : Bds} {h h' : AH} {w w' : World} {e : Env} {a : Act} {n : Nat} (E : EnvR Z β h w e a n) (f : Fr Z β h w β' h' w') : EnvR Z β' h' w' e a n :=
 ⟨E.1, fun t => (E.2 t).fr f⟩
theorem EnvR.put {Z : Nat → Prop} {β : Bds} {h : AH} {w : World} {e : Env} {a : Act} {n : Nat} (E : EnvR Z β h w e a n) {d : Nat} (hd : d < n) {av : AV} {v : Value} (hv : VR β (Own Z β h) w av v) :
  EnvR Z β h w (e.put d av) (a.put (some d) v) n := by
 refine ⟨by simp [Act.put, E.1], fun t => ?_⟩
 simp only [Env.put, Act.put]
 by_cases ht : t = d
 ·subst ht
  have : t < a.tmps.size := by rw [E.1]; exact hd
  simp [this, hv]
 ·have h2 : d ≠ t := fun e => ht e.symm
  have := E.2 t
  simpa [ht, h2, Array.getElem?_setIfInBounds_ne] using this
/-! ### What is known of a value by its form -/
section inv
variable {Z : Nat → Prop} {β : Bds} {O : Nat → Prop} {w : World}
theorem VR.bool_inv {b : Bool} {v : Value} (h : VR β O w (.bool b) v) : v = .bool b := by
 cases h with | pure _ _ h => cases h; rfl
theorem VR.int_inv {k : IntKind} {n : Int} {v : Value} (h : VR β O w (.int k n) v) : v = .int k n := by
 cases h with | pure _ _ h => cases h; rfl
theorem VR.str_inv {s : List UInt8} {v : Value} (h : VR β O w (.str s) v) : ∃ b : ByteArray, v = .string b ∧ b.data.toList = s := by
 cases h with | pure _ _ h => cases h with | str b => exact ⟨b, rfl, rfl⟩
theorem VR.undef_inv {v : Value} (h : VR β O w .undef v) : v = Go.undef := by
 cases h with
 | pure _ _ h => cases h
 | undef => rfl
theorem VR.agg_inv {cs : List AV} {v : Value} (h : VR β O w (.agg cs) v) : ∃ vs : List Value, v = .agg vs.toArray ∧ cs.length = vs.length ∧ (∀ u ∈ vs, u.oneCell' = true) ∧ ∀ (j : Nat) (y : AV) (u : Value), cs[j]? = some y → vs[j]? = some u → VR β O w y u := by
 cases h with
 | pure _ _ h => cases h with | agg _ vs hl h1 h2 => exact ⟨vs, rfl, hl, h1, fun j y u hy hu => .pure _ _ (h2 j y u hy hu)⟩
 | agg _ vs hl h1 h2 => exact ⟨vs, rfl, hl, h1, h2⟩
theorem VR.tup_inv {cs : List AV} {v : Value} (h : VR β O w (.tup cs) v) : ∃ vs : List Value, v = .tuple vs.toArray ∧ cs.length = vs.length ∧ ∀ (j : Nat) (y : AV) (u : Value), cs[j]? = some y → vs[j]? = some u → VR β O w y u := by
 cases h with
 | pure _ _ h => cases h
 | tup _ vs hl h2 => exact ⟨vs, rfl, hl, h2⟩
theorem VR.ptr_inv {b vv i o : Nat} {v : Value} (h : VR β O w (.ptr b vv i o) v) : ∃ bd c, β b vv = some bd ∧ bd.cb = some c ∧ v = .pointer (some ⟨c, bd.base + i * bd.sz + o, none⟩) := by
 cases h with
 | pure _ _ h => cases h
 | ptr _ _ _ _ bd c h1 h2 => exact ⟨bd, c, h1, h2, rfl⟩
theorem VR.mpv_inv {b : Nat} {v : Value} (h : VR β O w (.mpv b) v) : ∃ bd c, β b 0 = some bd ∧ bd.cb = some c ∧ v = .map (some c) := by
 cases h with
 | pure _ _ h => cases h
 | mpv _ bd c h1 h2 => exact ⟨bd, c, h1, h2, rfl⟩
theorem VR.own_inv {b vv o n : Nat} {v : Value} (h : VR β O w (.own b vv o n) v) : ∃ bd a c, β b vv = some bd ∧ v = .slice a n c ∧
  ((c = 0 ∧ n = 0) ∨ ∃ cb, bd.cb = some cb ∧ a = some ⟨cb, bd.base + o * bd.sz, none⟩ ∧ n ≤ c ∧ bd.base + (o + c) * bd.sz ≤ bd.csz) := by
 cases h with
 | pure _ _ h => cases h
 | own _ _ _ _ bd a c h1 h2 => exact ⟨bd, a, c, h1, rfl, h2⟩
theorem VR.lst_inv {f : Bool} {es : List AV} {v : Value} (h : VR β O w (.lst f es) v) : PVR O w (.lst f es) v := by
 cases h with | pure _ _ h => exact h
theorem VR.okc {a : AV} {v : Value} (h : VR β O w a v) (ha : a.okc = true) : v.oneCell' = true := by
 cases h with
 | pure _ _ h => cases h <;> first | rfl | (simp [AV.okc] at ha; done)
 | dead => simp [AV.okc] at ha
 | undef => simp [AV.okc] at ha
 | ptr => rfl
 | rptr => rfl
 | own => rfl
 | agg => simp [AV.okc] at ha
 | tup => simp [AV.okc] at ha
 | fn => rfl
 | ifc => rfl
 | anyb => rfl
 | mpv => rfl
theorem cells_one {v : Value} (h : v.oneCell' = true) : v.cells = #[v] := by cases v <;> first | rfl | (simp [Value.oneCell'] at h; done)
theorem VR.cells {a : AV} {v : Value} (h : VR β O w a v) (ha : a.cells.all AV.okc = true) :
  ∃ vs : List Value, v.cells = vs.toArray ∧ a.cells.length = vs.length ∧ (∀ u ∈ vs, u.oneCell' = true) ∧ ∀ (j : Nat) (y : AV) (u : Value), a.cells[j]? = some y → vs[j]? = some u → VR β O w y u := by
 by_cases hag : ∃ cs, a = .agg cs
 ·obtain ⟨cs, rfl⟩ := hag
  obtain ⟨vs, rfl, hl, h1, h2⟩ := h.agg_inv
  exact ⟨vs, rfl, hl, h1, h2⟩
 ·have hc : a.cells = [a] := by cases a <;> first | rfl | (exact absurd ⟨_, rfl⟩ hag)
  rw [hc] at ha ⊢
  have ho : v.oneCell' = true := h.okc (by simpa using ha)
  refine ⟨[v], cells_one ho, rfl, by simpa using ho, fun j y u hy hu => ?_⟩
  cases j with
  | zero => simp at hy hu; subst hy; subst hu; exact h
  | succ j => simp at hy
theorem VR.pureS {a : AV} {v : Value} (h : VR β O w a v) (ha : a.isS = true) : PVR O w a v := by
 cases h with
 | pure _ _ h => exact h
 | _ => simp [AV.isS] at ha
theorem VR.pureE {a : AV} {v : Value} (h : VR β O w a v) (ha : a.isE = true) : PVR O w a v := by
 cases h with
 | pure _ _ h => exact h
 | agg cs vs hl h1 h2 =>
  refine .agg cs vs hl h1 fun j y u hy hu => (h2 j y u hy hu).pureS ?_
  have : ∀ y ∈ cs, y.isS = true := by simpa [AV.isE] using ha
  exact this y (List.mem_of_getElem? hy)
 | _ => simp [AV.isE, AV.isS] at ha
end inv
end Go.Am

/-
 The abstract machine and the model's memory: how rows turn.
-/
namespace Go.Am
theorem ElemsAt.mono {O O' : Nat → Prop} {w w' : World} (hst : Stay O w O' w') {cur : Array Value} {base sz : Nat} {es : List AV} (h : ElemsAt O w cur base sz es) : ElemsAt O' w' cur base sz es := by
 intro i x hx
 obtain ⟨h1, h2⟩ := h i x hx
 refine ⟨h1, fun j y hy => ?_⟩
 obtain ⟨v, e1, e2, e3⟩ := h2 j y hy
 exact ⟨v, e1, e2, e3.mono hst⟩
theorem BlkRel.mono {β β' : Bds} {O O' : Nat → Prop} {w w' : World} (hst : Stay O w O' w') (hβ : ∀ i v bd, β i v = some bd → β' i v = some bd) {i : Nat} {X : AB}
  (hb : ∀ c, ownsB β i X c → w'.heap[c]? = w.heap[c]?) (h : BlkRel β O w i X) : BlkRel β' O' w' i X := by
 cases X with
 | gone => trivial
 | var cs =>
  obtain ⟨c, cur, elem, e1, e2, e3, e4⟩ := h
  refine ⟨c, cur, elem, hβ _ _ _ e1, (hb c ⟨_, rfl, e1⟩).trans e2, e3, fun j y hy => ?_⟩
  obtain ⟨v, g1, g2, g3⟩ := e4 j y hy
  exact ⟨v, g1, g2, g3.mono hβ hst⟩
 | mp es =>
  obtain ⟨c, arr, clock, e1, e2, e3, e4⟩ := h
  refine ⟨c, arr, clock, hβ _ _ _ e1, (hb c ⟨_, rfl, e1⟩).trans e2, e3, fun j p hp => ?_⟩
  obtain ⟨e, g1, g2, g3, g4⟩ := e4 j p hp
  exact ⟨e, g1, g2, g3, g4.mono hβ hst⟩
 | row v sz es =>
  obtain ⟨h0, bd, e1, e2, e3⟩ := h
  refine ⟨h0, bd, hβ _ _ _ e1, e2, ?_⟩
  rcases e3 with e3 | ⟨c, cur, elem, g1, g2, g3, g4, g5⟩
  ·exact .inl e3
  ·exact .inr ⟨c, cur, elem, g1, (hb c ⟨bd, g1, e1⟩).trans g2, g3, g4, g5.mono hst⟩
 | fro v sz es =>
  obtain ⟨h0, bd, e1, e2, e3⟩ := h
  refine ⟨h0, bd, hβ _ _ _ e1, e2, ?_⟩
  rcases e3 with e3 | ⟨c, cur, elem, fr, g1, g2, g3, g4, g5, g6⟩
  ·exact .inl e3
  ·have hc : c < w.heap.size := (Array.getElem?_eq_some_iff.1 g3).1
   exact .inr ⟨c, cur, elem, fr, g1, (hst.2 c hc g2).2, (hst.2 c hc g2).1.trans g3, g4, g5, g6.mono hst⟩
theorem Rel.own_lt {Z : Nat → Prop} {β : Bds} {h : AH} {w : World} (R : Rel Z β h w) {i c : Nat} (ho : owned β h i c) : c < w.heap.size := by
 obtain ⟨X, hX, bd, hc, hb⟩ := ho
 have hr := R.blk i X hX
 cases X with
 | gone => exact hb.elim
 | var cs =>
  obtain ⟨c', cur, elem, e1, e2, _⟩ := hr
  simp only at hb
  rw [e1] at hb
  cases hb
  simp at hc
  subst hc
  exact (Array.getElem?_eq_some_iff.1 e2).1
 | mp es =>
  obtain ⟨c', arr, clock, e1, e2, _⟩ := hr
  simp only at hb
  rw [e1] at hb
  cases hb
  simp at hc
  subst hc
  exact (Array.getElem?_eq_some_iff.1 e2).1
 | row v sz es =>
  obtain ⟨_, bd', e1, e2, e3⟩ := hr
  simp only at hb
  rw [e1] at hb
  cases hb
  rcases e3 with ⟨e3, _⟩ | ⟨c', cur, elem, g1, g2, _⟩
  ·rw [e3] at hc; cases hc
  ·rw [g1] at hc; cases hc
   exact (Array.getElem?_eq_some_iff.1 g2).1
 | fro v sz es => exact hb.elim
theorem Rel.upd {Z : Nat → Prop} {β : Bds} {h : AH} {w : World} (R : Rel Z β h w) {i : Nat} {X' : AB} {β' : Bds} {w' : World} (hi : i < h.length)
  (hos : w'.os = w.os) (htape : w'.tape = w.tape) (hout : w'.output = w.output)
  (hβ : ∀ j v, j ≠ i → β' j v = β j v) (hβi : ∀ v bd, β i v = some bd → β' i v = some bd)
  (hlater : ∀ v sz es v', X' = .row v sz es → v < v' → β' i v' = none)
  (hown : ∀ c, ownsB β' i X' c → owned β h i c ∨ w.heap.size ≤ c)
  (hsize : w.heap.size ≤ w'.heap.size) (hkeep : ∀ b, b < w.heap.size → ¬ owned β h i b → w'.heap[b]? = w.heap[b]?)
  (hblk : Stay (Own Z β h) w (Own Z β' (h.set i X')) w' → BlkRel β' (Own Z β' (h.set i X')) w' i X') :
  Rel Z β' (h.set i X') w' ∧ Fr Z β h w β' (h.set i X') w' := by
 have hext : ∀ j v bd, β j v = some bd → β' j v = some bd := by
  intro j v bd e
  by_cases hj : j = i
  ·subst hj; exact hβi v bd e
  ·rw [hβ j v hj]; exact e
 have hother : ∀ j c, j ≠ i → (owned β' (h.set i X') j c ↔ owned β h j c) := by
  intro j c hj
  unfold owned ownsB
  simp only [List.getElem?_set_ne (Ne.symm hj)]
  constructor
  ·rintro ⟨X, hX, bd, hc, hb⟩
   refine ⟨X, hX, bd, hc, ?_⟩
   cases X <;> simp_all
  ·rintro ⟨X, hX, bd, hc, hb⟩
   refine ⟨X, hX, bd, hc, ?_⟩
   cases X <;> simp_all
 have hself : ∀ c, owned β' (h.set i X') i c → owned β h i c ∨ w.heap.size ≤ c := by
  rintro c ⟨X, hX, hb⟩
  have : (h.set i X')[i]? = some X' := by simp [hi]
  rw [this] at hX
  cases hX
  exact hown c hb
 have hst : Stay (Own Z β h) w (Own Z β' (h.set i X')) w' := by
  refine ⟨hsize, fun b hb hO => ⟨hkeep b hb fun ho => hO (.inr ⟨i, ho⟩), ?_⟩⟩
  rintro (hz | ⟨j, hj⟩)
  ·exact hO (.inl hz)
  by_cases hji : j = i
  ·subst hji
   rcases hself b hj with h1 | h1
   ·exact hO (.inr ⟨j, h1⟩)
   ·omega
  ·exact hO (.inr ⟨j, (hother j b hji).1 hj⟩)
 refine ⟨⟨fun c hc => Nat.lt_of_lt_of_le (R.xlt c hc) hsize, ?_, ?_, ?_, ?_, ?_⟩, ⟨fun b hb hz => hkeep b hb fun ho => R.xap i b ho hz, hos, htape, hout, hext, hst⟩⟩
 ·intro j c hj hz
  by_cases hji : j = i
  ·subst hji
   rcases hself c hj with h1 | h1
   ·exact R.xap j c h1 hz
   ·have := R.xlt c hz; omega
  ·exact R.xap j c ((hother j c hji).1 hj) hz
 ·intro j v hj
  rw [List.length_set] at hj
  rw [hβ j v (by omega)]
  exact R.fresh j v hj
 ·intro j v sz es v' hj hv
  by_cases hji : j = i
  ·subst hji
   have : (h.set j X')[j]? = some X' := by simp [hi]
   rw [this] at hj
   cases hj
   exact hlater v sz es v' rfl hv
  ·rw [List.getElem?_set_ne (Ne.symm hji)] at hj
   rw [hβ j v' hji]
   exact R.later j v sz es v' hj hv
 ·intro j X hj
  by_cases hji : j = i
  ·subst hji
   have : (h.set j X')[j]? = some X' := by simp [hi]
   rw [this] at hj
   cases hj
   exact hblk hst
  ·rw [List.getElem?_set_ne (Ne.symm hji)] at hj
   refine (R.blk j X hj).mono hst hext fun c hc => ?_
   have ho : owned β h j c := ⟨X, hj, hc⟩
   exact hkeep c (R.own_lt ho) fun ho' => hji (R.apart j i c ho ho')
 ·intro j k c hj hk
  by_cases hji : j = i
  ·by_cases hki : k = i
   ·rw [hji, hki]
   ·subst hji
    have hk' := (hother k c hki).1 hk
    rcases hself c hj with h1 | h1
    ·exact absurd (R.apart j k c h1 hk') (fun e => hki e.symm)
    ·have := R.own_lt hk'; omega
  ·have hj' := (hother j c hji).1 hj
   by_cases hki : k = i
   ·subst hki
    rcases hself c hk with h1 | h1
    ·exact absurd (R.apart j k c hj' h1) hji
    ·have := R.own_lt hj'; omega
   ·exact R.apart j k c hj' ((hother k c hki).1 hk)
theorem Rel.push {Z : Nat → Prop} {β : Bds} {h : AH} {w : World} (R : Rel Z β h w) {X : AB} {bd : Bd} {w' : World} {β' : Bds}
  (hos : w'.os = w.os) (htape : w'.tape = w.tape) (hout : w'.output = w.output)
  (hβ : β' = fun i v => if i = h.length ∧ v = 0 then some bd else β i v)
  (hX : ∀ v sz es, X = .row v sz es → v = 0)
  (hcb : ∀ c, bd.cb = some c → w.heap.size ≤ c)
  (hsize : w.heap.size ≤ w'.heap.size) (hkeep : ∀ b, b < w.heap.size → w'.heap[b]? = w.heap[b]?)
  (hblk : Stay (Own Z β h) w (Own Z β' (h ++ [X])) w' → BlkRel β' (Own Z β' (h ++ [X])) w' h.length X) :
  Rel Z β' (h ++ [X]) w' ∧ Fr Z β h w β' (h ++ [X]) w' := by
 subst hβ
 have hnone : ∀ v, β h.length v = none := fun v => R.fresh _ v (Nat.le_refl _)
 have hext : ∀ j v bd', β j v = some bd' → (if j = h.length ∧ v = 0 then some bd else β j v) = some bd' := by
  intro j v bd' e
  rw [if_neg]
  ·exact e
  ·rintro ⟨rfl, _⟩
   rw [hnone] at e
   cases e
 have hother : ∀ j c, j ≠ h.length → (owned (fun i v => if i = h.length ∧ v = 0 then some bd else β i v) (h ++ [X]) j c ↔ owned β h j c) := by
  intro j c hj
  unfold owned ownsB
  have : (h ++ [X])[j]? = h[j]? := by
   by_cases hlt : j < h.length
   ·rw [List.getElem?_append_left hlt]
   ·rw [List.getElem?_eq_none (by simp; omega), List.getElem?_eq_none (by omega)]
  simp only [this, hj, false_and, if_false]
 have hself : ∀ c, owned (fun i v => if i = h.length ∧ v = 0 then some bd else β i v) (h ++ [X]) h.length c → w.heap.size ≤ c := by
  rintro c ⟨X', hX', bd', hc, hb⟩
  have : (h ++ [X])[h.length]? = some X := by simp
  rw [this] at hX'
  cases hX'
  have hbd : bd' = bd := by
   cases X with
   | gone => exact hb.elim
   | var cs => simpa using hb.symm
   | mp es => simpa using hb.symm
   | row v sz es =>
    obtain rfl := hX v sz es rfl
    simpa using hb.symm
   | fro v sz es => exact hb.elim
  subst hbd
  exact hcb c hc
 have hst : Stay (Own Z β h) w (Own Z (fun i v => if i = h.length ∧ v = 0 then some bd else β i v) (h ++ [X])) w' := by
  refine ⟨hsize, fun b hb hO => ⟨hkeep b hb, ?_⟩⟩
  rintro (hz | ⟨j, hj⟩)
  ·exact hO (.inl hz)
  by_cases hji : j = h.length
  ·subst hji
   have := hself b hj
   omega
  ·exact hO (.inr ⟨j, (hother j b hji).1 hj⟩)
 refine ⟨⟨fun c hc => Nat.lt_of_lt_of_le (R.xlt c hc) hsize, ?_, ?_, ?_, ?_, ?_⟩, ⟨fun b hb _ => hkeep b hb, hos, htape, hout, hext, hst⟩⟩
 ·intro j c hj hz
  by_cases hji : j = h.length
  ·subst hji
   have := hself c hj
   have := R.xlt c hz
   omega
  ·exact R.xap j c ((hother j c hji).1 hj) hz
 ·intro j v hj
  simp at hj
  rw [if_neg (by omega)]
  exact R.fresh j v (by omega)
 ·intro j v sz es v' hj hv
  by_cases hji : j = h.length
  ·rw [if_neg (by omega)]
   subst hji
   exact hnone v'
  ·rw [if_neg (by simp [hji])]
   have : (h ++ [X])[j]? = h[j]? := by
    by_cases hlt : j < h.length
    ·rw [List.getElem?_append_left hlt]
    ·rw [List.getElem?_eq_none (by simp; omega), List.getElem?_eq_none (by omega)]
   rw [this] at hj
   exact R.later j v sz es v' hj hv
 ·intro j Y hj
  by_cases hji : j = h.length
  ·subst hji
   have : (h ++ [X])[h.length]? = some X := by simp
   rw [this] at hj
   cases hj
   exact hblk hst
  ·have : (h ++ [X])[j]? = h[j]? := by
    by_cases hlt : j < h.length
    ·rw [List.getElem?_append_left hlt]
    ·rw [List.getElem?_eq_none (by simp; omega), List.getElem?_eq_none (by omega)]
   rw [this] at hj
   refine (R.blk j Y hj).mono hst hext fun c hc => ?_
   exact hkeep c (R.own_lt ⟨Y, hj, hc⟩)
 ·intro j k c hj hk
  by_cases hji : j = h.length
  ·by_cases hki : k = h.length
   ·rw [hji, hki]
   ·subst hji
    have := hself c hj
    have := R.own_lt ((hother k c hki).1 hk)
    omega
  ·have hj' := (hother j c hji).1 hj
   by_cases hki : k = h.length
   ·subst hki
    have := hself c hk
    have := R.own_lt hj'
    omega
   ·exact R.apart j k c hj' ((hother k c hki).1 hk)
theorem Rel.push_var {Z : Nat → Prop} {β : Bds} {h : AH} {w : World} (R : Rel Z β h w) (elem : TypeId) (cs : List AV) (vs : List Value) (hl : cs.length = vs.length)
  (h1 : ∀ u ∈ vs, u.oneCell' = true) (h2 : ∀ (j : Nat) (y : AV) (u : Value), cs[j]? = some y → vs[j]? = some u → VR β (Own Z β h) w y u) :
  ∃ β', Rel Z β' (h ++ [.var cs]) (w.alloc (.cells vs.toArray elem)) ∧ Fr Z β h w β' (h ++ [.var cs]) (w.alloc (.cells vs.toArray elem)) ∧
   VR β' (Own Z β' (h ++ [.var cs])) (w.alloc (.cells vs.toArray elem)) (.ptr h.length 0 0 0) (.pointer (some ⟨w.heap.size, 0, none⟩)) := by
 have key := R.push (X := .var cs) (bd := ⟨some w.heap.size, 0, cs.length, cs.length⟩) (w' := w.alloc (.cells vs.toArray elem)) rfl rfl rfl rfl (by simp) (by simp) (by simp)
  (fun b hb => heap_alloc_old w _ b hb) (fun hst => ⟨w.heap.size, vs.toArray, elem, by simp, heap_alloc_new w _, by simp [hl], fun j y hy => ?_⟩)
 ·obtain ⟨k1, k2⟩ := key
  refine ⟨_, k1, k2, ?_⟩
  have := VR.ptr (β := fun i v => if i = h.length ∧ v = 0 then some ⟨some w.heap.size, 0, cs.length, cs.length⟩ else β i v)
   (O := Own Z (fun i v => if i = h.length ∧ v = 0 then some ⟨some w.heap.size, 0, cs.length, cs.length⟩ else β i v) (h ++ [.var cs])) (w := w.alloc (.cells vs.toArray elem))
   h.length 0 0 0 ⟨some w.heap.size, 0, cs.length, cs.length⟩ w.heap.size (by simp) rfl
  simpa using this
 ·have hj : j < vs.length := by rw [← hl]; exact (List.getElem?_eq_some_iff.1 hy).1
  refine ⟨vs[j], by simp [hj], h1 _ (List.getElem_mem hj), ?_⟩
  refine (h2 j y vs[j] hy (by simp [hj])).mono ?_ hst
  intro i v bd' e
  rw [if_neg]
  ·exact e
  ·rintro ⟨rfl, _⟩
   rw [R.fresh _ v (Nat.le_refl _)] at e
   cases e
theorem Rel.push_row {Z : Nat → Prop} {β : Bds} {h : AH} {w w' : World} (R : Rel Z β h w) (sz : Nat) (hsz : 0 < sz) (es : List AV) (cur : Array Value) (elem : TypeId)
  (hos : w'.os = w.os) (htape : w'.tape = w.tape) (hout : w'.output = w.output) (hh : w'.heap = w.heap.push (.cells cur elem (0, 0)))
  (hfit : es.length * sz ≤ cur.size) (he : ElemsAt (Own Z β h) w cur 0 sz es) :
  ∃ β', Rel Z β' (h ++ [.row 0 sz es]) w' ∧ Fr Z β h w β' (h ++ [.row 0 sz es]) w' ∧
   ∀ n c, n ≤ c → c * sz ≤ cur.size → VR β' (Own Z β' (h ++ [.row 0 sz es])) w' (.own h.length 0 0 n) (.slice (some ⟨w.heap.size, 0, none⟩) n c) := by
 have hold : ∀ b, b < w.heap.size → w'.heap[b]? = w.heap[b]? := fun b hb => by rw [hh, Array.getElem?_push, if_neg (by omega)]
 have hnew : w'.heap[w.heap.size]? = some (.cells cur elem (0, 0)) := by rw [hh]; simp
 have key := R.push (X := .row 0 sz es) (bd := ⟨some w.heap.size, 0, cur.size, sz⟩) (w' := w') hos htape hout rfl (by intro v sz' es e; cases e; rfl) (by simp) (by rw [hh]; simp)
  hold (fun hst => ⟨hsz, ⟨some w.heap.size, 0, cur.size, sz⟩, by simp, rfl, .inr ⟨w.heap.size, cur, elem, rfl, hnew, rfl, by simpa using hfit, he.mono hst⟩⟩)
 obtain ⟨k1, k2⟩ := key
 refine ⟨_, k1, k2, fun n c hn hc => ?_⟩
 refine .own h.length 0 0 n ⟨some w.heap.size, 0, cur.size, sz⟩ _ c (by simp) (.inr ⟨w.heap.size, rfl, by simp, hn, by simpa using hc⟩)
theorem Rel.push_none {Z : Nat → Prop} {β : Bds} {h : AH} {w : World} (R : Rel Z β h w) (sz : Nat) (hsz : 0 < sz) :
  ∃ β', Rel Z β' (h ++ [.row 0 sz []]) w ∧ Fr Z β h w β' (h ++ [.row 0 sz []]) w ∧
   ∀ a, VR β' (Own Z β' (h ++ [.row 0 sz []])) w (.own h.length 0 0 0) (.slice a 0 0) := by
 have key := R.push (X := .row 0 sz []) (bd := ⟨none, 0, 0, sz⟩) (w' := w) rfl rfl rfl rfl (by intro v sz' es e; cases e; rfl) (by simp) (Nat.le_refl _)
  (fun b _ => rfl) (fun _ => ⟨hsz, ⟨none, 0, 0, sz⟩, by simp, rfl, .inl ⟨rfl, rfl⟩⟩)
 obtain ⟨k1, k2⟩ := key
 exact ⟨_, k1, k2, fun a => .own h.length 0 0 0 ⟨none, 0, 0, sz⟩ a 0 (by simp) (.inl ⟨rfl, rfl⟩)⟩
theorem Rel.drawn {Z : Nat → Prop} {β : Bds} {h : AH} {w : World} (R : Rel Z β h w) (n : Nat) : Rel Z β h { w with drawn := n } ∧ Fr Z β h w β h { w with drawn := n } := by
 have hst : Stay (Own Z β h) w (Own Z β h) { w with drawn := n } := ⟨Nat.le_refl _, fun _ _ e => ⟨rfl, e⟩⟩
 exact ⟨⟨R.xlt, R.xap, R.fresh, R.later, fun i X hX => (R.blk i X hX).mono hst (fun _ _ _ e => e) (fun _ _ => rfl), R.apart⟩, ⟨fun _ _ _ => rfl, rfl, rfl, rfl, fun _ _ _ e => e, hst⟩⟩
end Go.Am

/-
  The abstract machine and the model's memory: what is read, and written.
-/
namespace Go.Am
/-! ### Elements in a row of cells -/
theorem SrcAt.mono {O O' : Nat → Prop} {w w' : World} (hst : Stay O w O' w') {f : Nat → Option Value} {sz : Nat} {es : List AV} (h : SrcAt O w f sz es) : SrcAt O' w' f sz es := by
  intro i x hx
  obtain ⟨h1, h2⟩ := h i x hx
  refine ⟨h1, fun j y hy => ?_⟩
  obtain ⟨v, e1, e2, e3⟩ := h2 j y hy
  exact ⟨v, e1, e2, e3.mono hst⟩
theorem SrcAt.congr {O : Nat → Prop} {w : World} {f g : Nat → Option Value} {sz : Nat} {es : List AV} (h : SrcAt O w f sz es) (hfg : ∀ k, k < es.length * sz → f k = g k) : SrcAt O w g sz es := by
  intro i x hx
  obtain ⟨h1, h2⟩ := h i x hx
  refine ⟨h1, fun j y hy => ?_⟩
  obtain ⟨v, e1, e2, e3⟩ := h2 j y hy
  refine ⟨v, ?_, e2, e3⟩
  rw [← hfg]
  · exact e1
  · have hi : i < es.length := (List.getElem?_eq_some_iff.1 hx).1
    have hj : j < sz := by rw [← h1]; exact (List.getElem?_eq_some_iff.1 hy).1
    calc i * sz + j < i * sz + sz := by omega
      _ = (i + 1) * sz := by rw [Nat.add_mul]; omega
      _ ≤ es.length * sz := Nat.mul_le_mul_right _ (by omega)
theorem SrcAt.list {O : Nat → Prop} {w : World} {f : Nat → Option Value} {sz : Nat} {es : List AV} (h : SrcAt O w f sz es) :
    ∃ vs : List Value, vs.length = es.length * sz ∧ (∀ (k : Nat) (u : Value), vs[k]? = some u → f k = some u) ∧ (∀ u ∈ vs, u.oneCell' = true) ∧ SrcAt O w (fun k => vs[k]?) sz es := by
  have hk : ∀ k, k < es.length * sz → ∃ u, f k = some u ∧ u.oneCell' = true := by
    intro k hk
    have hsz : 0 < sz := by rcases Nat.eq_zero_or_pos sz with h0 | h0; · subst h0; omega
                            · exact h0
    have hi : k / sz < es.length := Nat.div_lt_of_lt_mul (by rw [Nat.mul_comm]; exact hk)
    obtain ⟨h1, h2⟩ := h (k / sz) es[k / sz] (by simp [hi])
    have hj : k % sz < es[k / sz].cells.length := by rw [h1]; exact Nat.mod_lt _ hsz
    obtain ⟨v, e1, e2, _⟩ := h2 (k % sz) (es[k / sz].cells[k % sz]) (by simp [hj])
    refine ⟨v, ?_, e2⟩
    rw [← e1, Nat.mul_comm, Nat.div_add_mod]
  have hl : ((List.range (es.length * sz)).map fun k => (f k).getD Go.undef).length = es.length * sz := by simp
  refine ⟨(List.range (es.length * sz)).map fun k => (f k).getD Go.undef, hl, ?_, ?_, ?_⟩
  · intro k u hu
    have hlt : k < es.length * sz := by rw [← hl]; exact (List.getElem?_eq_some_iff.1 hu).1
    obtain ⟨v, e1, _⟩ := hk k hlt
    simp [hlt, e1] at hu
    rw [e1, hu]
  · intro u hu
    obtain ⟨k, hk', rfl⟩ := List.mem_map.1 hu
    obtain ⟨v, e1, e2⟩ := hk k (by simpa using hk')
    simp [e1, e2]
  · refine h.congr fun k hlt => ?_
    obtain ⟨v, e1, _⟩ := hk k hlt
    simp [hlt, e1]
theorem SrcAt.nil {O : Nat → Prop} {w : World} {f : Nat → Option Value} {sz : Nat} : SrcAt O w f sz [] := by
  intro i x hx; simp at hx
theorem SrcAt.append {O : Nat → Prop} {w : World} {f : Nat → Option Value} {sz : Nat} {es es' : List AV} (h : SrcAt O w f sz es) (h' : SrcAt O w (fun k => f (es.length * sz + k)) sz es') : SrcAt O w f sz (es ++ es') := by
  intro i x hx
  by_cases hi : i < es.length
  · rw [List.getElem?_append_left hi] at hx
    exact h i x hx
  · rw [List.getElem?_append_right (by omega)] at hx
    obtain ⟨h1, h2⟩ := h' (i - es.length) x hx
    refine ⟨h1, fun j y hy => ?_⟩
    obtain ⟨v, e1, e2, e3⟩ := h2 j y hy
    refine ⟨v, ?_, e2, e3⟩
    rw [← e1]
    congr 1
    have : i = es.length + (i - es.length) := by omega
    conv => lhs; rw [this, Nat.add_mul]
    omega
theorem SrcAt.drop {O : Nat → Prop} {w : World} {f : Nat → Option Value} {sz : Nat} {es : List AV} (h : SrcAt O w f sz es) (o : Nat) : SrcAt O w (fun k => f (o * sz + k)) sz (es.drop o) := by
  intro i x hx
  rw [List.getElem?_drop] at hx
  obtain ⟨h1, h2⟩ := h (o + i) x hx
  refine ⟨h1, fun j y hy => ?_⟩
  obtain ⟨v, e1, e2, e3⟩ := h2 j y hy
  have ea : o * sz + (i * sz + j) = (o + i) * sz + j := by rw [Nat.add_mul]; omega
  exact ⟨v, by rw [← e1, ← ea], e2, e3⟩
theorem SrcAt.take {O : Nat → Prop} {w : World} {f : Nat → Option Value} {sz : Nat} {es : List AV} (h : SrcAt O w f sz es) (n : Nat) : SrcAt O w f sz (es.take n) := by
  intro i x hx
  rw [List.getElem?_take] at hx
  split at hx
  · exact h i x hx
  · cases hx
theorem SrcAt.szOk {O : Nat → Prop} {w : World} {f : Nat → Option Value} {sz sz' : Nat} {es : List AV} (h : SrcAt O w f sz es) (hs : szOk sz' es = true) : SrcAt O w f sz' es := by
  by_cases hne : es = []
  · subst hne; exact .nil
  · have : sz' = sz := by
      obtain ⟨x, l, rfl⟩ := List.exists_cons_of_ne_nil hne
      have h1 := (h 0 x rfl).1
      simp only [Am.szOk, List.all_cons, Bool.and_eq_true, beq_iff_eq] at hs
      exact hs.1.symm.trans h1
    subst this; exact h
/-! ### Reading -/
section reads
variable {Z : Nat → Prop} {β : Bds} {h : AH} {w : World}
theorem cellsAt_rel (R : Rel Z β h w) {a : AV} {cs : List AV} (hc : cellsAt h a = some cs) {v : Value} (hv : VR β (Own Z β h) w a v) :
    ∃ blk o, v = .pointer (some ⟨blk, o, none⟩) ∧ ∀ (j : Nat) (y : AV), cs[j]? = some y → ∃ u, w.cell? ⟨blk, o + j, none⟩ = some u ∧ u.oneCell' = true ∧ VR β (Own Z β h) w y u := by
  cases a with
  | rptr cs' =>
    simp only [cellsAt, Option.some.injEq] at hc
    subst hc
    cases hv with
    | pure _ _ hv => cases hv
    | rptr _ blk o f hO hw h1 h3 h2 => exact ⟨blk, o, rfl, fun j y hy => ⟨f j, h1 j y hy, h3 j y hy, .pure _ _ (h2 j y hy)⟩⟩
  | ptr b vv i o =>
    obtain ⟨bd, c, hb, hcb, rfl⟩ := hv.ptr_inv
    simp only [cellsAt] at hc
    split at hc
    · rename_i cs0 hcs
      split at hc
      · rename_i hcond
        obtain ⟨rfl, rfl, ho⟩ := hcond
        cases hc
        obtain ⟨c', cur, elem, e1, e2, e3, e4⟩ := R.blk b _ hcs
        rw [hb] at e1; cases e1
        cases hcb
        refine ⟨c, o, by simp, fun j y hy => ?_⟩
        rw [List.getElem?_drop] at hy
        obtain ⟨u, g1, g2, g3⟩ := e4 (o + j) y hy
        exact ⟨u, by rw [cell_of_row w c (o + j) cur elem (0, 0) e2]; exact g1, g2, g3⟩
      · cases hc
    · rename_i v' sz es hes
      split at hc
      · rename_i hvv
        subst hvv
        simp only [Option.bind_eq_some_iff] at hc
        obtain ⟨x, hx, hc⟩ := hc
        split at hc
        · rename_i ho
          cases hc
          obtain ⟨_, bd', e1, e2, e3⟩ := R.blk b _ hes
          rw [hb] at e1; cases e1
          rcases e3 with ⟨e3, _⟩ | ⟨c', cur, elem, g1, g2, g3, g4, g5⟩
          · rw [hcb] at e3; cases e3
          · rw [hcb] at g1; cases g1
            refine ⟨c, _, rfl, fun j y hy => ?_⟩
            rw [List.getElem?_drop] at hy
            obtain ⟨u, k1, k2, k3⟩ := (g5 i x hx).2 (o + j) y hy
            refine ⟨u, ?_, k2, .pure _ _ k3⟩
            rw [cell_of_row w c _ cur elem (0, 0) g2, ← k1, e2]
            congr 1; omega
        · cases hc
      · cases hc
    · rename_i v' sz es hes
      split at hc
      · rename_i hvv
        subst hvv
        simp only [Option.bind_eq_some_iff] at hc
        obtain ⟨x, hx, hc⟩ := hc
        split at hc
        · rename_i ho
          cases hc
          obtain ⟨_, bd', e1, e2, e3⟩ := R.blk b _ hes
          rw [hb] at e1; cases e1
          rcases e3 with ⟨e3, _⟩ | ⟨c', cur, elem, fr, g1, _, g2, g3, g4, g5⟩
          · rw [hcb] at e3; cases e3
          · rw [hcb] at g1; cases g1
            refine ⟨c, _, rfl, fun j y hy => ?_⟩
            rw [List.getElem?_drop] at hy
            obtain ⟨u, k1, k2, k3⟩ := (g5 i x hx).2 (o + j) y hy
            refine ⟨u, ?_, k2, .pure _ _ k3⟩
            rw [cell_of_row w c _ cur elem fr g2, ← k1, e2]
            congr 1; omega
        · cases hc
      · cases hc
    · cases hc
  | _ => simp [cellsAt] at hc
theorem row_src {O : Nat → Prop} {cur : Array Value} {elem : TypeId} {fr : Nat × Nat} {cb base sz o n : Nat} {es : List AV} (g2 : w.heap[cb]? = some (.cells cur elem fr)) (g5 : ElemsAt O w cur base sz es) :
    SrcAt O w (fun k => w.cell? ⟨cb, base + o * sz + k, none⟩) sz ((es.drop o).take n) := by
  refine ((SrcAt.drop g5 o).take n).congr fun k _ => ?_
  rw [cell_of_row w cb _ cur elem fr g2]
  congr 1
  omega
theorem elems_rel (R : Rel Z β h w) {a : AV} {es : List AV} (hc : elems h a = some es) {v : Value} (hv : VR β (Own Z β h) w a v) :
    ∃ ad c, v = .slice ad es.length c ∧ es.length ≤ c ∧ (es ≠ [] → ∃ blk o sz, 0 < sz ∧ ad = some ⟨blk, o, none⟩ ∧ SrcAt (Own Z β h) w (fun k => w.cell? ⟨blk, o + k, none⟩) sz es) := by
  cases a with
  | lst full es' =>
    simp only [elems, Option.some.injEq] at hc
    subst hc
    cases hv.lst_inv with
    | lst _ _ ad c blk o sz f hf hc ha hs h1 h3 h2 =>
      refine ⟨ad, c, rfl, hc, fun hne => ?_⟩
      obtain ⟨x, l, hxl⟩ := List.exists_cons_of_ne_nil hne
      refine ⟨blk, o, sz, (hs 0 x (by rw [hxl]; rfl)).2, (ha hne).1, fun i x hx => ⟨(hs i x hx).1, fun j y hy => ⟨f i j, ?_, h3 i x hx j y hy, h2 i x hx j y hy⟩⟩⟩
      rw [← h1 i x hx j y hy, Nat.add_assoc]
  | own b vv o n =>
    obtain ⟨bd, ad, c, hb, rfl, h2⟩ := hv.own_inv
    simp only [elems] at hc
    split at hc
    · rename_i v' sz es' hes
      split at hc
      · rename_i hcond
        obtain ⟨rfl, hn⟩ := hcond
        cases hc
        have hlen : ((es'.drop o).take n).length = n := by simp; omega
        rw [hlen]
        obtain ⟨hsz, bd', e1, e2, e3⟩ := R.blk b _ hes
        rw [hb] at e1; cases e1
        rcases h2 with ⟨h2, h2'⟩ | ⟨cb, q1, q2, q3, q4⟩
        · subst h2'
          exact ⟨ad, c, rfl, by omega, by simp⟩
        · refine ⟨ad, c, rfl, q3, fun _ => ?_⟩
          rcases e3 with ⟨e3, _⟩ | ⟨c', cur, elem, g1, g2, g3, g4, g5⟩
          · rw [q1] at e3; cases e3
          · rw [q1] at g1; cases g1
            subst e2
            exact ⟨cb, _, _, hsz, q2, row_src g2 g5⟩
      · cases hc
    · rename_i v' sz es' hes
      split at hc
      · rename_i hcond
        obtain ⟨rfl, hn⟩ := hcond
        cases hc
        have hlen : ((es'.drop o).take n).length = n := by simp; omega
        rw [hlen]
        obtain ⟨hsz, bd', e1, e2, e3⟩ := R.blk b _ hes
        rw [hb] at e1; cases e1
        rcases h2 with ⟨h2, h2'⟩ | ⟨cb, q1, q2, q3, q4⟩
        · subst h2'
          exact ⟨ad, c, rfl, by omega, by simp⟩
        · refine ⟨ad, c, rfl, q3, fun _ => ?_⟩
          rcases e3 with ⟨e3, _⟩ | ⟨c', cur, elem, fr, g1, _, g2, g3, g4, g5⟩
          · rw [q1] at e3; cases e3
          · rw [q1] at g1; cases g1
            subst e2
            exact ⟨cb, _, _, hsz, q2, row_src g2 g5⟩
      · cases hc
    · cases hc
  | _ => simp [elems] at hc
end reads
end Go.Am

/-
 The abstract machine and the model's memory: what is written.
-/
namespace Go.Am
theorem over_length {α : Type} (l : List α) (o : Nat) (xs : List α) (h : o + xs.length ≤ l.length) : (over l o xs).length = l.length := by
 simp [over]; omega
theorem over_get {α : Type} (l : List α) (o : Nat) (xs : List α) (h : o + xs.length ≤ l.length) (j : Nat) :
  (over l o xs)[j]? = if o ≤ j ∧ j < o + xs.length then xs[j - o]? else l[j]? := by
 unfold over
 by_cases h1 : j < o
 ·rw [if_neg (by omega), List.append_assoc, List.getElem?_append_left (by simp; omega), List.getElem?_take, if_pos h1]
 ·by_cases h2 : j < o + xs.length
  ·rw [if_pos ⟨by omega, h2⟩, List.getElem?_append_left (by simp; omega), List.getElem?_append_right (by simp; omega)]
   congr 1; simp; omega
  ·rw [if_neg (by omega), List.getElem?_append_right (by simp; omega), List.getElem?_drop]
   congr 1; simp; omega
theorem block_ne {i i' sz j j' : Nat} (h : i' ≠ i) (hj : j < sz) (hj' : j' < sz) : i' * sz + j ≠ i * sz + j' := by
 rcases Nat.lt_or_gt_of_ne h with h1 | h1
 ·have : (i' + 1) * sz ≤ i * sz := Nat.mul_le_mul_right _ h1
  rw [Nat.add_mul] at this
  omega
 ·have : (i + 1) * sz ≤ i' * sz := Nat.mul_le_mul_right _ h1
  rw [Nat.add_mul] at this
  omega
section
variable {Z : Nat → Prop} {β : Bds} {h : AH} {w : World}
theorem Rel.write_var (R : Rel Z β h w) {b : Nat} {cs : List AV} (hb : h[b]? = some (.var cs)) (o : Nat) (xs : List AV) (us : List Value) (hl : xs.length = us.length) (hfit : o + xs.length ≤ cs.length)
  (h1 : ∀ u ∈ us, u.oneCell' = true) (h2 : ∀ (j : Nat) (y : AV) (u : Value), xs[j]? = some y → us[j]? = some u → VR β (Own Z β h) w y u) :
  ∃ c cur elem, β b 0 = some ⟨some c, 0, cs.length, cs.length⟩ ∧ w.heap[c]? = some (.cells cur elem (0, 0)) ∧ cur.size = cs.length ∧
   Rel Z β (h.set b (.var (over cs o xs))) (w.setRow c (over cur.toList o us).toArray) ∧ Fr Z β h w β (h.set b (.var (over cs o xs))) (w.setRow c (over cur.toList o us).toArray) := by
 obtain ⟨c, cur, elem, e1, e2, e3, e4⟩ := R.blk b _ hb
 refine ⟨c, cur, elem, e1, e2, e3, ?_⟩
 have hlen := over_length cs o xs hfit
 have hown : owned β h b c := ⟨_, hb, _, rfl, e1⟩
 refine R.upd (List.getElem?_eq_some_iff.1 hb).1 rfl rfl rfl (fun _ _ _ => rfl) (fun _ _ e => e) (by simp) ?_ (by simp [World.setRow]) (fun b' _ hb' => setRow_other w c b' _ (fun e => hb' (e ▸ hown))) ?_
 ·rintro c' ⟨bd, q1, q2⟩
  exact .inl ⟨_, hb, bd, q1, q2⟩
 ·intro hst
  refine ⟨c, _, elem, by rw [e1, hlen], setRow_heap w c cur _ elem (0, 0) e2, by simp [over_length cur.toList o us (by simp; omega), over_length cs o xs hfit, e3], fun j y hy => ?_⟩
  rw [over_get cs o xs hfit] at hy
  simp only [List.getElem?_toArray]
  rw [over_get cur.toList o us (by simp; omega)]
  by_cases hj : o ≤ j ∧ j < o + xs.length
  ·rw [if_pos hj] at hy
   rw [if_pos (by omega)]
   have hlt : j - o < us.length := by omega
   exact ⟨us[j - o], by simp [hlt], h1 _ (List.getElem_mem hlt), (h2 (j - o) y us[j - o] hy (by simp [hlt])).mono (fun _ _ _ e => e) hst⟩
  ·rw [if_neg hj] at hy
   rw [if_neg (by omega)]
   obtain ⟨u, g1, g2, g3⟩ := e4 j y hy
   exact ⟨u, by simpa using g1, g2, g3.mono (fun _ _ _ e => e) hst⟩
theorem Rel.write_row (R : Rel Z β h w) {b v sz : Nat} {es es' : List AV} (hb : h[b]? = some (.row v sz es)) {bd : Bd} {c : Nat} {cur : Array Value} {elem : TypeId}
  (hbd : β b v = some bd) (hc : bd.cb = some c) (hcur : w.heap[c]? = some (.cells cur elem (0, 0))) (cur' : List Value) (hsize : cur'.length = cur.size) (hlen : es'.length = es.length)
  (hel : ElemsAt (Own Z β h) w cur'.toArray bd.base sz es') :
  Rel Z β (h.set b (.row v sz es')) (w.setRow c cur'.toArray) ∧ Fr Z β h w β (h.set b (.row v sz es')) (w.setRow c cur'.toArray) := by
 obtain ⟨hsz, bd', e1, e2, e3⟩ := R.blk b _ hb
 rw [hbd] at e1; cases e1
 have hown : owned β h b c := ⟨_, hb, bd, hc, hbd⟩
 rcases e3 with ⟨e3, _⟩ | ⟨c', cur0, elem0, g1, g2, g3, g4, _⟩
 ·rw [hc] at e3; cases e3
 rw [hc] at g1; cases g1
 rw [hcur] at g2; cases g2
 refine R.upd (List.getElem?_eq_some_iff.1 hb).1 rfl rfl rfl (fun _ _ _ => rfl) (fun _ _ e => e) ?_ ?_ (by simp [World.setRow]) (fun b' _ hb' => setRow_other w c b' _ (fun e => hb' (e ▸ hown))) ?_
 ·intro v1 sz1 es1 v2 e hv
  cases e
  exact R.later b v sz es v2 hb hv
 ·rintro c' ⟨bd', q1, q2⟩
  exact .inl ⟨_, hb, bd', q1, q2⟩
 ·intro hst
  exact ⟨hsz, bd, hbd, e2, .inr ⟨c, cur'.toArray, elem, hc, setRow_heap w c cur _ elem (0, 0) hcur, by simp [hsize, g3], by rw [hlen]; exact g4, SrcAt.mono hst hel⟩⟩
theorem Rel.append_there (R : Rel Z β h w) {b v sz : Nat} {es es' : List AV} (hb : h[b]? = some (.row v sz es)) {bd : Bd} {c : Nat} {cur : Array Value} {elem : TypeId}
  (hbd : β b v = some bd) (hc : bd.cb = some c) (hcur : w.heap[c]? = some (.cells cur elem (0, 0))) (cur' : List Value) (hsize : cur'.length = cur.size) (o : Nat)
  (hfit : bd.base + o * sz + es'.length * sz ≤ cur.size) (hel : ElemsAt (Own Z β h) w cur'.toArray (bd.base + o * sz) sz es') :
  ∃ β', Rel Z β' (h.set b (.row (v + 1) sz es')) (w.setRow c cur'.toArray) ∧ Fr Z β h w β' (h.set b (.row (v + 1) sz es')) (w.setRow c cur'.toArray) ∧
   ∀ n cap, n ≤ cap → bd.base + o * sz + cap * sz ≤ cur.size → VR β' (Own Z β' (h.set b (.row (v + 1) sz es'))) (w.setRow c cur'.toArray) (.own b (v + 1) 0 n) (.slice (some ⟨c, bd.base + o * sz, none⟩) n cap) := by
 obtain ⟨hsz, bd', e1, e2, e3⟩ := R.blk b _ hb
 rw [hbd] at e1; cases e1
 have hown : owned β h b c := ⟨_, hb, bd, hc, hbd⟩
 rcases e3 with ⟨e3, _⟩ | ⟨c', cur0, elem0, g1, g2, g3, g4, _⟩
 ·rw [hc] at e3; cases e3
 rw [hc] at g1; cases g1
 rw [hcur] at g2; cases g2
 have hnone : β b (v + 1) = none := R.later b v sz es (v + 1) hb (by omega)
 let bd2 : Bd := ⟨some c, bd.base + o * sz, cur.size, sz⟩
 let β' : Bds := fun i k => if i = b ∧ k = v + 1 then some bd2 else β i k
 have hβb : β' b (v + 1) = some bd2 := by simp [β']
 refine ⟨β', ?_⟩
 have key := R.upd (X' := .row (v + 1) sz es') (β' := β') (w' := w.setRow c cur'.toArray) (List.getElem?_eq_some_iff.1 hb).1 rfl rfl rfl
  (fun j k hj => by simp [β', hj]) (fun k bd0 e => ?_) ?_ ?_ (by simp [World.setRow]) (fun b' _ hb' => setRow_other w c b' _ (fun e => hb' (e ▸ hown))) ?_
 ·refine ⟨key.1, key.2, fun n cap hn hcap => ?_⟩
  refine .own b (v + 1) 0 n bd2 _ cap hβb (.inr ⟨c, rfl, by simp [bd2], hn, ?_⟩)
  simpa [bd2] using hcap
 ·by_cases hk : k = v + 1
  ·subst hk; rw [hnone] at e; cases e
  ·simp [β', hk, e]
 ·intro v1 sz1 es1 v2 e hv
  cases e
  simp only [β']
  rw [if_neg (by omega)]
  exact R.later b v sz es v2 hb (by omega)
 ·rintro c' ⟨bd0, q1, q2⟩
  simp only [hβb] at q2
  cases q2
  simp [bd2] at q1
  subst q1
  exact .inl hown
 ·intro hst
  exact ⟨hsz, bd2, hβb, rfl, .inr ⟨c, cur'.toArray, elem, rfl, setRow_heap w c cur _ elem (0, 0) hcur, by simp [hsize, bd2], by simpa [bd2] using hfit, SrcAt.mono hst hel⟩⟩
theorem Rel.append_new (R : Rel Z β h w) {b v sz : Nat} {es es' : List AV} (hb : h[b]? = some (.row v sz es)) {w' : World} {cur : Array Value} {elem : TypeId}
  (hos : w'.os = w.os) (htape : w'.tape = w.tape) (hout : w'.output = w.output) (hh : w'.heap = w.heap.push (.cells cur elem (0, 0)))
  (hfit : es'.length * sz ≤ cur.size) (hel : ElemsAt (Own Z β h) w cur 0 sz es') :
  ∃ β', Rel Z β' (h.set b (.row (v + 1) sz es')) w' ∧ Fr Z β h w β' (h.set b (.row (v + 1) sz es')) w' ∧
   ∀ n cap, n ≤ cap → cap * sz ≤ cur.size → VR β' (Own Z β' (h.set b (.row (v + 1) sz es'))) w' (.own b (v + 1) 0 n) (.slice (some ⟨w.heap.size, 0, none⟩) n cap) := by
 obtain ⟨hsz, bd, hbd, e2, e3⟩ := R.blk b _ hb
 have hnone : β b (v + 1) = none := R.later b v sz es (v + 1) hb (by omega)
 let bd2 : Bd := ⟨some w.heap.size, 0, cur.size, sz⟩
 let β' : Bds := fun i k => if i = b ∧ k = v + 1 then some bd2 else β i k
 have hβb : β' b (v + 1) = some bd2 := by simp [β']
 have hold : ∀ k, k < w.heap.size → w'.heap[k]? = w.heap[k]? := fun k hk => by rw [hh, Array.getElem?_push, if_neg (by omega)]
 have hnew : w'.heap[w.heap.size]? = some (.cells cur elem (0, 0)) := by rw [hh]; simp
 refine ⟨β', ?_⟩
 have key := R.upd (X' := .row (v + 1) sz es') (β' := β') (w' := w') (List.getElem?_eq_some_iff.1 hb).1 hos htape hout
  (fun j k hj => by simp [β', hj]) (fun k bd0 e => ?_) ?_ ?_ (by rw [hh]; simp) (fun b' hb' _ => hold b' hb') ?_
 ·refine ⟨key.1, key.2, fun n cap hn hcap => ?_⟩
  refine .own b (v + 1) 0 n bd2 _ cap hβb (.inr ⟨w.heap.size, rfl, by simp [bd2], hn, by simpa [bd2] using hcap⟩)
 ·by_cases hk : k = v + 1
  ·subst hk; rw [hnone] at e; cases e
  ·simp [β', hk, e]
 ·intro v1 sz1 es1 v2 e hv
  cases e
  simp only [β']
  rw [if_neg (by omega)]
  exact R.later b v sz es v2 hb (by omega)
 ·rintro c' ⟨bd0, q1, q2⟩
  simp only [hβb] at q2
  cases q2
  simp [bd2] at q1
  exact .inr (by omega)
 ·intro hst
  exact ⟨hsz, bd2, hβb, rfl, .inr ⟨w.heap.size, cur, elem, rfl, hnew, rfl, by simpa [bd2] using hfit, SrcAt.mono hst hel⟩⟩
theorem Rel.append_none (R : Rel Z β h w) {b v sz : Nat} {es : List AV} (hb : h[b]? = some (.row v sz es)) :
  ∃ β', Rel Z β' (h.set b (.row (v + 1) sz [])) w ∧ Fr Z β h w β' (h.set b (.row (v + 1) sz [])) w ∧
   ∀ a, VR β' (Own Z β' (h.set b (.row (v + 1) sz []))) w (.own b (v + 1) 0 0) (.slice a 0 0) := by
 obtain ⟨hsz, bd, hbd, e2, e3⟩ := R.blk b _ hb
 have hnone : β b (v + 1) = none := R.later b v sz es (v + 1) hb (by omega)
 let bd2 : Bd := ⟨none, 0, 0, sz⟩
 let β' : Bds := fun i k => if i = b ∧ k = v + 1 then some bd2 else β i k
 have hβb : β' b (v + 1) = some bd2 := by simp [β']
 refine ⟨β', ?_⟩
 have key := R.upd (X' := .row (v + 1) sz []) (β' := β') (w' := w) (List.getElem?_eq_some_iff.1 hb).1 rfl rfl rfl
  (fun j k hj => by simp [β', hj]) (fun k bd0 e => ?_) ?_ ?_ (Nat.le_refl _) (fun b' _ _ => rfl) ?_
 ·exact ⟨key.1, key.2, fun a => .own b (v + 1) 0 0 bd2 a 0 hβb (.inl ⟨rfl, rfl⟩)⟩
 ·by_cases hk : k = v + 1
  ·subst hk; rw [hnone] at e; cases e
  ·simp [β', hk, e]
 ·intro v1 sz1 es1 v2 e hv
  cases e
  simp only [β']
  rw [if_neg (by omega)]
  exact R.later b v sz es v2 hb (by omega)
 ·rintro c' ⟨bd0, q1, q2⟩
  simp only [hβb] at q2
  cases q2
  simp [bd2] at q1
 ·intro _
  exact ⟨hsz, bd2, hβb, rfl, .inl ⟨rfl, rfl⟩⟩
theorem Rel.freeze (R : Rel Z β h w) {b v sz : Nat} {es : List AV} (hb : h[b]? = some (.row v sz es)) :
  Rel Z β (h.set b (.fro v sz es)) w ∧ Fr Z β h w β (h.set b (.fro v sz es)) w := by
 obtain ⟨hsz, bd, hbd, e2, e3⟩ := R.blk b _ hb
 have hi := (List.getElem?_eq_some_iff.1 hb).1
 refine R.upd hi rfl rfl rfl (fun _ _ _ => rfl) (fun _ _ e => e) (by simp) ?_ (Nat.le_refl _) (fun _ _ _ => rfl) ?_
 ·rintro c ⟨bd', q1, q2⟩
  exact q2.elim
 ·intro hst
  refine ⟨hsz, bd, hbd, e2, ?_⟩
  rcases e3 with e3 | ⟨c, cur, elem, g1, g2, g3, g4, g5⟩
  ·exact .inl e3
  ·refine .inr ⟨c, cur, elem, (0, 0), g1, ?_, g2, g3, g4, SrcAt.mono hst g5⟩
   rintro (hz | ⟨j, X, hX, hj⟩)
   ·exact R.xap b c ⟨_, hb, bd, g1, hbd⟩ hz
   by_cases hjb : j = b
   ·subst hjb
    simp [hi] at hX
    subst hX
    obtain ⟨_, _, q⟩ := hj
    exact q
   ·rw [List.getElem?_set_ne (Ne.symm hjb)] at hX
    exact hjb (R.apart j b c ⟨X, hX, hj⟩ ⟨_, hb, bd, g1, hbd⟩)
theorem lst_of_fro (R : Rel Z β h w) {b v sz : Nat} {es : List AV} (hb : h[b]? = some (.fro v sz es)) {o n : Nat} (hn : o + n ≤ es.length) {u : Value} (hu : VR β (Own Z β h) w (.own b v o n) u) :
  VR β (Own Z β h) w (.lst false ((es.drop o).take n)) u := by
 obtain ⟨bd, ad, c, hbd, rfl, h2⟩ := hu.own_inv
 obtain ⟨hsz, bd', e1, e2, e3⟩ := R.blk b _ hb
 rw [hbd] at e1; cases e1
 have hlen : ((es.drop o).take n).length = n := by simp; omega
 refine .pure _ _ ?_
 rcases h2 with ⟨h2, h2'⟩ | ⟨cb, q1, q2, q3, q4⟩
 ·subst h2' h2
  have hz : (es.drop o).take 0 = [] := by simp
  rw [hz]
  exact .lst false [] ad 0 0 0 0 (fun _ _ => .bool true) (by simp) (by simp) (by simp) (by simp) (by simp) (by simp) (by simp)
 ·by_cases hz : (es.drop o).take n = []
  ·rw [hz] at hlen ⊢
   simp at hlen
   subst hlen
   exact .lst false [] ad c 0 0 0 (fun _ _ => .bool true) (by simp) (by simp) (by simp) (by simp) (by simp) (by simp) (by simp)
  ·rcases e3 with ⟨e3, _⟩ | ⟨c', cur, elem, fr, g1, g1', g2, g3, g4, g5⟩
   ·rw [q1] at e3; cases e3
   ·rw [q1] at g1; cases g1
    subst e2
    have hsrc := row_src (o := o) (n := n) g2 g5
    have := PVR.lst (O := Own Z β h) (w := w) false ((es.drop o).take n) ad c cb (bd.base + o * bd.sz) bd.sz (fun i j => (w.cell? ⟨cb, bd.base + o * bd.sz + (i * bd.sz + j), none⟩).getD Go.undef)
     (by simp) (by rw [hlen]; exact q3) (fun _ => ⟨q2, g1', (Array.getElem?_eq_some_iff.1 g2).1⟩) (fun i x hx => ⟨(hsrc i x hx).1, hsz⟩)
     (fun i x hx j y hy => by obtain ⟨u, k1, _, _⟩ := (hsrc i x hx).2 j y hy; dsimp only at k1; rw [Nat.add_assoc, k1]; rfl)
     (fun i x hx j y hy => by obtain ⟨u, k1, k2, _⟩ := (hsrc i x hx).2 j y hy; dsimp only at k1; simp only [k1, Option.getD_some]; exact k2)
     (fun i x hx j y hy => by obtain ⟨u, k1, _, k3⟩ := (hsrc i x hx).2 j y hy; dsimp only at k1; simp only [k1, Option.getD_some]; exact k3)
    rw [hlen] at this
    exact this
end
end Go.Am

/-
 The abstract machine: rows that are read-only from here on; operations that write no memory.
-/
namespace Go.Am
section
variable {Z : Nat → Prop} {β : Bds} {h : AH} {w : World}
theorem purS_rel (R : Rel Z β h w) {a a' : AV} {h' : AH} (hp : purS h a = some (a', h')) {v : Value} (hv : VR β (Own Z β h) w a v) :
  Rel Z β h' w ∧ Fr Z β h w β h' w ∧ VR β (Own Z β h') w a' v ∧ a'.isS = true := by
 have pure : ∀ {a : AV}, VR β (Own Z β h) w a v → (if a.isS = true then some (a, h) else none) = some (a', h') → Rel Z β h' w ∧ Fr Z β h w β h' w ∧ VR β (Own Z β h') w a' v ∧ a'.isS = true := by
  intro a hv hp
  split at hp
  ·rename_i hs
   cases hp
   exact ⟨R, Fr.refl _ _ _ _, hv, hs⟩
  ·cases hp
 cases a with
 | own b vv o n =>
  simp only [purS] at hp
  split at hp
  ·rename_i v' sz es hes
   split at hp
   ·rename_i hcond
    obtain ⟨rfl, hn⟩ := hcond
    cases hp
    obtain ⟨R', F⟩ := R.freeze hes
    exact ⟨R', F, lst_of_fro R' (sz := sz) (es := es) (by simp [(List.getElem?_eq_some_iff.1 hes).1]) hn (hv.fr F), rfl⟩
   ·cases hp
  ·rename_i v' sz es hes
   split at hp
   ·rename_i hcond
    obtain ⟨rfl, hn⟩ := hcond
    cases hp
    exact ⟨R, Fr.refl _ _ _ _, lst_of_fro R hes hn hv, rfl⟩
   ·cases hp
  ·cases hp
 | _ => exact pure hv hp
theorem purL_rel : ∀ (cs : List AV) {h : AH} (_ : Rel Z β h w) {cs' : List AV} {h' : AH} (_ : purL h cs = some (cs', h')) {vs : List Value} (_ : cs.length = vs.length)
  (_ : ∀ (j : Nat) (y : AV) (u : Value), cs[j]? = some y → vs[j]? = some u → VR β (Own Z β h) w y u),
  Rel Z β h' w ∧ Fr Z β h w β h' w ∧ cs'.length = vs.length ∧ (∀ (j : Nat) (y : AV) (u : Value), cs'[j]? = some y → vs[j]? = some u → VR β (Own Z β h') w y u) ∧ ∀ y ∈ cs', y.isS = true
 | [], h, R, cs', h', hp, vs, hl, _ => by
  simp only [purL] at hp
  cases hp
  exact ⟨R, Fr.refl _ _ _ _, hl, fun j y u hy => by simp at hy, by simp⟩
 | a :: cs, h, R, cs', h', hp, vs, hl, hv => by
  simp only [purL, Option.bind_eq_some_iff] at hp
  obtain ⟨⟨a1, h1⟩, hp1, ⟨l2, h2⟩, hp2, hp3⟩ := hp
  cases hp3
  cases vs with
  | nil => simp at hl
  | cons v vs =>
   obtain ⟨R1, F1, V1, S1⟩ := purS_rel R hp1 (hv 0 a v rfl rfl)
   obtain ⟨R2, F2, L2, V2, S2⟩ := purL_rel cs R1 hp2 (vs := vs) (by simpa using hl) (fun j y u hy hu => (hv (j + 1) y u (by simpa using hy) (by simpa using hu)).fr F1)
   refine ⟨R2, F1.trans F2, by simp [L2], fun j y u hy hu => ?_, fun y hy => ?_⟩
   ·cases j with
    | zero => simp at hy hu; subst hy hu; exact V1.fr F2
    | succ j => exact V2 j y u (by simpa using hy) (by simpa using hu)
   ·rcases List.mem_cons.1 hy with rfl | hy
    ·exact S1
    ·exact S2 y hy
theorem purE_rel (R : Rel Z β h w) {a a' : AV} {h' : AH} (hp : purE h a = some (a', h')) {v : Value} (hv : VR β (Own Z β h) w a v) :
  Rel Z β h' w ∧ Fr Z β h w β h' w ∧ VR β (Own Z β h') w a' v ∧ a'.isE = true := by
 unfold purE at hp
 split at hp
 ·rename_i hE
  cases hp
  exact ⟨R, Fr.refl _ _ _ _, hv, hE⟩
 ·split at hp
  ·rename_i cs _
   simp only [Option.bind_eq_some_iff] at hp
   obtain ⟨⟨cs', h2⟩, hp1, hp2⟩ := hp
   cases hp2
   obtain ⟨vs, rfl, hl, h1, h2'⟩ := hv.agg_inv
   obtain ⟨R2, F2, L2, V2, S2⟩ := purL_rel cs R hp1 hl h2'
   exact ⟨R2, F2, .agg cs' vs L2 h1 V2, by simpa [AV.isE] using S2⟩
  ·obtain ⟨R2, F2, V2, S2⟩ := purS_rel R hp hv
   refine ⟨R2, F2, V2, ?_⟩
   cases a' <;> simp_all [AV.isS, AV.isE]
theorem purEs_rel : ∀ (cs : List AV) {h : AH} (_ : Rel Z β h w) {cs' : List AV} {h' : AH} (_ : purEs h cs = some (cs', h')) {vs : List Value} (_ : cs.length = vs.length)
  (_ : ∀ (j : Nat) (y : AV) (u : Value), cs[j]? = some y → vs[j]? = some u → VR β (Own Z β h) w y u),
  Rel Z β h' w ∧ Fr Z β h w β h' w ∧ cs'.length = vs.length ∧ (∀ (j : Nat) (y : AV) (u : Value), cs'[j]? = some y → vs[j]? = some u → VR β (Own Z β h') w y u) ∧ ∀ y ∈ cs', y.isE = true
 | [], h, R, cs', h', hp, vs, hl, _ => by
  simp only [purEs] at hp
  cases hp
  exact ⟨R, Fr.refl _ _ _ _, hl, fun j y u hy => by simp at hy, by simp⟩
 | a :: cs, h, R, cs', h', hp, vs, hl, hv => by
  simp only [purEs, Option.bind_eq_some_iff] at hp
  obtain ⟨⟨a1, h1⟩, hp1, ⟨l2, h2⟩, hp2, hp3⟩ := hp
  cases hp3
  cases vs with
  | nil => simp at hl
  | cons v vs =>
   obtain ⟨R1, F1, V1, S1⟩ := purE_rel R hp1 (hv 0 a v rfl rfl)
   obtain ⟨R2, F2, L2, V2, S2⟩ := purEs_rel cs R1 hp2 (vs := vs) (by simpa using hl) (fun j y u hy hu => (hv (j + 1) y u (by simpa using hy) (by simpa using hu)).fr F1)
   refine ⟨R2, F1.trans F2, by simp [L2], fun j y u hy hu => ?_, fun y hy => ?_⟩
   ·cases j with
    | zero => simp at hy hu; subst hy hu; exact V1.fr F2
    | succ j => exact V2 j y u (by simpa using hy) (by simpa using hu)
   ·rcases List.mem_cons.1 hy with rfl | hy
    ·exact S1
    ·exact S2 y hy
theorem purP_rel (R : Rel Z β h w) {a a' : AV} {h' : AH} (hp : purP h a = some (a', h')) {v : Value} (hv : VR β (Own Z β h) w a v) :
  Rel Z β h' w ∧ Fr Z β h w β h' w ∧ VR β (Own Z β h') w a' v ∧ a'.isP = true := by
 unfold purP at hp
 split at hp
 ·rename_i hE
  cases hp
  exact ⟨R, Fr.refl _ _ _ _, hv, hE⟩
 ·split at hp
  ·rename_i cs _
   simp only [Option.bind_eq_some_iff] at hp
   obtain ⟨⟨cs', h2⟩, hp1, hp2⟩ := hp
   cases hp2
   obtain ⟨vs, rfl, hl, h2'⟩ := hv.tup_inv
   obtain ⟨R2, F2, L2, V2, S2⟩ := purEs_rel cs R hp1 hl h2'
   exact ⟨R2, F2, .tup cs' vs L2 V2, by simpa [AV.isP] using S2⟩
  ·obtain ⟨R2, F2, V2, S2⟩ := purE_rel R hp hv
   refine ⟨R2, F2, V2, ?_⟩
   cases a' <;> simp_all [AV.isP, AV.isE, AV.isS]
end
/-! ### Operations -/
def Makes (P : Program) (Z : Nat → Prop) (β : Bds) (h : AH) (w : World) (s : Sem Value) (av : AV) (h' : AH) : Prop :=
 ∃ v w' β', s.run P w = .ok v w' ∧ Rel Z β' h' w' ∧ Fr Z β h w β' h' w' ∧ VR β' (Own Z β' h') w' av v
section
variable {P : Program} {Z : Nat → Prop} {β : Bds} {h : AH} {w : World}
theorem Makes.of (R : Rel Z β h w) {s : Sem Value} {av : AV} {v : Value} (hr : s.run P w = .ok v w) (hv : VR β (Own Z β h) w av v) : Makes P Z β h w s av h :=
 ⟨v, w, β, hr, R, Fr.refl _ _ _ _, hv⟩
theorem VR.of_int {O : Nat → Prop} (k : IntKind) (n : Int) : VR β O w (.int k n) (.int k n) := .pure _ _ (.int k n)
theorem VR.of_bool {O : Nat → Prop} (b : Bool) : VR β O w (.bool b) (.bool b) := .pure _ _ (.bool b)
theorem VR.of_str {O : Nat → Prop} {b : ByteArray} {s : List UInt8} (hb : b.data.toList = s) : VR β O w (.str s) (.string b) := by subst hb; exact .pure _ _ (.str b)
theorem toList_data (b : ByteArray) : b.toList = b.data.toList := ByteArray.toList_eq b
theorem sLess_eq : ∀ x y : List UInt8, Op.bytesLess x y = sLess x y
 | _, [] => by simp [Op.bytesLess, sLess]
 | [], _ :: _ => rfl
 | a :: x, b :: y => by simp only [Op.bytesLess, sLess, sLess_eq x y]
theorem strBin_rel (R : Rel Z β h w) {x y : List UInt8} {op : BinOp} {av : AV} (hx : strBin x y op = some av) {a b : ByteArray} (ha : a.data.toList = x) (hb : b.data.toList = y) :
  Makes P Z β h w (Op.stringOp op a b) av h := by
 have e1 : a.toList = x := (toList_data a).trans ha
 have e2 : b.toList = y := (toList_data b).trans hb
 have hab : (a ++ b).data.toList = x ++ y := by rw [ByteArray.data_append, Array.toList_append, ha, hb]
 have ea : a.size = x.length := by rw [← ha]; rfl
 have eb : b.size = y.length := by rw [← hb]; rfl
 have hbeq : (x == y) = decide (x = y) := by rw [Bool.eq_iff_iff]; simp
 cases op <;> simp only [strBin] at hx <;> try (cases hx; done)
 case add =>
  split at hx
  ·rename_i hl
   cases hx
   refine Makes.of R (v := .string (a ++ b)) ?_ (.of_str hab)
   have : ¬ ((a.size + b.size : Nat) : Int) > IntKind.i64.max := by
    have : IntKind.i64.max = 9223372036854775807 := by rfl
    rw [this, ea, eb]; omega
   simp only [Op.stringOp, this, if_false, Sem.run_pure]
  ·cases hx
 all_goals
  cases hx
  refine Makes.of R (v := .bool _) ?_ (.of_bool _)
  simp only [Op.stringOp, Sem.run_pure, e1, e2, sLess_eq, hbeq]
theorem intBin_rel (R : Rel Z β h w) {k : IntKind} {x y : Int} {op : BinOp} {av : AV} (hx : intBin k x y op = some av) (t : TypeId) :
  Makes P Z β h w (binOp op t (.int k x) (.int k y)) av h := by
 have hbeq : (x == y) = decide (x = y) := by rw [Bool.eq_iff_iff]; simp
 cases op <;> simp only [intBin] at hx <;> try (cases hx; done)
 case quo =>
  split at hx
  ·cases hx
  ·rename_i hy
   cases hx
   exact Makes.of R (v := .int k _) (by simp [binOp, Op.intDiv, hy]) (.of_int _ _)
 case rem =>
  split at hx
  ·cases hx
  ·rename_i hy
   cases hx
   exact Makes.of R (v := .int k _) (by simp [binOp, Op.intDiv, hy]) (.of_int _ _)
 all_goals
  cases hx
  first
   | exact Makes.of R (v := .int k _) (by simp [binOp, Op.intArith, Op.intBits]; done) (.of_int _ _)
   | exact Makes.of R (v := .bool _) (by simp [binOp, Op.intCmp, hbeq, bne]; done) (.of_bool _)
theorem bin_rel (R : Rel Z β h w) {op : BinOp} {x y av : AV} (hx : bin op x y = some av) {a b : Value} (ha : VR β (Own Z β h) w x a) (hb : VR β (Own Z β h) w y b) (t : TypeId) :
  Makes P Z β h w (binOp op t a b) av h ∧ ∀ ox oy, (eqGuard op t ox oy a b).run P w = .ok () w := by
 cases x with
 | int k x =>
  cases y with
  | int k' y =>
   have := ha.int_inv; subst this
   have := hb.int_inv; subst this
   have hg : ∀ ox oy, (eqGuard op t ox oy (.int k x) (.int k' y)).run P w = .ok () w := by
    intro ox oy
    cases op <;> simp [eqGuard]
   refine ⟨?_, hg⟩
   simp only [bin] at hx
   cases op
   case shl =>
    dsimp only at hx
    split at hx
    ·cases hx
    ·rename_i hy
     cases hx
     exact Makes.of R (v := .int k _) (by simp [binOp, Op.shift, hy]) (.of_int _ _)
   case shr =>
    dsimp only at hx
    split at hx
    ·cases hx
    ·rename_i hy
     cases hx
     exact Makes.of R (v := .int k _) (by simp [binOp, Op.shift, hy]) (.of_int _ _)
   all_goals
    dsimp only at hx
    split at hx
    ·rename_i hk
     subst hk
     exact intBin_rel R hx t
    ·cases hx
  | _ => simp [bin] at hx
 | str x =>
  cases y with
  | str y =>
   obtain ⟨a', rfl, ha'⟩ := ha.str_inv
   obtain ⟨b', rfl, hb'⟩ := hb.str_inv
   refine ⟨?_, fun ox oy => by cases op <;> simp [eqGuard]⟩
   have : binOp op t (.string a') (.string b') = Op.stringOp op a' b' := by cases op <;> rfl
   rw [this]
   exact strBin_rel R hx ha' hb'
  | _ => simp [bin] at hx
 | _ => simp [bin] at hx
theorem un_rel (R : Rel Z β h w) {op : UnOp} {x av : AV} (hx : un op x = some av) {a : Value} (ha : VR β (Own Z β h) w x a) : Makes P Z β h w (Op.unary op a) av h := by
 cases x with
 | bool b =>
  have := ha.bool_inv; subst this
  cases op <;> simp [un] at hx
  subst hx
  exact Makes.of R (v := .bool (!b)) (by simp [Op.unary]) (.of_bool _)
 | int k n =>
  have := ha.int_inv; subst this
  cases op <;> simp [un] at hx
  subst hx
  exact Makes.of R (v := .int k _) (by simp [Op.unary, Op.intArith]) (.of_int _ _)
 | _ => simp [un] at hx
end
end Go.Am

/-
 The abstract machine: operations that read and write memory.
-/
namespace Go.Am
theorem addr_add (b o j : Nat) : (⟨b, o, none⟩ : Addr).add j = ⟨b, o + j, none⟩ := by
 unfold Addr.add
 split
 ·rename_i hj; subst hj; rfl
 ·rfl
theorem list_of {p : Nat → Value → Prop} (n : Nat) (hp : ∀ j, j < n → ∃ u, p j u) : ∃ vs : List Value, vs.length = n ∧ ∀ (j : Nat) (u : Value), vs[j]? = some u → p j u := by
 induction n with
 | zero => exact ⟨[], rfl, fun j u hu => by simp at hu⟩
 | succ n ih =>
  obtain ⟨vs, hl, hv⟩ := ih fun j hj => hp j (by omega)
  obtain ⟨u, hu⟩ := hp n (by omega)
  refine ⟨vs ++ [u], by simp [hl], fun j x hx => ?_⟩
  by_cases hj : j < n
  ·rw [List.getElem?_append_left (by omega)] at hx
   exact hv j x hx
  ·rw [List.getElem?_append_right (by omega)] at hx
   have : j - vs.length = 0 := by
    have := (List.getElem?_eq_some_iff.1 hx).1
    simp at this; omega
   rw [this] at hx
   simp at hx
   have : j = n := by omega
   subst this; subst hx; exact hu
/-! ### Types -/
def sizeIs (P : Program) (t : TypeId) (sz : Nat) : Bool := match P.info? t with | some i => i.size == sz | none => false
def bytesIs (P : Program) (t : TypeId) (n : Nat) : Bool := match P.info? t with | some i => i.bytes == n | none => false
def aggIs (P : Program) (t : TypeId) (agg : Bool) : Bool :=
 match P.underlying t with
 | some (.struct _) => agg
 | some (.array _ _) => agg
 | some _ => !agg
 | none => false
def eqS : Value → AV → Bool
 | .bool b, .bool b' => b == b'
 | .int k n, .int k' n' => decide (k = k') && decide (n = n')
 | .string s, .str l => decide (s.data.toList = l)
 | .pointer none, .nilp => true
 | .map none, .nilm => true
 | .slice none 0 0, .lst true [] => true
 | .nilFunc, .nilf => true
 | .nilIface, .nili => true
 | _, _ => false
def eqCs : List Value → List AV → Bool
 | [], [] => true
 | v :: vs, a :: as => eqS v a && eqCs vs as
 | _, _ => false
def eqV : Value → AV → Bool
 | .agg cs, .agg l => eqCs cs.toList l
 | v, a => eqS v a
def zeroIs (P : Program) (t : TypeId) (cs : List AV) : Bool := match P.info? t with
 | some i => match i.zero with
  | some z => eqCs z.cells.toList cs
  | none => false
 | none => false
def zeroV (P : Program) (t : TypeId) (a : AV) : Bool := match P.info? t with
 | some i => match i.zero with
  | some z => eqV z a
  | none => false
 | none => false
theorem eqS_rel {O : Nat → Prop} {w : World} {v : Value} {a : AV} (he : eqS v a = true) : PVR O w a v ∧ v.oneCell' = true ∧ a.isS = true := by
 unfold eqS at he
 split at he
 ·simp at he; subst he; exact ⟨.bool _, rfl, rfl⟩
 ·simp at he; obtain ⟨rfl, rfl⟩ := he; exact ⟨.int _ _, rfl, rfl⟩
 ·simp at he; subst he; exact ⟨.str _, rfl, rfl⟩
 ·exact ⟨.nilp, rfl, rfl⟩
 ·exact ⟨.nilm, rfl, rfl⟩
 ·exact ⟨.lst true [] none 0 0 0 0 (fun _ _ => .bool true) (by simp) (by simp) (by simp) (by simp) (by simp) (by simp) (by simp), rfl, rfl⟩
 ·exact ⟨.nilf, rfl, rfl⟩
 ·exact ⟨.nili, rfl, rfl⟩
 ·cases he
theorem eqCs_rel {O : Nat → Prop} {w : World} : ∀ {vs : List Value} {as : List AV}, eqCs vs as = true →
  as.length = vs.length ∧ (∀ u ∈ vs, u.oneCell' = true) ∧ (∀ (j : Nat) (y : AV) (u : Value), as[j]? = some y → vs[j]? = some u → PVR O w y u) ∧ as.all AV.isS = true
 | [], [], _ => ⟨rfl, by simp, by simp, rfl⟩
 | v :: vs, a :: as, he => by
  simp only [eqCs, Bool.and_eq_true] at he
  obtain ⟨e1, e2⟩ := he
  obtain ⟨p1, p2, p3⟩ := eqS_rel (O := O) (w := w) e1
  obtain ⟨q1, q2, q3, q4⟩ := eqCs_rel (O := O) (w := w) e2
  refine ⟨by simp [q1], ?_, fun j y u hy hu => ?_, by simp [p3]; simpa using q4⟩
  ·intro u hu
   rcases List.mem_cons.1 hu with rfl | hu
   ·exact p2
   ·exact q2 u hu
  ·cases j with
   | zero => simp at hy hu; subst hy hu; exact p1
   | succ j => exact q3 j y u (by simpa using hy) (by simpa using hu)
 | [], _ :: _, he => by simp [eqCs] at he
 | _ :: _, [], he => by simp [eqCs] at he
theorem eqV_rel {O : Nat → Prop} {w : World} {v : Value} {a : AV} (he : eqV v a = true) : PVR O w a v ∧ a.isE = true := by
 unfold eqV at he
 split at he
 ·rename_i cs l
  obtain ⟨q1, q2, q3, q4⟩ := eqCs_rel (O := O) (w := w) he
  refine ⟨.agg l cs.toList q1 q2 q3, by simpa [AV.isE] using q4⟩
 ·obtain ⟨p1, p2, p3⟩ := eqS_rel (O := O) (w := w) he
  refine ⟨p1, ?_⟩
  cases a <;> simp_all [AV.isS, AV.isE]
section
variable {P : Program} {Z : Nat → Prop} {β : Bds} {h : AH} {w : World}
theorem run_sizeOf' {t : TypeId} {sz : Nat} (hs : sizeIs P t sz = true) (w : World) : (sizeOf t).run P w = .ok sz w := by
 unfold sizeIs at hs
 split at hs
 ·rename_i i hi
  simp at hs
  simp [sizeOf, typeInfo, hi, hs]
 ·cases hs
theorem run_isAgg {t : TypeId} {agg : Bool} (ha : aggIs P t agg = true) (w : World) : (isAgg t).run P w = .ok agg w := by
 unfold aggIs at ha
 unfold isAgg
 split at ha
 ·rename_i f hf; simp [run_underlying hf, ha]
 ·rename_i n e hf; simp [run_underlying hf, ha]
 ·rename_i d h1 h2 hf
  simp only [Sem.run_bind, run_underlying hf, Result.andThen_ok]
  cases d <;> simp_all
 ·cases ha
theorem load_same (R : Rel Z β h w) {a : AV} {cs : List AV} (hc : cellsAt h a = some cs) {sz : Nat} {agg : Bool} {av : AV} (hs : shape sz agg cs = some av) {v : Value} (hv : VR β (Own Z β h) w a v)
  {t : TypeId} (hsz : sizeIs P t sz = true) (hag : aggIs P t agg = true) : ∃ u, (Instr.loadAt t v).run P w = .ok u w ∧ VR β (Own Z β h) w av u := by
 obtain ⟨blk, o, rfl, hcell⟩ := cellsAt_rel R hc hv
 unfold shape at hs
 split at hs
 ·cases hs
 ·rename_i hlen
  have hl : sz ≤ cs.length := by omega
  split at hs
  ·rename_i hagg
   cases hs
   obtain ⟨vs, hvl, hvs⟩ := list_of (p := fun j u => w.cell? ⟨blk, o + j, none⟩ = some u ∧ u.oneCell' = true ∧ VR β (Own Z β h) w (cs.getD j .dead) u) sz (fun j hj => by
    obtain ⟨u, h1, h2, h3⟩ := hcell j cs[j] (by simp [show j < cs.length by omega])
    exact ⟨u, h1, h2, by simpa [show j < cs.length by omega] using h3⟩)
   refine ⟨.agg vs.toArray, ?_, .agg _ vs (by simp [hvl]; omega) ?_ ?_⟩
   ·have hload := run_loadCells_list (P := P) w ⟨blk, o, none⟩ vs (fun j u hu => by rw [addr_add]; exact (hvs j u hu).1)
    rw [hvl] at hload
    subst hagg
    simp only [Instr.loadAt, Instr.sureAddr, loadVar, Sem.run_bind, Sem.run_pure, Result.andThen_ok, run_isAgg hag, if_true, run_sizeOf' hsz, hload]
   ·intro u hu
    obtain ⟨j, hj, rfl⟩ := List.getElem_of_mem hu
    exact (hvs j _ (by simp [hj])).2.1
   ·intro j y u hy hu
    obtain ⟨_, _, h3⟩ := hvs j u hu
    rw [List.getElem?_take] at hy
    split at hy
    ·simpa [List.getD, hy] using h3
    ·cases hy
  ·rename_i hagg
   split at hs
   ·rename_i hsz1
    obtain ⟨u, h1, h2, h3⟩ := hcell 0 av (by simpa [List.head?_eq_getElem?] using hs)
    refine ⟨u, ?_, h3⟩
    have hagg' : agg = false := by simpa using hagg
    subst hagg'
    simp only [Nat.add_zero] at h1
    simp only [Instr.loadAt, Instr.sureAddr, loadVar, Sem.run_bind, Sem.run_pure, Result.andThen_ok, run_isAgg hag, Bool.false_eq_true, if_false, run_load, h1]
   ·cases hs
theorem load_rel (R : Rel Z β h w) {a : AV} {cs : List AV} (hc : cellsAt h a = some cs) {sz : Nat} {agg : Bool} {av : AV} (hs : shape sz agg cs = some av) {v : Value} (hv : VR β (Own Z β h) w a v)
  {t : TypeId} (hsz : sizeIs P t sz = true) (hag : aggIs P t agg = true) : Makes P Z β h w (Instr.loadAt t v) av h := by
 obtain ⟨u, h1, h2⟩ := load_same (P := P) R hc hs hv hsz hag
 exact Makes.of R h1 h2
theorem withCells_cells {e : AV} {o : Nat} {xs : List AV} (hs : xs.all AV.isS = true) (hfit : o + xs.length ≤ e.cells.length) : (e.withCells (over e.cells o xs)).cells = over e.cells o xs := by
 by_cases hag : ∃ cs, e = .agg cs
 ·obtain ⟨cs, rfl⟩ := hag; rfl
 ·have hc : e.cells = [e] := by cases e <;> first | rfl | (exact absurd ⟨_, rfl⟩ hag)
  have hw : ∀ l, e.withCells l = l.headD .dead := by intro l; cases e <;> first | rfl | (exact absurd ⟨_, rfl⟩ hag)
  rw [hw, hc]
  rw [hc] at hfit
  cases xs with
  | nil =>
   have : over [e] o [] = [e] := by simp [over]
   rw [this]; simpa using hc
  | cons x xs =>
   simp at hfit
   have h0 : o = 0 := by omega
   have hx : xs = [] := List.eq_nil_of_length_eq_zero (by omega)
   subst h0 hx
   have : over [e] 0 [x] = [x] := by simp [over]
   rw [this]
   simp at hs ⊢
   cases x <;> first | rfl | (simp [AV.isS] at hs; done)
theorem store_rel (R : Rel Z β h w) {a x : AV} {sz : Nat} {h' : AH} (hs : storeAt h sz a x = some h') {v u : Value} (hv : VR β (Own Z β h) w a v) (hu : VR β (Own Z β h) w x u)
  {t : TypeId} (hsz : sizeIs P t sz = true) : ∃ w', (Instr.storeAt t v u).run P w = .ok () w' ∧ Rel Z β h' w' ∧ Fr Z β h w β h' w' := by
 cases a with
 | ptr b vv i o =>
  obtain ⟨bd, c, hbd, hcb, rfl⟩ := hv.ptr_inv
  simp only [storeAt] at hs
  split at hs
  ·rename_i cs hcs
   split at hs
   ·rename_i hcond
    obtain ⟨rfl, rfl, hok, hlen, hfit⟩ := hcond
    cases hs
    obtain ⟨us, e1, e2, e3, e4⟩ := hu.cells hok
    obtain ⟨c', cur, elem, g1, g2, g3, g4, g5⟩ := R.write_var hcs o x.cells us e2 (by omega) e3 e4
    rw [hbd] at g1; cases g1
    cases hcb
    refine ⟨_, ?_, g4, g5⟩
    have hst := run_storeCells_at P c o elem us 0 cur w g2 (by omega) e3
    simp only [Nat.add_zero] at hst
    have hsz2 : u.cells.size = sz := by rw [e1]; simp; omega
    simp only [Instr.storeAt, Instr.sureAddr, storeVar, Sem.run_bind, Sem.run_pure, Result.andThen_ok, run_sizeOf' hsz, hsz2, ne_eq, not_true_eq_false, if_false, Sem.run_ite]
    rw [e1]
    simpa [over] using hst
   ·cases hs
  ·simp only [Option.bind_eq_some_iff] at hs
   obtain ⟨⟨x', h1⟩, hp, hs⟩ := hs
   obtain ⟨R1, F1, V1, S1⟩ := purE_rel R hp hu
   dsimp only at hs
   split at hs
   ·rename_i v' sz' es hes
    simp only [Option.bind_eq_some_iff] at hs
    obtain ⟨e, he, hs⟩ := hs
    split at hs
    ·rename_i hcond
     obtain ⟨rfl, hok, hlen, hfit⟩ := hcond
     cases hs
     obtain ⟨us, e1, e2, e3, e4⟩ := V1.cells (by
      rw [List.all_eq_true] at hok ⊢
      exact fun y hy => okc_of_isS (hok y hy))
     obtain ⟨hsz0, bd', q1, q2, q3⟩ := R1.blk b _ hes
     rw [hbd] at q1; cases q1
     rcases q3 with ⟨q3, _⟩ | ⟨c', cur, elem, g1, g2, g3, g4, g5⟩
     ·rw [hcb] at q3; cases q3
     rw [hcb] at g1; cases g1
     subst q2
     have hi : i < es.length := (List.getElem?_eq_some_iff.1 he).1
     have hel := (g5 i e he).1
     have hplace : bd.base + i * bd.sz + bd.sz ≤ cur.size := by
      have : (i + 1) * bd.sz ≤ es.length * bd.sz := Nat.mul_le_mul_right _ hi
      rw [Nat.add_mul] at this
      omega
     have hover : bd.base + i * bd.sz + o + us.length ≤ cur.toList.length := by simp; omega
     obtain ⟨W1, W2⟩ := R1.write_row hes hbd hcb g2 (over cur.toList (bd.base + i * bd.sz + o) us) (by simp [over_length _ _ _ hover]) (es' := es.set i (e.withCells (over e.cells o x'.cells))) (by simp) (by
      intro i1 x1 hx1
      by_cases hi1 : i1 = i
      ·subst hi1
       rw [List.getElem?_set_self hi] at hx1
       cases hx1
       have hwc := withCells_cells (e := e) hok (by omega : o + x'.cells.length ≤ e.cells.length)
       rw [hwc]
       refine ⟨by rw [over_length _ _ _ (by omega)]; exact hel, fun j y hy => ?_⟩
       rw [over_get _ _ _ (by omega)] at hy
       simp only [List.getElem?_toArray]
       rw [over_get _ _ _ hover]
       by_cases hj : o ≤ j ∧ j < o + x'.cells.length
       ·rw [if_pos hj] at hy
        rw [if_pos (by omega)]
        have ej : bd.base + (i1 * bd.sz + j) - (bd.base + i1 * bd.sz + o) = j - o := by omega
        rw [ej]
        have hlt : j - o < us.length := by omega
        refine ⟨us[j - o], by simp [hlt], e3 _ (List.getElem_mem hlt), (e4 (j - o) y us[j - o] hy (by simp [hlt])).pureS ?_⟩
        exact List.all_eq_true.1 hok y (List.mem_of_getElem? hy)
       ·rw [if_neg hj] at hy
        rw [if_neg (by omega)]
        obtain ⟨u', k1, k2, k3⟩ := (g5 i1 e he).2 j y hy
        exact ⟨u', by simpa using k1, k2, k3⟩
      ·rw [List.getElem?_set_ne (Ne.symm hi1)] at hx1
       obtain ⟨k0, k⟩ := g5 i1 x1 hx1
       refine ⟨k0, fun j y hy => ?_⟩
       obtain ⟨u', k1, k2, k3⟩ := k j y hy
       have hj : j < bd.sz := by rw [← k0]; exact (List.getElem?_eq_some_iff.1 hy).1
       refine ⟨u', ?_, k2, k3⟩
       simp only [List.getElem?_toArray]
       rw [over_get _ _ _ hover, if_neg]
       ·simpa using k1
       ·rintro ⟨m1, m2⟩
        have hb2 := block_ne (j' := bd.base + (i1 * bd.sz + j) - (bd.base + i * bd.sz)) hi1 hj (by omega)
        omega)
     refine ⟨_, ?_, W1, F1.trans W2⟩
     have hst := run_storeCells_at P c (bd.base + i * bd.sz + o) elem us 0 cur w g2 (by simpa using hover) e3
     simp only [Nat.add_zero] at hst
     have hsz2 : u.cells.size = sz := by rw [e1]; simp; omega
     simp only [Instr.storeAt, Instr.sureAddr, storeVar, Sem.run_bind, Sem.run_pure, Result.andThen_ok, run_sizeOf' hsz, hsz2, ne_eq, not_true_eq_false, if_false, Sem.run_ite]
     rw [e1]
     simpa [over] using hst
    ·cases hs
   ·cases hs
  ·cases hs
 | _ => simp [storeAt] at hs
end
end Go.Am
