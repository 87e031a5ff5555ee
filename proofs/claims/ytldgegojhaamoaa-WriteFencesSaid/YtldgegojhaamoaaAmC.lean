/-
  The abstract machine and the model's memory: what it means that a value stands for another one, and rows for blocks.
-/
import Derived.Test.YtldgegojhaamoaaAmB
import Derived.Laws.AppendOwn
import Derived.Laws.CopyRow
import Derived.Laws.StructEq
import Derived.Laws.MakeOwn
set_option linter.unusedSimpArgs false
set_option linter.unusedVariables false
namespace Go.Am

theorem okc_of_isS {a : AV} (h : a.isS = true) : a.okc = true := by cases a <;> simp_all [AV.isS, AV.okc]

/-- Values without handles: what they stand for, in memory that is not in O. -/
inductive PVR (O : Nat → Prop) (w : World) : AV → Value → Prop where
  | bool (b : Bool) : PVR O w (.bool b) (.bool b)
  | int (k : IntKind) (n : Int) : PVR O w (.int k n) (.int k n)
  | str (s : ByteArray) : PVR O w (.str s.data.toList) (.string s)
  | nilp : PVR O w .nilp (.pointer none)
  | nilf : PVR O w .nilf .nilFunc
  | nili : PVR O w .nili .nilIface
  | lst (full : Bool) (es : List AV) (a : Option Addr) (c blk o sz : Nat) (f : Nat → Nat → Value)
      (hf : full = true → c = es.length) (hc : es.length ≤ c)
      (ha : es ≠ [] → a = some ⟨blk, o, none⟩ ∧ ¬ O blk ∧ blk < w.heap.size)
      (hs : ∀ (i : Nat) (x : AV), es[i]? = some x → x.cells.length = sz ∧ 0 < sz)
      (h1 : ∀ (i : Nat) (x : AV), es[i]? = some x → ∀ (j : Nat) (y : AV), x.cells[j]? = some y → w.cell? ⟨blk, o + i * sz + j, none⟩ = some (f i j))
      (h3 : ∀ (i : Nat) (x : AV), es[i]? = some x → ∀ (j : Nat) (y : AV), x.cells[j]? = some y → (f i j).oneCell' = true)
      (h2 : ∀ (i : Nat) (x : AV), es[i]? = some x → ∀ (j : Nat) (y : AV), x.cells[j]? = some y → PVR O w y (f i j)) : PVR O w (.lst full es) (.slice a es.length c)
  | agg (cs : List AV) (vs : List Value) (hl : cs.length = vs.length) (h1 : ∀ v ∈ vs, v.oneCell' = true)
      (h2 : ∀ (j : Nat) (y : AV) (v : Value), cs[j]? = some y → vs[j]? = some v → PVR O w y v) : PVR O w (.agg cs) (.agg vs.toArray)

/-- Where a row lies: its block (none: it has no room yet), the first cell, the block's cells, an element's cells. -/
structure Bd where
  cb : Option Nat
  base : Nat
  csz : Nat
  sz : Nat

abbrev Bds := Nat → Nat → Option Bd

/-- Values, handles among them. -/
inductive VR (β : Bds) (O : Nat → Prop) (w : World) : AV → Value → Prop where
  | pure (a : AV) (v : Value) (h : PVR O w a v) : VR β O w a v
  | dead (v : Value) : VR β O w .dead v
  | undef : VR β O w .undef Go.undef
  | ptr (b v i o : Nat) (bd : Bd) (c : Nat) (h1 : β b v = some bd) (h2 : bd.cb = some c) : VR β O w (.ptr b v i o) (.pointer (some ⟨c, bd.base + i * bd.sz + o, none⟩))
  | rptr (cs : List AV) (blk o : Nat) (f : Nat → Value) (hO : ¬ O blk) (hw : blk < w.heap.size)
      (h1 : ∀ (j : Nat) (y : AV), cs[j]? = some y → w.cell? ⟨blk, o + j, none⟩ = some (f j)) (h3 : ∀ (j : Nat) (y : AV), cs[j]? = some y → (f j).oneCell' = true)
      (h2 : ∀ (j : Nat) (y : AV), cs[j]? = some y → PVR O w y (f j)) : VR β O w (.rptr cs) (.pointer (some ⟨blk, o, none⟩))
  | own (b v o n : Nat) (bd : Bd) (a : Option Addr) (c : Nat) (h1 : β b v = some bd)
      (h2 : (c = 0 ∧ n = 0) ∨ ∃ cb, bd.cb = some cb ∧ a = some ⟨cb, bd.base + o * bd.sz, none⟩ ∧ n ≤ c ∧ bd.base + (o + c) * bd.sz ≤ bd.csz) : VR β O w (.own b v o n) (.slice a n c)
  | agg (cs : List AV) (vs : List Value) (hl : cs.length = vs.length) (h1 : ∀ v ∈ vs, v.oneCell' = true)
      (h2 : ∀ (j : Nat) (y : AV) (v : Value), cs[j]? = some y → vs[j]? = some v → VR β O w y v) : VR β O w (.agg cs) (.agg vs.toArray)
  | tup (cs : List AV) (vs : List Value) (hl : cs.length = vs.length)
      (h2 : ∀ (j : Nat) (y : AV) (v : Value), cs[j]? = some y → vs[j]? = some v → VR β O w y v) : VR β O w (.tup cs) (.tuple vs.toArray)
  | fn (f : Fn) (a c : List AV) (va vc : List Value) (hl : a.length = va.length) (hl' : c.length = vc.length)
      (h1 : ∀ (j : Nat) (y : AV) (v : Value), a[j]? = some y → va[j]? = some v → VR β O w y v) (h2 : ∀ (j : Nat) (y : AV) (v : Value), c[j]? = some y → vc[j]? = some v → VR β O w y v) :
      VR β O w (.fn f a c) (.func f va.toArray vc.toArray)
  | ifc (t : TypeId) (a : AV) (v : Value) (h : VR β O w a v) : VR β O w (.ifc t a) (.iface t v)
  | anyb (b : Bool) : VR β O w .anyb (.bool b)

/-- Blocks outside O stay, and stay outside. -/
def Stay (O : Nat → Prop) (w : World) (O' : Nat → Prop) (w' : World) : Prop :=
  w.heap.size ≤ w'.heap.size ∧ ∀ b, b < w.heap.size → ¬ O b → w'.heap[b]? = w.heap[b]? ∧ ¬ O' b

theorem cell_lt {w : World} {a : Addr} {v : Value} (h : w.cell? a = some v) : a.block < w.heap.size := by
  unfold World.cell? at h
  rcases Nat.lt_or_ge a.block w.heap.size with h' | h'
  · exact h'
  · simp [Array.getElem?_eq_none h'] at h

theorem cell_stay {O O' : Nat → Prop} {w w' : World} (hst : Stay O w O' w') {a : Addr} (hO : ¬ O a.block) (hb : a.block < w.heap.size) : w'.cell? a = w.cell? a := by
  unfold World.cell?
  rw [(hst.2 a.block hb hO).1]

theorem PVR.mono {O O' : Nat → Prop} {w w' : World} (hst : Stay O w O' w') {a : AV} {v : Value} (h : PVR O w a v) : PVR O' w' a v := by
  induction h with
  | bool b => exact .bool b
  | int k n => exact .int k n
  | str s => exact .str s
  | nilp => exact .nilp
  | nilf => exact .nilf
  | nili => exact .nili
  | lst full es a c blk o sz f hf hc ha hs h1 h3 h2 ih =>
    refine .lst full es a c blk o sz f hf hc (fun hne => ?_) hs (fun i x hx j y hy => ?_) h3 ih
    · obtain ⟨e1, e2, e3⟩ := ha hne
      exact ⟨e1, (hst.2 blk e3 e2).2, Nat.lt_of_lt_of_le e3 hst.1⟩
    · have hne : es ≠ [] := by intro he; rw [he] at hx; simp at hx
      obtain ⟨_, e2, e3⟩ := ha hne
      rw [cell_stay hst (a := ⟨blk, o + i * sz + j, none⟩) e2 e3]
      exact h1 i x hx j y hy
  | agg cs vs hl h1 h2 ih => exact .agg cs vs hl h1 ih

theorem VR.mono {β β' : Bds} {O O' : Nat → Prop} {w w' : World} (hβ : ∀ i v bd, β i v = some bd → β' i v = some bd) (hst : Stay O w O' w') {a : AV} {v : Value} (h : VR β O w a v) : VR β' O' w' a v := by
  induction h with
  | pure a v h => exact .pure a v (h.mono hst)
  | dead v => exact .dead v
  | undef => exact .undef
  | ptr b v i o bd c h1 h2 => exact .ptr b v i o bd c (hβ _ _ _ h1) h2
  | rptr cs blk o f hO hw h1 h3 h2 =>
    refine .rptr cs blk o f (hst.2 blk hw hO).2 (Nat.lt_of_lt_of_le hw hst.1) (fun j y hy => ?_) h3 (fun j y hy => (h2 j y hy).mono hst)
    rw [cell_stay hst (a := ⟨blk, o + j, none⟩) hO hw]
    exact h1 j y hy
  | own b v o n bd a c h1 h2 => exact .own b v o n bd a c (hβ _ _ _ h1) h2
  | agg cs vs hl h1 h2 ih => exact .agg cs vs hl h1 ih
  | tup cs vs hl h2 ih => exact .tup cs vs hl ih
  | fn f a c va vc hl hl' h1 h2 ih1 ih2 => exact .fn f a c va vc hl hl' ih1 ih2
  | ifc t a v h ih => exact .ifc t a v ih
  | anyb b => exact .anyb b

theorem Stay.refl (O : Nat → Prop) (w : World) : Stay O w O w := ⟨Nat.le_refl _, fun _ _ h => ⟨rfl, h⟩⟩
theorem Stay.trans {O O' O'' : Nat → Prop} {w w' w'' : World} (h : Stay O w O' w') (h' : Stay O' w' O'' w'') : Stay O w O'' w'' :=
  ⟨Nat.le_trans h.1 h'.1, fun b hb hO => by
    obtain ⟨e1, e2⟩ := h.2 b hb hO
    obtain ⟨e3, e4⟩ := h'.2 b (Nat.lt_of_lt_of_le hb h.1) e2
    exact ⟨e3.trans e1, e4⟩⟩

/-- A block of one's own that may be written, and where it lies. -/
def ownsB (β : Bds) (i : Nat) (X : AB) (c : Nat) : Prop :=
  ∃ bd, bd.cb = some c ∧ match X with
    | .var _ => β i 0 = some bd
    | .row v _ _ => β i v = some bd
    | _ => False
def owned (β : Bds) (h : AH) (i c : Nat) : Prop := ∃ X, h[i]? = some X ∧ ownsB β i X c
/-- Blocks that are one's own, or others' (Z): no value without a handle stands there. -/
def Own (Z : Nat → Prop) (β : Bds) (h : AH) (c : Nat) : Prop := Z c ∨ ∃ i, owned β h i c

/-- Elements as they stand in cells, one behind the other. -/
def SrcAt (O : Nat → Prop) (w : World) (f : Nat → Option Value) (sz : Nat) (es : List AV) : Prop :=
  ∀ (i : Nat) (x : AV), es[i]? = some x → x.cells.length = sz ∧ ∀ (j : Nat) (y : AV), x.cells[j]? = some y → ∃ v, f (i * sz + j) = some v ∧ v.oneCell' = true ∧ PVR O w y v
def ElemsAt (O : Nat → Prop) (w : World) (cur : Array Value) (base sz : Nat) (es : List AV) : Prop := SrcAt O w (fun k => cur[base + k]?) sz es

def BlkRel (β : Bds) (O : Nat → Prop) (w : World) (i : Nat) : AB → Prop
  | .gone => True
  | .var cs => ∃ c cur elem, β i 0 = some ⟨some c, 0, cs.length, cs.length⟩ ∧ w.heap[c]? = some (.cells cur elem (0, 0)) ∧ cur.size = cs.length ∧
      ∀ (j : Nat) (y : AV), cs[j]? = some y → ∃ v, cur[j]? = some v ∧ v.oneCell' = true ∧ VR β O w y v
  | .row v sz es => 0 < sz ∧ ∃ bd, β i v = some bd ∧ bd.sz = sz ∧ ((bd.cb = none ∧ es = []) ∨
      ∃ c cur elem, bd.cb = some c ∧ w.heap[c]? = some (.cells cur elem (0, 0)) ∧ cur.size = bd.csz ∧ bd.base + es.length * sz ≤ bd.csz ∧ ElemsAt O w cur bd.base sz es)
  | .fro v sz es => 0 < sz ∧ ∃ bd, β i v = some bd ∧ bd.sz = sz ∧ ((bd.cb = none ∧ es = []) ∨
      ∃ c cur elem fr, bd.cb = some c ∧ ¬ O c ∧ w.heap[c]? = some (.cells cur elem fr) ∧ cur.size = bd.csz ∧ bd.base + es.length * sz ≤ bd.csz ∧ ElemsAt O w cur bd.base sz es)

structure Rel (Z : Nat → Prop) (β : Bds) (h : AH) (w : World) : Prop where
  xlt : ∀ c, Z c → c < w.heap.size
  xap : ∀ i c, owned β h i c → ¬ Z c
  fresh : ∀ i v, h.length ≤ i → β i v = none
  later : ∀ (i v sz : Nat) (es : List AV) (v' : Nat), h[i]? = some (.row v sz es) → v < v' → β i v' = none
  blk : ∀ (i : Nat) (b : AB), h[i]? = some b → BlkRel β (Own Z β h) w i b
  apart : ∀ i j c, owned β h i c → owned β h j c → i = j

/-- What a piece of code does to memory that is not one's own: nothing. -/
structure Fr (Z : Nat → Prop) (β : Bds) (h : AH) (w : World) (β' : Bds) (h' : AH) (w' : World) : Prop where
  xkeep : ∀ b, b < w.heap.size → Z b → w'.heap[b]? = w.heap[b]?
  os : w'.os = w.os
  tape : w'.tape = w.tape
  output : w'.output = w.output
  ext : ∀ i v bd, β i v = some bd → β' i v = some bd
  stay : Stay (Own Z β h) w (Own Z β' h') w'

theorem Fr.refl (Z : Nat → Prop) (β : Bds) (h : AH) (w : World) : Fr Z β h w β h w := ⟨fun _ _ _ => rfl, rfl, rfl, rfl, fun _ _ _ e => e, Stay.refl _ _⟩
theorem Fr.trans {Z : Nat → Prop} {β β' β'' : Bds} {h h' h'' : AH} {w w' w'' : World} (a : Fr Z β h w β' h' w') (b : Fr Z β' h' w' β'' h'' w'') : Fr Z β h w β'' h'' w'' :=
  ⟨fun k hk hx => (b.xkeep k (Nat.lt_of_lt_of_le hk a.stay.1) hx).trans (a.xkeep k hk hx), b.os.trans a.os, b.tape.trans a.tape, b.output.trans a.output, fun i v bd e => b.ext i v bd (a.ext i v bd e), a.stay.trans b.stay⟩

theorem VR.fr {Z : Nat → Prop} {β β' : Bds} {h h' : AH} {w w' : World} (f : Fr Z β h w β' h' w') {a : AV} {v : Value} (hv : VR β (Own Z β h) w a v) : VR β' (Own Z β' h') w' a v := hv.mono f.ext f.stay

/-- A draw turns nothing. -/
theorem Stay.drew {O O' : Nat → Prop} {w w' : World} {n : Nat} (h : Stay O w O' w') : Stay O { w with drawn := n } O' w' := h

/-- Frames. -/
def EnvR (Z : Nat → Prop) (β : Bds) (h : AH) (w : World) (e : Env) (a : Act) (n : Nat) : Prop :=
  a.tmps.size = n ∧ ∀ t, VR β (Own Z β h) w (e t) (a.tmps.getD t Go.undef)

theorem EnvR.fr {Z : Nat → Prop} {β β' : Bds} {h h' : AH} {w w' : World} {e : Env} {a : Act} {n : Nat} (E : EnvR Z β h w e a n) (f : Fr Z β h w β' h' w') : EnvR Z β' h' w' e a n :=
  ⟨E.1, fun t => (E.2 t).fr f⟩

theorem EnvR.put {Z : Nat → Prop} {β : Bds} {h : AH} {w : World} {e : Env} {a : Act} {n : Nat} (E : EnvR Z β h w e a n) {d : Nat} (hd : d < n) {av : AV} {v : Value} (hv : VR β (Own Z β h) w av v) :
    EnvR Z β h w (e.put d av) (a.put (some d) v) n := by
  refine ⟨by simp [Act.put, E.1], fun t => ?_⟩
  simp only [Env.put, Act.put]
  by_cases ht : t = d
  · subst ht
    have : t < a.tmps.size := by rw [E.1]; exact hd
    simp [this, hv]
  · have h2 : d ≠ t := fun e => ht e.symm
    have := E.2 t
    simpa [ht, h2, Array.getElem?_setIfInBounds_ne] using this

/-! ### What is known of a value by its form -/
section inv
variable {Z : Nat → Prop} {β : Bds} {O : Nat → Prop} {w : World}

theorem VR.bool_inv {b : Bool} {v : Value} (h : VR β O w (.bool b) v) : v = .bool b := by
  cases h with | pure _ _ h => cases h; rfl
theorem VR.int_inv {k : IntKind} {n : Int} {v : Value} (h : VR β O w (.int k n) v) : v = .int k n := by
  cases h with | pure _ _ h => cases h; rfl
theorem VR.str_inv {s : List UInt8} {v : Value} (h : VR β O w (.str s) v) : ∃ b : ByteArray, v = .string b ∧ b.data.toList = s := by
  cases h with | pure _ _ h => cases h with | str b => exact ⟨b, rfl, rfl⟩
theorem VR.undef_inv {v : Value} (h : VR β O w .undef v) : v = Go.undef := by
  cases h with
  | pure _ _ h => cases h
  | undef => rfl
theorem VR.agg_inv {cs : List AV} {v : Value} (h : VR β O w (.agg cs) v) : ∃ vs : List Value, v = .agg vs.toArray ∧ cs.length = vs.length ∧ (∀ u ∈ vs, u.oneCell' = true) ∧ ∀ (j : Nat) (y : AV) (u : Value), cs[j]? = some y → vs[j]? = some u → VR β O w y u := by
  cases h with
  | pure _ _ h => cases h with | agg _ vs hl h1 h2 => exact ⟨vs, rfl, hl, h1, fun j y u hy hu => .pure _ _ (h2 j y u hy hu)⟩
  | agg _ vs hl h1 h2 => exact ⟨vs, rfl, hl, h1, h2⟩
theorem VR.tup_inv {cs : List AV} {v : Value} (h : VR β O w (.tup cs) v) : ∃ vs : List Value, v = .tuple vs.toArray ∧ cs.length = vs.length ∧ ∀ (j : Nat) (y : AV) (u : Value), cs[j]? = some y → vs[j]? = some u → VR β O w y u := by
  cases h with
  | pure _ _ h => cases h
  | tup _ vs hl h2 => exact ⟨vs, rfl, hl, h2⟩
theorem VR.ptr_inv {b vv i o : Nat} {v : Value} (h : VR β O w (.ptr b vv i o) v) : ∃ bd c, β b vv = some bd ∧ bd.cb = some c ∧ v = .pointer (some ⟨c, bd.base + i * bd.sz + o, none⟩) := by
  cases h with
  | pure _ _ h => cases h
  | ptr _ _ _ _ bd c h1 h2 => exact ⟨bd, c, h1, h2, rfl⟩
theorem VR.own_inv {b vv o n : Nat} {v : Value} (h : VR β O w (.own b vv o n) v) : ∃ bd a c, β b vv = some bd ∧ v = .slice a n c ∧
    ((c = 0 ∧ n = 0) ∨ ∃ cb, bd.cb = some cb ∧ a = some ⟨cb, bd.base + o * bd.sz, none⟩ ∧ n ≤ c ∧ bd.base + (o + c) * bd.sz ≤ bd.csz) := by
  cases h with
  | pure _ _ h => cases h
  | own _ _ _ _ bd a c h1 h2 => exact ⟨bd, a, c, h1, rfl, h2⟩
theorem VR.lst_inv {f : Bool} {es : List AV} {v : Value} (h : VR β O w (.lst f es) v) : PVR O w (.lst f es) v := by
  cases h with | pure _ _ h => exact h

/-- One cell is one cell. -/
theorem VR.okc {a : AV} {v : Value} (h : VR β O w a v) (ha : a.okc = true) : v.oneCell' = true := by
  cases h with
  | pure _ _ h => cases h <;> first | rfl | (simp [AV.okc] at ha; done)
  | dead => simp [AV.okc] at ha
  | undef => simp [AV.okc] at ha
  | ptr => rfl
  | rptr => rfl
  | own => rfl
  | agg => simp [AV.okc] at ha
  | tup => simp [AV.okc] at ha
  | fn => rfl
  | ifc => rfl
  | anyb => rfl

theorem cells_one {v : Value} (h : v.oneCell' = true) : v.cells = #[v] := by cases v <;> first | rfl | (simp [Value.oneCell'] at h; done)

/-- A value's cells, one by one. -/
theorem VR.cells {a : AV} {v : Value} (h : VR β O w a v) (ha : a.cells.all AV.okc = true) :
    ∃ vs : List Value, v.cells = vs.toArray ∧ a.cells.length = vs.length ∧ (∀ u ∈ vs, u.oneCell' = true) ∧ ∀ (j : Nat) (y : AV) (u : Value), a.cells[j]? = some y → vs[j]? = some u → VR β O w y u := by
  by_cases hag : ∃ cs, a = .agg cs
  · obtain ⟨cs, rfl⟩ := hag
    obtain ⟨vs, rfl, hl, h1, h2⟩ := h.agg_inv
    exact ⟨vs, rfl, hl, h1, h2⟩
  · have hc : a.cells = [a] := by cases a <;> first | rfl | (exact absurd ⟨_, rfl⟩ hag)
    rw [hc] at ha ⊢
    have ho : v.oneCell' = true := h.okc (by simpa using ha)
    refine ⟨[v], cells_one ho, rfl, by simpa using ho, fun j y u hy hu => ?_⟩
    cases j with
    | zero => simp at hy hu; subst hy; subst hu; exact h
    | succ j => simp at hy

/-- What has no handle has none. -/
theorem VR.pureS {a : AV} {v : Value} (h : VR β O w a v) (ha : a.isS = true) : PVR O w a v := by
  cases h with
  | pure _ _ h => exact h
  | _ => simp [AV.isS] at ha
theorem VR.pureE {a : AV} {v : Value} (h : VR β O w a v) (ha : a.isE = true) : PVR O w a v := by
  cases h with
  | pure _ _ h => exact h
  | agg cs vs hl h1 h2 =>
    refine .agg cs vs hl h1 fun j y u hy hu => (h2 j y u hy hu).pureS ?_
    have : ∀ y ∈ cs, y.isS = true := by simpa [AV.isE] using ha
    exact this y (List.mem_of_getElem? hy)
  | _ => simp [AV.isE, AV.isS] at ha
end inv

end Go.Am
