/-
 The abstract machine: texts as bytes; rows of bytes that are read-only.
-/
import Derived.Test.YtgefdmkmobaefaaAmGI
import Derived.Lib.ConvBytes
set_option linter.unusedSimpArgs false
set_option linter.unusedVariables false
namespace Go.Am
section
variable {P : Program} {Z : Nat → Prop} {β : Bds} {h : AH} {w : World}
theorem stb_rel (R : Rel Z β h w) {s d e : TypeId} (hs : P.underlying s = some .string) (hd : P.underlying d = some (.slice e)) (he : P.underlying e = some (.int .u8)) {l : List UInt8} {v : Value} (hv : VR β (Own Z β h) w (.str l) v) :
  Makes P Z β h w (convert s d v) (.lst false (l.map fun c => .int .u8 (c.toNat : Int))) h := by
 obtain ⟨b, rfl, hl⟩ := hv.str_inv
 have hlen : l.length = b.size := by rw [← hl]; simp
 obtain ⟨G1, G2⟩ := R.grown (w' := Lib.bytesWorld w e b) rfl rfl rfl (by rw [Lib.bytesWorld_size]; omega) (fun k hk => Lib.bytesWorld_at_old w e b k hk)
 refine ⟨_, Lib.bytesWorld w e b, β, Lib.run_convert_string_bytes w s d e b hs hd he, G1, G2, ?_⟩
 have hO : ¬ Own Z β h w.heap.size := by
  rintro (hz | ⟨i, ho⟩)
  ·have := R.xlt _ hz; omega
  ·have := R.own_lt ho; omega
 have hsrc : SrcAt (Own Z β h) (Lib.bytesWorld w e b) (fun k => (Lib.bytesWorld w e b).cell? ⟨w.heap.size, 0 + k, none⟩) 1 (l.map fun c => AV.int .u8 (c.toNat : Int)) := by
  intro i x hx
  rw [List.getElem?_map] at hx
  cases hi : l[i]? with
  | none => rw [hi] at hx; cases hx
  | some c =>
   rw [hi] at hx
   simp only [Option.map_some, Option.some.injEq] at hx
   subst hx
   refine ⟨rfl, fun j y hy => ?_⟩
   cases j with
   | succ j => simp [AV.cells] at hy
   | zero =>
    simp only [AV.cells, List.getElem?_cons_zero, Option.some.injEq] at hy
    subst hy
    have hil : i < b.size := by rw [← hlen]; exact (List.getElem?_eq_some_iff.1 hi).1
    refine ⟨.int .u8 (c.toNat : Int), ?_, rfl, .int _ _⟩
    have := Lib.bytesWorld_cell w e b i hil
    simp only [Nat.mul_one, Nat.add_zero, Nat.zero_add]
    rw [this, hl, List.getD_eq_getElem?_getD, hi]
    rfl
 have hcap : (l.map fun c => AV.int .u8 (c.toNat : Int)).length ≤ grownCap w b.size 0 e := by
  rw [List.length_map, hlen]
  have := grownCap_ge w b.size 0 e
  omega
 have := lst_of_src (full := false) (by decide) hO (by rw [Lib.bytesWorld_size]; omega) hsrc (fun h => by cases h) hcap
 rw [List.length_map, hlen] at this
 exact .pure _ _ this
theorem csl_rel (R : Rel Z β h w) {d e : TypeId} (hd : P.underlying d = some (.slice e)) (he : P.underlying e = some (.int .u8)) {b v o n sz : Nat} {es : List AV} (hb : h[b]? = some (.row v sz es)) (hn : o + n ≤ es.length) (h0 : 0 < n)
  {x : Value} (hv : VR β (Own Z β h) w (.own b v o n) x) : Makes P Z β h w (convert d d x) (.lst false ((es.drop o).take n)) (h.set b (.fro v sz es)) := by
 obtain ⟨bd, ad, c, hbd, rfl, h2⟩ := hv.own_inv
 rcases h2 with ⟨_, h2⟩ | ⟨cb, q1, q2, q3, q4⟩
 ·omega
 ·obtain ⟨hsz, bd', e1, e2, e3⟩ := R.blk b _ hb
  rw [hbd] at e1; cases e1
  rcases e3 with ⟨e3, _⟩ | ⟨c', cur, elem, g1, g2, g3, g4, g5⟩
  ·rw [q1] at e3; cases e3
  ·rw [q1] at g1; cases g1
   subst q2
   have hlt : cb < w.heap.size := (Array.getElem?_eq_some_iff.1 g2).1
   have hown : owned β h b cb := ⟨_, hb, bd, q1, hbd⟩
   obtain ⟨w', hw'⟩ : ∃ w', w' = w.freeze ⟨cb, cur.size, none⟩ 1 := ⟨_, rfl⟩
   have hrun : (convert d d (.slice (some ⟨cb, bd.base + o * bd.sz, none⟩) n c)).run P w = .ok (.slice (some ⟨cb, bd.base + o * bd.sz, none⟩) n c) w' := by
    have hsh : w.shape? cb = some (elem, cur.size) := by simp [World.shape?, g2]
    simp [convert, run_underlying hd, run_underlying he, markStringish, hsh, hw', Result.andThen]
   have hsize : w'.heap.size = w.heap.size := by rw [hw']; simp [World.freeze]
   have hoth : ∀ k, k ≠ cb → w'.heap[k]? = w.heap[k]? := fun k hk => by
    rw [hw']
    simp [World.freeze, Array.getElem?_modify, Ne.symm hk]
   have hcell : ∃ fr, w'.heap[cb]? = some (.cells cur elem fr) := by
    rw [hw']
    simp [World.freeze, Array.getElem?_modify, g2]
   obtain ⟨fr, hcell⟩ := hcell
   have hi := (List.getElem?_eq_some_iff.1 hb).1
   obtain ⟨R', F'⟩ := R.upd (X' := .fro v sz es) (β' := β) (w' := w') hi (by rw [hw']; rfl) (by rw [hw']; rfl) (by rw [hw']; rfl) (fun _ _ _ => rfl) (fun _ _ e => e) (by simp) (fun c0 h => by
     obtain ⟨_, _, q⟩ := h
     exact q.elim) (by omega) (fun k hk hno => hoth k (fun e => hno (e ▸ hown))) (fun hst => by
    refine ⟨hsz, bd, hbd, e2, .inr ⟨cb, cur, elem, fr, q1, ?_, hcell, g3, g4, SrcAt.mono hst g5⟩⟩
    rintro (hz | ⟨j, X, hX, hj⟩)
    ·exact R.xap b cb hown hz
    by_cases hjb : j = b
    ·subst hjb
     simp [hi] at hX
     subst hX
     obtain ⟨_, _, q⟩ := hj
     exact q
    ·rw [List.getElem?_set_ne (Ne.symm hjb)] at hX
     exact hjb (R.apart j b cb ⟨X, hX, hj⟩ hown))
   refine ⟨_, w', β, hrun, R', F', ?_⟩
   exact lst_of_fro R' (sz := sz) (es := es) (by simp [hi]) hn (.own b v o n bd _ c hbd (.inr ⟨cb, q1, rfl, q3, q4⟩))
end
end Go.Am
