/-
 name.pieces gives the pieces, one behind the other.
-/
import Derived.Test.YtgefdmkmobaefaaAmPc
set_option linter.unusedSimpArgs false
set_option linter.unusedVariables false
namespace Go.Am.Nm
open Go.Am Go.RowKit
section
variable {P : Program} {Γ : Tab}
theorem str_rel {O : Nat → Prop} {w : World} (s : List UInt8) : PVR O w (.str s) (.string ⟨s.toArray⟩) := by
 have := PVR.str (O := O) (w := w) ⟨s.toArray⟩
 simpa using this
theorem str_val {Z : Nat → Prop} {β : Bds} {w : World} {s : List UInt8} {v : Value} (h : VR β Z w (.str s) v) : v = .string ⟨s.toArray⟩ := by
 obtain ⟨b, rfl, rfl⟩ := h.str_inv
 cases b; simp
def Zi (W : World) (c : Nat) : Nat → Prop := fun b => b < W.heap.size ∧ b ≠ c
def βi (c : Nat) : Bds := fun i v => if i = 0 ∧ v = 0 then some ⟨some c, 0, 1, 1⟩ else none
def Box (W : World) (c : Nat) (p : List UInt8) : Prop := ∃ elem, W.heap[c]? = some (.cells #[.string ⟨p.toArray⟩] elem (0, 0))
theorem Box.lt {W : World} {c : Nat} {p : List UInt8} (h : Box W c p) : c < W.heap.size := by
 obtain ⟨_, h⟩ := h
 exact (Array.getElem?_eq_some_iff.1 h).1
theorem βi0 (c : Nat) : βi c 0 0 = some ⟨some c, 0, 1, 1⟩ := by simp [βi]
theorem owned_i {c k b : Nat} {p : List UInt8} (h : owned (βi c) [.var [.str p]] k b) : k = 0 ∧ b = c := by
 obtain ⟨X, hX, bd, h1, h2⟩ := h
 cases k with
 | zero =>
  simp only [List.getElem?_cons_zero, Option.some.injEq] at hX
  subst hX
  simp only [βi0, Option.some.injEq] at h2
  subst h2
  simp only [Option.some.injEq] at h1
  exact ⟨rfl, h1.symm⟩
 | succ k => simp at hX
theorem it_rel {W : World} {c : Nat} {p : List UInt8} (hb : Box W c p) : Rel (Zi W c) (βi c) [.var [.str p]] W := by
 obtain ⟨elem, hc⟩ := hb
 refine ⟨fun b hb => hb.1, fun k b ho hz => hz.2 (owned_i ho).2, fun i v hi => ?_, fun i v sz es v' hX => ?_, fun i X hX => ?_, fun i j b h1 h2 => by rw [(owned_i h1).1, (owned_i h2).1]⟩
 ·simp only [List.length_singleton] at hi
  simp only [βi]
  rw [if_neg (by omega)]
 ·cases i with
  | zero => simp at hX
  | succ i => simp at hX
 ·cases i with
  | zero =>
   simp only [List.getElem?_cons_zero, Option.some.injEq] at hX
   subst hX
   refine ⟨c, _, elem, βi0 c, hc, rfl, fun j y hy => ?_⟩
   cases j with
   | zero =>
    simp only [List.getElem?_cons_zero, Option.some.injEq] at hy
    subst hy
    exact ⟨_, rfl, rfl, .pure _ _ (str_rel p)⟩
   | succ j => simp at hy
  | succ i => simp at hX
theorem box_of {Z : Nat → Prop} {β : Bds} {W : World} {c : Nat} {p : List UInt8} (R : Rel Z β [.var [.str p]] W) (hβ : β 0 0 = some ⟨some c, 0, 1, 1⟩) : Box W c p := by
 obtain ⟨c', cur, elem, e1, e2, e3, e4⟩ := R.blk 0 _ rfl
 rw [hβ] at e1
 simp only [Option.some.injEq, Bd.mk.injEq] at e1
 obtain ⟨rfl, _⟩ := e1
 obtain ⟨v, g1, _, g3⟩ := e4 0 _ rfl
 have hv := str_val g3
 subst hv
 have : cur = #[.string ⟨p.toArray⟩] := by
  have hs : cur.size = 1 := e3
  apply Array.ext
  ·simpa using hs
  ·intro j h1 h2
   have hj : j = 0 := by omega
   subst hj
   have := Array.getElem?_eq_getElem h1
   rw [g1] at this
   simpa using this.symm
 exact ⟨elem, by rw [← this]; exact e2⟩
theorem no_rel (W : World) : Rel (fun b => b < W.heap.size) (fun _ _ => none) [] W :=
 ⟨fun _ h => h, fun i c ho => by obtain ⟨X, hX, _⟩ := ho; simp at hX, fun _ _ _ => rfl, fun i v sz es v' hX => by simp at hX, fun i X hX => by simp at hX, fun i j c ho => by obtain ⟨X, hX, _⟩ := ho; simp at hX⟩
def e0 (l : Nat) : Env := fun t => if t = 0 then .fn (.yield l) [] [] else if t = 1 then .ptr 0 0 0 0 else .dead
theorem fn_val {O : Nat → Prop} {β : Bds} {w : World} {f : Fn} {v : Value} (h : VR β O w (.fn f [] []) v) : v = .func f #[] #[] := by
 cases h with
 | pure _ _ h => cases h
 | fn _ _ _ va vc h1 h2 => 
  have e1 : va = [] := List.eq_nil_of_length_eq_zero (by simpa using h1.symm)
  have e2 : vc = [] := List.eq_nil_of_length_eq_zero (by simpa using h2.symm)
  subst e1 e2
  rfl
theorem fn_rel {O : Nat → Prop} {β : Bds} {w : World} (f : Fn) : VR β O w (.fn f [] []) (.func f #[] #[]) := .fn f [] [] [] [] rfl rfl (fun j y v h => by simp at h) (fun j y v h => by simp at h)
structure Head (l c : Nat) (a : Act) : Prop where
 size : a.tmps.size = 29
 yld : a.tmps.getD 0 undef = .func (.yield l) #[] #[]
 box : a.tmps.getD 1 undef = .pointer (some ⟨c, 0, none⟩)
 defers : a.defers = []
theorem head_env {l c : Nat} {a : Act} {W : World} {p : List UInt8} (H : Head l c a) (hb : Box W c p) : EnvR (Zi W c) (βi c) [.var [.str p]] W (e0 l) a 29 := by
 refine ⟨H.size, fun t => ?_⟩
 unfold e0
 by_cases h0 : t = 0
 ·rw [if_pos h0, h0, H.yld]; exact fn_rel _
 ·rw [if_neg h0]
  by_cases h1 : t = 1
  ·rw [if_pos h1, h1, H.box]
   exact .ptr 0 0 0 0 ⟨some c, 0, 1, 1⟩ c (βi0 c) rfl
  ·rw [if_neg h1]; exact .dead _
theorem at_head {l c : Nat} {a : Act} {W : World} {p : List UInt8} (H : Head l c a) (hb : Box W c p) : At 29 (Zi W c) (βi c) [.var [.str p]] W (Zi W c) [] ⟨e0 l, [.var [.str p]]⟩ a (βi c) W :=
 ⟨it_rel hb, fun _ _ _ => rfl, rfl, rfl, rfl, fun _ _ _ e => e, Stay.refl _ _, head_env H hb, H.defers, fun _ h => h⟩
theorem at_turn {c : Nat} {h : AH} {W W' : World} {s : St} {a : Act} {β' : Bds} {β : Bds} (A : At 29 (Zi W c) β h W (Zi W c) [] s a β' W') : W.grownBy W' (some c) :=
 ⟨A.os, A.tape, A.output, A.stay.1, fun k hk hne => A.keep k hk ⟨hk, fun e => hne (by rw [e])⟩⟩
theorem leave_ok {fn : Func} (hres : fn.results.isEmpty = true) {R : Ending → World → Prop} {a : Act} {W : World} (hd : a.defers = []) (hR : R (.returned (.tuple #[])) W) {x : Exit} (hx : x = .ret ∨ x = .normal) : bodyPostM Fence.wide 0 P fn R x a W := by
 have hr : (results fn a.tmps).run P W = .ok (.tuple #[]) W := by
  have : fn.results = #[] := Array.eq_empty_of_size_eq_zero (by simpa [Array.isEmpty] using hres)
  simp [results, this]
 have : LeavesInM Fence.wide 0 P fn a.tmps R a.defers .returning W := by
  rw [hd]; exact ⟨_, hr, hR⟩
 rcases hx with rfl | rfl <;> exact this
end
end Go.Am.Nm
