/-
 Summaries of functions of Go's library and of names, of values, laying new blocks alone: name.Right, internal/bytealg.CompareString.
-/
import Derived.Test.YtgefdmkmobaefaaAmRt
import Derived.Test.YtgefdmkmobaefaaAmTb
import Derived.Lib.Bytealg
import Derived.Laws.Externs
set_option linter.unusedSimpArgs false
set_option linter.unusedVariables false
set_option linter.unusedVariables false
set_option linter.unusedSimpArgs false
namespace Go.Am.Nm
open Go.Am Go.RowKit Go.Lib
variable {P : Program}
theorem str_val0 {Z : Nat → Prop} {β : Bds} {w : World} {s : List UInt8} {v : Value} (h : VR β Z w (.str s) v) : v = .string ⟨s.toArray⟩ := by
 obtain ⟨b, rfl, rfl⟩ := h.str_inv
 cases b; simp
theorem snd_below {f : FuncId} {args : List AV} {r : AV} {h : AH} (hc : Callable P f) (H : ∀ (Z : Nat → Prop) (β : Bds) (w : World) (vs : List Value), Rel Z β h w → args.length = vs.length →
  (∀ (j : Nat) (y : AV) (u : Value), args[j]? = some y → vs[j]? = some u → VR β (Own Z β h) w y u) →
  ∃ v, (∀ (β : Bds) (O : Nat → Prop) (w' : World), VR β O w' r v) ∧ Calls P f vs.toArray w fun e w' => e = .returned v ∧ Below w.heap.size w w') : Snd P f args h r h := by
 refine ⟨hc, fun Z β w vs R hl hv => ?_⟩
 obtain ⟨v, h1, h2⟩ := H Z β w vs R hl hv
 refine h2.mono ?_
 rintro e w' ⟨rfl, hb⟩
 obtain ⟨R', F'⟩ := R.grown hb.os hb.tape hb.output hb.size hb.block
 exact ⟨v, β, rfl, R', F', h1 _ _ _⟩
def rightY : List AV → Option AV
 | [.str s] => some (.bool (rightN s))
 | _ => none
theorem right_snd {f tS tB tI tR t0 : Nat} (L : RightL P f tS tB tI tR t0) {args : List AV} {r : AV} (h : AH) (hr : rightY args = some r) : Snd P f args h r h := by
 unfold rightY at hr
 split at hr
 ·rename_i s
  cases hr
  refine snd_below (by obtain ⟨nm, ta, hf, hn⟩ := L.f; exact ⟨_, hf, rfl, hn⟩) fun Z β w vs R hl hv => ?_
  match vs, hl with
  | [v], _ =>
   have := str_val0 (hv 0 _ v rfl rfl)
   subst this
   refine ⟨_, fun _ _ _ => .pure _ _ (.bool _), (right_calls L ⟨s.toArray⟩ w).mono ?_⟩
   rintro e w' ⟨rfl, hw⟩
   refine ⟨rfl, ?_⟩
   rcases hw with rfl | ⟨pos, rfl⟩
   ·exact Below.refl _ _
   ·exact (Below.refl _ w).alloc (Nat.le_refl _) _
 ·cases hr
end Go.Am.Nm
