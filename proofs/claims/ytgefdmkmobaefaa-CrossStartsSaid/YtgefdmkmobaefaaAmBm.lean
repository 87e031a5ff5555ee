/-
  Summaries of functions of Go's library and of names, of values, laying new blocks alone: name.Right, internal/bytealg.CompareString.
-/
import Derived.Test.YtgefdmkmobaefaaAmRt
import Derived.Test.YtgefdmkmobaefaaAmTb
import Derived.Lib.Bytealg
import Derived.Laws.Externs
set_option linter.unusedSimpArgs false
set_option linter.unusedVariables false
set_option linter.unusedVariables false
set_option linter.unusedSimpArgs false
namespace Go.Am.Nm
open Go.Am Go.RowKit Go.Lib
variable {P : Program}
theorem str_val0 {Z : Nat → Prop} {β : Bds} {w : World} {s : List UInt8} {v : Value} (h : VR β Z w (.str s) v) : v = .string ⟨s.toArray⟩ := by
  obtain ⟨b, rfl, rfl⟩ := h.str_inv
  cases b; simp


theorem snd_below {f : FuncId} {args : List AV} {r : AV} {h : AH} (hc : Callable P f) (H : ∀ (Z : Nat → Prop) (β : Bds) (w : World) (vs : List Value), Rel Z β h w → args.length = vs.length →
    (∀ (j : Nat) (y : AV) (u : Value), args[j]? = some y → vs[j]? = some u → VR β (Own Z β h) w y u) →
    ∃ v, (∀ (β : Bds) (O : Nat → Prop) (w' : World), VR β O w' r v) ∧ Calls P f vs.toArray w fun e w' => e = .returned v ∧ Below w.heap.size w w') : Snd P f args h r h := by
  refine ⟨hc, fun Z β w vs R hl hv => ?_⟩
  obtain ⟨v, h1, h2⟩ := H Z β w vs R hl hv
  refine h2.mono ?_
  rintro e w' ⟨rfl, hb⟩
  obtain ⟨R', F'⟩ := R.grown hb.os hb.tape hb.output hb.size hb.block
  exact ⟨v, β, rfl, R', F', h1 _ _ _⟩

/-- name.Right, of values. -/
def rightY : List AV → Option AV
  | [.str s] => some (.bool (rightN s))
  | _ => none
theorem right_snd {f tS tB tI tR t0 : Nat} (L : RightL P f tS tB tI tR t0) {args : List AV} {r : AV} (h : AH) (hr : rightY args = some r) : Snd P f args h r h := by
  unfold rightY at hr
  split at hr
  · rename_i s
    cases hr
    refine snd_below (by obtain ⟨nm, ta, hf, hn⟩ := L.f; exact ⟨_, hf, rfl, hn⟩) fun Z β w vs R hl hv => ?_
    match vs, hl with
    | [v], _ =>
      have := str_val0 (hv 0 _ v rfl rfl)
      subst this
      refine ⟨_, fun _ _ _ => .pure _ _ (.bool _), (right_calls L ⟨s.toArray⟩ w).mono ?_⟩
      rintro e w' ⟨rfl, hw⟩
      refine ⟨rfl, ?_⟩
      rcases hw with rfl | ⟨pos, rfl⟩
      · exact Below.refl _ _
      · exact (Below.refl _ w).alloc (Nat.le_refl _) _
  · cases hr

def cmpFn (nm : String) (ta : Array TypeId) (tS tI : TypeId) (fX : FuncId) : Func :=
  { name := nm, origin := "", params := #[tS, tS], resultTypes := #[tI], nfree := 0, ntmps := 8, results := #[ResultVar.tmp 4], body := some ((Code.region 0 #[{ dst := some 4, op := Op.assign (Operand.const (Value.int IntKind.i64 0)), type := tI, pos := "compare_native.go:14", after := #[], guard := none }] false).seq ((Code.region 1 #[{ dst := some 5, op := Op.move (Operand.tmp 0), type := tS, pos := "compare_native.go:15", after := #[], guard := none }, { dst := some 6, op := Op.move (Operand.tmp 1), type := tS, pos := "compare_native.go:15", after := #[], guard := none }, { dst := some 7, op := Op.call { callee := Callee.value (Operand.func fX), args := #[Operand.tmp 5, Operand.tmp 6], argTypes := #[tS, tS] }, type := tI, pos := "compare_native.go:15", after := #[{ on := 0, ground := Ground.data }, { on := 1, ground := Ground.data }], guard := none }, { dst := some 4, op := Op.assign (Operand.tmp 7), type := tI, pos := "compare_native.go:15", after := #[{ on := 2, ground := Ground.data }, { on := 2, ground := Ground.chain }, { on := 0, ground := Ground.phase }, { on := 1, ground := Ground.phase }, { on := 2, ground := Ground.phase }], guard := none }] false).seq Code.ret)), norace := false, file := "internal/bytealg/compare_native.go", endLine := 16, tmpNames := #["a", "b", "a", "b", "", "", "", ""] }

theorem cmpFn_ntmps (nm : String) (ta : Array TypeId) (tS tI : TypeId) (fX : FuncId) : (cmpFn nm ta tS tI fX).ntmps = 8 := rfl
structure CmpL (P : Program) (f : FuncId) (tS tI : TypeId) (fX : FuncId) : Prop where
  mixed : P.follows .mixedOrders = true
  f : ∃ nm ta, P.funcs[f]? = some (cmpFn nm ta tS tI fX) ∧ (nm == "runtime.NumGoroutine") = false
  o : ∃ fn, P.funcs[fX]? = some fn ∧ fn.body = none ∧ (fn.name == "runtime.NumGoroutine") = false ∧ Extern.findNext fn = none ∧ Extern.find fn = some Extern.BytealgCompare.compare

theorem cmp_calls {f tS tI fX : Nat} (L : CmpL P f tS tI fX) (a b : ByteArray) (w : World) :
    Calls P f #[.string a, .string b] w fun e w' => e = .returned (.int .i64 (compareBytes a.data.toList b.data.toList)) ∧ w' = w := by
  have mixed := L.mixed
  obtain ⟨nm, ta, hf, _⟩ := L.f
  obtain ⟨fn, o1, o2, o3, o4, o5⟩ := L.o
  have hov : (callFunc fX #[.string a, .string b]).run P w = .ok (.value (.int .i64 (compareBytes a.data.toList b.data.toList))) w := by
    rw [run_callFunc_extern o1 o3 (by rw [o2]; rfl) o4 o5, run_compareString]; rfl
  go_enter hf, cmpFn_ntmps _ _ _ _ _
  go_wp2_with (simp only [hov])
  go_ret
  exact ⟨rfl, rfl⟩
/-- internal/bytealg.CompareString, of values. -/
def cmpY : List AV → Option AV
  | [.str a, .str b] => some (.int .i64 (compareBytes a b))
  | _ => none
theorem cmp_snd {f tS tI fX : Nat} (L : CmpL P f tS tI fX) {args : List AV} {r : AV} (h : AH) (hr : cmpY args = some r) : Snd P f args h r h := by
  unfold cmpY at hr
  split at hr
  · rename_i a b
    cases hr
    refine snd_below (by obtain ⟨nm, ta, hf, hn⟩ := L.f; exact ⟨_, hf, rfl, hn⟩) fun Z β w vs R hl hv => ?_
    match vs, hl with
    | [v, u], _ =>
      have h1 := str_val0 (hv 0 _ v rfl rfl)
      have h2 := str_val0 (hv 1 _ u rfl rfl)
      subst h1 h2
      refine ⟨_, fun _ _ _ => .pure _ _ (.int _ _), (cmp_calls L ⟨a.toArray⟩ ⟨b.toArray⟩ w).mono ?_⟩
      rintro e w' ⟨rfl, rfl⟩
      exact ⟨rfl, Below.refl _ _⟩
  · cases hr
theorem compare_eq : ∀ a b : List UInt8, compareBytes a b = if a = b then 0 else if sLess a b = true then -1 else 1
  | [], [] => rfl
  | [], _ :: _ => by simp [compareBytes, sLess]
  | _ :: _, [] => by simp [compareBytes, sLess]
  | a :: u, b :: v => by
    have ih := compare_eq u v
    unfold compareBytes
    rw [ih]
    by_cases hab : a = b
    · subst hab
      have h1 : ¬ a < a := by rw [UInt8.lt_iff_toNat_lt]; omega
      simp [sLess, h1]
    · by_cases hlt : a < b
      · simp [sLess, hlt, hab]
      · have hgt : b < a := by
          rw [UInt8.lt_iff_toNat_lt] at hlt ⊢
          have : a.toNat ≠ b.toNat := fun h => hab (UInt8.toNat_inj.1 h)
          omega
        simp [sLess, hlt, hgt, hab]

end Go.Am.Nm
