/-
 Summaries of functions of Go's library: of values, laying new blocks alone: strings.Join, internal/stringslite.IndexByte; name.Right.
-/
import Derived.Test.YtgefdmkmobaefaaAmBm
import Derived.Test.YtgefdmkmobaefaaAmRt
import Derived.Test.YtgefdmkmobaefaaAmPd
import Derived.Test.YtgefdmkmobaefaaAmTb
import Derived.Shelf.Strings.OnBuilder
import Derived.Lib.Bytealg
import Derived.Laws.Externs
set_option linter.unusedSimpArgs false
set_option linter.unusedVariables false
set_option linter.unusedVariables false
set_option linter.unusedSimpArgs false
namespace Go.Am.Nm
open Go.Am Go.RowKit Go.Lib
variable {P : Program}
def idxFn (nm : String) (ta : Array TypeId) (tS tU tI : TypeId) (fX : FuncId) : Func :=
 { name := nm, origin := "", params := #[tS, tU], resultTypes := #[tI], nfree := 0, ntmps := 8, results := #[ResultVar.tmp 4], body := some ((Code.region 0 #[{ dst := some 4, op := Op.assign (Operand.const (Value.int IntKind.i64 0)), type := tI, pos := "strings.go:24", after := #[], guard := none }] false).seq ((Code.region 1 #[{ dst := some 5, op := Op.move (Operand.tmp 0), type := tS, pos := "strings.go:25", after := #[], guard := none }, { dst := some 6, op := Op.move (Operand.tmp 1), type := tU, pos := "strings.go:25", after := #[], guard := none }, { dst := some 7, op := Op.call { callee := Callee.value (Operand.func fX), args := #[Operand.tmp 5, Operand.tmp 6], argTypes := #[tS, tU] }, type := tI, pos := "strings.go:25", after := #[{ on := 0, ground := Ground.data }, { on := 1, ground := Ground.data }], guard := none }, { dst := some 4, op := Op.assign (Operand.tmp 7), type := tI, pos := "strings.go:25", after := #[{ on := 2, ground := Ground.data }, { on := 2, ground := Ground.chain }, { on := 0, ground := Ground.phase }, { on := 1, ground := Ground.phase }, { on := 2, ground := Ground.phase }], guard := none }] false).seq Code.ret)), norace := false, file := "internal/stringslite/strings.go", endLine := 26, tmpNames := #["s", "c", "s", "c", "", "", "", ""] }
theorem idxFn_ntmps (nm : String) (ta : Array TypeId) (tS tU tI : TypeId) (fX : FuncId) : (idxFn nm ta tS tU tI fX).ntmps = 8 := rfl
structure IdxL (P : Program) (f : FuncId) (tS tU tI : TypeId) (fX : FuncId) : Prop where
 mixed : P.follows .mixedOrders = true
 f : ∃ nm ta, P.funcs[f]? = some (idxFn nm ta tS tU tI fX) ∧ (nm == "runtime.NumGoroutine") = false
 o : ∃ fn, P.funcs[fX]? = some fn ∧ fn.body = none ∧ (fn.name == "runtime.NumGoroutine") = false ∧ Extern.findNext fn = none ∧ Extern.find fn = some Extern.BytealgIndexByte.indexByte
theorem idx_calls {f tS tU tI fX : Nat} (L : IdxL P f tS tU tI fX) (s : ByteArray) (c : Int) (w : World) :
  Calls P f #[.string s, .int .u8 c] w fun e w' => e = .returned (.int .i64 (indexByte s.data.toList c.toNat.toUInt8)) ∧ w' = w := by
 have mixed := L.mixed
 obtain ⟨nm, ta, hf, _⟩ := L.f
 obtain ⟨fn, o1, o2, o3, o4, o5⟩ := L.o
 have hov : (callFunc fX #[.string s, .int .u8 c]).run P w = .ok (.value (.int .i64 (indexByte s.data.toList c.toNat.toUInt8))) w := by
  rw [run_callFunc_extern o1 o3 (by rw [o2]; rfl) o4 o5, run_indexByteString]; rfl
 go_enter hf, idxFn_ntmps _ _ _ _ _ _
 go_wp2_with (simp only [hov])
 go_ret
 exact ⟨rfl, rfl⟩
def idxY : List AV → Option AV
 | [.str s, .int .u8 c] => some (.int .i64 (indexByte s c.toNat.toUInt8))
 | _ => none
theorem idx_snd {f tS tU tI fX : Nat} (L : IdxL P f tS tU tI fX) {args : List AV} {r : AV} (h : AH) (hr : idxY args = some r) : Snd P f args h r h := by
 unfold idxY at hr
 split at hr
 ·rename_i s c
  cases hr
  refine snd_below (by obtain ⟨nm, ta, hf, hn⟩ := L.f; exact ⟨_, hf, rfl, hn⟩) fun Z β w vs R hl hv => ?_
  match vs, hl with
  | [v, u], _ =>
   have h1 := str_val (hv 0 _ v rfl rfl)
   have h2 := (hv 1 _ u rfl rfl).int_inv
   subst h1 h2
   refine ⟨_, fun _ _ _ => .pure _ _ (.int _ _), (idx_calls L ⟨s.toArray⟩ c w).mono ?_⟩
   rintro e w' ⟨rfl, rfl⟩
   exact ⟨rfl, Below.refl _ _⟩
 ·cases hr
theorem idxI_eq (s : List UInt8) : indexByte s 47 = idxI s := by
 induction s with
 | nil => rfl
 | cons b t ih =>
  unfold indexByte
  rw [ih]
  by_cases hb : b = 47
  ·subst hb
   simp [idxI, upTo]
  ·have hb' : ¬ (b == 47) = true := by simpa using hb
   rw [if_neg hb']
   unfold idxI
   simp only [List.all_cons, decide_eq_false hb, Bool.not_false, Bool.true_and]
   split
   ·rfl
   ·rename_i hn
    have : ¬ ((((upTo t).length : Int)) == -1) = true := by simp
    rw [if_neg this]
    simp [upTo, List.takeWhile_cons, hb]
end Go.Am.Nm
