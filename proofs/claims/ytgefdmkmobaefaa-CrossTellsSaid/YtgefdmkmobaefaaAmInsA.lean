/-
 slices.Insert, for elements of any number of cells: its text; what it does where there is room.
-/
import Derived.Shelf.RegionOpenPlain
import Derived.WalkKit
import Derived.Lib.Walk
import Derived.Lib.SliceRun
import Derived.Lib.Overlaps
import Derived.Lib.AppendZerosOnto
import Derived.Laws.Externs
import Derived.Laws.IdiomCopy
import Derived.Laws.NewBlocks
set_option linter.unusedSimpArgs false
set_option linter.unusedVariables false
set_option linter.unusedVariables false
set_option linter.unusedSimpArgs false
namespace Go.Am
open Go.Shelf Go.RowKit Go.Lib
variable {P : Program}
def insFn (nm : String) (ta : Array TypeId) (tS tI tB tE t0 : TypeId) (fO fR : FuncId) : Func :=
 { name := nm, origin := "slices.Insert", targs := ta, params := #[tS, tI, tS], resultTypes := #[tS], nfree := 0, ntmps := 95, results := #[ResultVar.tmp 6], body := some ((Code.region 0 #[{ dst := some 6, op := Op.assign (Operand.const (Value.slice none 0 0)), type := tS, pos := "slices.go:136", after := #[], guard := none }] false).seq ((Code.region 1 #[{ dst := some 10, op := Op.move (Operand.tmp 0), type := tS, pos := "slices.go:137", after := #[], guard := none }, { dst := some 11, op := Op.move (Operand.tmp 1), type := tI, pos := "slices.go:137", after := #[], guard := none }, { dst := some 12, op := Op.slice tS (Operand.tmp 10) (some (Operand.tmp 11)) none none, type := tS, pos := "slices.go:137", after := #[{ on := 0, ground := Ground.data }, { on := 1, ground := Ground.data }], guard := none }] false).seq ((Code.region 2 #[{ dst := some 13, op := Op.move (Operand.tmp 2), type := tS, pos := "slices.go:139", after := #[], guard := none }, { dst := some 14, op := Op.call { callee := Callee.builtin Builtin.len, args := #[Operand.tmp 13], argTypes := #[tS] }, type := tI, pos := "slices.go:139", after := #[{ on := 0, ground := Ground.data }], guard := none }, { dst := some 7, op := Op.assign (Operand.tmp 14), type := tI, pos := "slices.go:139", after := #[{ on := 1, ground := Ground.data }, { on := 0, ground := Ground.phase }, { on := 1, ground := Ground.phase }], guard := none }] false).seq (((Code.region 3 #[{ dst := some 15, op := Op.move (Operand.tmp 7), type := tI, pos := "slices.go:140", after := #[], guard := none }, { dst := some 16, op := Op.binOp BinOp.eql tI (Operand.tmp 15) (Operand.const (Value.int IntKind.i64 0)) tI, type := tB, pos := "slices.go:140", after := #[{ on := 0, ground := Ground.data }], guard := none }] false).seq (Code.cond (Operand.tmp 16) ((Code.region 4 #[{ dst := some 17, op := Op.move (Operand.tmp 0), type := tS, pos := "slices.go:141", after := #[], guard := none }, { dst := some 6, op := Op.assign (Operand.tmp 17), type := tS, pos := "slices.go:141", after := #[{ on := 0, ground := Ground.data }, { on := 0, ground := Ground.phase }], guard := none }] false).seq Code.ret) Code.skip)).seq ((Code.region 5 #[{ dst := some 18, op := Op.move (Operand.tmp 0), type := tS, pos := "slices.go:143", after := #[], guard := none }, { dst := some 19, op := Op.call { callee := Callee.builtin Builtin.len, args := #[Operand.tmp 18], argTypes := #[tS] }, type := tI, pos := "slices.go:143", after := #[{ on := 0, ground := Ground.data }], guard := none }, { dst := some 8, op := Op.assign (Operand.tmp 19), type := tI, pos := "slices.go:143", after := #[{ on := 1, ground := Ground.data }, { on := 0, ground := Ground.phase }, { on := 1, ground := Ground.phase }], guard := none }] false).seq (((Code.region 6 #[{ dst := some 20, op := Op.move (Operand.tmp 1), type := tI, pos := "slices.go:144", after := #[], guard := none }, { dst := some 21, op := Op.move (Operand.tmp 8), type := tI, pos := "slices.go:144", after := #[], guard := none }, { dst := some 22, op := Op.binOp BinOp.eql tI (Operand.tmp 20) (Operand.tmp 21) tI, type := tB, pos := "slices.go:144", after := #[{ on := 0, ground := Ground.data }, { on := 1, ground := Ground.data }], guard := none }] false).seq (Code.cond (Operand.tmp 22) ((Code.region 7 #[{ dst := some 23, op := Op.move (Operand.tmp 0), type := tS, pos := "slices.go:145", after := #[], guard := none }, { dst := some 24, op := Op.move (Operand.tmp 2), type := tS, pos := "slices.go:145", after := #[], guard := none }, { dst := some 25, op := Op.call { callee := Callee.builtin Builtin.append, args := #[Operand.tmp 23, Operand.tmp 24], argTypes := #[tS, tS] }, type := tS, pos := "slices.go:145", after := #[{ on := 0, ground := Ground.data }, { on := 1, ground := Ground.data }], guard := none }, { dst := some 6, op := Op.assign (Operand.tmp 25), type := tS, pos := "slices.go:145", after := #[{ on := 2, ground := Ground.data }, { on := 2, ground := Ground.chain }, { on := 0, ground := Ground.phase }, { on := 1, ground := Ground.phase }, { on := 2, ground := Ground.phase }], guard := none }] false).seq Code.ret) Code.skip)).seq (((Code.region 8 #[{ dst := some 26, op := Op.move (Operand.tmp 8), type := tI, pos := "slices.go:147", after := #[], guard := none }, { dst := some 27, op := Op.move (Operand.tmp 7), type := tI, pos := "slices.go:147", after := #[], guard := none }, { dst := some 28, op := Op.binOp BinOp.add tI (Operand.tmp 26) (Operand.tmp 27) tI, type := tI, pos := "slices.go:147", after := #[{ on := 0, ground := Ground.data }, { on := 1, ground := Ground.data }], guard := none }, { dst := some 29, op := Op.move (Operand.tmp 0), type := tS, pos := "slices.go:147", after := #[], guard := none }, { dst := some 30, op := Op.call { callee := Callee.builtin Builtin.cap, args := #[Operand.tmp 29], argTypes := #[tS] }, type := tI, pos := "slices.go:147", after := #[{ on := 3, ground := Ground.data }], guard := none }, { dst := some 31, op := Op.binOp BinOp.gtr tI (Operand.tmp 28) (Operand.tmp 30) tI, type := tB, pos := "slices.go:147", after := #[{ on := 2, ground := Ground.data }, { on := 4, ground := Ground.data }], guard := none }] false).seq (Code.cond (Operand.tmp 31) ((Code.region 9 #[{ dst := some 32, op := Op.move (Operand.tmp 0), type := tS, pos := "slices.go:152", after := #[], guard := none }, { dst := some 33, op := Op.move (Operand.tmp 1), type := tI, pos := "slices.go:152", after := #[], guard := none }, { dst := some 34, op := Op.slice tS (Operand.tmp 32) none (some (Operand.tmp 33)) none, type := tS, pos := "slices.go:152", after := #[{ on := 0, ground := Ground.data }, { on := 1, ground := Ground.data }], guard := none }, { dst := some 35, op := Op.move (Operand.tmp 8), type := tI, pos := "slices.go:152", after := #[], guard := none }, { dst := some 36, op := Op.move (Operand.tmp 7), type := tI, pos := "slices.go:152", after := #[], guard := none }, { dst := some 37, op := Op.binOp BinOp.add tI (Operand.tmp 35) (Operand.tmp 36) tI, type := tI, pos := "slices.go:152", after := #[{ on := 3, ground := Ground.data }, { on := 4, ground := Ground.data }], guard := none }, { dst := some 38, op := Op.move (Operand.tmp 1), type := tI, pos := "slices.go:152", after := #[], guard := none }, { dst := some 39, op := Op.binOp BinOp.sub tI (Operand.tmp 37) (Operand.tmp 38) tI, type := tI, pos := "slices.go:152", after := #[{ on := 5, ground := Ground.data }, { on := 6, ground := Ground.data }], guard := none }, { dst := some 40, op := Op.call { callee := Callee.builtin Builtin.append, args := #[Operand.tmp 34, Operand.tmp 39], argTypes := #[tS, tI] }, type := tS, pos := "slices.go:152", after := #[{ on := 2, ground := Ground.data }, { on := 7, ground := Ground.data }], guard := none }, { dst := some 9, op := Op.assign (Operand.tmp 40), type := tS, pos := "slices.go:152", after := #[{ on := 8, ground := Ground.data }, { on := 8, ground := Ground.chain }, { on := 0, ground := Ground.phase }, { on := 1, ground := Ground.phase }, { on := 2, ground := Ground.phase }, { on := 3, ground := Ground.phase }, { on := 4, ground := Ground.phase }, { on := 5, ground := Ground.phase }, { on := 6, ground := Ground.phase }, { on := 7, ground := Ground.phase }, { on := 8, ground := Ground.phase }], guard := none }] false).seq ((Code.region 10 #[{ dst := some 41, op := Op.move (Operand.tmp 9), type := tS, pos := "slices.go:153", after := #[], guard := none }, { dst := some 42, op := Op.move (Operand.tmp 1), type := tI, pos := "slices.go:153", after := #[], guard := none }, { dst := some 43, op := Op.slice tS (Operand.tmp 41) (some (Operand.tmp 42)) none none, type := tS, pos := "slices.go:153", after := #[{ on := 0, ground := Ground.data }, { on := 1, ground := Ground.data }], guard := none }, { dst := some 44, op := Op.move (Operand.tmp 2), type := tS, pos := "slices.go:153", after := #[], guard := none }, { dst := some 45, op := Op.call { callee := Callee.builtin Builtin.copy, args := #[Operand.tmp 43, Operand.tmp 44], argTypes := #[tS, tS] }, type := tI, pos := "slices.go:153", after := #[{ on := 2, ground := Ground.data }, { on := 3, ground := Ground.data }], guard := none }] false).seq ((Code.region 11 #[{ dst := some 46, op := Op.move (Operand.tmp 9), type := tS, pos := "slices.go:154", after := #[], guard := none }, { dst := some 47, op := Op.move (Operand.tmp 1), type := tI, pos := "slices.go:154", after := #[], guard := none }, { dst := some 48, op := Op.move (Operand.tmp 7), type := tI, pos := "slices.go:154", after := #[], guard := none }, { dst := some 49, op := Op.binOp BinOp.add tI (Operand.tmp 47) (Operand.tmp 48) tI, type := tI, pos := "slices.go:154", after := #[{ on := 1, ground := Ground.data }, { on := 2, ground := Ground.data }], guard := none }, { dst := some 50, op := Op.slice tS (Operand.tmp 46) (some (Operand.tmp 49)) none none, type := tS, pos := "slices.go:154", after := #[{ on := 0, ground := Ground.data }, { on := 3, ground := Ground.data }], guard := none }, { dst := some 51, op := Op.move (Operand.tmp 0), type := tS, pos := "slices.go:154", after := #[], guard := none }, { dst := some 52, op := Op.move (Operand.tmp 1), type := tI, pos := "slices.go:154", after := #[], guard := none }, { dst := some 53, op := Op.slice tS (Operand.tmp 51) (some (Operand.tmp 52)) none none, type := tS, pos := "slices.go:154", after := #[{ on := 5, ground := Ground.data }, { on := 6, ground := Ground.data }], guard := none }, { dst := some 54, op := Op.call { callee := Callee.builtin Builtin.copy, args := #[Operand.tmp 50, Operand.tmp 53], argTypes := #[tS, tS] }, type := tI, pos := "slices.go:154", after := #[{ on := 4, ground := Ground.data }, { on := 7, ground := Ground.data }], guard := none }] true).seq ((Code.region 12 #[{ dst := some 55, op := Op.move (Operand.tmp 9), type := tS, pos := "slices.go:155", after := #[], guard := none }, { dst := some 6, op := Op.assign (Operand.tmp 55), type := tS, pos := "slices.go:155", after := #[{ on := 0, ground := Ground.data }, { on := 0, ground := Ground.phase }], guard := none }] false).seq Code.ret)))) Code.skip)).seq ((Code.region 13 #[{ dst := some 56, op := Op.move (Operand.tmp 0), type := tS, pos := "slices.go:157", after := #[], guard := none }, { dst := some 57, op := Op.move (Operand.tmp 8), type := tI, pos := "slices.go:157", after := #[], guard := none }, { dst := some 58, op := Op.move (Operand.tmp 7), type := tI, pos := "slices.go:157", after := #[], guard := none }, { dst := some 59, op := Op.binOp BinOp.add tI (Operand.tmp 57) (Operand.tmp 58) tI, type := tI, pos := "slices.go:157", after := #[{ on := 1, ground := Ground.data }, { on := 2, ground := Ground.data }], guard := none }, { dst := some 60, op := Op.slice tS (Operand.tmp 56) none (some (Operand.tmp 59)) none, type := tS, pos := "slices.go:157", after := #[{ on := 0, ground := Ground.data }, { on := 3, ground := Ground.data }], guard := none }, { dst := some 0, op := Op.assign (Operand.tmp 60), type := tS, pos := "slices.go:157", after := #[{ on := 4, ground := Ground.data }, { on := 0, ground := Ground.phase }, { on := 1, ground := Ground.phase }, { on := 2, ground := Ground.phase }, { on := 3, ground := Ground.phase }, { on := 4, ground := Ground.phase }], guard := none }] false).seq (((Code.region 14 #[{ dst := some 61, op := Op.move (Operand.tmp 2), type := tS, pos := "slices.go:173", after := #[], guard := none }, { dst := some 62, op := Op.move (Operand.tmp 0), type := tS, pos := "slices.go:173", after := #[], guard := none }, { dst := some 63, op := Op.move (Operand.tmp 1), type := tI, pos := "slices.go:173", after := #[], guard := none }, { dst := some 64, op := Op.move (Operand.tmp 7), type := tI, pos := "slices.go:173", after := #[], guard := none }, { dst := some 65, op := Op.binOp BinOp.add tI (Operand.tmp 63) (Operand.tmp 64) tI, type := tI, pos := "slices.go:173", after := #[{ on := 2, ground := Ground.data }, { on := 3, ground := Ground.data }], guard := none }, { dst := some 66, op := Op.slice tS (Operand.tmp 62) (some (Operand.tmp 65)) none none, type := tS, pos := "slices.go:173", after := #[{ on := 1, ground := Ground.data }, { on := 4, ground := Ground.data }], guard := none }, { dst := some 67, op := Op.call { callee := Callee.value (Operand.func fO), args := #[Operand.tmp 61, Operand.tmp 66], argTypes := #[tS, tS] }, type := tB, pos := "slices.go:173", after := #[{ on := 0, ground := Ground.data }, { on := 5, ground := Ground.data }], guard := none }, { dst := some 68, op := Op.unOp UnOp.not tB (Operand.tmp 67), type := tB, pos := "slices.go:173", after := #[{ on := 6, ground := Ground.data }], guard := none }] false).seq (Code.cond (Operand.tmp 68) ((Code.region 15 #[{ dst := some 69, op := Op.move (Operand.tmp 0), type := tS, pos := "slices.go:178", after := #[], guard := none }, { dst := some 70, op := Op.move (Operand.tmp 1), type := tI, pos := "slices.go:178", after := #[], guard := none }, { dst := some 71, op := Op.move (Operand.tmp 7), type := tI, pos := "slices.go:178", after := #[], guard := none }, { dst := some 72, op := Op.binOp BinOp.add tI (Operand.tmp 70) (Operand.tmp 71) tI, type := tI, pos := "slices.go:178", after := #[{ on := 1, ground := Ground.data }, { on := 2, ground := Ground.data }], guard := none }, { dst := some 73, op := Op.slice tS (Operand.tmp 69) (some (Operand.tmp 72)) none none, type := tS, pos := "slices.go:178", after := #[{ on := 0, ground := Ground.data }, { on := 3, ground := Ground.data }], guard := none }, { dst := some 74, op := Op.move (Operand.tmp 0), type := tS, pos := "slices.go:178", after := #[], guard := none }, { dst := some 75, op := Op.move (Operand.tmp 1), type := tI, pos := "slices.go:178", after := #[], guard := none }, { dst := some 76, op := Op.slice tS (Operand.tmp 74) (some (Operand.tmp 75)) none none, type := tS, pos := "slices.go:178", after := #[{ on := 5, ground := Ground.data }, { on := 6, ground := Ground.data }], guard := none }, { dst := some 77, op := Op.call { callee := Callee.builtin Builtin.copy, args := #[Operand.tmp 73, Operand.tmp 76], argTypes := #[tS, tS] }, type := tI, pos := "slices.go:178", after := #[{ on := 4, ground := Ground.data }, { on := 7, ground := Ground.data }], guard := none }] true).seq ((Code.region 16 #[{ dst := some 78, op := Op.move (Operand.tmp 0), type := tS, pos := "slices.go:186", after := #[], guard := none }, { dst := some 79, op := Op.move (Operand.tmp 1), type := tI, pos := "slices.go:186", after := #[], guard := none }, { dst := some 80, op := Op.slice tS (Operand.tmp 78) (some (Operand.tmp 79)) none none, type := tS, pos := "slices.go:186", after := #[{ on := 0, ground := Ground.data }, { on := 1, ground := Ground.data }], guard := none }, { dst := some 81, op := Op.move (Operand.tmp 2), type := tS, pos := "slices.go:186", after := #[], guard := none }, { dst := some 82, op := Op.call { callee := Callee.builtin Builtin.copy, args := #[Operand.tmp 80, Operand.tmp 81], argTypes := #[tS, tS] }, type := tI, pos := "slices.go:186", after := #[{ on := 2, ground := Ground.data }, { on := 3, ground := Ground.data }], guard := none }] false).seq ((Code.region 17 #[{ dst := some 83, op := Op.move (Operand.tmp 0), type := tS, pos := "slices.go:193", after := #[], guard := none }, { dst := some 6, op := Op.assign (Operand.tmp 83), type := tS, pos := "slices.go:193", after := #[{ on := 0, ground := Ground.data }, { on := 0, ground := Ground.phase }], guard := none }] false).seq Code.ret))) Code.skip)).seq ((Code.region 18 #[{ dst := some 84, op := Op.move (Operand.tmp 0), type := tS, pos := "slices.go:200", after := #[], guard := none }, { dst := some 85, op := Op.move (Operand.tmp 8), type := tI, pos := "slices.go:200", after := #[], guard := none }, { dst := some 86, op := Op.slice tS (Operand.tmp 84) (some (Operand.tmp 85)) none none, type := tS, pos := "slices.go:200", after := #[{ on := 0, ground := Ground.data }, { on := 1, ground := Ground.data }], guard := none }, { dst := some 87, op := Op.move (Operand.tmp 2), type := tS, pos := "slices.go:200", after := #[], guard := none }, { dst := some 88, op := Op.call { callee := Callee.builtin Builtin.copy, args := #[Operand.tmp 86, Operand.tmp 87], argTypes := #[tS, tS] }, type := tI, pos := "slices.go:200", after := #[{ on := 2, ground := Ground.data }, { on := 3, ground := Ground.data }], guard := none }] false).seq ((Code.region 19 #[{ dst := some 89, op := Op.move (Operand.tmp 0), type := tS, pos := "slices.go:207", after := #[], guard := none }, { dst := some 90, op := Op.move (Operand.tmp 1), type := tI, pos := "slices.go:207", after := #[], guard := none }, { dst := some 91, op := Op.slice tS (Operand.tmp 89) (some (Operand.tmp 90)) none none, type := tS, pos := "slices.go:207", after := #[{ on := 0, ground := Ground.data }, { on := 1, ground := Ground.data }], guard := none }, { dst := some 92, op := Op.move (Operand.tmp 7), type := tI, pos := "slices.go:207", after := #[], guard := none }, { dst := some 93, op := Op.call { callee := Callee.value (Operand.func fR), args := #[Operand.tmp 91, Operand.tmp 92], argTypes := #[tS, tI] }, type := t0, pos := "slices.go:207", after := #[{ on := 2, ground := Ground.data }, { on := 3, ground := Ground.data }], guard := none }] false).seq ((Code.region 20 #[{ dst := some 94, op := Op.move (Operand.tmp 0), type := tS, pos := "slices.go:214", after := #[], guard := none }, { dst := some 6, op := Op.assign (Operand.tmp 94), type := tS, pos := "slices.go:214", after := #[{ on := 0, ground := Ground.data }, { on := 0, ground := Ground.phase }], guard := none }] false).seq Code.ret)))))))))))), norace := false, file := "slices/slices.go", endLine := 215, met := [Departure.appendOfMake], tmpNames := (["s", "i", "v", "s", "i", "v", "", "m", "n", "s2", "", "", "", "", "", "", "", "", "", "", "", "", "", "", "", "", "", "", "", "", "", "", "", "", "", "", "", "", "", "", "", "", "", "", "", "", ""].append ["", "", "", "", "", "", "", "", "", "", "", "", "", "", "", "", "", "", "", "", "", "", "", "", "", "", "", "", "", "", "", "", "", "", "", "", "", "", "", "", "", "", "", "", "", "", "", ""]).toArray }
theorem insFn_ntmps (nm : String) (ta : Array TypeId) (tS tI tB tE t0 : TypeId) (fO fR : FuncId) : (insFn nm ta tS tI tB tE t0 fO fR).ntmps = 95 := rfl
structure InsL (P : Program) (f : FuncId) (tS tI tB tE t0 : TypeId) (fO fR : FuncId) (i0 : TypeInfo) (z : Value) : Prop where
 mixed : P.follows .mixedOrders = true
 f : ∃ nm ta, P.funcs[f]? = some (insFn nm ta tS tI tB tE t0 fO fR) ∧ (nm == "runtime.NumGoroutine") = false
 o : ∃ fn, P.funcs[fO]? = some fn ∧ fn.body = none ∧ (fn.name == "runtime.NumGoroutine") = false ∧ Extern.findNext fn = none ∧ Extern.find fn = some (Extern.SlicesOverlaps.overlaps #[tS, tS] #[tB])
 tS : P.underlying tS = some (.slice tE)
 tI : P.underlying tI = some (.int .i64)
 tB : P.underlying tB = some .bool
 t0 : P.underlying t0 = some (.tuple #[])
 i : P.info? tE = some i0
 iz : i0.zero = some z
 zs : z.cells.size = i0.size
 pos : 0 < i0.size
theorem run_copy_cellsK (w : World) (dT sT ty elem : TypeId) (b o dLen dCap : Nat) (a : Addr) (sLen sCap : Nat) (cs : List Value) (i : TypeInfo) (q : Nat)
  (hu : P.underlying dT = some (.slice elem)) (hs : P.info? elem = some i) (hq : Nat.min sLen dLen = q) (hn : cs.length = q * i.size)
  (hsrc : ∀ j v, cs[j]? = some v → w.cell? (a.add j) = some v) (hc : ∀ j, j < cs.length → (w.cell? ⟨b, o + j, none⟩).isSome = true) (hf : ∀ j, j < cs.length → w.frozen? ⟨b, o + j, none⟩ = false) (h1 : ∀ v ∈ cs, v.oneCell' = true) :
  (Builtin.copy_ #[dT, sT] ty #[.slice (some ⟨b, o, none⟩) dLen dCap, .slice (some a) sLen sCap]).run P w = .ok (goInt q) (w.setCells b o cs) := by
 have hl := run_loadCells_list (P := P) w a cs hsrc
 have hst := run_storeCells_cells (P := P) b o cs 0 w (by simpa using hc) (by simpa using hf) h1
 subst hq
 simp [Builtin.copy_, run_underlying hu, Builtin.lenOf, Builtin.firstCells, sizeOf, typeInfo, hs, ← hn, hl, hst]
theorem wp_copy_runI (w : World) {o : Oper} {a : Act} {K : Act → World → Prop} {Q : Exit → Act → World → Prop} (d s : Operand) (t t' : TypeId)
  (ho : o.op = .call { callee := .builtin .copy, args := #[d, s], argTypes := #[t, t'] }) (v u : Value) (hd : a.eval d = v) (hs : a.eval s = u) {v' : Value} {w' : World}
  (hr : (Builtin.copy_ #[t, t'] o.type #[v, u]).run P w = .ok v' w') (h : K (a.put o.dst v') w') : o.wp P a w K Q := by
 unfold Oper.wp execOp
 simp only [ho, resolve, invoke, builtin, Sem.run_bind, Sem.run_pure, Result.andThen_ok, List.map_toArray, List.map_cons, List.map_nil, hd, hs, hr]
 exact h
theorem wpList_copy_runI (w : World) {ops : Array Oper} {rest : List Oper} {o : Oper} {a : Act} {Q : Exit → Act → World → Prop} (hgd : o.guard = none) (d s : Operand) (t t' : TypeId)
  (ho : o.op = .call { callee := .builtin .copy, args := #[d, s], argTypes := #[t, t'] }) (v u : Value) (hd : a.eval d = v) (hs : a.eval s = u) {v' : Value} {w' : World}
  (hr : (Builtin.copy_ #[t, t'] o.type #[v, u]).run P w = .ok v' w') (h : wpList P ops Q rest (a.put o.dst v') w') : wpList P ops Q (o :: rest) a w :=
 wpList_plain hgd fun _ hK => wp_copy_runI w d s t t' ho v u hd hs hr (hK _ _ h)
theorem step_copy_runI {ops : Array Oper} {o : Oper} {a : Act} {w : World} {K : Act → World → Prop} {Q : Exit → Act → World → Prop} {E : Prop}
  (hg : o.guard = none) (d x : Operand) (dT sT : TypeId) (hop : o.op = Op.call { callee := Callee.builtin Builtin.copy, args := #[d, x], argTypes := #[dT, sT] })
  (v u : Value) (hd : a.eval d = v) (hx : a.eval x = u) {v' : Value} {w' : World} (hr : (Builtin.copy_ #[dT, sT] o.type #[v, u]).run P w = .ok v' w') (hK : K (a.put o.dst v') w') :
  if Region.wanted o (yielded ops a.tmps) = true then Oper.wp P o a w K Q else E := by
 have hw : Region.wanted o (yielded ops a.tmps) = true := by simp [Region.wanted, hg]
 rw [if_pos hw]
 unfold Oper.wp
 simp [execOp, hop, resolve, invoke, builtin, hd, hx, hr, Result.andThen]
 exact hK
theorem isSome_setCells (b : Nat) (vs : List Value) (o : Nat) (w : World) (h : ∀ j, j < vs.length → (w.cell? ⟨b, o + j, none⟩).isSome = true) (k : Nat) (hk : (w.cell? ⟨b, k, none⟩).isSome = true) : ((w.setCells b o vs).cell? ⟨b, k, none⟩).isSome = true := by
 by_cases hin : o ≤ k ∧ k < o + vs.length
 ·have := World.cell?_setCells_in b vs o w h (k - o) (by omega)
  rw [show o + (k - o) = k by omega] at this
  rw [this]; rfl
 ·rw [World.cell?_setCells_out b vs o w ⟨b, k, none⟩ (fun _ _ => by show k < o ∨ o + vs.length ≤ k; omega)]
  exact hk
theorem drew_setCells' (b : Nat) : ∀ (vs : List Value) (o : Nat) (w : World), (w.setCells b o vs).drew = w.drew.setCells b o vs
 | [], _, _ => rfl
 | v :: r, o, w => by rw [World.setCells, World.setCells, drew_setCells' b r]; rfl
theorem run_size {t : TypeId} {i : TypeInfo} (h : P.info? t = some i) (w : World) : (sizeOf t).run P w = .ok i.size w := by simp [sizeOf, typeInfo, h]
variable {f tS tI tB tE t0 fO fR : Nat} {i0 : TypeInfo} {z : Value}
set_option maxHeartbeats 4000000 in
set_option maxRecDepth 100000 in
theorem ins_shift (L : InsL P f tS tI tB tE t0 fO fR i0 z) (b off n c i vb voff vc : Nat) (cs vs : List Value) (w : World) (hi : i < n) (hroom : n + 1 ≤ c) (hn63 : n + 1 ≤ 9223372036854775807) (hvb : vb ≠ b)
  (hcl : cs.length = (n - i) * i0.size) (hvl : vs.length = i0.size)
  (hcs : ∀ j v, cs[j]? = some v → w.cell? ⟨b, off + i * i0.size + j, none⟩ = some v) (hsp : ∀ j, j < (n + 1) * i0.size → (w.cell? ⟨b, off + j, none⟩).isSome = true) (hfz : ∀ j, j < (n + 1) * i0.size → w.frozen? ⟨b, off + j, none⟩ = false)
  (hvs : ∀ j v, vs[j]? = some v → w.cell? ⟨vb, voff + j, none⟩ = some v) (h1c : ∀ v ∈ cs, v.oneCell' = true) (h1v : ∀ v ∈ vs, v.oneCell' = true)
  (hov : ∀ lb cb, (callFunc fO #[.slice (some ⟨vb, voff, none⟩) 1 vc, .slice (some ⟨b, off + (i + 1) * i0.size, none⟩) lb cb]).run P w = .ok (.value (.bool false)) w) :
  Calls P f #[.slice (some ⟨b, off, none⟩) n c, .int .i64 i, .slice (some ⟨vb, voff, none⟩) 1 vc] w fun e w' =>
   e = .returned (.slice (some ⟨b, off, none⟩) (n + 1) c) ∧ ∃ q, w' = ({ w with drawn := q }.setCells b (off + (i + 1) * i0.size) cs).setCells b (off + i * i0.size) vs := by
 have mixed := L.mixed; have tS' := L.tS; have tI' := L.tI; have tB' := L.tB; have t0' := L.t0
 have uS := run_underlying (w := w) L.tS
 have zE := run_size L.i
 obtain ⟨nm, ta, hf, _⟩ := L.f
 have hz2 : ¬ ((i : Int) = (n : Int)) := by omega
 obtain ⟨sz, hsz⟩ : ∃ sz, sz = i0.size := ⟨_, rfl⟩
 have hw1 : IntKind.i64.wrap ((i : Int) + 1) = (i : Int) + 1 := by rw [IntKind.wrap_i64]; omega
 have hw2 : IntKind.i64.wrap ((n : Int) + 1) = (n : Int) + 1 := by rw [IntKind.wrap_i64]; omega
 have hb1 : (0 : Int) ≤ (i : Int) + 1 := by omega
 have hin : i ≤ n := by omega
 have htn : ((i : Int) + 1).toNat = i + 1 := by omega
 have hb2 : ¬ (c = i + 1) := by omega
 have hb3 : (i : Int) ≤ (n : Int) + 1 := by omega
 have hb4 : ¬ (c = i) := by omega
 have hmul : ∀ x, x + 1 ≤ n + 1 → x * i0.size + i0.size ≤ (n + 1) * i0.size := fun x hx => by
  have := Nat.mul_le_mul_right i0.size hx; rwa [Nat.add_mul, Nat.one_mul] at this
 have hsum : i * i0.size + (n - i) * i0.size = n * i0.size := by rw [← Nat.add_mul]; congr 1; omega
 have hn1 : (n + 1) * i0.size = n * i0.size + i0.size := by rw [Nat.add_mul, Nat.one_mul]
 have hi1 : (i + 1) * i0.size = i * i0.size + i0.size := by rw [Nat.add_mul, Nat.one_mul]
 have hcp1 : ∀ ty dc sc, (Builtin.copy_ #[tS, tS] ty #[.slice (some ⟨b, off + (i + 1) * i0.size, none⟩) (n - i) dc, .slice (some ⟨b, off + i * i0.size, none⟩) (n + 1 - i) sc]).run P w.drew = .ok (goInt ((n - i : Nat) : Int)) (w.drew.setCells b (off + (i + 1) * i0.size) cs) := fun ty dc sc =>
  run_copy_cellsK w.drew tS tS ty tE b (off + (i + 1) * i0.size) (n - i) dc ⟨b, off + i * i0.size, none⟩ (n + 1 - i) sc cs i0 (n - i) L.tS L.i (by simp only [Nat.min_def]; split <;> omega) hcl
   (fun j v hj => by rw [Addr.add_lit]; exact hcs j v hj)
   (fun j hj => by rw [Nat.add_assoc]; exact hsp _ (by omega)) (fun j hj => by rw [Nat.add_assoc]; exact hfz _ (by omega)) h1c
 obtain ⟨W1, hW1⟩ : ∃ W1, W1 = w.drew.setCells b (off + (i + 1) * i0.size) cs := ⟨_, rfl⟩
 have hsp1 : ∀ k, k < (n + 1) * i0.size → (W1.cell? ⟨b, off + k, none⟩).isSome = true := fun k hk => by
  rw [hW1]
  exact isSome_setCells b _ _ _ (fun j hj => by rw [Nat.add_assoc]; exact hsp _ (by omega)) _ (hsp k hk)
 have hcp2 : ∀ (W : World), (∀ x, W.cell? x = W1.cell? x) → (∀ x, W.frozen? x = W1.frozen? x) → ∀ ty dc, (Builtin.copy_ #[tS, tS] ty #[.slice (some ⟨b, off + i * i0.size, none⟩) (n + 1 - i) dc, .slice (some ⟨vb, voff, none⟩) 1 vc]).run P W = .ok (goInt 1) (W.setCells b (off + i * i0.size) vs) := fun W hWc hWf ty dc =>
  run_copy_cellsK W tS tS ty tE b (off + i * i0.size) (n + 1 - i) dc ⟨vb, voff, none⟩ 1 vc vs i0 1 L.tS L.i (by simp only [Nat.min_def]; split <;> omega) (by rw [hvl, Nat.one_mul])
   (fun j v hj => by
    rw [Addr.add_lit, hWc, hW1, World.cell?_setCells_out b _ _ _ _ (fun h _ => absurd h hvb)]
    exact hvs j v hj)
   (fun j hj => by rw [hWc, Nat.add_assoc]; exact hsp1 _ (by have := hmul i (by omega); omega)) (fun j hj => by rw [hWf, hW1, World.frozen?_setCells, Nat.add_assoc]; exact hfz _ (by have := hmul i (by omega); omega)) h1v
 rw [← hW1] at hcp1
 clear hsp hfz hcs hvs hmul hsum hn1 hi1 hcl hvl hsp1
 go_enter hf, insFn_ntmps _ _ _ _ _ _ _ _ _
 go_wp2_with (simp only [hov])
 go_region_law_o (refine step_copy_runI rfl _ _ tS tS rfl _ _ (by simp [Act.eval, Act.put]) (by simp [Act.eval, Act.put]) (hcp1 _ _ _) ?_)
 go_wp2_with (at_builtin; refine wpList_copy_runI _ rfl _ _ tS tS rfl _ _ rfl rfl (hcp2 _ (fun _ => rfl) (fun _ => rfl) _ _) ?_)
 go_ret
 exact ⟨rfl, w.drawn + 1, rfl⟩
set_option maxHeartbeats 4000000 in
set_option maxRecDepth 100000 in
theorem ins_grow (L : InsL P f tS tI tB tE t0 fO fR i0 z) (b off n i vb voff vc : Nat) (c1 c2 vs : List Value) (w : World) (hi : i < n) (hbig : (n + 1) * i0.bytes ≤ 140737488355328) (hn48 : n + 1 ≤ 140737488355328)
  (hc1 : c1.length = i * i0.size) (hc2 : c2.length = (n - i) * i0.size) (hvl : vs.length = i0.size)
  (hs1 : ∀ j v, c1[j]? = some v → w.cell? ⟨b, off + j, none⟩ = some v) (hs2 : ∀ j v, c2[j]? = some v → w.cell? ⟨b, off + i * i0.size + j, none⟩ = some v)
  (hvs : ∀ j v, vs[j]? = some v → w.cell? ⟨vb, voff + j, none⟩ = some v) (h1c : ∀ v ∈ c2, v.oneCell' = true) (h1v : ∀ v ∈ vs, v.oneCell' = true) :
  Calls P f #[.slice (some ⟨b, off, none⟩) n n, .int .i64 i, .slice (some ⟨vb, voff, none⟩) 1 vc] w fun e w' =>
   ∃ (G q : Nat) (ROW : Array Value), n + 1 ≤ G ∧ ROW.size = G * i0.size ∧ (∀ j, j < i * i0.size → ROW[j]? = c1[j]?) ∧ e = .returned (.slice (some ⟨w.heap.size, 0, none⟩) (n + 1) G) ∧
   w' = (({ w with drawn := q }.alloc (.cells ROW tE)).setCells w.heap.size (i * i0.size) vs).setCells w.heap.size ((i + 1) * i0.size) c2 := by
 have mixed := L.mixed; have tS' := L.tS; have tI' := L.tI; have tB' := L.tB; have t0' := L.t0
 have uS := run_underlying (w := w) L.tS
 have zE := run_size L.i
 obtain ⟨nm, ta, hf, _⟩ := L.f
 have hz2 : ¬ ((i : Int) = (n : Int)) := by omega
 have hz3 : (n : Int) < (n : Int) + 1 := by omega
 have hpos := L.pos
 have hmul : ∀ x, x + 1 ≤ n + 1 → x * i0.size + i0.size ≤ (n + 1) * i0.size := fun x hx => by
  have := Nat.mul_le_mul_right i0.size hx; rwa [Nat.add_mul, Nat.one_mul] at this
 have hm0 := hmul 0 (by omega)
 have hmi := hmul i (by omega)
 have hbw : b < w.heap.size := by
  have h0 : 0 < c2.length := by rw [hc2]; exact Nat.mul_pos (by omega) hpos
  exact block_lt_of_cell (hs2 0 _ (List.getElem?_eq_getElem h0))
 have hvw : vb < w.heap.size := block_lt_of_cell (hvs 0 _ (List.getElem?_eq_getElem (by omega)))
 have hkk : (n : Int) + 1 - (i : Int) = ((n + 1 - i : Nat) : Int) := by omega
 have hik : i + (n + 1 - i) = n + 1 := by omega
 have hold : (Builtin.firstCells i0.size i (.slice (some ⟨b, off, none⟩) i n)).run P w.drew = .ok c1.toArray w.drew :=
  run_firstCells_some w.drew i0.size i ⟨b, off, none⟩ i n c1 hc1 (fun j v hj => by
   rw [Addr.add_lit]
   exact hs1 j v hj)
 have hb0 : (n + 1 - i) * i0.bytes ≤ (n + 1) * i0.bytes := Nat.mul_le_mul_right _ (by omega)
 have hrz : ∀ ty, (Builtin.append_ #[tS, tI] ty #[.slice (some ⟨b, off, none⟩) i n, .int .i64 ((n : Int) + 1 - (i : Int))]).run P w =
   .ok (.slice (some ⟨w.heap.size, 0, none⟩) (n + 1) (grownCap w (n + 1) n tE)) (w.drew.alloc (.cells (c1.toArray ++ Builtin.zeroCells z.cells (n + 1 - i) ++ Builtin.zeroCells z.cells (grownCap w (n + 1) n tE - (n + 1))) tE)) := fun ty => by
  have h := Lib.run_append_grow_zeros w tS tI ty tE i0 _ .i64 .i64 L.tS L.tI L.i L.iz (some ⟨b, off, none⟩) i n c1 hold (n + 1 - i) (by omega) hpos (by omega) (by omega) (by omega) (by rw [hik]; exact growslice_fits (by omega) hbig)
  rw [hik] at h
  rw [hkk]
  exact h
 obtain ⟨G, hG⟩ : ∃ G, G = grownCap w (n + 1) n tE := ⟨_, rfl⟩
 obtain ⟨ROW, hROW⟩ : ∃ ROW : Array Value, ROW = c1.toArray ++ Builtin.zeroCells z.cells (n + 1 - i) ++ Builtin.zeroCells z.cells (G - (n + 1)) := ⟨_, rfl⟩
 rw [← hG] at hrz
 rw [← hROW] at hrz
 have hGn : n + 1 ≤ G := by rw [hG]; exact grownCap_ge w _ _ _
 have hRs : ROW.size = G * i0.size := by
  rw [hROW]
  simp only [Array.size_append, List.size_toArray, size_zeroCells, L.zs, hc1, ← Nat.add_mul]
  congr 1; omega
 have hRl : (n + 1) * i0.size ≤ ROW.size := by rw [hRs]; exact Nat.mul_le_mul_right _ hGn
 have hR1 : ∀ j, j < i * i0.size → ROW[j]? = c1[j]? := fun j hj => by
  rw [hROW, Array.append_assoc, Array.getElem?_append_left (by simpa [hc1] using hj)]
  simp
 obtain ⟨W1, hW1⟩ : ∃ W1, W1 = w.drew.alloc (.cells ROW tE) := ⟨_, rfl⟩
 rw [← hW1] at hrz
 have hN : ∀ j, j < (n + 1) * i0.size → (W1.cell? ⟨w.heap.size, j, none⟩).isSome = true := fun j hj => by
  rw [hW1, World.cell?_alloc_at (w := w.drew) ROW _ w.heap.size j rfl, Array.getElem?_eq_getElem (by omega)]; rfl
 have hNf : ∀ j, W1.frozen? ⟨w.heap.size, j, none⟩ = false := fun j => by rw [hW1]; exact World.frozen?_alloc_at (w := w.drew) ROW _ w.heap.size j rfl
 have hOb : ∀ j v, w.cell? ⟨b, j, none⟩ = some v → W1.cell? ⟨b, j, none⟩ = some v := fun j v h => by rw [hW1, World.cell?_alloc_past (w := w.drew) _ b j hbw]; exact h
 have hOv : ∀ j v, w.cell? ⟨vb, j, none⟩ = some v → W1.cell? ⟨vb, j, none⟩ = some v := fun j v h => by rw [hW1, World.cell?_alloc_past (w := w.drew) _ vb j hvw]; exact h
 have hsum : (i + 1) * i0.size + (n - i) * i0.size = (n + 1) * i0.size := by rw [← Nat.add_mul]; congr 1; omega
 have hcpA : ∀ (W : World), (∀ x, W.cell? x = W1.cell? x) → (∀ x, W.frozen? x = W1.frozen? x) → ∀ ty dc, (Builtin.copy_ #[tS, tS] ty #[.slice (some ⟨w.heap.size, i * i0.size, none⟩) (n + 1 - i) dc, .slice (some ⟨vb, voff, none⟩) 1 vc]).run P W = .ok (goInt 1) (W.setCells w.heap.size (i * i0.size) vs) := fun W hWc hWf ty dc =>
  run_copy_cellsK W tS tS ty tE w.heap.size (i * i0.size) (n + 1 - i) dc ⟨vb, voff, none⟩ 1 vc vs i0 1 L.tS L.i (by simp only [Nat.min_def]; split <;> omega) (by rw [hvl, Nat.one_mul])
   (fun j v hj => by rw [Addr.add_lit, hWc]; exact hOv _ v (hvs j v hj))
   (fun j hj => by rw [hWc]; exact hN _ (by omega)) (fun j hj => by rw [hWf]; exact hNf _) h1v
 have hG63 : G ≤ 9223372036854775807 := by
  have := grownCap_le_maxLen w (n + 1) n tE (by unfold maxLen; omega)
  rw [← hG] at this
  unfold maxLen at this
  omega
 have hGi : ¬ (G = i) := by omega
 have hGim : ¬ (G = i + 1) := by omega
 have hci : ¬ (n = i) := by omega
 have hbN : b ≠ w.heap.size := by omega
 have hcpB : ∀ (W : World), (∀ x, W.cell? x = (W1.setCells w.heap.size (i * i0.size) vs).cell? x) → (∀ x, W.frozen? x = (W1.setCells w.heap.size (i * i0.size) vs).frozen? x) → ∀ ty dc sc, (Builtin.copy_ #[tS, tS] ty #[.slice (some ⟨w.heap.size, (i + 1) * i0.size, none⟩) (n - i) dc, .slice (some ⟨b, off + i * i0.size, none⟩) (n - i) sc]).run P W = .ok (goInt ((n - i : Nat) : Int)) (W.setCells w.heap.size ((i + 1) * i0.size) c2) := fun W hWc hWf ty dc sc =>
  run_copy_cellsK W tS tS ty tE w.heap.size ((i + 1) * i0.size) (n - i) dc ⟨b, off + i * i0.size, none⟩ (n - i) sc c2 i0 (n - i) L.tS L.i (by simp only [Nat.min_def]; split <;> omega) hc2
   (fun j v hj => by
    rw [Addr.add_lit, hWc, World.cell?_setCells_out _ _ _ _ _ (fun h _ => absurd h hbN)]
    exact hOb _ v (hs2 j v hj))
   (fun j hj => by rw [hWc]; exact isSome_setCells _ _ _ _ (fun t ht => hN _ (by omega)) _ (hN _ (by omega)))
   (fun j hj => by rw [hWf, World.frozen?_setCells]; exact hNf _) h1c
 subst hW1
 have hE1 : ∀ x, ((w.alloc (.cells ROW tE)).drew).cell? x = (w.drew.alloc (.cells ROW tE)).cell? x := fun x => rfl
 have hE2 : ∀ x, ((w.alloc (.cells ROW tE)).drew).frozen? x = (w.drew.alloc (.cells ROW tE)).frozen? x := fun x => rfl
 have hF1 : ∀ x, (((w.alloc (.cells ROW tE)).drew.setCells w.heap.size (i * i0.size) vs).drew).cell? x = ((w.drew.alloc (.cells ROW tE)).setCells w.heap.size (i * i0.size) vs).cell? x := fun x => rfl
 have hF2 : ∀ x, (((w.alloc (.cells ROW tE)).drew.setCells w.heap.size (i * i0.size) vs).drew).frozen? x = ((w.drew.alloc (.cells ROW tE)).setCells w.heap.size (i * i0.size) vs).frozen? x := fun x => rfl
 have hw1 : IntKind.i64.wrap ((i : Int) + 1) = (i : Int) + 1 := by rw [IntKind.wrap_i64]; omega
 have hw2 : IntKind.i64.wrap ((n : Int) + 1) = (n : Int) + 1 := by rw [IntKind.wrap_i64]; omega
 have hw3 : IntKind.i64.wrap ((n : Int) + 1 - i) = (n : Int) + 1 - i := by rw [IntKind.wrap_i64]; omega
 have hb1 : (0 : Int) ≤ (i : Int) + 1 := by omega
 have hin : i ≤ n := by omega
 have htn : ((i : Int) + 1).toNat = i + 1 := by omega
 have hb3 : (i : Int) ≤ (n : Int) := by omega
 refine Calls.mono (R := fun e w' => e = .returned (.slice (some ⟨w.heap.size, 0, none⟩) (n + 1) G) ∧ ∃ q, w' = (({ w with drawn := q }.alloc (.cells ROW tE)).setCells w.heap.size (i * i0.size) vs).setCells w.heap.size ((i + 1) * i0.size) c2) ?_ ?_
 ·clear hkk hik hold hROW hG hRl hs1 hs2 hvs hmul hm0 hmi hc1 hc2 hvl hsum hb0 hN hNf hOb hOv hR1 hRs
  go_enter hf, insFn_ntmps _ _ _ _ _ _ _ _ _
  go_wp2_with (first
   | (at_builtin; refine Lib.wpList_append_run _ rfl _ _ _ _ rfl _ _ rfl rfl _ _ (hrz _) ?_)
   | (at_builtin; refine wpList_copy_runI _ rfl _ _ tS tS rfl _ _ rfl rfl (hcpA _ hE1 hE2 _ _) ?_)
   | (at_builtin; refine wpList_copy_runI _ rfl _ _ tS tS rfl _ _ rfl rfl (hcpB _ (fun _ => rfl) (fun _ => rfl) _ _ _) ?_))
  go_region_law_o (refine step_copy_runI rfl _ _ tS tS rfl (.slice (some ⟨w.heap.size, (i + 1) * i0.size, none⟩) (n - i) (G - (i + 1))) (.slice (some ⟨b, off + i * i0.size, none⟩) (n - i) (n - i)) (by simp [Act.eval, Act.put]) (by simp [Act.eval, Act.put]) (hcpB _ hF1 hF2 tI (G - (i + 1)) (n - i)) ?_)
  go_wp2
  go_ret
  exact ⟨rfl, w.drawn + 1 + 1, by rw [drew_setCells']; rfl⟩
 ·rintro e w' ⟨he, q, hw⟩
  exact ⟨G, q, ROW, hGn, hRs, hR1, he, hw⟩
set_option maxHeartbeats 4000000 in
set_option maxRecDepth 100000 in
theorem ins_end (L : InsL P f tS tI tB tE t0 fO fR i0 z) (a : Option Addr) (n c : Nat) (va : Option Addr) (vc : Nat) (w : World) (hnc : n ≤ c) {r : Value} {w1 : World}
  (hap : ∀ ty, (Builtin.append_ #[tS, tS] ty #[.slice a n c, .slice va 1 vc]).run P w = .ok r w1) :
  Calls P f #[.slice a n c, .int .i64 n, .slice va 1 vc] w fun e w' => e = .returned r ∧ w' = w1 := by
 have mixed := L.mixed; have tS' := L.tS; have tI' := L.tI; have tB' := L.tB; have t0' := L.t0
 have uS := run_underlying (w := w) L.tS
 have zE := run_size L.i
 obtain ⟨nm, ta, hf, _⟩ := L.f
 cases a with
 | none =>
  go_enter hf, insFn_ntmps _ _ _ _ _ _ _ _ _
  go_wp2_with (at_builtin; refine Lib.wpList_append_run _ rfl _ _ _ _ rfl _ _ rfl rfl _ _ (hap _) ?_)
  go_ret
  exact ⟨rfl, rfl⟩
 | some a =>
  go_enter hf, insFn_ntmps _ _ _ _ _ _ _ _ _
  go_wp2_with (at_builtin; refine Lib.wpList_append_run _ rfl _ _ _ _ rfl _ _ rfl rfl _ _ (hap _) ?_)
  all_goals (go_ret; exact ⟨rfl, rfl⟩)
end Go.Am
