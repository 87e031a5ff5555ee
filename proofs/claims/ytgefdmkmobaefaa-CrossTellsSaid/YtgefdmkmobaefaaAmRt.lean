/-
  name.Right: its text; what it makes.
-/
import Derived.Shelf.RegionOpenPlain
import Derived.WalkKit
import Derived.Lib.Walk
import Derived.LoopTactic
import Derived.Laws.RangeAny
import Derived.Laws.Strings
import Derived.Laws.Strings2
import Derived.Laws.Strings3
import Derived.Lib.Strings
import Derived.Test.YtgefdmkmobaefaaAmGT
set_option linter.unusedSimpArgs false
set_option linter.unusedVariables false
set_option linter.unusedVariables false
set_option linter.unusedSimpArgs false
namespace Go.Am.Nm
open Go.Shelf Go.RowKit Go.Lib Go.Am
variable {P : Program}
def rightFn (nm : String) (ta : Array TypeId) (tS tB tI tR t0 : TypeId) : Func :=
  { name := nm, origin := "", params := #[tS], resultTypes := #[tB], nfree := 0, ntmps := 31, results := #[ResultVar.tmp 2], body := some ((Code.region 0 #[{ dst := some 2, op := Op.assign (Operand.const (Value.bool false)), type := tB, pos := "name.go:13", after := #[], guard := none }] false).seq (((Code.region 1 #[{ dst := some 5, op := Op.move (Operand.tmp 0), type := tS, pos := "name.go:14", after := #[], guard := none }, { dst := some 6, op := Op.binOp BinOp.eql tS (Operand.tmp 5) (Operand.const (Value.string { data := #[] })) tS, type := tB, pos := "name.go:14", after := #[{ on := 0, ground := Ground.data }], guard := none }, { dst := some 7, op := Op.move (Operand.tmp 6), type := tB, pos := "name.go:14", after := #[{ on := 1, ground := Ground.data }], guard := none }, { dst := some 8, op := Op.move (Operand.tmp 0), type := tS, pos := "name.go:14", after := #[{ on := 2, ground := Ground.guard }], guard := some (2, false) }, { dst := some 9, op := Op.call { callee := Callee.builtin Builtin.len, args := #[Operand.tmp 8], argTypes := #[tS] }, type := tI, pos := "name.go:14", after := #[{ on := 3, ground := Ground.data }, { on := 2, ground := Ground.guard }], guard := some (2, false) }, { dst := some 10, op := Op.binOp BinOp.gtr tI (Operand.tmp 9) (Operand.const (Value.int IntKind.i64 32)) tI, type := tB, pos := "name.go:14", after := #[{ on := 4, ground := Ground.data }, { on := 2, ground := Ground.guard }], guard := some (2, false) }, { dst := some 11, op := Op.pick (Operand.tmp 7) (Operand.const (Value.bool true)) (Operand.tmp 10), type := tB, pos := "name.go:14", after := #[{ on := 2, ground := Ground.data }, { on := 5, ground := Ground.data }], guard := none }, { dst := some 12, op := Op.move (Operand.tmp 11), type := tB, pos := "name.go:14", after := #[{ on := 6, ground := Ground.data }, { on := 2, ground := Ground.chain }], guard := none }, { dst := some 13, op := Op.move (Operand.tmp 0), type := tS, pos := "name.go:14", after := #[{ on := 7, ground := Ground.guard }], guard := some (7, false) }, { dst := some 14, op := Op.binOp BinOp.eql tS (Operand.tmp 13) (Operand.const (Value.string { data := #[46] })) tS, type := tB, pos := "name.go:14", after := #[{ on := 8, ground := Ground.data }, { on := 7, ground := Ground.guard }], guard := some (7, false) }, { dst := some 15, op := Op.pick (Operand.tmp 12) (Operand.const (Value.bool true)) (Operand.tmp 14), type := tB, pos := "name.go:14", after := #[{ on := 7, ground := Ground.data }, { on := 9, ground := Ground.data }], guard := none }, { dst := some 16, op := Op.move (Operand.tmp 15), type := tB, pos := "name.go:14", after := #[{ on := 10, ground := Ground.data }, { on := 7, ground := Ground.chain }], guard := none }, { dst := some 17, op := Op.move (Operand.tmp 0), type := tS, pos := "name.go:14", after := #[{ on := 11, ground := Ground.guard }], guard := some (11, false) }, { dst := some 18, op := Op.binOp BinOp.eql tS (Operand.tmp 17) (Operand.const (Value.string { data := #[46, 46] })) tS, type := tB, pos := "name.go:14", after := #[{ on := 12, ground := Ground.data }, { on := 11, ground := Ground.guard }], guard := some (11, false) }, { dst := some 19, op := Op.pick (Operand.tmp 16) (Operand.const (Value.bool true)) (Operand.tmp 18), type := tB, pos := "name.go:14", after := #[{ on := 11, ground := Ground.data }, { on := 13, ground := Ground.data }], guard := none }] false).seq (Code.cond (Operand.tmp 19) ((Code.region 2 #[{ dst := some 2, op := Op.assign (Operand.const (Value.bool false)), type := tB, pos := "name.go:15", after := #[], guard := none }] false).seq Code.ret) Code.skip)).seq (((Code.region 3 #[{ dst := some 20, op := Op.move (Operand.tmp 0), type := tS, pos := "name.go:17", after := #[], guard := none }, { dst := some 21, op := Op.range tS (Operand.tmp 20), type := t0, pos := "name.go:17", after := #[{ on := 0, ground := Ground.data }], guard := none }] false).seq (Code.block 0 ((Code.region 4 #[{ dst := some 22, op := Op.next (Operand.tmp 21) true, type := t0, pos := "name.go:17", after := #[], guard := none }, { dst := some 23, op := Op.extract (Operand.tmp 22) 0, type := tB, pos := "name.go:17", after := #[{ on := 0, ground := Ground.data }], guard := none }] false).seq ((Code.cond (Operand.tmp 23) Code.skip (Code.exit 0)).seq (Code.block 1 ((Code.region 5 #[{ dst := some 24, op := Op.extract (Operand.tmp 22) 2, type := tR, pos := "name.go:17", after := #[], guard := none }, { dst := some 4, op := Op.assign (Operand.tmp 24), type := tR, pos := "name.go:17", after := #[{ on := 0, ground := Ground.data }, { on := 0, ground := Ground.phase }], guard := none }] false).seq ((Code.region 6 #[{ dst := some 25, op := Op.move (Operand.tmp 4), type := tR, pos := "name.go:18", after := #[], guard := none }, { dst := some 26, op := Op.binOp BinOp.lss tR (Operand.tmp 25) (Operand.const (Value.int IntKind.i32 32)) tR, type := tB, pos := "name.go:18", after := #[{ on := 0, ground := Ground.data }], guard := none }, { dst := some 27, op := Op.move (Operand.tmp 26), type := tB, pos := "name.go:18", after := #[{ on := 1, ground := Ground.data }], guard := none }, { dst := some 28, op := Op.move (Operand.tmp 4), type := tR, pos := "name.go:18", after := #[{ on := 2, ground := Ground.guard }], guard := some (2, false) }, { dst := some 29, op := Op.binOp BinOp.eql tR (Operand.tmp 28) (Operand.const (Value.int IntKind.i32 47)) tR, type := tB, pos := "name.go:18", after := #[{ on := 3, ground := Ground.data }, { on := 2, ground := Ground.guard }], guard := some (2, false) }, { dst := some 30, op := Op.pick (Operand.tmp 27) (Operand.const (Value.bool true)) (Operand.tmp 29), type := tB, pos := "name.go:18", after := #[{ on := 2, ground := Ground.data }, { on := 4, ground := Ground.data }], guard := none }] false).seq (Code.cond (Operand.tmp 30) ((Code.region 7 #[{ dst := some 2, op := Op.assign (Operand.const (Value.bool false)), type := tB, pos := "name.go:19", after := #[], guard := none }] false).seq Code.ret) Code.skip)))))).loop)).seq ((Code.region 8 #[{ dst := some 2, op := Op.assign (Operand.const (Value.bool true)), type := tB, pos := "name.go:22", after := #[], guard := none }] false).seq Code.ret)))), norace := false, file := "catacomb/name/name.go", endLine := 23, tmpNames := #["s", "s", "", "_", "c", "", "", "", "", "", "", "", "", "", "", "", "", "", "", "", "", "", "", "", "", "", "", "", "", "", ""] }
theorem rightFn_ntmps (nm : String) (ta : Array TypeId) (tS tB tI tR t0 : TypeId) : (rightFn nm ta tS tB tI tR t0).ntmps = 31 := rfl
def okb (b : UInt8) : Bool := !decide (b.toNat < 32) && !decide (b.toNat = 47)
def rightN (l : List UInt8) : Bool := !(decide (l = []) || decide (32 < l.length) || decide (l = [46]) || decide (l = [46, 46])) && l.all okb
def goodAt (s : ByteArray) (pos : Nat) : Bool := (s.data.toList.drop pos).all okb
structure RightL (P : Program) (f : FuncId) (tS tB tI tR t0 : TypeId) : Prop where
  mixed : P.follows .mixedOrders = true
  f : ∃ nm ta, P.funcs[f]? = some (rightFn nm ta tS tB tI tR t0) ∧ (nm == "runtime.NumGoroutine") = false
  tS : P.underlying tS = some .string
  tB : P.underlying tB = some .bool
  tI : P.underlying tI = some (.int .i64)
  tR : P.underlying tR = some (.int .i32)
theorem tl_data (s : ByteArray) : s.toList = s.data.toList := by
  obtain ⟨⟨l⟩⟩ := s
  simp
theorem data_at (s : ByteArray) (pos : Nat) (h : pos < s.size) : s.data.toList[pos]? = some (s[pos]'h) := by
  rw [Array.getElem?_toList]
  exact Array.getElem?_eq_getElem h
theorem good_step (s : ByteArray) (pos : Nat) (h : pos < s.size) : goodAt s pos = (okb (s[pos]'h) && goodAt s (pos + 1)) := by
  have h1 := data_at s pos h
  obtain ⟨h2, h3⟩ := List.getElem?_eq_some_iff.1 h1
  unfold goodAt
  rw [List.drop_eq_getElem_cons h2, List.all_cons, h3]
theorem good_end (s : ByteArray) (pos : Nat) (h : ¬ pos < s.size) : goodAt s pos = true := by
  unfold goodAt
  rw [List.drop_of_length_le (by rw [← Lib.size_eq]; omega)]
  rfl
theorem good_many (s : ByteArray) (pos : Nat) : ∀ n, (∀ k, k < n → ∃ h : pos + k < s.size, 128 ≤ (s[pos + k]'h).toNat) → goodAt s pos = goodAt s (pos + n)
  | 0, _ => rfl
  | n + 1, h => by
    rw [good_many s pos n fun k hk => h k (by omega)]
    obtain ⟨h1, h2⟩ := h n (by omega)
    rw [good_step s (pos + n) h1]
    have : okb (s[pos + n]'h1) = true := by
      unfold okb
      have e1 : ¬ (s[pos + n]'h1).toNat < 32 := by omega
      have e2 : ¬ (s[pos + n]'h1).toNat = 47 := by omega
      simp [e1, e2]
    rw [this]; rfl
theorem get_pos (s : ByteArray) (k : Nat) (h : k < s.size) : s.get! k = s[k]'h := by
  have := get_at s k h
  simpa using this
theorem conts (s : ByteArray) (pos : Nat) (h : pos < s.size) (ha : 128 ≤ (s[pos]'h).toNat) : ∀ k, k < (Utf8.decode s pos).2 → ∃ h : pos + k < s.size, 128 ≤ (s[pos + k]'h).toNat := by
  have h0 : 128 ≤ (s.get! pos).toNat := by rw [get_pos s pos h]; exact ha
  suffices hh : ∀ k, k < (Utf8.decode s pos).2 → pos + k < s.size ∧ 128 ≤ (s.get! (pos + k)).toNat from fun k hk => by
    obtain ⟨h1, h2⟩ := hh k hk
    refine ⟨h1, ?_⟩
    rw [get_pos s _ h1] at h2
    exact h2
  intro k
  have hn : ¬ (s.get! pos).toNat < 128 := by omega
  simp only [Utf8.decode, Nat.add_zero, hn, if_false]
  repeat' split
  all_goals (intro hk; simp only [Bool.and_eq_true, decide_eq_true_eq, beq_iff_eq] at *)
  all_goals (have hc : k = 0 ∨ k = 1 ∨ k = 2 ∨ k = 3 := by omega)
  all_goals (rcases hc with rfl | rfl | rfl | rfl)
  all_goals first | (exact ⟨by omega, by simpa using h0⟩) | (refine ⟨by omega, by omega⟩)
theorem good_any (s : ByteArray) (pos : Nat) (h : pos < s.size) (ha : 128 ≤ (s[pos]'h).toNat) : goodAt s pos = goodAt s (pos + (Utf8.decode s pos).2) := good_many s pos _ (conts s pos h ha)
theorem good_rune (s : ByteArray) (pos : Nat) (h : pos < s.size) : goodAt s pos = ((!decide ((Utf8.decode s pos).1 < 32) && !decide ((Utf8.decode s pos).1 = 47)) && goodAt s (pos + (Utf8.decode s pos).2)) ∧ 1 ≤ (Utf8.decode s pos).2 := by
  by_cases ha : (s[pos]'h).toNat < 128
  · rw [decode_ascii s pos h ha, good_step s pos h]
    exact ⟨rfl, Nat.le_refl _⟩
  · obtain ⟨h1, h2⟩ := decode_high s pos h (by omega)
    rw [← good_any s pos h (by omega)]
    have e1 : ¬ (Utf8.decode s pos).1 < 32 := by omega
    have e2 : ¬ (Utf8.decode s pos).1 = 47 := by omega
    simp [e1, e2, h2]
set_option maxRecDepth 1000000 in
set_option maxHeartbeats 2000000 in
theorem right_calls {f tS tB tI tR t0 : Nat} (L : RightL P f tS tB tI tR t0) (s : ByteArray) (w : World) :
    Calls P f #[.string s] w fun e w' => e = .returned (.bool (rightN s.data.toList)) ∧ (w' = w ∨ ∃ pos, w' = w.iter s pos) := by
  have mixed := L.mixed; have tS' := L.tS; have tI' := L.tI; have tB' := L.tB; have tR' := L.tR
  have uS := fun w => run_underlying (w := w) L.tS
  have hrg := fun (w : World) => run_range_string (P := P) w tS s L.tS
  obtain ⟨nm, ta, hf, _⟩ := L.f
  go_enter hf, rightFn_ntmps _ _ _ _ _ _ _
  go_wp2
  any_goals go_ret
  all_goals first
    | (refine ⟨?_, .inl rfl⟩
       have hl : s.toList = s.data.toList := tl_data s
       have hz : s.size = s.data.toList.length := Lib.size_eq s
       generalize s.data.toList = l at *
       generalize s.toList = l' at *
       generalize s.size = z at *
       subst hl hz
       have hb := @decide_eq_true_iff
       simp_all [rightN, List.isEmpty_iff]
       try omega
       try (intro h1 h2; exfalso; rename_i h; rcases h with h | h <;> first | omega | exact h2 h))
    | skip
  have hr0 : Hid (rightN s.data.toList = goodAt s 0) := by
    show _ = _
    have hl : s.toList = s.data.toList := tl_data s
    have hz : s.size = s.data.toList.length := Lib.size_eq s
    unfold goodAt
    generalize s.data.toList = l at *
    generalize s.toList = l' at *
    generalize s.size = z at *
    subst hl hz
    simp_all [rightN, List.isEmpty_iff]
    try omega
  have h4 : ((s.toList.isEmpty = false ∧ (s.size : Int) ≤ 32) ∧ (s.toList == [46]) = false) ∧ (s.toList == [46, 46]) = false := by assumption
  have e4 : decide (32 < (s.size : Int)) = false := decide_eq_false (by omega)
  simp only [h4.1.1.1, h4.1.2, h4.2, e4, Bool.false_or]
  go_loopw [2] (fun _ wr => ∃ pos, wr = w.iter s pos ∧ Hid (goodAt s pos = goodAt s 0)) (fun _ wr => s.size - wr.iterPos w.heap.size)
  case atStart => exact ⟨0, rfl, rfl⟩
  case round =>
    obtain ⟨pos, rfl, HG⟩ := hrel
    by_cases hp : pos < s.size
    · obtain ⟨hg, hw⟩ := good_rune s pos hp
      rw [HG.out] at hg
      have HG2 : Hid (goodAt s 0 = ((!decide ((Utf8.decode s pos).1 < 32) && !decide ((Utf8.decode s pos).1 = 47)) && goodAt s (pos + (Utf8.decode s pos).2))) := hg
      clear hg
      have hnx : ∀ ty, (Instr.next (.pointer (some ⟨w.heap.size, 0, none⟩)) true ty).run P (w.iter s pos) = _ := fun ty => run_next_any w s pos ty hp
      go_wp2
      all_goals first
        | (go_ret
           refine ⟨?_, .inr ⟨_, rfl⟩⟩
           rw [hr0.out, HG2.out]
           have hx : (!decide ((Utf8.decode s pos).1 < 32) && !decide ((Utf8.decode s pos).1 = 47)) = false := by
             generalize (Utf8.decode s pos).1 = c at *
             simp_all
             try omega
           rw [hx]; rfl)
        | (go_roundw
           case rel =>
             refine ⟨_, rfl, ?_⟩
             show _ = _
             have hx : (!decide ((Utf8.decode s pos).1 < 32) && !decide ((Utf8.decode s pos).1 = 47)) = true := by
               generalize (Utf8.decode s pos).1 = c at *
               simp_all
               try omega
             rw [HG2.out, hx]; rfl
           case measure =>
             simp
             omega)
    · have hnx : ∀ ty, (Instr.next (.pointer (some ⟨w.heap.size, 0, none⟩)) true ty).run P (w.iter s pos) = _ := fun ty => run_next_end w s pos ty hp
      go_wp2
      go_ret
      rw [hr0.out, ← HG.out, good_end s pos hp]
      exact ⟨rfl, .inr ⟨_, rfl⟩⟩
end Go.Am.Nm
