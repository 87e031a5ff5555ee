/-
  Summaries of functions of Go's library: of values, laying new blocks alone: strings.Join, internal/stringslite.IndexByte; name.Right.
-/
import Derived.Test.YtgefdmkmobaefaaAmBm
import Derived.Test.YtgefdmkmobaefaaAmRt
import Derived.Test.YtgefdmkmobaefaaAmPd
import Derived.Test.YtgefdmkmobaefaaAmTb
import Derived.Shelf.Strings.OnBuilder
import Derived.Lib.Bytealg
import Derived.Laws.Externs
set_option linter.unusedSimpArgs false
set_option linter.unusedVariables false
set_option linter.unusedVariables false
set_option linter.unusedSimpArgs false
namespace Go.Am.Nm
open Go.Am Go.RowKit Go.Lib
variable {P : Program}

def idxFn (nm : String) (ta : Array TypeId) (tS tU tI : TypeId) (fX : FuncId) : Func :=
  { name := nm, origin := "", params := #[tS, tU], resultTypes := #[tI], nfree := 0, ntmps := 8, results := #[ResultVar.tmp 4], body := some ((Code.region 0 #[{ dst := some 4, op := Op.assign (Operand.const (Value.int IntKind.i64 0)), type := tI, pos := "strings.go:24", after := #[], guard := none }] false).seq ((Code.region 1 #[{ dst := some 5, op := Op.move (Operand.tmp 0), type := tS, pos := "strings.go:25", after := #[], guard := none }, { dst := some 6, op := Op.move (Operand.tmp 1), type := tU, pos := "strings.go:25", after := #[], guard := none }, { dst := some 7, op := Op.call { callee := Callee.value (Operand.func fX), args := #[Operand.tmp 5, Operand.tmp 6], argTypes := #[tS, tU] }, type := tI, pos := "strings.go:25", after := #[{ on := 0, ground := Ground.data }, { on := 1, ground := Ground.data }], guard := none }, { dst := some 4, op := Op.assign (Operand.tmp 7), type := tI, pos := "strings.go:25", after := #[{ on := 2, ground := Ground.data }, { on := 2, ground := Ground.chain }, { on := 0, ground := Ground.phase }, { on := 1, ground := Ground.phase }, { on := 2, ground := Ground.phase }], guard := none }] false).seq Code.ret)), norace := false, file := "internal/stringslite/strings.go", endLine := 26, tmpNames := #["s", "c", "s", "c", "", "", "", ""] }

theorem idxFn_ntmps (nm : String) (ta : Array TypeId) (tS tU tI : TypeId) (fX : FuncId) : (idxFn nm ta tS tU tI fX).ntmps = 8 := rfl
structure IdxL (P : Program) (f : FuncId) (tS tU tI : TypeId) (fX : FuncId) : Prop where
  mixed : P.follows .mixedOrders = true
  f : ∃ nm ta, P.funcs[f]? = some (idxFn nm ta tS tU tI fX) ∧ (nm == "runtime.NumGoroutine") = false
  o : ∃ fn, P.funcs[fX]? = some fn ∧ fn.body = none ∧ (fn.name == "runtime.NumGoroutine") = false ∧ Extern.findNext fn = none ∧ Extern.find fn = some Extern.BytealgIndexByte.indexByte

theorem idx_calls {f tS tU tI fX : Nat} (L : IdxL P f tS tU tI fX) (s : ByteArray) (c : Int) (w : World) :
    Calls P f #[.string s, .int .u8 c] w fun e w' => e = .returned (.int .i64 (indexByte s.data.toList c.toNat.toUInt8)) ∧ w' = w := by
  have mixed := L.mixed
  obtain ⟨nm, ta, hf, _⟩ := L.f
  obtain ⟨fn, o1, o2, o3, o4, o5⟩ := L.o
  have hov : (callFunc fX #[.string s, .int .u8 c]).run P w = .ok (.value (.int .i64 (indexByte s.data.toList c.toNat.toUInt8))) w := by
    rw [run_callFunc_extern o1 o3 (by rw [o2]; rfl) o4 o5, run_indexByteString]; rfl
  go_enter hf, idxFn_ntmps _ _ _ _ _ _
  go_wp2_with (simp only [hov])
  go_ret
  exact ⟨rfl, rfl⟩
/-- internal/stringslite.IndexByte, of values. -/
def idxY : List AV → Option AV
  | [.str s, .int .u8 c] => some (.int .i64 (indexByte s c.toNat.toUInt8))
  | _ => none
theorem idx_snd {f tS tU tI fX : Nat} (L : IdxL P f tS tU tI fX) {args : List AV} {r : AV} (h : AH) (hr : idxY args = some r) : Snd P f args h r h := by
  unfold idxY at hr
  split at hr
  · rename_i s c
    cases hr
    refine snd_below (by obtain ⟨nm, ta, hf, hn⟩ := L.f; exact ⟨_, hf, rfl, hn⟩) fun Z β w vs R hl hv => ?_
    match vs, hl with
    | [v, u], _ =>
      have h1 := str_val (hv 0 _ v rfl rfl)
      have h2 := (hv 1 _ u rfl rfl).int_inv
      subst h1 h2
      refine ⟨_, fun _ _ _ => .pure _ _ (.int _ _), (idx_calls L ⟨s.toArray⟩ c w).mono ?_⟩
      rintro e w' ⟨rfl, rfl⟩
      exact ⟨rfl, Below.refl _ _⟩
  · cases hr
theorem idxI_eq (s : List UInt8) : indexByte s 47 = idxI s := by
  induction s with
  | nil => rfl
  | cons b t ih =>
    unfold indexByte
    rw [ih]
    by_cases hb : b = 47
    · subst hb
      simp [idxI, upTo]
    · have hb' : ¬ (b == 47) = true := by simpa using hb
      rw [if_neg hb']
      unfold idxI
      simp only [List.all_cons, decide_eq_false hb, Bool.not_false, Bool.true_and]
      split
      · rfl
      · rename_i hn
        have : ¬ ((((upTo t).length : Int)) == -1) = true := by simp
        rw [if_neg this]
        simp [upTo, List.takeWhile_cons, hb]

def strsOf : List AV → Option (List (List UInt8))
  | [] => some []
  | .str s :: l => (strsOf l).map (s :: ·)
  | _ => none
theorem strsOf_map (l : List (List UInt8)) : strsOf (l.map AV.str) = some l := by
  induction l with
  | nil => rfl
  | cons s l ih => simp [strsOf, ih]
theorem strsOf_inv : ∀ {es : List AV} {l : List (List UInt8)}, strsOf es = some l → es = l.map AV.str
  | [], l, h => by simp [strsOf] at h; subst h; rfl
  | e :: es, l, h => by
    cases e with
    | str s =>
      simp only [strsOf] at h
      cases hl : strsOf es with
      | none => rw [hl] at h; cases h
      | some m =>
        rw [hl] at h
        cases h
        rw [strsOf_inv hl]; rfl
    | _ => simp [strsOf] at h
/-- strings.Join, of values. -/
def joinY : List AV → Option AV
  | [.lst _ es, .str sep] => match strsOf es with
    | some l => if l.length ≤ 140737488355328 ∧ (join l sep).length ≤ 140737488355328 then some (.str (join l sep)) else none
    | none => none
  | _ => none
theorem joinY_map (fl : Bool) (l : List (List UInt8)) (sep : List UInt8) (h1 : l.length ≤ 140737488355328) (h2 : (join l sep).length ≤ 140737488355328) : joinY [.lst fl (l.map AV.str), .str sep] = some (.str (join l sep)) := by
  simp only [joinY, strsOf_map]
  rw [if_pos ⟨h1, h2⟩]
open Go.Shelf Go.Proofs in
theorem join_snd {ρ : Ren} (L : Lays.n156 P ρ) (X : Builder.Extra P ρ) (hc : Callable P (ρ.f 156)) {args : List AV} {r : AV} (h : AH) (hr : joinY args = some r) : Snd P (ρ.f 156) args h r h := by
  unfold joinY at hr
  split at hr
  · rename_i fl es sep
    split at hr
    · rename_i l hl0
      have hes := strsOf_inv hl0
      subst hes
      split at hr
      · rename_i hb
        cases hr
        refine snd_below hc fun Z β w vs R hl hv => ?_
        match vs, hl with
        | [v, u], _ =>
          have h1 := (hv 0 _ v rfl rfl).lst_inv
          have h2 := str_val (hv 1 _ u rfl rfl)
          subst h2
          refine ⟨.string ⟨(join l sep).toArray⟩, fun _ _ _ => .pure _ _ (str_rel _), ?_⟩
          generalize hlen : (l.map AV.str) = es at h1
          cases h1 with
          | lst _ _ a c blk o sz f hf hcc ha hs q1 q3 q2 =>
            have hll : es.length = l.length := by rw [← hlen]; simp
            cases l with
            | nil =>
              simp only [List.map_nil] at hlen
              subst hlen
              exact (Any.strings_Join_none L X a c ⟨sep.toArray⟩ w).mono fun e w' ⟨he, hw⟩ => ⟨he, hw ▸ Below.refl _ _⟩
            | cons x l =>
              obtain ⟨e1, e2, e3⟩ := ha (by rw [← hlen]; simp)
              subst e1
              obtain ⟨xs, hxs⟩ : ∃ xs : List ByteArray, xs = (x :: l).map fun s => ⟨s.toArray⟩ := ⟨_, rfl⟩
              have hxl : xs.length = es.length := by rw [hxs, hll]; simp
              have hxm : xs.map (fun b => b.data.toList) = x :: l := by rw [hxs, List.map_map]; simp [Function.comp_def]
              have := Any.strings_Join L X blk o c xs ⟨sep.toArray⟩ w (fun j y hy => by
                rw [hxs, List.getElem?_map] at hy
                cases hj : (x :: l)[j]? with
                | none => rw [hj] at hy; cases hy
                | some s =>
                  rw [hj] at hy
                  simp only [Option.map_some, Option.some.injEq] at hy
                  subst hy
                  have hej : es[j]? = some (.str s) := by rw [← hlen, List.getElem?_map, hj]; rfl
                  obtain ⟨t1, _⟩ := hs j _ hej
                  have hsz : sz = 1 := by rw [← t1]; rfl
                  subst hsz
                  have t2 := q1 j _ hej 0 _ rfl
                  have t3 := str_val (.pure (β := β) _ _ (q2 j _ hej 0 _ rfl))
                  rw [t3] at t2
                  simpa using t2) e3 (by rw [hxl, hll]; exact hb.1) (by rw [hxl]; exact hcc) (by rw [hxm]; simpa using hb.2)
              rw [hxm, hxl] at this
              exact this
      · cases hr
    · cases hr
  · cases hr
end Go.Am.Nm

