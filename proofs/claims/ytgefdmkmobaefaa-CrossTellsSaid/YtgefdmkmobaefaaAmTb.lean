/-
 The abstract machine: the table of a program's functions, each in its place; what is asked of slices.Insert at a type.
-/
import Derived.Test.YtgefdmkmobaefaaAmInsB
import Derived.Test.YtgefdmkmobaefaaAmGY
import Derived.Test.YtgefdmkmobaefaaAmEnd
import Derived.Test.YtgefdmkmobaefaaAmGS
set_option linter.unusedSimpArgs false
set_option linter.unusedVariables false
namespace Go.Am
inductive Kd where
 | no
 | p (F : AF)
 | h (F : AF)
 | x (s : List AV → AH → Option (AV × AH))
 | y (s : List AV → Option AV)
  | r (F : AF) (d : Nat)
noncomputable def recT (Γ : Tab) (f : FuncId) (F : AF) : Nat → Tab
 | 0 => Γ
 | k + 1 => ⟨fun g args => if g = f then none else Γ.p g args, fun g args h => if g = f then runH (recT Γ f F k) F args h else Γ.h g args h⟩
structure Cfg where
 kd : FuncId → Kd
 pos : FuncId → Nat
noncomputable def Cfg.tab (C : Cfg) : Nat → Tab
 | 0 => ⟨fun _ _ => none, fun _ _ _ => none⟩
 | n + 1 => ⟨fun g args => if C.pos g = n then (match C.kd g with | .p F => runP (C.tab n) F args | .y s => s args | _ => none) else (C.tab n).p g args,
   fun g args h => if C.pos g = n then (match C.kd g with | .p F => runH (C.tab n) F args h | .h F => runH (C.tab n) F args h | .x s => s args h | .r F d => runH (recT (C.tab n) g F d) F args h | _ => none) else (C.tab n).h g args h⟩
theorem Cfg.tab_p {C : Cfg} {f : FuncId} {F : AF} (hk : C.kd f = .p F) {k : Nat} (hp : C.pos f = k) : ∀ {n : Nat}, k < n → ∀ args, (C.tab n).p f args = runP (C.tab k) F args
 | 0, h, _ => by omega
 | n + 1, h, args => by
  simp only [Cfg.tab]
  by_cases e : C.pos f = n
  ·rw [if_pos e, hk]; simp only; rw [← e, hp]
  ·rw [if_neg e]; exact Cfg.tab_p hk hp (by omega) args
theorem Cfg.tab_h {C : Cfg} {f : FuncId} {F : AF} (hk : C.kd f = .h F) {k : Nat} (hp : C.pos f = k) : ∀ {n : Nat}, k < n → ∀ args h, (C.tab n).h f args h = runH (C.tab k) F args h
 | 0, h, _, _ => by omega
 | n + 1, h, args, hh => by
  simp only [Cfg.tab]
  by_cases e : C.pos f = n
  ·rw [if_pos e, hk]; simp only; rw [← e, hp]
  ·rw [if_neg e]; exact Cfg.tab_h hk hp (by omega) args hh
theorem Cfg.tab_x {C : Cfg} {f : FuncId} {s : List AV → AH → Option (AV × AH)} (hk : C.kd f = .x s) {k : Nat} (hp : C.pos f = k) : ∀ {n : Nat}, k < n → ∀ args h, (C.tab n).h f args h = s args h
 | 0, h, _, _ => by omega
 | n + 1, h, args, hh => by
  simp only [Cfg.tab]
  by_cases e : C.pos f = n
  ·rw [if_pos e, hk]
  ·rw [if_neg e]; exact Cfg.tab_x hk hp (by omega) args hh
theorem Cfg.tab_y {C : Cfg} {f : FuncId} {s : List AV → Option AV} (hk : C.kd f = .y s) {k : Nat} (hp : C.pos f = k) : ∀ {n : Nat}, k < n → ∀ args, (C.tab n).p f args = s args
 | 0, h, _ => by omega
 | n + 1, h, args => by
  simp only [Cfg.tab]
  by_cases e : C.pos f = n
  ·rw [if_pos e, hk]
  ·rw [if_neg e]; exact Cfg.tab_y hk hp (by omega) args
theorem Cfg.tab_hp {C : Cfg} {f : FuncId} {F : AF} (hk : C.kd f = .h F) : ∀ (n : Nat) args, (C.tab n).p f args = none
 | 0, _ => rfl
 | n + 1, args => by
  simp only [Cfg.tab]
  split
  ·rw [hk]
  ·exact Cfg.tab_hp hk n args
theorem Cfg.tab_xp {C : Cfg} {f : FuncId} {s : List AV → AH → Option (AV × AH)} (hk : C.kd f = .x s) : ∀ (n : Nat) args, (C.tab n).p f args = none
 | 0, _ => rfl
 | n + 1, args => by
  simp only [Cfg.tab]
  split
  ·rw [hk]
  ·exact Cfg.tab_xp hk n args
def Kd.ok (P : Program) (f : FuncId) : Kd → Prop
 | .no => True
 | .p F => okF P f F = true
 | .h F => okF P f F = true
 | .x s => ∀ args h r h', s args h = some (r, h') → Snd P f args h r h'
 | .y s => ∀ args r h, s args = some r → Snd P f args h r h
 | .r F _ => okF P f F = true
theorem recT_ok {P : Program} (hm : P.follows .mixedOrders = true) {Γ : Tab} (hΓ : TabOK P Γ) {f : FuncId} {F : AF} (ok : okF P f F = true) : ∀ k, TabOK P (recT Γ f F k)
 | 0 => hΓ
 | k + 1 => by
  have ih := recT_ok hm hΓ ok k
  refine ⟨fun g args r h ha hr => ?_, fun g args h r h' hr => ?_⟩
  ·simp only [recT] at hr
   split at hr
   ·cases hr
   ·exact hΓ.p g args r h ha hr
  ·simp only [recT] at hr
   split at hr
   ·rename_i hg
    subst hg
    exact runH_snd hm ih ok hr
   ·exact hΓ.h g args h r h' hr
theorem Cfg.tab_ok {P : Program} {C : Cfg} (hm : P.follows .mixedOrders = true) (hok : ∀ f, (C.kd f).ok P f) : ∀ n, TabOK P (C.tab n)
 | 0 => tab_nil
 | n + 1 => by
  have ih := Cfg.tab_ok hm hok n
  refine ⟨fun f args r h ha hr => ?_, fun f args h r h' hr => ?_⟩
  ·simp only [Cfg.tab] at hr
   split at hr
   ·have := hok f
    split at hr
    ·rename_i F hF
     rw [hF] at this
     exact runP_snd hm ih this ha hr h
    ·rename_i s hF
     rw [hF] at this
     exact this args r h hr
    ·cases hr
   ·exact ih.p f args r h ha hr
  ·simp only [Cfg.tab] at hr
   split at hr
   ·have := hok f
    split at hr
    ·rename_i F hF
     rw [hF] at this
     exact runH_snd hm ih this hr
    ·rename_i F hF
     rw [hF] at this
     exact runH_snd hm ih this hr
    ·rename_i s hF
     rw [hF] at this
     exact this args h r h' hr
    ·rename_i F d hF
     rw [hF] at this
     exact runH_snd hm (recT_ok hm ih this d) this hr
    ·cases hr
   ·exact ih.h f args h r h' hr
theorem purEs_of : ∀ {args : List AV} (h : AH), args.all AV.isE = true → purEs h args = some (args, h)
 | [], _, _ => rfl
 | a :: l, h, ha => by
  simp only [List.all_cons, Bool.and_eq_true] at ha
  have e : purE h a = some (a, h) := by unfold purE; rw [if_pos ha.1]
  simp only [purEs, e, Option.bind_some, purEs_of h ha.2]
theorem callA_p {Γ : Tab} {f : FuncId} {args : List AV} {r : AV} {h : AH} (ha : args.all AV.isE = true) (hp : Γ.p f args = some r) : callA Γ f args h = some (r, h) := by
 unfold callA; rw [purEs_of h ha]; simp only [hp]
theorem callA_h {Γ : Tab} {f : FuncId} {args : List AV} {h : AH} (hp : ∀ args, Γ.p f args = none) : callA Γ f args h = Γ.h f args h := by
 unfold callA
 split
 ·rw [hp]
 ·rfl
def vD (x : Option AV) (h' : AH) (Γ : Tab) (f : FuncId) (args : List AV) (h : AH) : Option (AV × AH) := match x with
 | some r => some (r, h')
 | none => Γ.h f args h
def vC (x : Option (List AV × AH)) (Γ : Tab) (f : FuncId) (args : List AV) (h : AH) : Option (AV × AH) := match x with
 | some q => vD (Γ.p f q.1) q.2 Γ f args h
 | none => Γ.h f args h
@[simp] theorem vD_some (r : AV) (h' : AH) (Γ : Tab) (f : FuncId) (args : List AV) (h : AH) : vD (some r) h' Γ f args h = some (r, h') := rfl
@[simp] theorem vD_none (h' : AH) (Γ : Tab) (f : FuncId) (args : List AV) (h : AH) : vD none h' Γ f args h = Γ.h f args h := rfl
@[simp] theorem vC_some (a' : List AV) (h' : AH) (Γ : Tab) (f : FuncId) (args : List AV) (h : AH) : vC (some (a', h')) Γ f args h = vD (Γ.p f a') h' Γ f args h := rfl
@[simp] theorem vC_none (Γ : Tab) (f : FuncId) (args : List AV) (h : AH) : vC none Γ f args h = Γ.h f args h := rfl
theorem callA_eq (Γ : Tab) (f : FuncId) (args : List AV) (h : AH) : callA Γ f args h = vC (purEs h args) Γ f args h := by
 unfold callA vC vD
 cases purEs h args with
 | none => rfl
 | some q => cases Γ.p f q.1 <;> rfl
@[simp] theorem cloneH_lst (sz bytes : Nat) (f : Bool) (es : List AV) (h : AH) : cloneH sz bytes [.lst f es] h =
  if szOk sz es = true ∧ 0 < sz ∧ es.length * bytes ≤ 140737488355328 ∧ es.length ≤ 140737488355328 then some (.own h.length 0 0 es.length, h ++ [.row 0 sz es]) else none := rfl
@[simp] theorem cloneH_own (sz bytes b v o n : Nat) (h : AH) : cloneH sz bytes [.own b v o n] h = @bnd _ _ (elemsB v o n h[b]?) ⟨fun es =>
  if szOk sz es = true ∧ 0 < sz ∧ es.length * bytes ≤ 140737488355328 ∧ es.length ≤ 140737488355328 then some (.own h.length 0 0 es.length, h ++ [.row 0 sz es]) else none⟩ := by
 rw [← elems_own]; rfl
theorem snd_clone {P : Program} (hm : P.follows .mixedOrders = true) {f : FuncId} {sz bytes : Nat} {zero : AV} (ok : okF P f (cloneF sz bytes zero) = true) : (Kd.x (cloneH sz bytes)).ok P f :=
 fun _ _ _ _ hr => clone_snd hm tab_nil ok hr
structure InsOK (P : Program) (f : FuncId) (tS tI tB tE t0 : TypeId) (fO fR : FuncId) (sz bytes : Nat) : Prop where
 mixed : P.follows .mixedOrders = true
 f : ∃ nm ta, P.funcs[f]? = some (insFn nm ta tS tI tB tE t0 fO fR) ∧ (nm == "runtime.NumGoroutine") = false
 o : ∃ fn, P.funcs[fO]? = some fn ∧ fn.body = none ∧ (fn.name == "runtime.NumGoroutine") = false ∧ Extern.findNext fn = none ∧ Extern.find fn = some (Extern.SlicesOverlaps.overlaps #[tS, tS] #[tB])
 tS : P.underlying tS = some (.slice tE)
 tI : P.underlying tI = some (.int .i64)
 tB : P.underlying tB = some .bool
 t0 : P.underlying t0 = some (.tuple #[])
 i : (P.info? tE).map (fun i => (i.zero.map fun z => z.cells.size, i.size, i.bytes)) = some (some sz, sz, bytes)
 pos : 0 < sz
theorem snd_insert {P : Program} {f tS tI tB tE t0 fO fR : Nat} {sz bytes : Nat} (L : InsOK P f tS tI tB tE t0 fO fR sz bytes) : (Kd.x (insertH sz bytes)).ok P f := by
 intro args h r h' hr
 have hi := L.i
 cases hq : P.info? tE with
 | none => rw [hq] at hi; cases hi
 | some i0 =>
  rw [hq] at hi
  simp only [Option.map_some, Option.some.injEq, Prod.mk.injEq] at hi
  obtain ⟨h1, rfl, rfl⟩ := hi
  cases hz : i0.zero with
  | none => rw [hz] at h1; cases h1
  | some z =>
   rw [hz] at h1
   simp only [Option.map_some, Option.some.injEq] at h1
   exact insert_snd (z := z) ⟨L.mixed, L.f, L.o, L.tS, L.tI, L.tB, L.t0, hq, hz, h1, L.pos⟩ hr
end Go.Am
