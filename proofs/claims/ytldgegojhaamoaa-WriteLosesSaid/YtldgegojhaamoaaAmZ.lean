/-
  The abstract machine: functions.
-/
import Derived.Test.YtldgegojhaamoaaAmY
set_option linter.unusedSimpArgs false
set_option linter.unusedVariables false
namespace Go.Am

def okRes (P : Program) : List ResultVar → List AR → Bool
  | [], [] => true
  | .tmp t :: l, .t i :: l' => decide (t = i) && okRes P l l'
  | .cell t ty :: l, .cell i sz agg :: l' => decide (t = i) && sizeIs P ty sz && aggIs P ty agg && okRes P l l'
  | _, _ => false

/-- Which function is meant. -/
def okF (P : Program) (f : FuncId) (F : AF) : Bool := match P.funcs[f]? with
  | some fn => (match fn.body with
    | some c => decide (fn.ntmps = F.nt) && okCode P F.nt c F.body && okRes P fn.results.toList F.res && (fn.name == "runtime.NumGoroutine") == false
    | none => false)
  | none => false

def resM (tmps : Array Value) : ResultVar → Sem Value
  | .tmp t => pure (tmps.getD t Go.undef)
  | .cell x t => do loadVar t (← asAddr (tmps.getD x Go.undef))

section
variable {P : Program} {Z : Nat → Prop} {Γ : Tab} {β : Bds} {h : AH} {w : World}

theorem resAll_rel (R : Rel Z β h w) {e : Env} {a : Act} {n : Nat} (E : EnvR Z β h w e a n) : ∀ (rs : List ResultVar) (l : List AR) (vs : List AV), okRes P rs l = true → resAll ⟨e, h⟩ l = some vs →
    ∃ us : List Value, (rs.mapM (resM a.tmps)).run P w = .ok us w ∧ vs.length = us.length ∧
      ∀ (j : Nat) (y : AV) (u : Value), vs[j]? = some y → us[j]? = some u → VR β (Own Z β h) w y u
  | [], [], vs, _, hr => by
    simp only [resAll] at hr
    cases hr
    exact ⟨[], by simp, rfl, fun j y u hy => by simp at hy⟩
  | [], _ :: _, _, ok, _ => by simp [okRes] at ok
  | r :: rs, [], _, ok, _ => by cases r <;> simp [okRes] at ok
  | r :: rs, q :: l, vs, ok, hr => by
    simp only [resAll, Option.bind_eq_some_iff] at hr
    obtain ⟨v, hv, vs', hvs, hr⟩ := hr
    cases hr
    have key : okRes P rs l = true ∧ ∃ u, (resM a.tmps r).run P w = .ok u w ∧ VR β (Own Z β h) w v u := by
      cases r with
      | tmp t =>
        cases q with
        | cell => simp [okRes] at ok
        | t i =>
          simp only [okRes, Bool.and_eq_true, decide_eq_true_eq] at ok
          obtain ⟨rfl, ok⟩ := ok
          simp only [resOne, Option.some.injEq] at hv
          subst hv
          exact ⟨ok, a.tmps.getD t Go.undef, by simp [resM], E.2 t⟩
      | cell t ty =>
        cases q with
        | t i => simp [okRes] at ok
        | cell i sz agg =>
          simp only [okRes, Bool.and_eq_true, decide_eq_true_eq] at ok
          obtain ⟨⟨⟨rfl, h1⟩, h2⟩, ok⟩ := ok
          simp only [resOne, Option.bind_eq_some_iff] at hv
          obtain ⟨cs, hcs, hsh⟩ := hv
          obtain ⟨u, hu, hvu⟩ := load_same (P := P) R hcs hsh (E.2 t) h1 h2
          obtain ⟨blk, o, hp, _⟩ := cellsAt_rel R hcs (E.2 t)
          refine ⟨ok, u, ?_, hvu⟩
          rw [hp] at hu
          simp only [Instr.loadAt, Instr.sureAddr, Sem.run_bind, Sem.run_pure, Result.andThen_ok] at hu
          simp only [resM, hp, asAddr, Sem.run_bind, Sem.run_pure, Result.andThen_ok]
          exact hu
    obtain ⟨ok', u, hu, hvu⟩ := key
    obtain ⟨us, h1, h2, h3⟩ := resAll_rel R E rs l vs' ok' hvs
    refine ⟨u :: us, ?_, by simp [h2], fun j y z hy hz => ?_⟩
    · rw [List.mapM_cons]
      simp only [Sem.run_bind, hu, Result.andThen_ok, h1, Sem.run_pure]
    · cases j with
      | zero => simp at hy hz; subst hy; subst hz; exact hvu
      | succ j => exact h3 j y z (by simpa using hy) (by simpa using hz)

theorem resV_rel (R : Rel Z β h w) {e : Env} {a : Act} {n : Nat} (E : EnvR Z β h w e a n) {fn : Func} {l : List AR} (ok : okRes P fn.results.toList l = true) {v : AV} (hr : resV ⟨e, h⟩ l = some v) :
    ∃ u, (results fn a.tmps).run P w = .ok u w ∧ VR β (Own Z β h) w v u := by
  simp only [resV, Option.bind_eq_some_iff] at hr
  obtain ⟨vs, hvs, hr⟩ := hr
  obtain ⟨us, h1, h2, h3⟩ := resAll_rel R E _ _ _ ok hvs
  have hres : (results fn a.tmps).run P w = .ok (if hh : us.toArray.size = 1 then us.toArray[0] else .tuple us.toArray) w := by
    have hdef : results fn a.tmps = (do let vs ← fn.results.mapM (resM a.tmps); pure (if h : vs.size = 1 then vs[0] else .tuple vs)) := by
      unfold results
      congr 1
    rw [hdef, ← Array.toArray_toList (xs := fn.results), List.mapM_toArray]
    simp only [Sem.run_bind, Sem.run_map, h1, Result.andThen_ok, Sem.run_pure]
  refine ⟨_, hres, ?_⟩
  split at hr
  · cases hr
    match us, h2, h3 with
    | [u], _, h3 => exact h3 0 v u rfl rfl
  · rename_i hne
    cases hr
    have hl : us.length ≠ 1 := by
      intro h1
      rw [h1] at h2
      obtain ⟨x, hx⟩ := List.length_eq_one_iff.1 h2
      exact hne x hx
    rw [dif_neg (by simpa using hl)]
    exact .tup _ us h2 h3

/-- A function does what is said. -/
theorem runH_snd (hm : P.follows .mixedOrders = true) (hΓ : TabOK P Γ) {f : FuncId} {F : AF} (ok : okF P f F = true) {args : List AV} {r : AV} {h' : AH} (hr : runH Γ F args h = some (r, h')) : Snd P f args h r h' := by
  unfold okF at ok
  split at ok
  · rename_i fn hf
    split at ok
    · rename_i c hc
      simp only [Bool.and_eq_true, decide_eq_true_eq, beq_iff_eq] at ok
      obtain ⟨⟨⟨hn, hcode⟩, hres⟩, hname⟩ := ok
      refine ⟨⟨fn, hf, by rw [hc]; rfl, by simpa using hname⟩, fun Z β w vs R hl hv => ?_⟩
      unfold runH at hr
      split at hr
      · rename_i hle
        have E : EnvR Z β h w (argEnv args) { tmps := vs.toArray ++ Array.replicate (fn.ntmps - vs.toArray.size) undef, defers := [] } F.nt := by
          refine ⟨by simp; omega, fun t => ?_⟩
          unfold argEnv
          by_cases ht : t < args.length
          · have h1 : args[t]? = some args[t] := List.getElem?_eq_getElem ht
            have h2 : vs[t]? = some (vs[t]'(by omega)) := List.getElem?_eq_getElem (by omega)
            have := hv t _ _ h1 h2
            rw [List.getD_eq_getElem?_getD, h1]
            rw [Array.getD_eq_getD_getElem?, Array.getElem?_append_left (by simp; omega)]
            simp only [List.getElem?_toArray, h2, Option.getD_some]
            exact this
          · rw [List.getD_eq_getElem?_getD, List.getElem?_eq_none (by omega)]
            exact .dead _
        refine calls_of_wp hf hc (eval_sound hm hΓ F.body c hcode hr (W := fun _ => true) (fun _ _ => rfl) R E fun x s' a' w' β' hk R' F' E' K' => ?_)
        have hfr : Fr Z β h w β' s'.h w' := ⟨F'.xkeep, F'.os, F'.tape, F'.output, fun i v bd hb => F'.ext i v bd (by
          simp only [decide_eq_false_iff_not]
          intro hle
          rw [R.fresh i v hle] at hb
          cases hb) hb, F'.stay⟩
        have fin : (resV s' F.res).bind (fun v => some (v, s'.h)) = some (r, h') → ∃ u, (results fn a'.tmps).run P w' = .ok u w' ∧ ∃ v β', Ending.returned u = .returned v ∧ Rel Z β' h' w' ∧ Fr Z β h w β' h' w' ∧ VR β' (Own Z β' h') w' r v := by
          intro hq
          simp only [Option.bind_eq_some_iff] at hq
          obtain ⟨v, hv, hq⟩ := hq
          cases hq
          obtain ⟨u, h1, h2⟩ := resV_rel R' E' hres hv
          exact ⟨u, h1, u, β', rfl, R', hfr, h2⟩
        cases x with
        | exit id => cases hk
        | normal => exact ⟨K'.defers, fin hk⟩
        | ret => exact ⟨K'.defers, fin hk⟩
      · cases hr
    · cases ok
  · cases ok

theorem owned_lt (R : Rel Z β h w) {i c : Nat} (ho : owned β h i c) : c < w.heap.size := by
  obtain ⟨X, hX, bd, hcb, hm⟩ := ho
  have hb := R.blk i X hX
  cases X with
  | gone => cases hm
  | fro => cases hm
  | var cs =>
    obtain ⟨c', cur, elem, e1, e2, _⟩ := hb
    dsimp only at hm
    rw [hm] at e1
    cases e1
    cases hcb
    exact (Array.getElem?_eq_some_iff.1 e2).1
  | row v sz es =>
    obtain ⟨_, bd', e1, e2, e3⟩ := hb
    dsimp only at hm
    rw [hm] at e1
    cases e1
    rcases e3 with ⟨e3, _⟩ | ⟨c', cur, elem, e3, e4, _⟩
    · rw [e3] at hcb; cases hcb
    · rw [e3] at hcb; cases hcb
      exact (Array.getElem?_eq_some_iff.1 e4).1

/-- Arguments without handles, a result without one: whatever rows there are. -/
theorem runP_snd (hm : P.follows .mixedOrders = true) (hΓ : TabOK P Γ) {f : FuncId} {F : AF} (ok : okF P f F = true) {args : List AV} {r : AV} (hall : args.all AV.isE = true) (hr : runP Γ F args = some r) (h : AH) : Snd P f args h r h := by
  unfold runP at hr
  simp only [Option.bind_eq_some_iff] at hr
  obtain ⟨⟨r0, h1⟩, hrun, ⟨r', h2⟩, hp, hr⟩ := hr
  cases hr
  obtain ⟨hc, hs⟩ := runH_snd hm hΓ ok hrun
  refine ⟨hc, fun Z β w vs R hl hv => ?_⟩
  let β0 : Bds := fun _ _ => none
  have ownI : ∀ c, Own (Own Z β h) β0 [] c ↔ Own Z β h c := by
    intro c
    constructor
    · rintro (hc | ⟨i, X, hX, _⟩)
      · exact hc
      · simp at hX
    · exact .inl
  have R0 : Rel (Own Z β h) β0 [] w := by
    refine ⟨fun c hc => ?_, fun i c ho => ?_, fun i v _ => rfl, fun i v sz es v' hX => by simp at hX, fun i b hb => by simp at hb, fun i j c ho => ?_⟩
    · rcases hc with hc | ⟨i, ho⟩
      · exact R.xlt c hc
      · exact owned_lt R ho
    · obtain ⟨X, hX, _⟩ := ho; simp at hX
    · obtain ⟨X, hX, _⟩ := ho; simp at hX
  have st0 : Stay (Own Z β h) w (Own (Own Z β h) β0 []) w := ⟨Nat.le_refl _, fun b _ hO => ⟨rfl, fun hh => hO ((ownI b).1 hh)⟩⟩
  refine (hs (Own Z β h) β0 w vs R0 hl fun j y u hy hu => .pure _ _ (((hv j y u hy hu).pureE (List.all_eq_true.1 hall y (List.mem_of_getElem? hy))).mono st0)).mono ?_
  rintro e w' ⟨v, β', rfl, R1, F1, V1⟩
  obtain ⟨R2, F2, V2, hP⟩ := purP_rel R1 hp V1
  have F3 := F1.trans F2
  have hold : ∀ b, b < w.heap.size → w'.heap[b]? = w.heap[b]? := by
    intro b hb
    by_cases hO : Own Z β h b
    · exact F3.xkeep b hb hO
    · exact (F3.stay.2 b hb fun hh => hO ((ownI b).1 hh)).1
  have st1 : Stay (Own Z β h) w (Own Z β h) w' := ⟨F3.stay.1, fun b hb hO => ⟨hold b hb, hO⟩⟩
  have st2 : Stay (Own (Own Z β h) β' h2) w' (Own Z β h) w' := ⟨Nat.le_refl _, fun b _ hO => ⟨rfl, fun hh => hO (.inl hh)⟩⟩
  refine ⟨v, β, rfl, ⟨fun c hc => Nat.lt_of_lt_of_le (R.xlt c hc) F3.stay.1, R.xap, R.fresh, R.later, fun i X hX => (R.blk i X hX).mono st1 (fun _ _ _ e => e) (fun c ho => hold c (owned_lt R ⟨X, hX, ho⟩)), R.apart⟩,
    ⟨fun b hb _ => hold b hb, F3.os, F3.tape, F3.output, fun _ _ _ e => e, st1⟩, ?_⟩
  have one : ∀ {x : AV} {u : Value}, x.isE = true → VR β' (Own (Own Z β h) β' h2) w' x u → VR β (Own Z β h) w' x u := fun hx hu => .pure _ _ ((hu.pureE hx).mono st2)
  dsimp only at hp V2 ⊢
  cases r' with
  | tup vs' =>
    obtain ⟨us, rfl, q1, q2⟩ := V2.tup_inv
    have hall' : ∀ y ∈ vs', y.isE = true := by simpa [AV.isP] using hP
    exact .tup _ us q1 fun j y u hy hu => one (hall' y (List.mem_of_getElem? hy)) (q2 j y u hy hu)
  | _ => exact one hP V2

/-! ### Tables -/
theorem tab_nil : TabOK P ⟨fun _ _ => none, fun _ _ _ => none⟩ := ⟨fun _ _ _ _ _ h => by simp at h, fun _ _ _ _ _ h => by simp at h⟩

/-- A function's summary laid into the table. -/
def Tab.withP (Γ : Tab) (f : FuncId) (s : List AV → Option AV) : Tab := ⟨fun g args => if g = f then s args else Γ.p g args, Γ.h⟩
def Tab.withH (Γ : Tab) (f : FuncId) (s : List AV → AH → Option (AV × AH)) : Tab := ⟨Γ.p, fun g args h => if g = f then s args h else Γ.h g args h⟩

theorem TabOK.withP_of (hΓ : TabOK P Γ) {f : FuncId} {s : List AV → Option AV} (hs : ∀ args r h, args.all AV.isE = true → s args = some r → Snd P f args h r h) : TabOK P (Γ.withP f s) := by
  refine ⟨fun g args r h hall hr => ?_, hΓ.h⟩
  simp only [Tab.withP] at hr
  split at hr
  · rename_i hg; subst hg; exact hs args r h hall hr
  · exact hΓ.p g args r h hall hr
theorem TabOK.withH_of (hΓ : TabOK P Γ) {f : FuncId} {s : List AV → AH → Option (AV × AH)} (hs : ∀ args h r h', s args h = some (r, h') → Snd P f args h r h') : TabOK P (Γ.withH f s) := by
  refine ⟨hΓ.p, fun g args h r h' hr => ?_⟩
  simp only [Tab.withH] at hr
  split at hr
  · rename_i hg; subst hg; exact hs args h r h' hr
  · exact hΓ.h g args h r h' hr

theorem TabOK.withP (hΓ : TabOK P Γ) (hm : P.follows .mixedOrders = true) {f : FuncId} {F : AF} (ok : okF P f F = true) {s : List AV → Option AV} (hs : ∀ args r, s args = some r → runP Γ F args = some r) : TabOK P (Γ.withP f s) :=
  hΓ.withP_of fun args r h hall hr => runP_snd hm hΓ ok hall (hs args r hr) h
theorem TabOK.withH (hΓ : TabOK P Γ) (hm : P.follows .mixedOrders = true) {f : FuncId} {F : AF} (ok : okF P f F = true) {s : List AV → AH → Option (AV × AH)} (hs : ∀ args h r h', s args h = some (r, h') → runH Γ F args h = some (r, h')) : TabOK P (Γ.withH f s) :=
  hΓ.withH_of fun args h r h' hr => runH_snd hm hΓ ok (hs args h r h' hr)
end
end Go.Am
