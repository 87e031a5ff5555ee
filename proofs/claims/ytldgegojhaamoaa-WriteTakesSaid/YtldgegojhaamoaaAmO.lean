/-
  The abstract machine: which operation of the program an abstract one is; that it makes what the program's makes.
-/
import Derived.Test.YtldgegojhaamoaaAmN
import Derived.Laws.Build
set_option linter.unusedSimpArgs false
set_option linter.unusedVariables false
namespace Go.Am

/-- A function that can be called: it has a body, and is none that the model keeps. -/
def Callable (P : Program) (f : FuncId) : Prop := ∃ fn, P.funcs[f]? = some fn ∧ fn.body.isSome = true ∧ (fn.name == "runtime.NumGoroutine") = false

/-- What a call makes, of any arguments that are so, in any memory that is so. -/
def Snd (P : Program) (f : FuncId) (args : List AV) (h : AH) (r : AV) (h' : AH) : Prop :=
  Callable P f ∧ ∀ (Z : Nat → Prop) (β : Bds) (w : World) (vs : List Value), Rel Z β h w → args.length = vs.length →
    (∀ (j : Nat) (y : AV) (u : Value), args[j]? = some y → vs[j]? = some u → VR β (Own Z β h) w y u) →
    Calls P f vs.toArray w fun e w' => ∃ v β', e = .returned v ∧ Rel Z β' h' w' ∧ Fr Z β h w β' h' w' ∧ VR β' (Own Z β' h') w' r v

structure TabOK (P : Program) (Γ : Tab) : Prop where
  p : ∀ f args r h, args.all AV.isE = true → Γ.p f args = some r → Snd P f args h r h
  h : ∀ f args h r h', Γ.h f args h = some (r, h') → Snd P f args h r h'

def isTy (P : Program) (t : TypeId) (q : TypeDesc → Bool) : Bool := match P.underlying t with | some d => q d | none => false

/-- A type of what may be nil, and its nil. -/
def nilOK : NK → TypeDesc → Value → Bool
  | .sl, .slice _, .slice none _ _ => true
  | .pt, .pointer _, .pointer none => true
  | .fn, .func _ _ _, .nilFunc => true
  | .ifc, .interface _, .nilIface => true
  | _, _, _ => false

/-- Which operation of the program is meant. -/
def okOp (P : Program) : Op → AOp → Bool
  | _, .no => true
  | .binOp op t x (.const c) _, .isnil k neg x' => decide (op = if neg then .neq else .eql) && okO x x' && isTy P t (fun d => nilOK k d c)
  | .move x, .mv y => okO x y
  | .assign x, .mv y => okO x y
  | .pick c x y, .pick c' x' y' => okO c c' && okO x x' && okO y y'
  | .alloc t, .alloc zero => zeroIs P t zero
  | .box _ x, .box y => okO x y
  | .build t ps, .build zero qs => okBuild P t ps zero qs
  | .buildSlice t n ps, .bsl sz zero m qs => okBsl P t n ps sz zero m qs
  | .buildSlice t n ps, .bslh sz zero m qs => okBsl P t n ps sz zero m qs
  | .load t x, .load sz agg y => sizeIs P t sz && aggIs P t agg && okO x y
  | .store t x y, .store sz x' y' => sizeIs P t sz && okO x x' && okO y y'
  | .nilCheck x, .nck y => okO x y
  | .binOp op t x y _, .bin op' x' y' => decide (op = op') && decide (t = t) && okO x x' && okO y y'
  | .binOp op t x y _, .beq neg x' y' => decide (op = if neg then .neq else .eql) && isTy P t (fun d => d matches .bool) && okO x x' && okO y y'
  | .binOp op t x y _, .seq neg ks x' y' => decide (op = if neg then .neq else .eql) && structIs P t ks && okO x x' && okO y y'
  | .unOp op _ x, .un op' y => decide (op = op') && okO x y
  | .convert s d x, .conv k y => (P.underlying s).isSome && isTy P d (fun d => match d with | .int k' => decide (k' = k) | _ => false) && okO x y
  | .convert s d x, .cstr y => isTy P s (fun d => d matches .string) && isTy P d (fun d => d matches .string) && okO x y
  | .convert s d x, .bts y => isTy P s (fun d => match d with | .slice e => isTy P e (fun d => match d with | .int k => decide (k = .u8) | _ => false) | _ => false) && isTy P d (fun d => d matches .string) && okO x y
  | .makeInterface t x, .mki t' y => decide (t = t') && P.concrete t && okO x y
  | .makeFunc f a c, .mkf f' a' c' => decide (f = f') && okArgs a.toList a' && okArgs c.toList c'
  | .makeSlice t l c, .mks sz bytes zero l' c' => okMks P t sz bytes zero && okO l l' && okO c c'
  | .slice t x lo hi mx, .sls y lo' hi' => isTy P t (fun d => d matches .string) && mx.isNone && okO x y && okOpt lo lo' && okOpt hi hi'
  | .slice t x lo hi mx, .sll sz y lo' hi' mx' => decide (0 < sz) && isTy P t (fun d => match d with | .slice e => sizeIs P e sz | _ => false) && okO x y && okOpt lo lo' && okOpt hi hi' && okOpt mx mx'
  | .fieldAddr t x k, .fad off y => isTy P t (fun d => match d with | .struct fs => (match fs[k]? with | some f => decide (f.offset = off) && (match P.info? f.type with | some i => decide (i.size ≠ 0) | none => false) | none => false) | _ => false) && okO x y
  | .field t x k, .fld off sz agg y => isTy P t (fun d => match d with | .struct fs => (match fs[k]? with | some f => decide (f.offset = off) && sizeIs P f.type sz && aggIs P f.type agg | none => false) | _ => false) && okO x y
  | .indexAddr t x i, .iad sz y j => isTy P t (fun d => match d with | .slice e => sizeIs P e sz | _ => false) && okO x y && okO i j
  | .indexAddr t x i, .iada n sz y j => isTy P t (fun d => match d with | .array n' e => decide (n' = n) && sizeIs P e sz | _ => false) && okO x y && okO i j
  | .index t x i, .idxs y j => isTy P t (fun d => d matches .string) && okO x y && okO i j
  | .index t x i, .idxa n sz agg y j => isTy P t (fun d => match d with | .array n' e => decide (n' = n) && sizeIs P e sz && aggIs P e agg | _ => false) && okO x y && okO i j
  | .extract x i, .ext y j => decide (i = j) && okO x y
  | .call { callee := .value (.func f), args, argTypes := _ }, .call f' args' => decide (f = f') && okArgs args.toList args'
  | .call { callee := .value (.func f), args, argTypes := _ }, .callp f' args' => decide (f = f') && okArgs args.toList args'
  | .call { callee := .value (.tmp t), args, argTypes := _ }, .callv y args' => okO (.tmp t) y && okArgs args.toList args'
  | .call { callee := .builtin b, args, argTypes }, .app sz bytes y1 y2 => decide (b = .append) && (match args.toList, argTypes.toList with
      | [x1, x2], [t, u] => okO x1 y1 && okO x2 y2 && decide (0 < sz) && isTy P t (fun d => match d with | .slice e => sizeIs P e sz && bytesIs P e bytes && okZero P e | _ => false) && isTy P u (fun d => d matches .slice _)
      | _, _ => false)
  | .call { callee := .builtin b, args, argTypes }, .appz sz bytes zero y1 y2 => decide (b = .append) && (match args.toList, argTypes.toList with
      | [x1, x2], [t, u] => okO x1 y1 && okO x2 y2 && decide (0 < sz) && isTy P t (fun d => match d with | .slice e => sizeIs P e sz && bytesIs P e bytes && okZero P e && zeroV P e zero | _ => false) && isTy P u (fun d => d matches .int _)
      | _, _ => false)
  | .call { callee := .builtin b, args, argTypes }, .apps bytes y1 y2 => decide (b = .append) && (match args.toList, argTypes.toList with
      | [x1, x2], [t, u] => okO x1 y1 && okO x2 y2 && isTy P t (fun d => match d with | .slice e => sizeIs P e 1 && bytesIs P e bytes && okZero P e | _ => false) && isTy P u (fun d => d matches .string)
      | _, _ => false)
  | .call { callee := .builtin b, args, argTypes }, .copy sz y1 y2 => decide (b = .copy) && (match args.toList, argTypes.toList with
      | [x1, x2], t :: _ => okO x1 y1 && okO x2 y2 && isTy P t (fun d => match d with | .slice e => sizeIs P e sz | _ => false)
      | _, _ => false)
  | .call { callee := .builtin b, args, argTypes }, .len str y => decide (b = .len) && (match args.toList, argTypes.toList with
      | [x], [t] => okO x y && isTy P t (fun d => match d with | .slice _ => !str | .string => str | _ => false)
      | _, _ => false)
  | .call { callee := .builtin b, args, argTypes }, .lena n => decide (b = .len) && (match args.toList, argTypes.toList with
      | [_], [t] => isTy P t (fun d => match d with | .array n' _ => decide (n' = n) | _ => false)
      | _, _ => false)
  | .call { callee := .builtin b, args, argTypes := _ }, .mm isMax ys => decide (b = if isMax then .max else .min) && okArgs args.toList ys
  | _, _ => false
where
  okZero (P : Program) (e : TypeId) : Bool := match P.info? e with
    | some i => match i.zero with
      | some z => decide (z.cells.size = i.size)
      | none => false
    | none => false

section
variable {P : Program} {Z : Nat → Prop} {β : Bds} {h : AH} {w : World}

theorem wp_of_makes {o : Oper} {a : Act} {s : Sem Value} (he : execOp a.eval o = (do pure (.value (← s)))) {av : AV} {h' : AH} (hm : Makes P Z β h w s av h') {next : Act → World → Prop} {Q : Exit → Act → World → Prop}
    (K : ∀ v w' β', Rel Z β' h' w' → Fr Z β h w β' h' w' → VR β' (Own Z β' h') w' av v → next (a.put o.dst v) w') : o.wp P a w next Q := by
  obtain ⟨v, w', β', hr, k1, k2, k3⟩ := hm
  unfold Oper.wp
  rw [he]
  simp only [Sem.run_bind, hr, Result.andThen_ok, Sem.run_pure]
  exact K v w' β' k1 k2 k3

theorem isTy_inv {t : TypeId} {q : TypeDesc → Bool} (hi : isTy P t q = true) : ∃ d, P.underlying t = some d ∧ q d = true := by
  unfold isTy at hi
  split at hi
  · rename_i d hd; exact ⟨d, hd, hi⟩
  · cases hi

theorem Snd.wp {f : FuncId} {args : List AV} {h' : AH} {r : AV} (hs : Snd P f args h r h') (R : Rel Z β h w) {vs : List Value} (hl : args.length = vs.length)
    (hv : ∀ (j : Nat) (y : AV) (u : Value), args[j]? = some y → vs[j]? = some u → VR β (Own Z β h) w y u) {o : Oper} {a : Act} {next : Act → World → Prop} {Q : Exit → Act → World → Prop}
    (K : ∀ v w' β', Rel Z β' h' w' → Fr Z β h w β' h' w' → VR β' (Own Z β' h') w' r v → next (a.put o.dst v) w') : o.upon P a next Q ((callFunc f vs.toArray).run P w) := by
  obtain ⟨⟨fn, hf, hb, hn⟩, hc⟩ := hs
  have hr : (callFunc f vs.toArray).run P w = .ok (.enter f vs.toArray) w := by
    have hb' : fn.body.isNone = false := by cases hfb : fn.body <;> simp_all
    simp only [callFunc, Sem.run_bind, run_program, Result.andThen_ok, hf, hn, hb', Bool.false_eq_true, if_false, Sem.run_pure]
  rw [hr]
  refine (hc Z β w vs R hl hv).mono ?_
  rintro e w' ⟨v, β', rfl, k1, k2, k3⟩
  exact K v w' β' k1 k2 k3

theorem purE_isE {h h' : AH} {a a' : AV} (hp : purE h a = some (a', h')) : a'.isE = true := by
  unfold purE at hp
  have hS : ∀ {h h' : AH} {a a' : AV}, purS h a = some (a', h') → a'.isS = true := by
    intro h h' a a' hp
    unfold purS at hp
    split at hp
    · split at hp
      · split at hp
        · cases hp; rfl
        · cases hp
      · split at hp
        · cases hp; rfl
        · cases hp
      · cases hp
    · split at hp
      · rename_i hs; cases hp; exact hs
      · cases hp
  split at hp
  · rename_i hE; cases hp; exact hE
  · split at hp
    · rename_i cs _
      simp only [Option.bind_eq_some_iff] at hp
      obtain ⟨⟨l, h1⟩, e1, e2⟩ := hp
      cases e2
      have : ∀ (cs : List AV) (h : AH) (cs' : List AV) (h' : AH), purL h cs = some (cs', h') → cs'.all AV.isS = true := by
        intro cs
        induction cs with
        | nil => intro h cs' h' hp; simp only [purL] at hp; cases hp; rfl
        | cons a cs ih =>
          intro h cs' h' hp
          simp only [purL, Option.bind_eq_some_iff] at hp
          obtain ⟨⟨a1, h1⟩, e1, ⟨l1, h2⟩, e2, e3⟩ := hp
          cases e3
          simp only [List.all_cons, Bool.and_eq_true]
          exact ⟨hS e1, ih _ _ _ e2⟩
      exact this _ _ _ _ e1
    · have := hS hp
      cases a' <;> simp_all [AV.isE, AV.isS]
theorem callA_snd {Γ : Tab} (hΓ : TabOK P Γ) {f : FuncId} {args : List AV} {r : AV} {h' : AH} (hc : callA Γ f args h = some (r, h')) : Snd P f args h r h' := by
  unfold callA at hc
  split at hc
  · rename_i a1 h1 hp
    split at hc
    · rename_i r' hr
      cases hc
      have hall : a1.all AV.isE = true := by
        have : ∀ (cs : List AV) (h : AH) (cs' : List AV) (h' : AH), purEs h cs = some (cs', h') → cs'.all AV.isE = true := by
          intro cs
          induction cs with
          | nil => intro h cs' h' hp; simp only [purEs] at hp; cases hp; rfl
          | cons a cs ih =>
            intro h cs' h' hp
            simp only [purEs, Option.bind_eq_some_iff] at hp
            obtain ⟨⟨a1, h1⟩, e1, ⟨l1, h2⟩, e2, e3⟩ := hp
            cases e3
            simp only [List.all_cons, Bool.and_eq_true]
            exact ⟨purE_isE e1, ih _ _ _ e2⟩
        exact this _ _ _ _ hp
      obtain ⟨hcb, hs⟩ := hΓ.p f a1 _ _ hall hr
      refine ⟨hcb, fun Z β w vs R hl hv => ?_⟩
      obtain ⟨k1, k2, k3, k4, k5⟩ := purEs_rel args R hp hl hv
      refine (hs Z β w vs k1 k3 k4).mono ?_
      rintro e w' ⟨v, β', rfl, m1, m2, m3⟩
      exact ⟨v, β', rfl, m1, k2.trans m2, m3⟩
    · exact hΓ.h f args h r h' hc
  · exact hΓ.h f args h r h' hc
end
end Go.Am
