/-
 The abstract machine: which operation of the program an abstract one is; that it makes what the program's makes.
-/
import Derived.Test.YtgefdmkmobaefaaAmGI
import Derived.Laws.Build
import Derived.Test.YtgefdmkmobaefaaAmCs
set_option linter.unusedSimpArgs false
set_option linter.unusedVariables false
namespace Go.Am
def Callable (P : Program) (f : FuncId) : Prop := ∃ fn, P.funcs[f]? = some fn ∧ fn.body.isSome = true ∧ (fn.name == "runtime.NumGoroutine") = false
def Snd (P : Program) (f : FuncId) (args : List AV) (h : AH) (r : AV) (h' : AH) : Prop :=
 Callable P f ∧ ∀ (Z : Nat → Prop) (β : Bds) (w : World) (vs : List Value), Rel Z β h w → args.length = vs.length →
  (∀ (j : Nat) (y : AV) (u : Value), args[j]? = some y → vs[j]? = some u → VR β (Own Z β h) w y u) →
  Calls P f vs.toArray w fun e w' => ∃ v β', e = .returned v ∧ Rel Z β' h' w' ∧ Fr Z β h w β' h' w' ∧ VR β' (Own Z β' h') w' r v
structure TabOK (P : Program) (Γ : Tab) : Prop where
 p : ∀ f args r h, args.all AV.isE = true → Γ.p f args = some r → Snd P f args h r h
 h : ∀ f args h r h', Γ.h f args h = some (r, h') → Snd P f args h r h'
def isTy (P : Program) (t : TypeId) (q : TypeDesc → Bool) : Bool := match P.underlying t with | some d => q d | none => false
def nilOK : NK → TypeDesc → Value → Bool
 | .sl, .slice _, .slice none _ _ => true
 | .pt, .pointer _, .pointer none => true
 | .fn, .func _ _ _, .nilFunc => true
 | .ifc, .interface _, .nilIface => true
 | _, _, _ => false
def okOp (P : Program) : Op → AOp → Bool
 | _, .no => true
 | .binOp op t x (.const c) _, .isnil k neg x' => decide (op = if neg then .neq else .eql) && okO x x' && isTy P t (fun d => nilOK k d c)
 | .move x, .mv y => okO x y
 | .assign x, .mv y => okO x y
 | .pick c x y, .pick c' x' y' => okO c c' && okO x x' && okO y y'
 | .alloc t, .alloc zero => zeroIs P t zero
 | .box _ x, .box y => okO x y
 | .build t ps, .build zero qs => okBuild P t ps zero qs
 | .buildSlice t n ps, .bsl sz zero m qs => okBsl P t n ps sz zero m qs
 | .buildSlice t n ps, .bslh sz zero m qs => okBsl P t n ps sz zero m qs
 | .buildSlice t n ps, .bslo sz zero m qs => okBsl P t n ps sz zero m qs
 | .load t x, .load sz agg y => sizeIs P t sz && aggIs P t agg && okO x y
 | .load t x, .loadx sz agg y _ => sizeIs P t sz && aggIs P t agg && okO x y
 | .store t x y, .store sz x' y' => sizeIs P t sz && okO x x' && okO y y'
 | .store t x y, .storer sz x' y' => sizeIs P t sz && okO x x' && okO y y'
 | .nilCheck x, .nck y => okO x y
 | .binOp op t x y _, .bin op' x' y' => decide (op = op') && decide (t = t) && okO x x' && okO y y'
 | .binOp op t x y _, .beq neg x' y' => decide (op = if neg then .neq else .eql) && isTy P t (fun d => d matches .bool) && okO x x' && okO y y'
 | .binOp op t x y _, .seq neg ks x' y' => decide (op = if neg then .neq else .eql) && structIs P t ks && okO x x' && okO y y'
 | .unOp op _ x, .un op' y => decide (op = op') && okO x y
 | .convert s d x, .conv k y => (P.underlying s).isSome && isTy P d (fun d => match d with | .int k' => decide (k' = k) | _ => false) && okO x y
 | .convert s d x, .cstr y => isTy P s (fun d => d matches .string) && isTy P d (fun d => d matches .string) && okO x y
 | .convert s d x, .bts y => isTy P s (fun d => match d with | .slice e => isTy P e (fun d => match d with | .int k => decide (k = .u8) | _ => false) | _ => false) && isTy P d (fun d => d matches .string) && okO x y
 | .makeInterface t x, .mki t' y => decide (t = t') && P.concrete t && okO x y
 | .makeFunc f a c, .mkf f' a' c' => decide (f = f') && okArgs a.toList a' && okArgs c.toList c'
 | .makeSlice t l c, .mks sz bytes zero l' c' => okMks P t sz bytes zero && okO l l' && okO c c'
 | .slice t x lo hi mx, .sls y lo' hi' => isTy P t (fun d => d matches .string) && mx.isNone && okO x y && okOpt lo lo' && okOpt hi hi'
 | .slice t x lo hi mx, .sll sz y lo' hi' mx' => decide (0 < sz) && isTy P t (fun d => match d with | .slice e => sizeIs P e sz | _ => false) && okO x y && okOpt lo lo' && okOpt hi hi' && okOpt mx mx'
 | .fieldAddr t x k, .fad off y => isTy P t (fun d => match d with | .struct fs => (match fs[k]? with | some f => decide (f.offset = off) && (match P.info? f.type with | some i => decide (i.size ≠ 0) | none => false) | none => false) | _ => false) && okO x y
 | .field t x k, .fld off sz agg y => isTy P t (fun d => match d with | .struct fs => (match fs[k]? with | some f => decide (f.offset = off) && sizeIs P f.type sz && aggIs P f.type agg | none => false) | _ => false) && okO x y
 | .indexAddr t x i, .iad sz y j => isTy P t (fun d => match d with | .slice e => sizeIs P e sz | _ => false) && okO x y && okO i j
 | .indexAddr t x i, .iada n sz y j => isTy P t (fun d => match d with | .array n' e => decide (n' = n) && sizeIs P e sz | _ => false) && okO x y && okO i j
 | .index t x i, .idxs y j => isTy P t (fun d => d matches .string) && okO x y && okO i j
 | .index t x i, .idxa n sz agg y j => isTy P t (fun d => match d with | .array n' e => decide (n' = n) && sizeIs P e sz && aggIs P e agg | _ => false) && okO x y && okO i j
 | .extract x i, .ext y j => decide (i = j) && okO x y
 | .call { callee := .value (.func f), args, argTypes := _ }, .call f' args' => decide (f = f') && okArgs args.toList args'
 | .call { callee := .value (.func f), args, argTypes := _ }, .callp f' args' => decide (f = f') && okArgs args.toList args'
 | .call { callee := .value (.tmp t), args, argTypes := _ }, .callv y args' => okO (.tmp t) y && okArgs args.toList args'
 | .call { callee := .builtin b, args, argTypes }, .app sz bytes y1 y2 => decide (b = .append) && (match args.toList, argTypes.toList with
   | [x1, x2], [t, u] => okO x1 y1 && okO x2 y2 && decide (0 < sz) && isTy P t (fun d => match d with | .slice e => sizeIs P e sz && bytesIs P e bytes && okZero P e | _ => false) && isTy P u (fun d => d matches .slice _)
   | _, _ => false)
 | .call { callee := .builtin b, args, argTypes }, .appz sz bytes zero y1 y2 => decide (b = .append) && (match args.toList, argTypes.toList with
   | [x1, x2], [t, u] => okO x1 y1 && okO x2 y2 && decide (0 < sz) && isTy P t (fun d => match d with | .slice e => sizeIs P e sz && bytesIs P e bytes && okZero P e && zeroV P e zero | _ => false) && isTy P u (fun d => d matches .int _)
   | _, _ => false)
 | .call { callee := .builtin b, args, argTypes }, .apps bytes y1 y2 => decide (b = .append) && (match args.toList, argTypes.toList with
   | [x1, x2], [t, u] => okO x1 y1 && okO x2 y2 && isTy P t (fun d => match d with | .slice e => sizeIs P e 1 && bytesIs P e bytes && okZero P e | _ => false) && isTy P u (fun d => d matches .string)
   | _, _ => false)
 | .call { callee := .builtin b, args, argTypes }, .copy sz y1 y2 => decide (b = .copy) && (match args.toList, argTypes.toList with
   | [x1, x2], t :: _ => okO x1 y1 && okO x2 y2 && isTy P t (fun d => match d with | .slice e => sizeIs P e sz | _ => false)
   | _, _ => false)
 | .call { callee := .builtin b, args, argTypes }, .len str y => decide (b = .len) && (match args.toList, argTypes.toList with
   | [x], [t] => okO x y && isTy P t (fun d => match d with | .slice _ => !str | .string => str | _ => false)
   | _, _ => false)
 | .call { callee := .builtin b, args, argTypes }, .lena n => decide (b = .len) && (match args.toList, argTypes.toList with
   | [_], [t] => isTy P t (fun d => match d with | .array n' _ => decide (n' = n) | _ => false)
   | _, _ => false)
 | .call { callee := .builtin b, args, argTypes := _ }, .mm isMax ys => decide (b = if isMax then .max else .min) && okArgs args.toList ys
 | .call { callee := .builtin b, args, argTypes }, .clr sz zero y => decide (b = .clear) && (match args.toList, argTypes.toList with
   | [x], [t] => okO x y && isTy P t (fun d => match d with | .slice e => sizeIs P e sz && okZero P e && zeroV P e zero | _ => false)
   | _, _ => false)
 | .box _ x, .rbox y => okO x y
 | .load t x, .loadr sz agg y => sizeIs P t sz && aggIs P t agg && okO x y
 | .call { callee := .value (.func f), args, argTypes := _ }, .callq f' args' => decide (f = f') && okArgs args.toList args'
 | .call { callee := .value (.tmp t), args, argTypes := _ }, .callr y args' => okO (.tmp t) y && okArgs args.toList args'
 | .makeMap _ r, .mkm => r.isNone
 | .lookup t m k c, .mget zero m' k' => !c && isTy P t (fun d => match d with | .map kt et => isTy P kt (fun d => match d with | .int q => decide (q = .i64) | _ => false) && zeroV P et zero | _ => false) && okO m m' && okO k k'
 | .mapUpdate t m k x, .mput m' k' x' => isTy P t (fun d => match d with | .map kt _ => isTy P kt (fun d => match d with | .int q => decide (q = .i64) | _ => false) | _ => false) && okO m m' && okO k k' && okO x x'
 | .call { callee := .builtin b, args, argTypes }, .mlen y => decide (b = .len) && (match args.toList, argTypes.toList with
   | [x], [t] => okO x y && isTy P t (fun d => d matches .map _ _)
   | _, _ => false)
 | .call { callee := .value (.func f), args, argTypes := _ }, .calla f' args' => decide (f = f') && okArgs args.toList args'
 | .convert s d x, .stb y => isTy P s (fun d => d matches .string) && isTy P d (fun d => match d with | .slice e => isTy P e (fun d => match d with | .int k => decide (k = .u8) | _ => false) | _ => false) && okO x y
 | .convert s d x, .csl y => decide (s = d) && isTy P d (fun d => match d with | .slice e => isTy P e (fun d => match d with | .int k => decide (k = .u8) | _ => false) | _ => false) && okO x y
 | .call { callee := .value (.func f), args, argTypes := _ }, .calls f' args' => decide (f = f') && okArgs args.toList args'
 | .call { callee := .value (.tmp t), args, argTypes := _ }, .callra y args' => okO (.tmp t) y && okArgs args.toList args'
 | .load t x, .loadv sz agg y => sizeIs P t sz && aggIs P t agg && okO x (.t y)
 | .insert t m k x, .mput m' k' x' => isTy P t (fun d => match d with | .map kt _ => isTy P kt (fun d => match d with | .int q => decide (q = .i64) | _ => false) | _ => false) && okO m m' && okO k k' && okO x x'
 | _, _ => false
where
 okZero (P : Program) (e : TypeId) : Bool := match P.info? e with
  | some i => match i.zero with
   | some z => decide (z.cells.size = i.size)
   | none => false
  | none => false
section
variable {P : Program} {Z : Nat → Prop} {β : Bds} {h : AH} {w : World}
theorem wp_of_makes {o : Oper} {a : Act} {s : Sem Value} (he : execOp a.eval o = (do pure (.value (← s)))) {av : AV} {h' : AH} (hm : Makes P Z β h w s av h') {next : Act → World → Prop} {Q : Exit → Act → World → Prop}
  (K : ∀ v w' β', Rel Z β' h' w' → Fr Z β h w β' h' w' → VR β' (Own Z β' h') w' av v → next (a.put o.dst v) w') : o.wp P a w next Q := by
 obtain ⟨v, w', β', hr, k1, k2, k3⟩ := hm
 unfold Oper.wp
 rw [he]
 simp only [Sem.run_bind, hr, Result.andThen_ok, Sem.run_pure]
 exact K v w' β' k1 k2 k3
theorem isTy_inv {t : TypeId} {q : TypeDesc → Bool} (hi : isTy P t q = true) : ∃ d, P.underlying t = some d ∧ q d = true := by
 unfold isTy at hi
 split at hi
 ·rename_i d hd; exact ⟨d, hd, hi⟩
 ·cases hi
theorem Snd.wp {f : FuncId} {args : List AV} {h' : AH} {r : AV} (hs : Snd P f args h r h') (R : Rel Z β h w) {vs : List Value} (hl : args.length = vs.length)
  (hv : ∀ (j : Nat) (y : AV) (u : Value), args[j]? = some y → vs[j]? = some u → VR β (Own Z β h) w y u) {o : Oper} {a : Act} {next : Act → World → Prop} {Q : Exit → Act → World → Prop}
  (K : ∀ v w' β', Rel Z β' h' w' → Fr Z β h w β' h' w' → VR β' (Own Z β' h') w' r v → next (a.put o.dst v) w') : o.upon P a next Q ((callFunc f vs.toArray).run P w) := by
 obtain ⟨⟨fn, hf, hb, hn⟩, hc⟩ := hs
 have hr : (callFunc f vs.toArray).run P w = .ok (.enter f vs.toArray) w := by
  have hb' : fn.body.isNone = false := by cases hfb : fn.body <;> simp_all
  simp only [callFunc, Sem.run_bind, run_program, Result.andThen_ok, hf, hn, hb', Bool.false_eq_true, if_false, Sem.run_pure]
 rw [hr]
 refine (hc Z β w vs R hl hv).mono ?_
 rintro e w' ⟨v, β', rfl, k1, k2, k3⟩
 exact K v w' β' k1 k2 k3
theorem purE_isE {h h' : AH} {a a' : AV} (hp : purE h a = some (a', h')) : a'.isE = true := by
 unfold purE at hp
 have hS : ∀ {h h' : AH} {a a' : AV}, purS h a = some (a', h') → a'.isS = true := by
  intro h h' a a' hp
  unfold purS at hp
  split at hp
  ·split at hp
   ·split at hp
    ·cases hp; rfl
    ·cases hp
   ·split at hp
    ·cases hp; rfl
    ·cases hp
   ·cases hp
  ·split at hp
   ·rename_i hs; cases hp; exact hs
   ·cases hp
 split at hp
 ·rename_i hE; cases hp; exact hE
 ·split at hp
  ·rename_i cs _
   simp only [Option.bind_eq_some_iff] at hp
   obtain ⟨⟨l, h1⟩, e1, e2⟩ := hp
   cases e2
   have : ∀ (cs : List AV) (h : AH) (cs' : List AV) (h' : AH), purL h cs = some (cs', h') → cs'.all AV.isS = true := by
    intro cs
    induction cs with
    | nil => intro h cs' h' hp; simp only [purL] at hp; cases hp; rfl
    | cons a cs ih =>
     intro h cs' h' hp
     simp only [purL, Option.bind_eq_some_iff] at hp
     obtain ⟨⟨a1, h1⟩, e1, ⟨l1, h2⟩, e2, e3⟩ := hp
     cases e3
     simp only [List.all_cons, Bool.and_eq_true]
     exact ⟨hS e1, ih _ _ _ e2⟩
   exact this _ _ _ _ e1
  ·have := hS hp
   cases a' <;> simp_all [AV.isE, AV.isS]
theorem callA_snd {Γ : Tab} (hΓ : TabOK P Γ) {f : FuncId} {args : List AV} {r : AV} {h' : AH} (hc : callA Γ f args h = some (r, h')) : Snd P f args h r h' := by
 unfold callA at hc
 split at hc
 ·rename_i a1 h1 hp
  split at hc
  ·rename_i r' hr
   cases hc
   have hall : a1.all AV.isE = true := by
    have : ∀ (cs : List AV) (h : AH) (cs' : List AV) (h' : AH), purEs h cs = some (cs', h') → cs'.all AV.isE = true := by
     intro cs
     induction cs with
     | nil => intro h cs' h' hp; simp only [purEs] at hp; cases hp; rfl
     | cons a cs ih =>
      intro h cs' h' hp
      simp only [purEs, Option.bind_eq_some_iff] at hp
      obtain ⟨⟨a1, h1⟩, e1, ⟨l1, h2⟩, e2, e3⟩ := hp
      cases e3
      simp only [List.all_cons, Bool.and_eq_true]
      exact ⟨purE_isE e1, ih _ _ _ e2⟩
    exact this _ _ _ _ hp
   obtain ⟨hcb, hs⟩ := hΓ.p f a1 _ _ hall hr
   refine ⟨hcb, fun Z β w vs R hl hv => ?_⟩
   obtain ⟨k1, k2, k3, k4, k5⟩ := purEs_rel args R hp hl hv
   refine (hs Z β w vs k1 k3 k4).mono ?_
   rintro e w' ⟨v, β', rfl, m1, m2, m3⟩
   exact ⟨v, β', rfl, m1, k2.trans m2, m3⟩
  ·exact hΓ.h f args h r h' hc
 ·exact hΓ.h f args h r h' hc
end
end Go.Am

/-
 The abstract machine: an operation that is meant makes what the program's makes.
-/
namespace Go.Am
section
variable {P : Program} {Z : Nat → Prop} {β : Bds} {h : AH} {w : World}
theorem Makes.keep {s : Sem Value} {v : Option AV} {av : AV} {h' : AH} (hk : keepH h v = some (av, h')) (hm : ∀ x, v = some x → Makes P Z β h w s x h) : Makes P Z β h w s av h' := by
 cases v with
 | none => cases hk
 | some x =>
  cases hk
  exact hm _ rfl
theorem okZero_inv {e : TypeId} (hz : okOp.okZero P e = true) : ∃ i z, P.info? e = some i ∧ i.zero = some z ∧ z.cells.size = i.size := by
 unfold okOp.okZero at hz
 split at hz
 ·rename_i i hi
  split at hz
  ·rename_i z hz'
   exact ⟨i, z, hi, hz', by simpa using hz⟩
  ·cases hz
 ·cases hz
theorem append_szOk {sz bytes : Nat} {s av : AV} {news : List AV} {h' : AH} (ha : append h sz bytes s news = some (av, h')) : szOk sz news = true := by
 unfold append at ha
 split at ha
 ·split at ha
  ·rename_i hc; exact hc.2.2.1
  ·cases ha
 ·split at ha
  ·split at ha
   ·rename_i hc; exact hc.2.2.1
   ·cases ha
  ·cases ha
 ·cases ha
theorem append_le {sz bytes : Nat} {s av : AV} {news : List AV} {h' : AH} (ha : append h sz bytes s news = some (av, h')) : news.length ≤ 140737488355328 := by
 unfold append at ha
 split at ha
 ·split at ha
  ·rename_i hc; have := hc.2.2.2.2; omega
  ·cases ha
 ·split at ha
  ·split at ha
   ·rename_i hc; have := hc.2.2.2.2.2; omega
   ·cases ha
  ·cases ha
 ·cases ha
theorem notInt_or (d : TypeDesc) : (match d with | .int _ => False | _ => True) ∨ ((d matches .slice _) = false ∧ (d matches .string) = false) := by cases d <;> first | exact .inl trivial | exact .inr ⟨rfl, rfl⟩
theorem bytes_cells (b : ByteArray) (l : List UInt8) (h : b.data.toList = l) : ((b.extract 0 l.length).data.map fun c => Value.int .u8 c.toNat) = (l.map fun c => Value.int .u8 c.toNat).toArray := by
 apply Array.ext'
 subst h
 simp [ByteArray.data_extract, Array.toList_extract]
section
variable {t : TypeId} {n : Nat}
theorem eqn_slice {elem : TypeId} (hd : P.underlying t = some (.slice elem)) (w : World) (ad : Option Addr) (m cp m' cp' : Nat) : (Op.equalIn (n + 1) t (.slice ad m cp) (.slice none m' cp')).run P w = .ok ad.isNone w := by
 cases ad <;> simp [Op.equalIn, run_underlying hd]
theorem eqn_ptr {elem : TypeId} (hd : P.underlying t = some (.pointer elem)) (w : World) (ad : Option Addr) : (Op.equalIn (n + 1) t (.pointer ad) (.pointer none)).run P w = .ok ad.isNone w := by
 cases ad <;> simp [Op.equalIn, run_underlying hd]
theorem eqn_fn0 {p r : Array TypeId} {v : Bool} (hd : P.underlying t = some (.func p r v)) (w : World) : (Op.equalIn (n + 1) t .nilFunc .nilFunc).run P w = .ok true w := by
 simp [Op.equalIn, run_underlying hd]
theorem eqn_fn1 {p r : Array TypeId} {v : Bool} (hd : P.underlying t = some (.func p r v)) (w : World) (f : Fn) (x y : Array Value) : (Op.equalIn (n + 1) t (.func f x y) .nilFunc).run P w = .ok false w := by
 simp [Op.equalIn, run_underlying hd]
theorem eqn_if0 {ms} (hd : P.underlying t = some (.interface ms)) (w : World) : (Op.equalIn (n + 1) t .nilIface .nilIface).run P w = .ok true w := by
 simp [Op.equalIn, run_underlying hd]
theorem eqn_if1 {ms} (hd : P.underlying t = some (.interface ms)) (w : World) (t' : TypeId) (x : Value) : (Op.equalIn (n + 1) t (.iface t' x) .nilIface).run P w = .ok false w := by
 simp [Op.equalIn, run_underlying hd]
end
theorem isnil_rel (R : Rel Z β h w) {a : Act} {n : Nat} {e : Env} (E : EnvR Z β h w e a n) {t : TypeId} {d : TypeDesc} (hd : P.underlying t = some d) {k : NK} {c : Value}
  (hq : nilOK k d c = true) {neg : Bool} {y av : AV} {x : Operand} (hav : isNil k neg y = some av) (hv : VR β (Own Z β h) w y (a.eval x)) :
  Makes P Z β h w (do eqGuard (if neg then .neq else .eql) t x (.const c) (a.eval x) (a.eval (.const c)); binOp (if neg then .neq else .eql) t (a.eval x) (a.eval (.const c))) av h := by
 have key : ∀ {b : Bool}, ((eqGuard (if neg then .neq else .eql) t x (.const c) (a.eval x) c).run P w = .ok () w) → ((binOp (if neg then .neq else .eql) t (a.eval x) c).run P w = .ok (.bool b) w) → VR β (Own Z β h) w av (.bool b) →
   Makes P Z β h w (do eqGuard (if neg then .neq else .eql) t x (.const c) (a.eval x) (a.eval (.const c)); binOp (if neg then .neq else .eql) t (a.eval x) (a.eval (.const c))) av h := by
  intro b h1 h2 h3
  refine Makes.of R (v := .bool b) ?_ h3
  show (eqGuard _ t x (.const c) (a.eval x) c >>= fun _ => binOp _ t (a.eval x) c).run P w = _
  simp only [Sem.run_bind, h1, Result.andThen_ok, h2]
 have slc : ∀ {ad : Option Addr} {m cp : Nat} {elem : TypeId} {m' cp' : Nat}, d = .slice elem → c = .slice none m' cp' → a.eval x = .slice ad m cp → VR β (Own Z β h) w av (.bool (if neg then !ad.isNone else ad.isNone)) →
   Makes P Z β h w (do eqGuard (if neg then .neq else .eql) t x (.const c) (a.eval x) (a.eval (.const c)); binOp (if neg then .neq else .eql) t (a.eval x) (a.eval (.const c))) av h := by
  intro ad m cp elem m' cp' e1 e2 e3 hv
  subst e1 e2
  rw [e3] at key ⊢
  refine key (b := if neg then !ad.isNone else ad.isNone) ?_ ?_ hv
  ·cases neg <;> simp [eqGuard]
  ·cases neg <;> simp [binOp, Op.equal, Op.maxDepth, eqn_slice hd]
 cases y with
 | nilp =>
  cases k <;> simp only [isNil] at hav <;> first | (cases hav; done) | skip
  cases hav
  cases d <;> first | (cases hq; done) | skip
  cases c <;> first | (cases hq; done) | skip
  rename_i p
  cases p <;> first | (cases hq; done) | skip
  have he : a.eval x = .pointer none := by generalize a.eval x = u at hv; cases hv with | pure _ _ hv => cases hv; rfl
  rw [he] at key ⊢
  refine key (b := !neg) ?_ ?_ (.of_bool _)
  ·cases neg <;> simp [eqGuard]
  ·cases neg <;> simp [binOp, Op.equal, Op.maxDepth, eqn_ptr hd]
 | ptr b vv i o =>
  cases k <;> simp only [isNil] at hav <;> first | (cases hav; done) | skip
  cases hav
  cases d <;> first | (cases hq; done) | skip
  cases c <;> first | (cases hq; done) | skip
  rename_i p
  cases p <;> first | (cases hq; done) | skip
  obtain ⟨bd, cc, _, _, he⟩ := hv.ptr_inv
  rw [he] at key ⊢
  refine key (b := neg) ?_ ?_ (.of_bool _)
  ·cases neg <;> simp [eqGuard]
  ·cases neg <;> simp [binOp, Op.equal, Op.maxDepth, eqn_ptr hd]
 | rptr cs =>
  cases k <;> simp only [isNil] at hav <;> first | (cases hav; done) | skip
  cases hav
  cases d <;> first | (cases hq; done) | skip
  cases c <;> first | (cases hq; done) | skip
  rename_i p
  cases p <;> first | (cases hq; done) | skip
  obtain ⟨ad, he⟩ : ∃ ad, a.eval x = .pointer (some ad) := by
   generalize a.eval x = u at hv
   cases hv with
   | pure _ _ hv => cases hv
   | rptr => exact ⟨_, rfl⟩
  rw [he] at key ⊢
  refine key (b := neg) ?_ ?_ (.of_bool _)
  ·cases neg <;> simp [eqGuard]
  ·cases neg <;> simp [binOp, Op.equal, Op.maxDepth, eqn_ptr hd]
 | nilf =>
  cases k <;> simp only [isNil] at hav <;> first | (cases hav; done) | skip
  cases hav
  cases d <;> first | (cases hq; done) | skip
  cases c <;> first | (cases hq; done) | skip
  have he : a.eval x = .nilFunc := by generalize a.eval x = u at hv; cases hv with | pure _ _ hv => cases hv; rfl
  rw [he] at key ⊢
  refine key (b := !neg) ?_ ?_ (.of_bool _)
  ·cases neg <;> simp [eqGuard]
  ·cases neg <;> simp [binOp, Op.equal, Op.maxDepth, eqn_fn0 hd]
 | fn f fi ca =>
  cases k <;> simp only [isNil] at hav <;> first | (cases hav; done) | skip
  cases hav
  cases d <;> first | (cases hq; done) | skip
  cases c <;> first | (cases hq; done) | skip
  obtain ⟨f', a1, a2, he⟩ : ∃ f' a1 a2, a.eval x = .func f' a1 a2 := by
   generalize a.eval x = u at hv
   cases hv with
   | pure _ _ hv => cases hv
   | fn => exact ⟨_, _, _, rfl⟩
  rw [he] at key ⊢
  refine key (b := neg) ?_ ?_ (.of_bool _)
  ·cases neg <;> simp [eqGuard]
  ·cases neg <;> simp [binOp, Op.equal, Op.maxDepth, eqn_fn1 hd]
 | nili =>
  cases k <;> simp only [isNil] at hav <;> first | (cases hav; done) | skip
  cases hav
  cases d <;> first | (cases hq; done) | skip
  cases c <;> first | (cases hq; done) | skip
  have he : a.eval x = .nilIface := by generalize a.eval x = u at hv; cases hv with | pure _ _ hv => cases hv; rfl
  rw [he] at key ⊢
  refine key (b := !neg) ?_ ?_ (.of_bool _)
  ·cases neg <;> simp [eqGuard]
  ·cases neg <;> simp [binOp, Op.equal, Op.maxDepth, eqn_if0 hd]
 | ifc tt vv =>
  cases k <;> simp only [isNil] at hav <;> first | (cases hav; done) | skip
  cases hav
  cases d <;> first | (cases hq; done) | skip
  cases c <;> first | (cases hq; done) | skip
  obtain ⟨t', u', he⟩ : ∃ t' u', a.eval x = .iface t' u' := by
   generalize a.eval x = u at hv
   cases hv with
   | pure _ _ hv => cases hv
   | ifc => exact ⟨_, _, rfl⟩
  rw [he] at key ⊢
  refine key (b := neg) ?_ ?_ (.of_bool _)
  ·cases neg <;> simp [eqGuard]
  ·cases neg <;> simp [binOp, Op.equal, Op.maxDepth, eqn_if1 hd]
 | lst full es =>
  cases k <;> simp only [isNil] at hav <;> first | (cases hav; done) | skip
  cases d <;> first | (cases hq; done) | skip
  cases c <;> first | (cases hq; done) | skip
  rename_i pp m' cp'
  cases pp <;> first | (cases hq; done) | skip
  obtain ⟨ad, cc, he, hc, hsrc⟩ := elems_rel R (a := .lst full es) rfl hv
  split at hav
  ·cases hav
   exact slc rfl rfl he (.anyb _)
  ·rename_i hne
   cases hav
   obtain ⟨blk, o, sz, _, had, _⟩ := hsrc hne
   refine slc rfl rfl he ?_
   rw [had]
   cases neg <;> exact .of_bool _
 | own b vv o m =>
  cases k <;> simp only [isNil] at hav <;> first | (cases hav; done) | skip
  cases d <;> first | (cases hq; done) | skip
  cases c <;> first | (cases hq; done) | skip
  rename_i pp m' cp'
  cases pp <;> first | (cases hq; done) | skip
  obtain ⟨bd, ad, cc, hbd, he, h2⟩ := hv.own_inv
  split at hav
  ·cases hav
   exact slc rfl rfl he (.anyb _)
  ·rename_i hne
   cases hav
   refine slc rfl rfl he ?_
   rcases h2 with ⟨_, h2⟩ | ⟨cb, _, had, _, _⟩
   ·exact absurd h2 hne
   ·rw [had]
    cases neg <;> exact .of_bool _
 | _ => simp [isNil] at hav
set_option maxHeartbeats 1600000 in
theorem exec_makes (R : Rel Z β h w) {Γ : Tab} {e : Env} {a : Act} {n : Nat} (E : EnvR Z β h w e a n) {o : Oper} {x : AOp} (ok : okOp P o.op x = true) {av : AV} {h' : AH} (hx : exec Γ e h x = some (av, h'))
  (hcall : ∀ f ys, x ≠ .call f ys ∧ x ≠ .callp f ys) (hcallv : ∀ y ys, x ≠ .callv y ys) (hcallr : ∀ y ys, x ≠ .callr y ys) (hcallq : ∀ y ys, x ≠ .callq y ys) (hcalla : ∀ y ys, x ≠ .calla y ys) (hcalls : ∀ y ys, x ≠ .calls y ys) (hcallra : ∀ y ys, x ≠ .callra y ys) (hstore : ∀ sz y z, x ≠ .store sz y z) (hstorer : ∀ sz y z, x ≠ .storer sz y z) (hnck : ∀ y, x ≠ .nck y) (hmv : ∀ y, x ≠ .mv y) (hmput : ∀ m k y, x ≠ .mput m k y) :
  ∃ s, execOp a.eval o = (do pure (.value (← s))) ∧ Makes P Z β h w s av h' := by
 obtain ⟨dst, op, type, pos, after, guard⟩ := o
 dsimp only at ok
 unfold okOp at ok
 split at ok
 case h_1 => simp only [exec] at hx; cases hx
 case h_2 op t x c yt k neg x' => -- isnil
  simp only [Bool.and_eq_true, decide_eq_true_eq] at ok
  obtain ⟨⟨rfl, h1⟩, h2⟩ := ok
  obtain ⟨d, hd, hq⟩ := isTy_inv h2
  have v1 := okO_rel E h1
  simp only [exec] at hx
  exact ⟨do eqGuard (if neg then .neq else .eql) t x (.const c) (a.eval x) (a.eval (.const c)); binOp (if neg then .neq else .eql) t (a.eval x) (a.eval (.const c)), rfl, Makes.keep hx fun av hav => isnil_rel R E hd hq hav v1⟩
 case h_3 => exact absurd rfl (hmv _)
 case h_4 => exact absurd rfl (hmv _)
 case h_5 c x y c' x' y' => -- pick
  simp only [Bool.and_eq_true] at ok
  obtain ⟨⟨h1, h2⟩, h3⟩ := ok
  simp only [exec] at hx
  have vc := okO_rel E h1
  split at hx
  ·rename_i t ht
   cases hx
   rw [ht] at vc
   refine ⟨do pure (if ← asBool (a.eval c) then a.eval x else a.eval y), by simp [execOp], Makes.of R (v := if t then a.eval x else a.eval y) ?_ ?_⟩
   ·rw [vc.bool_inv]; simp [asBool]
   ·cases t
    ·exact okO_rel E h3
    ·exact okO_rel E h2
  ·cases hx
 case h_6 t zero => -- alloc
  simp only [exec] at hx
  cases hx
  exact ⟨_, rfl, alloc_rel R ok⟩
 case h_7 t x y => -- box
  simp only [exec] at hx
  split at hx
  ·rename_i hok
   cases hx
   exact ⟨_, rfl, box_rel R t hok (okO_rel E ok)⟩
  ·cases hx
 case h_8 t ps zero qs => -- build
  simp only [exec, Option.bind_eq_some_iff] at hx
  obtain ⟨cs, hcs, hx⟩ := hx
  cases hx
  exact ⟨_, rfl, build_rel R E ok hcs⟩
 case h_9 t k ps sz zero m qs => -- bsl
  simp only [exec, Option.bind_eq_some_iff] at hx
  obtain ⟨es, hes, hx⟩ := hx
  cases hx
  exact ⟨_, rfl, bsl_rel R E ok (bpartsP_bparts h _ _ _ hes)⟩
 case h_10 t k ps sz zero m qs => -- bslh
  simp only [exec, Option.bind_eq_some_iff] at hx
  obtain ⟨⟨es, h1⟩, hes, hx⟩ := hx
  cases hx
  exact ⟨_, rfl, bsl_rel R E ok hes⟩
 case h_11 t k ps sz zero m qs => -- bslo
  simp only [exec, Option.bind_eq_some_iff] at hx
  obtain ⟨⟨es, h1⟩, hes, hx⟩ := hx
  cases hx
  exact ⟨_, rfl, bslo_rel R E ok hes⟩
 case h_12 t x sz agg y => -- load
  simp only [Bool.and_eq_true] at ok
  obtain ⟨⟨h1, h2⟩, h3⟩ := ok
  simp only [exec, Option.bind_eq_some_iff] at hx
  obtain ⟨cs, hcs, hx⟩ := hx
  exact ⟨_, rfl, Makes.keep hx fun av hav => load_rel R hcs hav (okO_rel E h3) h1 h2⟩
 case h_13 t x sz agg y q0 => -- loadx
  simp only [Bool.and_eq_true] at ok
  obtain ⟨⟨h1, h2⟩, h3⟩ := ok
  simp only [exec] at hx
  split at hx
  case isFalse => cases hx
  simp only [Option.bind_eq_some_iff] at hx
  obtain ⟨cs, hcs, hx⟩ := hx
  exact ⟨_, rfl, Makes.keep hx fun av hav => load_rel R hcs hav (okO_rel E h3) h1 h2⟩
 case h_14 => exact absurd rfl (hstore _ _ _)
 case h_15 => exact absurd rfl (hstorer _ _ _)
 case h_16 => exact absurd rfl (hnck _)
 case h_17 op t x y yt op' x' y' => -- bin
  simp only [Bool.and_eq_true, decide_eq_true_eq] at ok
  obtain ⟨⟨⟨rfl, _⟩, h2⟩, h3⟩ := ok
  simp only [exec] at hx
  refine ⟨do eqGuard op t x y (a.eval x) (a.eval y); binOp op t (a.eval x) (a.eval y), rfl, Makes.keep hx fun av hav => ?_⟩
  obtain ⟨m, g⟩ := bin_rel (P := P) R hav (okO_rel E h2) (okO_rel E h3) t
  obtain ⟨v, w', β', hr, k⟩ := m
  exact ⟨v, w', β', by simp only [Sem.run_bind, g, Result.andThen_ok, hr], k⟩
 case h_18 op t x y yt neg x' y' => -- beq
  simp only [Bool.and_eq_true, decide_eq_true_eq] at ok
  obtain ⟨⟨⟨rfl, h1⟩, h2⟩, h3⟩ := ok
  obtain ⟨d, hd, hq⟩ := isTy_inv h1
  have hd' : P.underlying t = some .bool := by cases d <;> first | exact hd | (cases hq; done)
  simp only [exec] at hx
  have v1 := okO_rel E h2
  have v2 := okO_rel E h3
  split at hx
  ·rename_i p q hp hq
   cases hx
   rw [hp] at v1
   rw [hq] at v2
   obtain ⟨m, g⟩ := beq_rel (P := P) R hd' neg v1 v2
   obtain ⟨v, w', β', hr, k⟩ := m
   refine ⟨do eqGuard (if neg then .neq else .eql) t x y (a.eval x) (a.eval y); binOp (if neg then .neq else .eql) t (a.eval x) (a.eval y), rfl, v, w', β', ?_, k⟩
   simp only [Sem.run_bind, g, Result.andThen_ok, hr]
  ·cases hx
 case h_19 op t x y yt neg ks x' y' => -- seq
  simp only [Bool.and_eq_true, decide_eq_true_eq] at ok
  obtain ⟨⟨⟨rfl, h1⟩, h2⟩, h3⟩ := ok
  simp only [exec] at hx
  have v1 := okO_rel E h2
  have v2 := okO_rel E h3
  split at hx
  ·rename_i p q hp hq
   simp only [Option.bind_eq_some_iff] at hx
   obtain ⟨r, hr, hx⟩ := hx
   split at hx
   ·rename_i hlen
    cases hx
    rw [hp] at v1
    rw [hq] at v2
    obtain ⟨m, g⟩ := seq_rel (P := P) R h1 neg hlen.1 hlen.2 hr v1 v2
    obtain ⟨v, w', β', hr, k⟩ := m
    refine ⟨do eqGuard (if neg then .neq else .eql) t x y (a.eval x) (a.eval y); binOp (if neg then .neq else .eql) t (a.eval x) (a.eval y), rfl, v, w', β', ?_, k⟩
    simp only [Sem.run_bind, g, Result.andThen_ok, hr]
   ·cases hx
  ·cases hx
 case h_20 op t x op' y => -- un
  simp only [Bool.and_eq_true, decide_eq_true_eq] at ok
  obtain ⟨rfl, h2⟩ := ok
  simp only [exec] at hx
  exact ⟨_, rfl, Makes.keep hx fun av hav => un_rel R hav (okO_rel E h2)⟩
 case h_21 s d x k y => -- conv
  simp only [Bool.and_eq_true] at ok
  obtain ⟨⟨h1, h2⟩, h3⟩ := ok
  obtain ⟨dd, hd, hq⟩ := isTy_inv h2
  have hd' : P.underlying d = some (.int k) := by
   cases dd <;> first | (cases hq; done) | skip
   simp at hq; subst hq; exact hd
  have v1 := okO_rel E h3
  simp only [exec] at hx
  split at hx
  ·rename_i kk i hi
   cases hx
   rw [hi] at v1
   exact ⟨_, rfl, conv_rel R h1 hd' v1⟩
  ·cases hx
 case h_22 s d x y => -- cstr
  simp only [Bool.and_eq_true] at ok
  obtain ⟨⟨h1, h2⟩, h3⟩ := ok
  obtain ⟨ds, hs, hq1⟩ := isTy_inv h1
  obtain ⟨dd, hd, hq2⟩ := isTy_inv h2
  have hs' : P.underlying s = some .string := by cases ds <;> first | exact hs | (cases hq1; done)
  have hd' : P.underlying d = some .string := by cases dd <;> first | exact hd | (cases hq2; done)
  have v1 := okO_rel E h3
  simp only [exec] at hx
  split at hx
  ·rename_i l hl
   cases hx
   rw [hl] at v1
   exact ⟨_, rfl, cstr_rel R hs' hd' v1⟩
  ·cases hx
 case h_23 s d x y => -- bts
  simp only [Bool.and_eq_true] at ok
  obtain ⟨⟨h1, h2⟩, h3⟩ := ok
  obtain ⟨ds, hs, hq1⟩ := isTy_inv h1
  obtain ⟨dd, hd, hq2⟩ := isTy_inv h2
  have hd' : P.underlying d = some .string := by cases dd <;> first | exact hd | (cases hq2; done)
  cases ds <;> first | (cases hq1; done) | skip
  rename_i ee
  obtain ⟨de, he, hq3⟩ := isTy_inv hq1
  have he' : P.underlying ee = some (.int .u8) := by
   cases de <;> first | (cases hq3; done) | skip
   simp at hq3; subst hq3; exact he
  simp only [exec, Option.bind_eq_some_iff] at hx
  obtain ⟨es, hes, l, hl, hx⟩ := hx
  cases hx
  exact ⟨_, rfl, bts_rel R hs he' hd' hes hl (okO_rel E h3)⟩
 case h_24 t x t' y => -- mki
  simp only [Bool.and_eq_true, decide_eq_true_eq] at ok
  obtain ⟨⟨rfl, h1⟩, h2⟩ := ok
  simp only [exec] at hx
  cases hx
  exact ⟨_, rfl, Makes.of R (run_makeInterface w t _ h1) (.ifc t _ _ (okO_rel E h2))⟩
 case h_25 f fi ca f' fi' ca' => -- mkf
  simp only [Bool.and_eq_true, decide_eq_true_eq] at ok
  obtain ⟨⟨rfl, h1⟩, h2⟩ := ok
  simp only [exec] at hx
  cases hx
  obtain ⟨p1, p2⟩ := getAll_rel E h1
  obtain ⟨q1, q2⟩ := getAll_rel E h2
  refine ⟨_, rfl, Makes.of R (v := .func f (fi.map a.eval) (ca.map a.eval)) (by simp [Instr.makeFunc]) ?_⟩
  have := VR.fn (β := β) (O := Own Z β h) (w := w) f (getAll e fi') (getAll e ca') (fi.toList.map a.eval) (ca.toList.map a.eval) p1 q1 p2 q2
  rwa [show (fi.toList.map a.eval).toArray = fi.map a.eval from Array.ext' (by simp), show (ca.toList.map a.eval).toArray = ca.map a.eval from Array.ext' (by simp)] at this
 case h_26 t l c sz bytes zero l' c' => -- mks
  simp only [Bool.and_eq_true] at ok
  obtain ⟨⟨h1, h2⟩, h3⟩ := ok
  simp only [exec] at hx
  split at hx
  ·rename_i nn mm hn hm
   split at hx
   ·rename_i hc
    cases hx
    exact ⟨_, rfl, mks_rel R h1 hn hm hc.1 hc.2.1 hc.2.2 (okO_rel E h2) (okO_rel E h3)⟩
   ·cases hx
  ·cases hx
 case h_27 t x lo hi mx y lo' hi' => -- sls
  simp only [Bool.and_eq_true, Option.isNone_iff_eq_none] at ok
  obtain ⟨⟨⟨⟨h1, rfl⟩, h2⟩, h3⟩, h4⟩ := ok
  obtain ⟨d, hd, hq⟩ := isTy_inv h1
  have hd' : P.underlying t = some .string := by cases d <;> first | exact hd | (cases hq; done)
  have v1 := okO_rel E h2
  simp only [exec] at hx
  split at hx
  ·rename_i l hl
   rw [hl] at v1
   simp only [Option.bind_eq_some_iff] at hx
   obtain ⟨b, hb, c, hc, hx⟩ := hx
   split at hx
   ·rename_i hle
    cases hx
    exact ⟨_, rfl, sls_rel R E hd' h3 h4 hc hb hle.1 hle.2 v1⟩
   ·cases hx
  ·cases hx
 case h_28 t x lo hi mx sz y lo' hi' mx' => -- sll
  simp only [Bool.and_eq_true, decide_eq_true_eq] at ok
  obtain ⟨⟨⟨⟨⟨h0, h1⟩, h2⟩, h3⟩, h4⟩, h5⟩ := ok
  obtain ⟨d, hd, hq⟩ := isTy_inv h1
  cases d <;> first | (cases hq; done) | skip
  rename_i elem
  have v1 := okO_rel E h2
  have hsome : mx'.isSome = true → ∃ p q, mx = some p ∧ mx' = some q := by
   intro hs
   cases mx' with
   | none => cases hs
   | some q => cases mx with
    | none => simp [okOpt] at h5
    | some p => exact ⟨p, q, rfl, rfl⟩
  have hisS : hi'.isSome = true → hi.isSome = true := by
   intro hs
   cases hi' with
   | none => cases hs
   | some q => cases hi with
    | none => simp [okOpt] at h4
    | some p => rfl
  simp only [exec] at hx
  split at hx
  ·rename_i full es hl
   rw [hl] at v1
   obtain ⟨ad, c, he, hc, _⟩ := elems_rel R (a := .lst full es) rfl v1
   rw [he] at v1
   simp only [Option.bind_eq_some_iff] at hx
   obtain ⟨yy, hyy, xx, hxx, hx⟩ := hx
   split at hx
   ·split at hx
    ·rename_i hle
     obtain ⟨hszk, l1, l2⟩ := hle
     cases hx
     have hm : optNat c e (none : Option AO) = some c := rfl
     have hrun := sll_rel (P := P) (w := w) E hd hq h3 h4 h5 (fun hs => by cases mx <;> simp_all [okOpt]) (len := es.length) (cap := c) (ad := ad) hxx hyy hm l1 (by omega) (Nat.le_refl _)
     refine ⟨Instr.sliceAt t (a.eval x) (lo.map a.eval) (hi.map a.eval) (mx.map a.eval), rfl, Makes.of R (v := _) (by rw [he]; exact hrun) (.pure _ _ (lst_cut v1.lst_inv hszk h0 l1 (by omega) l2 ?_))⟩
     intro hf
     simp only [Bool.and_eq_true, decide_eq_true_eq] at hf
     obtain ⟨hf1, hf2⟩ := hf
     subst hf1
     generalize hce : es.length = ce at v1
     cases v1.lst_inv with
     | lst _ _ _ _ _ _ _ _ hff => have := hff rfl; omega
    ·cases hx
   ·rename_i q hq'
    simp only [Option.bind_eq_some_iff] at hx
    obtain ⟨mm, hmm, hx⟩ := hx
    split at hx
    ·rename_i hle
     obtain ⟨hszk, l0, l1, l2, l3⟩ := hle
     cases hx
     have hrun := sll_rel (P := P) (w := w) E hd hq h3 h4 h5 (fun _ => hisS l0) (len := es.length) (cap := c) (ad := ad) (m := mm) hxx hyy hmm l1 l2 (by omega)
     refine ⟨Instr.sliceAt t (a.eval x) (lo.map a.eval) (hi.map a.eval) (mx.map a.eval), rfl, Makes.of R (v := _) (by rw [he]; exact hrun) (.pure _ _ (lst_cut v1.lst_inv hszk h0 l1 l2 (by omega) ?_))⟩
     intro hf
     simp only [decide_eq_true_eq] at hf
     exact hf.symm
    ·cases hx
  ·rename_i r vv oo nn hl
   rw [hl] at v1
   obtain ⟨bd, ad, c, hbd, he, h6⟩ := v1.own_inv
   have cut : ∀ xx yy mm, rowSz h r vv = some sz → xx ≤ yy → yy ≤ mm → mm ≤ c → yy ≤ nn → VR β (Own Z β h) w (.own r vv (oo + xx) (yy - xx)) (.slice (if mm = xx then ad else ad.map (·.add (xx * sz))) (yy - xx) (mm - xx)) := by
    intro xx yy mm hr l1 l2 l3 l4
    obtain ⟨s1, s2⟩ := rowSz_inv R hr hbd
    refine .own r vv (oo + xx) (yy - xx) bd _ (mm - xx) hbd ?_
    by_cases hmx : mm = xx
    ·exact .inl ⟨by omega, by omega⟩
    ·rcases h6 with ⟨h6, h6'⟩ | ⟨cb, g1, g2, g3, g4⟩
     ·exact .inl ⟨by omega, by omega⟩
     ·refine .inr ⟨cb, g1, ?_, by omega, ?_⟩
      ·rw [if_neg hmx, g2]
       simp only [Option.map_some, addr_add, s1, Nat.add_mul]
       rw [Nat.add_assoc]
      ·have e1 : oo + xx + (mm - xx) ≤ oo + c := by omega
       have := Nat.mul_le_mul_right bd.sz e1
       omega
   have hnc : nn ≤ c := by rcases h6 with ⟨_, h6⟩ | ⟨_, _, _, h6, _⟩ <;> omega
   simp only [Option.bind_eq_some_iff] at hx
   obtain ⟨yy, hyy, xx, hxx, hx⟩ := hx
   split at hx
   ·split at hx
    ·rename_i hle
     obtain ⟨hr, l1, l2⟩ := hle
     cases hx
     have hm : optNat c e (none : Option AO) = some c := rfl
     have hrun := sll_rel (P := P) (w := w) E hd hq h3 h4 h5 (fun hs => by cases mx <;> simp_all [okOpt]) (len := nn) (cap := c) (ad := ad) hxx hyy hm l1 (by omega) (Nat.le_refl _)
     exact ⟨Instr.sliceAt t (a.eval x) (lo.map a.eval) (hi.map a.eval) (mx.map a.eval), rfl, Makes.of R (v := _) (by rw [he]; exact hrun) (cut xx yy c hr l1 (by omega) (Nat.le_refl _) l2)⟩
    ·cases hx
   ·rename_i q hq'
    simp only [Option.bind_eq_some_iff] at hx
    obtain ⟨mm, hmm, hx⟩ := hx
    split at hx
    ·rename_i hle
     obtain ⟨hr, l0, l1, l2, l3⟩ := hle
     cases hx
     have hrun := sll_rel (P := P) (w := w) E hd hq h3 h4 h5 (fun _ => hisS l0) (len := nn) (cap := c) (ad := ad) (m := mm) hxx hyy hmm l1 l2 (by omega)
     exact ⟨Instr.sliceAt t (a.eval x) (lo.map a.eval) (hi.map a.eval) (mx.map a.eval), rfl, Makes.of R (v := _) (by rw [he]; exact hrun) (cut xx yy mm hr l1 l2 (by omega) (by omega))⟩
    ·cases hx
  ·cases hx
 case h_29 t x k off y => -- fad
  simp only [Bool.and_eq_true] at ok
  obtain ⟨h1, h2⟩ := ok
  obtain ⟨d, hd, hq⟩ := isTy_inv h1
  cases d <;> first | (cases hq; done) | skip
  rename_i fs
  dsimp only at hq
  split at hq
  ·rename_i f hf
   simp only [Bool.and_eq_true, decide_eq_true_eq] at hq
   obtain ⟨hoff, hsz⟩ := hq
   have hsz' : ∃ i, P.info? f.type = some i ∧ i.size ≠ 0 := by
    split at hsz
    ·rename_i i hi; exact ⟨i, hi, by simpa using hsz⟩
    ·cases hsz
   have v1 := okO_rel E h2
   simp only [exec] at hx
   split at hx
   ·rename_i b vv i oo hl
    cases hx
    rw [hl] at v1
    obtain ⟨bd, c, hb, hc, he⟩ := v1.ptr_inv
    refine ⟨_, rfl, Makes.of R (v := .pointer (some ⟨c, bd.base + i * bd.sz + oo + off, none⟩)) (by rw [he]; exact fad_ptr hd hf hoff hsz' c _ w) ?_⟩
    have := VR.ptr (β := β) (O := Own Z β h) (w := w) b vv i (oo + off) bd c hb hc
    rwa [← Nat.add_assoc] at this
   ·rename_i cs hl
    split at hx
    ·rename_i hle
     cases hx
     rw [hl] at v1
     generalize hv1 : a.eval x = u at v1
     cases v1 with
     | pure _ _ hv => cases hv
     | rptr _ blk oo f' hO hw q1 q3 q2 =>
      refine ⟨Instr.fieldAt t (a.eval x) k, rfl, Makes.of R (v := .pointer (some ⟨blk, oo + off, none⟩)) (by rw [hv1]; exact fad_ptr hd hf hoff hsz' blk _ w) ?_⟩
      refine .rptr _ blk (oo + off) (fun j => f' (off + j)) hO hw (fun j y hy => ?_) (fun j y hy => ?_) (fun j y hy => ?_)
      ·rw [List.getElem?_drop] at hy; rw [Nat.add_assoc]; exact q1 _ y hy
      ·rw [List.getElem?_drop] at hy; exact q3 _ y hy
      ·rw [List.getElem?_drop] at hy; exact q2 _ y hy
    ·cases hx
   ·cases hx
  ·cases hq
 case h_30 t x k off sz agg y => -- fld
  simp only [Bool.and_eq_true] at ok
  obtain ⟨h1, h2⟩ := ok
  obtain ⟨d, hd, hq⟩ := isTy_inv h1
  cases d <;> first | (cases hq; done) | skip
  rename_i fs
  dsimp only at hq
  split at hq
  ·rename_i f hf
   simp only [Bool.and_eq_true, decide_eq_true_eq] at hq
   obtain ⟨⟨hoff, hsz⟩, hag⟩ := hq
   have v1 := okO_rel E h2
   simp only [exec] at hx
   split at hx
   ·rename_i cs hl
    split at hx
    ·rw [hl] at v1
     obtain ⟨vs, he, hl', q1, q2⟩ := v1.agg_inv
     refine ⟨Instr.field t (a.eval x) k, rfl, Makes.keep hx fun av hav => ?_⟩
     obtain ⟨v, hr, hv⟩ := shape_part (P := P) hav hsz hag hl' q1 q2
     refine Makes.of R (v := v) ?_ hv
     rw [he]
     simp only [Instr.field, Sem.run_bind, run_underlying hd, Result.andThen_ok, hf, asAgg, Sem.run_pure, hoff, hr]
    ·cases hx
   ·cases hx
  ·cases hq
 case h_31 t x i sz y j => -- iad
  simp only [Bool.and_eq_true] at ok
  obtain ⟨⟨h1, h2⟩, h3⟩ := ok
  obtain ⟨d, hd, hq⟩ := isTy_inv h1
  cases d <;> first | (cases hq; done) | skip
  rename_i elem
  dsimp only at hq
  have v1 := okO_rel E h2
  have v2 := okO_rel E h3
  simp only [exec] at hx
  have run : ∀ (ad : Addr) (len c : Nat) (kk : IntKind) (ii : Int), 0 ≤ ii → ii < len → (Instr.indexAt t (.slice (some ad) len c) (.int kk ii)).run P w = .ok (.pointer (some (ad.add (ii.toNat * sz)))) w := by
   intro ad len c kk ii l1 l2
   simp only [Instr.indexAt, asIntOf, Sem.run_bind, Sem.run_pure, Result.andThen_ok, run_underlying hd]
   rw [if_pos ⟨l1, l2⟩]
   simp [run_sizeOf' hq]
  split at hx
  ·rename_i full es hl
   simp only [Option.bind_eq_some_iff] at hx
   obtain ⟨nn, hn, yy, hyy, hx⟩ := hx
   split at hx
   ·rename_i hlen
    cases hx
    rw [hl] at v1
    obtain ⟨kk, ii, he2, l1, l2⟩ := nat?_inv hn v2
    have hlt := (List.getElem?_eq_some_iff.1 hyy).1
    generalize hv1 : a.eval x = u at v1
    cases v1.lst_inv with
    | lst _ _ ad c blk oo sz' f hf hc ha hs q1 q3 q2 =>
     have hne : es ≠ [] := by rintro rfl; simp at hyy
     obtain ⟨rfl, hO, hb⟩ := ha hne
     have hszz : sz' = sz := by have := (hs nn yy hyy).1; omega
     subst hszz
     refine ⟨Instr.indexAt t (a.eval x) (a.eval i), rfl, Makes.of R (v := .pointer (some ⟨blk, oo + nn * sz', none⟩)) ?_ ?_⟩
     ·rw [hv1, he2, run ⟨blk, oo, none⟩ es.length c kk ii l1 (by omega), addr_add, l2]
     ·exact .rptr _ blk (oo + nn * sz') (f nn) hO hb (fun j y hy => q1 nn yy hyy j y hy) (fun j y hy => q3 nn yy hyy j y hy) (fun j y hy => q2 nn yy hyy j y hy)
   ·cases hx
  ·rename_i b vv oo m hl
   simp only [Option.bind_eq_some_iff] at hx
   obtain ⟨nn, hn, hx⟩ := hx
   split at hx
   ·rename_i hc
    obtain ⟨hlt, hr⟩ := hc
    cases hx
    rw [hl] at v1
    obtain ⟨kk, ii, he2, l1, l2⟩ := nat?_inv hn v2
    obtain ⟨bd, ad, c, hbd, he, h6⟩ := v1.own_inv
    obtain ⟨s1, s2⟩ := rowSz_inv R hr hbd
    rcases h6 with ⟨_, h6⟩ | ⟨cb, g1, g2, g3, g4⟩
    ·omega
    ·subst g2
     refine ⟨Instr.indexAt t (a.eval x) (a.eval i), rfl, Makes.of R (v := .pointer (some ⟨cb, bd.base + (oo + nn) * bd.sz + 0, none⟩)) ?_ (.ptr b vv (oo + nn) 0 bd cb hbd g1)⟩
     rw [he, he2, run _ m c kk ii l1 (by omega), addr_add, l2, s1, Nat.add_mul]
     congr 4; omega
   ·cases hx
  ·cases hx
 case h_32 t x i m sz y j => -- iada
  simp only [Bool.and_eq_true] at ok
  obtain ⟨⟨h1, h2⟩, h3⟩ := ok
  obtain ⟨d, hd, hq⟩ := isTy_inv h1
  cases d <;> first | (cases hq; done) | skip
  rename_i len elem
  simp only [Bool.and_eq_true, decide_eq_true_eq] at hq
  obtain ⟨rfl, hq⟩ := hq
  have v1 := okO_rel E h2
  have v2 := okO_rel E h3
  have run : ∀ (ad : Addr) (kk : IntKind) (ii : Int), 0 ≤ ii → ii < len → (Instr.indexAt t (.pointer (some ad)) (.int kk ii)).run P w = .ok (.pointer (some (ad.add (ii.toNat * sz)))) w := by
   intro ad kk ii l1 l2
   simp only [Instr.indexAt, asIntOf, Sem.run_bind, Sem.run_pure, Result.andThen_ok, run_underlying hd, Instr.sureAddr]
   rw [if_pos ⟨l1, l2⟩]
   simp [run_sizeOf' hq]
  simp only [exec, Option.bind_eq_some_iff] at hx
  obtain ⟨nn, hn, hx⟩ := hx
  obtain ⟨kk, ii, he2, l1, l2⟩ := nat?_inv hn v2
  split at hx
  ·rename_i hlt
   split at hx
   ·rename_i b vv jj oo hl
    cases hx
    rw [hl] at v1
    obtain ⟨bd, c, hb, hc, he⟩ := v1.ptr_inv
    refine ⟨_, rfl, Makes.of R (v := .pointer (some ⟨c, bd.base + jj * bd.sz + (oo + nn * sz), none⟩)) ?_ (.ptr b vv jj (oo + nn * sz) bd c hb hc)⟩
    rw [he, he2, run _ kk ii l1 (by omega), addr_add, l2, Nat.add_assoc]
   ·rename_i cs hl
    split at hx
    ·rename_i hle
     cases hx
     rw [hl] at v1
     generalize hv1 : a.eval x = u at v1
     cases v1 with
     | pure _ _ hv => cases hv
     | rptr _ blk oo f' hO hw q1 q3 q2 =>
      refine ⟨Instr.indexAt t (a.eval x) (a.eval i), rfl, Makes.of R (v := .pointer (some ⟨blk, oo + nn * sz, none⟩)) (by rw [hv1, he2, run _ kk ii l1 (by omega), addr_add, l2]) ?_⟩
      refine .rptr _ blk (oo + nn * sz) (fun j => f' (nn * sz + j)) hO hw (fun j y hy => ?_) (fun j y hy => ?_) (fun j y hy => ?_)
      ·rw [List.getElem?_drop] at hy; rw [Nat.add_assoc]; exact q1 _ y hy
      ·rw [List.getElem?_drop] at hy; exact q3 _ y hy
      ·rw [List.getElem?_drop] at hy; exact q2 _ y hy
    ·cases hx
   ·cases hx
  ·cases hx
 case h_33 t x i y j => -- idxs
  simp only [Bool.and_eq_true] at ok
  obtain ⟨⟨h1, h2⟩, h3⟩ := ok
  obtain ⟨d, hd, hq⟩ := isTy_inv h1
  have hd' : P.underlying t = some .string := by cases d <;> first | exact hd | (cases hq; done)
  have v1 := okO_rel E h2
  have v2 := okO_rel E h3
  simp only [exec] at hx
  split at hx
  ·rename_i l hl
   simp only [Option.bind_eq_some_iff] at hx
   obtain ⟨nn, hn, c, hc, hx⟩ := hx
   cases hx
   rw [hl] at v1
   obtain ⟨kk, ii, he2, l1, l2⟩ := nat?_inv hn v2
   obtain ⟨b, he, hb⟩ := v1.str_inv
   refine ⟨_, rfl, Makes.of R (v := .int .u8 c.toNat) ?_ (.of_int _ _)⟩
   have hbc : b[ii.toNat]? = some c := by
    rw [l2]
    have hlt : nn < b.data.toList.length := by rw [hb]; exact (List.getElem?_eq_some_iff.1 hc).1
    have hlt' : nn < b.size := by simpa using hlt
    rw [getElem?_pos b nn hlt']
    rw [← hb] at hc
    have e1 : b.data.toList[nn]? = some b.data.toList[nn] := List.getElem?_eq_getElem hlt
    rw [e1] at hc
    exact hc
   rw [he, he2]
   simp only [Instr.index, asIntOf, Sem.run_bind, Sem.run_pure, Result.andThen_ok, run_underlying hd', l1, if_true, hbc]
  ·cases hx
 case h_34 t x i m sz agg y j => -- idxa
  simp only [Bool.and_eq_true] at ok
  obtain ⟨⟨h1, h2⟩, h3⟩ := ok
  obtain ⟨d, hd, hq⟩ := isTy_inv h1
  cases d <;> first | (cases hq; done) | skip
  rename_i len elem
  simp only [Bool.and_eq_true, decide_eq_true_eq] at hq
  obtain ⟨⟨rfl, hsz⟩, hag⟩ := hq
  have v1 := okO_rel E h2
  have v2 := okO_rel E h3
  simp only [exec] at hx
  split at hx
  ·rename_i cs hl
   simp only [Option.bind_eq_some_iff] at hx
   obtain ⟨nn, hn, hx⟩ := hx
   obtain ⟨kk, ii, he2, l1, l2⟩ := nat?_inv hn v2
   split at hx
   ·rename_i hlt
    rw [hl] at v1
    obtain ⟨vs, he, hl', q1, q2⟩ := v1.agg_inv
    refine ⟨Instr.index t (a.eval x) (a.eval i), rfl, Makes.keep hx fun av hav => ?_⟩
    obtain ⟨v, hr, hv⟩ := shape_part (P := P) hav hsz hag hl' q1 q2
    refine Makes.of R (v := v) ?_ hv
    rw [he, he2]
    simp only [Instr.index, asIntOf, Sem.run_bind, Sem.run_pure, Result.andThen_ok, run_underlying hd]
    rw [if_pos ⟨l1, by omega⟩]
    simp only [Sem.run_bind, run_sizeOf' hsz, Result.andThen_ok, l2, hr]
   ·cases hx
  ·cases hx
 case h_35 x i y j => -- ext
  simp only [Bool.and_eq_true, decide_eq_true_eq] at ok
  obtain ⟨rfl, h2⟩ := ok
  have v1 := okO_rel E h2
  simp only [exec] at hx
  split at hx
  ·rename_i vs hl
   simp only [Option.bind_eq_some_iff] at hx
   obtain ⟨v, hv, hx⟩ := hx
   cases hx
   rw [hl] at v1
   obtain ⟨us, he, hl', q⟩ := v1.tup_inv
   have hlt : i < us.length := by rw [← hl']; exact (List.getElem?_eq_some_iff.1 hv).1
   refine ⟨_, rfl, Makes.of R (v := us[i]) ?_ (q i av us[i] hv (by simp [hlt]))⟩
   rw [he]
   simp [Instr.extract, hlt]
  ·cases hx
 case h_36 => exact absurd rfl (hcall _ _).1
 case h_37 => exact absurd rfl (hcall _ _).2
 case h_38 => exact absurd rfl (hcallv _ _)
 case h_39 b args argTypes sz bytes y1 y2 => -- app
  simp only [Bool.and_eq_true, decide_eq_true_eq] at ok
  obtain ⟨rfl, ok⟩ := ok
  split at ok
  ·rename_i x1 x2 t u hargs hats
   simp only [Bool.and_eq_true, decide_eq_true_eq] at ok
   obtain ⟨⟨⟨⟨h1, h2⟩, h0⟩, h3⟩, h4⟩ := ok
   obtain rfl : args = #[x1, x2] := by apply Array.ext'; simpa using hargs
   obtain rfl : argTypes = #[t, u] := by apply Array.ext'; simpa using hats
   obtain ⟨d, hd, hq⟩ := isTy_inv h3
   cases d <;> first | (cases hq; done) | skip
   rename_i elem
   simp only [Bool.and_eq_true] at hq
   obtain ⟨⟨hsz, hby⟩, hz⟩ := hq
   obtain ⟨i, z, hi, hz', hzs⟩ := okZero_inv hz
   obtain ⟨d2, hd2, hq2⟩ := isTy_inv h4
   have hnot := (notInt_or d2).resolve_right (fun hh => Bool.noConfusion (hq2.symm.trans hh.1))
   have hs' : i.size = sz := by simpa [sizeIs, hi] using hsz
   have hb' : i.bytes = bytes := by simpa [bytesIs, hi] using hby
   simp only [exec, Option.bind_eq_some_iff] at hx
   obtain ⟨news, hnews, hx⟩ := hx
   have v2 := okO_rel E h2
   obtain ⟨ad, c, he, hc, hsrc⟩ := elems_rel R hnews v2
   have hszk : szOk sz news = true := append_szOk hx
   obtain ⟨olds, o1, o2, o3, o4⟩ := run_first (P := P) (O := Own Z β h) (w := w) (ad := ad) (c := c) (sz := sz) (es := news) rfl (fun hne => by
    obtain ⟨blk, oo, sz2, _, e1, e2⟩ := hsrc hne
    exact ⟨blk, oo, e1, e2.szOk hszk⟩)
   refine ⟨Builtin.append_ #[t, u] type #[a.eval x1, a.eval x2], by simp [execOp, resolve, invoke, builtin], ?_⟩
   refine append_rel R hd hi hz' hzs hs' hb' h0 rfl hx (okO_rel E h1) (news := olds) (.inl ⟨u, d2, rfl, hd2, hnot, ?_, ?_⟩) (.inl ⟨u, d2, rfl, hd2, hnot⟩) o1 o3 o2
   ·rw [he]; rfl
   ·intro w' hw'; rw [he]; exact o4 w' hw'
  ·cases ok
 case h_40 b args argTypes sz bytes zero y1 y2 => -- appz
  simp only [Bool.and_eq_true, decide_eq_true_eq] at ok
  obtain ⟨rfl, ok⟩ := ok
  split at ok
  ·rename_i x1 x2 t u hargs hats
   simp only [Bool.and_eq_true, decide_eq_true_eq] at ok
   obtain ⟨⟨⟨⟨h1, h2⟩, h0⟩, h3⟩, h4⟩ := ok
   obtain rfl : args = #[x1, x2] := by apply Array.ext'; simpa using hargs
   obtain rfl : argTypes = #[t, u] := by apply Array.ext'; simpa using hats
   obtain ⟨d, hd, hq⟩ := isTy_inv h3
   cases d <;> first | (cases hq; done) | skip
   rename_i elem
   simp only [Bool.and_eq_true] at hq
   obtain ⟨⟨⟨hsz, hby⟩, hz⟩, hzv⟩ := hq
   obtain ⟨i, z, hi, hz', hzs⟩ := okZero_inv hz
   obtain ⟨i2, z2, hi2, hz2, hev⟩ := zeroV_inv hzv
   rw [hi] at hi2; cases hi2
   rw [hz'] at hz2; cases hz2
   obtain ⟨d2, hd2, hq2⟩ := isTy_inv h4
   have hint : ∃ k, d2 = .int k := by cases d2 <;> first | exact ⟨_, rfl⟩ | (cases hq2; done)
   obtain ⟨k2, rfl⟩ := hint
   have hs' : i.size = sz := by simpa [sizeIs, hi] using hsz
   have hb' : i.bytes = bytes := by simpa [bytesIs, hi] using hby
   simp only [exec, Option.bind_eq_some_iff] at hx
   obtain ⟨nn, hnn, hx⟩ := hx
   have v2 := okO_rel E h2
   obtain ⟨kk, ii, he, l1, l2⟩ := nat?_inv hnn v2
   have hle := append_le hx
   obtain ⟨z1, z2, z3⟩ := src_zeros (O := Own Z β h) (w := w) hev nn
   refine ⟨Builtin.append_ #[t, u] type #[a.eval x1, a.eval x2], by simp [execOp, resolve, invoke, builtin], ?_⟩
   refine append_rel R hd hi hz' hzs hs' hb' h0 rfl hx (okO_rel E h1) (news := (Builtin.zeroCells z.cells nn).toList) (.inr ⟨u, k2, kk, ii, rfl, hd2, he, l1, by simpa using l2, ?_⟩) (.inr (by simp)) ?_ ?_ (fun q hq => List.all_eq_true.1 z3 q hq)
   ·simp at hle; omega
   ·simp [size_zeroCells, hzs, hs']
   ·rw [hzs, hs'] at z1
    exact z1.congr fun k _ => by simp
  ·cases ok
 case h_41 b args argTypes bytes y1 y2 => -- apps
  simp only [Bool.and_eq_true, decide_eq_true_eq] at ok
  obtain ⟨rfl, ok⟩ := ok
  split at ok
  ·rename_i x1 x2 t u hargs hats
   simp only [Bool.and_eq_true] at ok
   obtain ⟨⟨⟨h1, h2⟩, h3⟩, h4⟩ := ok
   obtain rfl : args = #[x1, x2] := by apply Array.ext'; simpa using hargs
   obtain rfl : argTypes = #[t, u] := by apply Array.ext'; simpa using hats
   obtain ⟨d, hd, hq⟩ := isTy_inv h3
   cases d <;> first | (cases hq; done) | skip
   rename_i elem
   simp only [Bool.and_eq_true] at hq
   obtain ⟨⟨hsz, hby⟩, hz⟩ := hq
   obtain ⟨i, z, hi, hz', hzs⟩ := okZero_inv hz
   obtain ⟨d2, hd2, hq2⟩ := isTy_inv h4
   have hnot := (notInt_or d2).resolve_right (fun hh => Bool.noConfusion (hq2.symm.trans hh.2))
   have hs' : i.size = 1 := by simpa [sizeIs, hi] using hsz
   have hb' : i.bytes = bytes := by simpa [bytesIs, hi] using hby
   have v2 := okO_rel E h2
   simp only [exec] at hx
   split at hx
   ·rename_i l hl
    rw [hl] at v2
    obtain ⟨bb, he, hbb⟩ := v2.str_inv
    have hbs : bb.size = l.length := by rw [← hbb]; rfl
    refine ⟨Builtin.append_ #[t, u] type #[a.eval x1, a.eval x2], by simp [execOp, resolve, invoke, builtin], ?_⟩
    refine append_rel R hd hi hz' hzs hs' hb' (by omega) rfl hx (okO_rel E h1) (news := l.map fun c => Value.int .u8 c.toNat) (.inl ⟨u, d2, rfl, hd2, hnot, ?_, ?_⟩) (.inl ⟨u, d2, rfl, hd2, hnot⟩) (by simp) ?_ (by simp [Value.oneCell'])
    ·rw [he]; simp [Builtin.lenOf, hbs]
    ·intro w' _
     rw [he]
     simp only [Builtin.firstCells, Sem.run_pure, List.length_map]
     rw [bytes_cells bb l hbb]
    ·intro q x hx
     simp at hx
     obtain ⟨cc, hcc, rfl⟩ := hx
     refine ⟨rfl, fun j y hy => ?_⟩
     cases j with
     | zero =>
      simp [AV.cells] at hy
      subst hy
      exact ⟨.int .u8 cc.toNat, by simp [hcc], rfl, .int _ _⟩
     | succ j => simp [AV.cells] at hy
   ·cases hx
  ·cases ok
 case h_42 b args argTypes sz y1 y2 => -- copy
  simp only [Bool.and_eq_true, decide_eq_true_eq] at ok
  obtain ⟨rfl, ok⟩ := ok
  split at ok
  ·rename_i x1 x2 t l hargs hats
   simp only [Bool.and_eq_true] at ok
   obtain ⟨⟨h1, h2⟩, h3⟩ := ok
   obtain rfl : args = #[x1, x2] := by apply Array.ext'; simpa using hargs
   have hat : argTypes[0]? = some t := by rw [← Array.getElem?_toList, hats]; rfl
   obtain ⟨d, hd, hq⟩ := isTy_inv h3
   cases d <;> first | (cases hq; done) | skip
   rename_i elem
   have v1 := okO_rel E h1
   have v2 := okO_rel E h2
   simp only [exec, Option.bind_eq_some_iff] at hx
   obtain ⟨src, hsrc, hx⟩ := hx
   refine ⟨Builtin.copy_ argTypes type #[a.eval x1, a.eval x2], by simp [execOp, resolve, invoke, builtin], ?_⟩
   split at hx
   ·rename_i b vv oo nn hl
    split at hx
    ·rename_i v' sz' es hes
     split at hx
     ·rename_i hc
      obtain ⟨c1, c0, c2, c3⟩ := hc
      cases hx
      rw [hl] at v1
      have hcp := copy_rel (ty := type) R hat hd hq hsrc v2 v1 hes c1 c0 c2 c3
      rwa [show ((min src.length nn : Nat) : Int) = min (src.length : Int) nn from by omega] at hcp
     ·cases hx
    ·cases hx
   ·rename_i full es hl
    split at hx
    ·rename_i hes
     subst hes
     cases hx
     rw [hl] at v1
     exact copy_rel0 R hat hd hq hsrc v2 v1
    ·cases hx
   ·cases hx
  ·cases ok
 case h_43 b args argTypes str y => -- len
  simp only [Bool.and_eq_true, decide_eq_true_eq] at ok
  obtain ⟨rfl, ok⟩ := ok
  split at ok
  ·rename_i x t hargs hats
   simp only [Bool.and_eq_true] at ok
   obtain ⟨h1, h3⟩ := ok
   obtain rfl : args = #[x] := by apply Array.ext'; simpa using hargs
   obtain rfl : argTypes = #[t] := by apply Array.ext'; simpa using hats
   obtain ⟨d, hd, hq⟩ := isTy_inv h3
   have v1 := okO_rel E h1
   simp only [exec, Option.bind_eq_some_iff] at hx
   obtain ⟨nn, hnn, hx⟩ := hx
   cases hx
   refine ⟨Builtin.len_ #[t] type #[a.eval x], by simp [execOp, resolve, invoke, builtin], Makes.of R (v := goInt nn) ?_ (.of_int _ _)⟩
   have hval : (∃ b : ByteArray, a.eval x = .string b ∧ b.size = nn ∧ str = true) ∨ (str = false ∧ ∃ ad c, a.eval x = .slice ad nn c) := by
    generalize hg : y.get e = av at v1 hnn
    cases av with
    | str s =>
     simp only [slen] at hnn
     split at hnn
     ·rename_i hstr; cases hnn
      obtain ⟨b, he, hb⟩ := v1.str_inv
      exact .inl ⟨b, he, by rw [← hb]; rfl, hstr⟩
     ·cases hnn
    | lst f es =>
     simp only [slen] at hnn
     split at hnn
     ·cases hnn
     ·rename_i hstr; cases hnn
      obtain ⟨ad, c, he, _⟩ := elems_rel R (a := .lst f es) rfl v1
      exact .inr ⟨by simpa using hstr, ad, c, he⟩
    | own b vv oo m =>
     simp only [slen] at hnn
     split at hnn
     ·cases hnn
     ·rename_i hstr; cases hnn
      obtain ⟨bd, ad, c, _, he, _⟩ := v1.own_inv
      exact .inr ⟨by simpa using hstr, ad, c, he⟩
    | _ => simp [slen] at hnn
   rcases hval with ⟨b, he, hb, rfl⟩ | ⟨rfl, ad, c, he⟩
   ·have hd' : P.underlying t = some .string := by cases d <;> first | exact hd | (cases hq; done)
    simp [Builtin.len_, run_underlying hd', he, Builtin.lenOf, hb]
   ·cases d <;> first | (cases hq; done) | skip
    simp [Builtin.len_, run_underlying hd, he, Builtin.lenOf]
  ·cases ok
 case h_44 b args argTypes nn => -- lena
  simp only [Bool.and_eq_true, decide_eq_true_eq] at ok
  obtain ⟨rfl, ok⟩ := ok
  split at ok
  ·rename_i x t hargs hats
   obtain rfl : args = #[x] := by apply Array.ext'; simpa using hargs
   obtain rfl : argTypes = #[t] := by apply Array.ext'; simpa using hats
   obtain ⟨d, hd, hq⟩ := isTy_inv ok
   cases d <;> first | (cases hq; done) | skip
   rename_i n' e'
   simp only [decide_eq_true_eq] at hq
   subst hq
   simp only [exec] at hx
   cases hx
   refine ⟨Builtin.len_ #[t] type #[a.eval x], by simp [execOp, resolve, invoke, builtin], Makes.of R (v := goInt n') ?_ (.of_int _ _)⟩
   simp [Builtin.len_, run_underlying hd]
  ·cases ok
 case h_45 b args argTypes isMax ys => -- mm
  simp only [Bool.and_eq_true, decide_eq_true_eq] at ok
  obtain ⟨rfl, h1⟩ := ok
  obtain ⟨p1, p2⟩ := getAll_rel E h1
  simp only [exec] at hx
  split at hx
  ·rename_i y l hl
   rw [hl] at p1 p2
   cases hus : args.toList.map a.eval with
   | nil => rw [hus] at p1; simp at p1
   | cons u us =>
    rw [hus] at p1 p2
    have hargs : args.map a.eval = (u :: us).toArray := by apply Array.ext'; simp [hus]
    refine ⟨(us.foldlM (if isMax then Builtin.max2 else Builtin.min2) u), ?_, Makes.keep hx fun av hav => ?_⟩
    ·cases isMax <;> simp [execOp, resolve, invoke, builtin, hargs, Builtin.max_, Builtin.min_]
    ·obtain ⟨q, r1, r2⟩ := mm_rel (P := P) (isMax := isMax) l us hav (p2 0 y u rfl rfl) (by simpa using p1) (fun j y q h1 h2 => p2 (j + 1) y q (by simpa using h1) (by simpa using h2))
     exact Makes.of R r1 r2
  ·cases hx
 case h_46 b args argTypes sz zero y => -- clr
  simp only [Bool.and_eq_true, decide_eq_true_eq] at ok
  obtain ⟨rfl, ok⟩ := ok
  split at ok
  ·rename_i x t hargs hats
   simp only [Bool.and_eq_true] at ok
   obtain ⟨h1, h3⟩ := ok
   obtain rfl : args = #[x] := by apply Array.ext'; simpa using hargs
   obtain rfl : argTypes = #[t] := by apply Array.ext'; simpa using hats
   obtain ⟨d, hd, hq⟩ := isTy_inv h3
   cases d <;> first | (cases hq; done) | skip
   rename_i elem
   simp only [Bool.and_eq_true] at hq
   obtain ⟨⟨hsz, hz0⟩, hz⟩ := hq
   obtain ⟨i, z, hi, hz', hzs⟩ := okZero_inv hz0
   obtain ⟨i2, z2, hi2, hz2, hev⟩ := zeroV_inv hz
   rw [hi] at hi2; cases hi2
   rw [hz'] at hz2; cases hz2
   have v1 := okO_rel E h1
   simp only [exec] at hx
   refine ⟨Builtin.clear_ #[t] type #[a.eval x], by simp [execOp, resolve, invoke, builtin], ?_⟩
   split at hx
   ·rename_i b vv oo nn hl
    split at hx
    ·rename_i v' sz' es hes
     split at hx
     ·rename_i hc
      obtain ⟨c1, c0, c3⟩ := hc
      cases hx
      rw [hl] at v1
      exact clr_rel (ty := type) R hd hsz hi hz' hzs hev v1 hes c1 c0 c3
     ·cases hx
    ·cases hx
   ·rename_i full es hl
    split at hx
    ·rename_i hes
     subst hes
     cases hx
     rw [hl] at v1
     exact clr_rel0 R hd v1
    ·cases hx
   ·cases hx
  ·cases ok
 case h_47 t x y => -- rbox
  simp only [exec] at hx
  split at hx
  ·rename_i hok
   cases hx
   exact ⟨_, rfl, rbox_rel R t hok (okO_rel E ok)⟩
  ·cases hx
 case h_48 t x sz agg y => -- loadr
  simp only [Bool.and_eq_true] at ok
  obtain ⟨⟨h1, h2⟩, h3⟩ := ok
  simp only [exec] at hx
  split at hx
  ·rename_i cs hcs
   refine ⟨_, rfl, Makes.keep hx fun av hav => load_rel R (a := .rptr cs) rfl hav (by rw [← hcs]; exact okO_rel E h3) h1 h2⟩
  ·cases hx
 case h_49 => exact absurd rfl (hcallq _ _)
 case h_50 => exact absurd rfl (hcallr _ _)
 case h_51 t r => -- mkm
  obtain rfl : r = none := by simpa using ok
  simp only [exec] at hx
  cases hx
  exact ⟨_, rfl, mkm_rel R t⟩
 case h_52 t m k c zero m' k' => -- mget
  simp only [Bool.and_eq_true, Bool.not_eq_true'] at ok
  obtain ⟨⟨⟨rfl, h1⟩, h2⟩, h3⟩ := ok
  obtain ⟨d, hd, hq⟩ := isTy_inv h1
  cases d <;> first | (cases hq; done) | skip
  rename_i kt et
  simp only [Bool.and_eq_true] at hq
  obtain ⟨hq1, hq2⟩ := hq
  obtain ⟨d2, hd2, hq3⟩ := isTy_inv hq1
  cases d2 <;> first | (cases hq3; done) | skip
  simp only [decide_eq_true_eq] at hq3
  subst hq3
  simp only [exec, Option.bind_eq_some_iff] at hx
  obtain ⟨⟨b, es⟩, hm, n0, hk, hx⟩ := hx
  cases hx
  obtain ⟨e1, e2⟩ := mapAt_inv hm
  have e3 := keyM_inv hk
  have v1 := okO_rel E h2
  have v2 := okO_rel E h3
  rw [e1] at v1
  rw [e3] at v2
  exact ⟨_, rfl, mget_rel R hd hd2 hq2 e2 v1 v2⟩
 case h_53 => exact absurd rfl (hmput _ _ _)
 case h_54 b args argTypes y => -- mlen
  simp only [Bool.and_eq_true, decide_eq_true_eq] at ok
  obtain ⟨rfl, ok⟩ := ok
  split at ok
  ·rename_i x t hargs hats
   simp only [Bool.and_eq_true] at ok
   obtain ⟨h1, h3⟩ := ok
   obtain rfl : args = #[x] := by apply Array.ext'; simpa using hargs
   obtain rfl : argTypes = #[t] := by apply Array.ext'; simpa using hats
   obtain ⟨d, hd, hq⟩ := isTy_inv h3
   cases d <;> first | (cases hq; done) | skip
   have v1 := okO_rel E h1
   simp only [exec, Option.bind_eq_some_iff] at hx
   obtain ⟨⟨b, es⟩, hm, hx⟩ := hx
   cases hx
   obtain ⟨e1, e2⟩ := mapAt_inv hm
   rw [e1] at v1
   exact ⟨Builtin.len_ #[t] type #[a.eval x], by simp [execOp, resolve, invoke, builtin], mlen_rel R hd e2 v1⟩
  ·cases ok
 case h_55 => exact absurd rfl (hcalla _ _)
 case h_56 s d x y => -- stb
  simp only [Bool.and_eq_true] at ok
  obtain ⟨⟨h1, h2⟩, h3⟩ := ok
  obtain ⟨ds, hs, hq1⟩ := isTy_inv h1
  have hs' : P.underlying s = some .string := by cases ds <;> first | exact hs | (cases hq1; done)
  obtain ⟨dd, hd, hq2⟩ := isTy_inv h2
  cases dd <;> first | (cases hq2; done) | skip
  rename_i ee
  obtain ⟨de, he, hq3⟩ := isTy_inv hq2
  have he' : P.underlying ee = some (.int .u8) := by
   cases de <;> first | (cases hq3; done) | skip
   simp at hq3; subst hq3; exact he
  have v1 := okO_rel E h3
  simp only [exec] at hx
  split at hx
  ·rename_i l hl
   cases hx
   rw [hl] at v1
   exact ⟨_, rfl, stb_rel R hs' hd he' v1⟩
  ·cases hx
 case h_57 s d x y => -- csl
  simp only [Bool.and_eq_true, decide_eq_true_eq] at ok
  obtain ⟨⟨rfl, h2⟩, h3⟩ := ok
  obtain ⟨dd, hd, hq2⟩ := isTy_inv h2
  cases dd <;> first | (cases hq2; done) | skip
  rename_i ee
  obtain ⟨de, he, hq3⟩ := isTy_inv hq2
  have he' : P.underlying ee = some (.int .u8) := by
   cases de <;> first | (cases hq3; done) | skip
   simp at hq3; subst hq3; exact he
  have v1 := okO_rel E h3
  simp only [exec] at hx
  split at hx
  ·rename_i b v o n hl
   split at hx
   ·rename_i v' sz es hb
    split at hx
    ·rename_i hc
     obtain ⟨rfl, hc1, hc2⟩ := hc
     cases hx
     rw [hl] at v1
     exact ⟨_, rfl, csl_rel R hd he' hb hc1 hc2 v1⟩
    ·cases hx
   ·cases hx
  ·cases hx
 case h_58 => exact absurd rfl (hcalls _ _)
 case h_59 => exact absurd rfl (hcallra _ _)
 case h_60 t x sz agg y => -- loadv
  simp only [Bool.and_eq_true] at ok
  obtain ⟨⟨h1, h2⟩, h3⟩ := ok
  simp only [exec] at hx
  split at hx
  case isFalse => cases hx
  simp only [Option.bind_eq_some_iff] at hx
  obtain ⟨cs, hcs, hx⟩ := hx
  exact ⟨_, rfl, Makes.keep hx fun av hav => load_rel R hcs hav (okO_rel E h3) h1 h2⟩
 case h_61 => exact absurd rfl (hmput _ _ _)
 case h_62 => cases ok
end
end Go.Am

/-
 The abstract machine: an operation that is meant does what the program's does.
-/
namespace Go.Am
section
variable {P : Program} {Z : Nat → Prop} {β : Bds} {h : AH} {w : World}
theorem pure_snd {f : FuncId} {args : List AV} {r' : AV} (hall : args.all AV.isE = true) (hs0 : Callable P f ∧ ∀ (Z : Nat → Prop) (β : Bds) (w : World) (vs : List Value), Rel Z β [] w → args.length = vs.length →
  (∀ (j : Nat) (y : AV) (u : Value), args[j]? = some y → vs[j]? = some u → VR β (Own Z β []) w y u) →
  Calls P f vs.toArray w fun e w' => ∃ v β' r0 h1 h2, e = .returned v ∧ purP h1 r0 = some (r', h2) ∧ Rel Z β' h1 w' ∧ Fr Z β [] w β' h1 w' ∧ VR β' (Own Z β' h1) w' r0 v) (h : AH) : Snd P f args h r' h := by
 obtain ⟨hc, hs⟩ := hs0
 refine ⟨hc, fun Z β w vs R hl hv => ?_⟩
 let β0 : Bds := fun _ _ => none
 have ownI : ∀ c, Own (Own Z β h) β0 [] c ↔ Own Z β h c := by
  intro c
  constructor
  ·rintro (hc | ⟨i, X, hX, _⟩)
   ·exact hc
   ·simp at hX
  ·exact .inl
 have R0 : Rel (Own Z β h) β0 [] w := by
  refine ⟨fun c hc => ?_, fun i c ho => ?_, fun i v _ => rfl, fun i v sz es v' hX => by simp at hX, fun i b hb => by simp at hb, fun i j c ho => ?_⟩
  ·rcases hc with hc | ⟨i, ho⟩
   ·exact R.xlt c hc
   ·exact R.own_lt ho
  ·obtain ⟨X, hX, _⟩ := ho; simp at hX
  ·obtain ⟨X, hX, _⟩ := ho; simp at hX
 have st0 : Stay (Own Z β h) w (Own (Own Z β h) β0 []) w := ⟨Nat.le_refl _, fun b _ hO => ⟨rfl, fun hh => hO ((ownI b).1 hh)⟩⟩
 refine (hs (Own Z β h) β0 w vs R0 hl fun j y u hy hu => .pure _ _ (((hv j y u hy hu).pureE (List.all_eq_true.1 hall y (List.mem_of_getElem? hy))).mono st0)).mono ?_
 rintro e w' ⟨v, β', r0, h1, h2, rfl, hp, R1, F1, V1⟩
 obtain ⟨R2, F2, V2, hP⟩ := purP_rel R1 hp V1
 have F3 := F1.trans F2
 have hold : ∀ b, b < w.heap.size → w'.heap[b]? = w.heap[b]? := by
  intro b hb
  by_cases hO : Own Z β h b
  ·exact F3.xkeep b hb hO
  ·exact (F3.stay.2 b hb fun hh => hO ((ownI b).1 hh)).1
 have st1 : Stay (Own Z β h) w (Own Z β h) w' := ⟨F3.stay.1, fun b hb hO => ⟨hold b hb, hO⟩⟩
 have st2 : Stay (Own (Own Z β h) β' h2) w' (Own Z β h) w' := ⟨Nat.le_refl _, fun b _ hO => ⟨rfl, fun hh => hO (.inl hh)⟩⟩
 refine ⟨v, β, rfl, ⟨fun c hc => Nat.lt_of_lt_of_le (R.xlt c hc) F3.stay.1, R.xap, R.fresh, R.later, fun i X hX => (R.blk i X hX).mono st1 (fun _ _ _ e => e) (fun c ho => hold c (R.own_lt ⟨X, hX, ho⟩)), R.apart⟩,
  ⟨fun b hb _ => hold b hb, F3.os, F3.tape, F3.output, fun _ _ _ e => e, st1⟩, ?_⟩
 have one : ∀ {x : AV} {u : Value}, x.isE = true → VR β' (Own (Own Z β h) β' h2) w' x u → VR β (Own Z β h) w' x u := fun hx hu => .pure _ _ ((hu.pureE hx).mono st2)
 cases r' with
 | tup vs' =>
  obtain ⟨us, rfl, q1, q2⟩ := V2.tup_inv
  have hall' : ∀ y ∈ vs', y.isE = true := by simpa [AV.isP] using hP
  exact .tup _ us q1 fun j y u hy hu => one (hall' y (List.mem_of_getElem? hy)) (q2 j y u hy hu)
 | _ => exact one hP V2
theorem exec_sound (R : Rel Z β h w) {Γ : Tab} (hΓ : TabOK P Γ) {e : Env} {a : Act} {n : Nat} (E : EnvR Z β h w e a n) {o : Oper} {x : AOp} (ok : okOp P o.op x = true) {av : AV} {h' : AH} (hx : exec Γ e h x = some (av, h'))
  {next : Act → World → Prop} {Q : Exit → Act → World → Prop}
  (K : ∀ v w' β', Rel Z β' h' w' → Fr Z β h w β' h' w' → VR β' (Own Z β' h') w' av v → next (a.put o.dst v) w') : o.wp P a w next Q := by
 by_cases hmv : ∃ y, x = .mv y
 ·obtain ⟨y, rfl⟩ := hmv
  obtain ⟨dst, op, type, pos, after, guard⟩ := o
  dsimp only at ok
  simp only [exec] at hx
  cases hx
  unfold okOp at ok
  split at ok <;> rename_i heq <;> first | (cases ok; done) | (cases heq; done) | skip
  all_goals
   cases heq
   have v1 := okO_rel E ok
   unfold Oper.wp
   simp only [execOp, Sem.run_pure]
   exact K _ w β R (Fr.refl Z β h w) v1
 by_cases hnck : ∃ y, x = .nck y
 ·obtain ⟨y, rfl⟩ := hnck
  obtain ⟨dst, op, type, pos, after, guard⟩ := o
  dsimp only at ok
  unfold okOp at ok
  split at ok <;> rename_i heq <;> first | (cases ok; done) | (cases heq; done) | skip
  cases heq
  have v1 := okO_rel E ok
  simp only [exec] at hx
  unfold Oper.wp
  simp only [execOp]
  split at hx
  ·rename_i b vv i oo hl
   cases hx
   rw [hl] at v1
   obtain ⟨bd, c, hb, hc, he⟩ := v1.ptr_inv
   rw [he] at v1 ⊢
   exact K _ w β R (Fr.refl Z β h w) v1
  ·rename_i cs hl
   cases hx
   rw [hl] at v1
   generalize hv1 : a.eval _ = u at v1
   cases v1 with
   | pure _ _ hv => cases hv
   | rptr _ blk oo f' hO hw q1 q3 q2 =>
    exact K _ w β R (Fr.refl Z β h w) (.rptr _ blk oo f' hO hw q1 q3 q2)
  ·rename_i f fa fc hl
   split at hx
   ·cases hx
    rw [hl] at v1
    generalize hv1 : a.eval _ = u at v1
    cases v1 with
    | pure _ _ hv => cases hv
    | fn _ _ _ va vc q1 q2 q3 q4 =>
     exact K _ w β R (Fr.refl Z β h w) (.fn _ _ _ va vc q1 q2 q3 q4)
   ·cases hx
  ·cases hx
 by_cases hst : ∃ sz y z, x = .store sz y z
 ·obtain ⟨sz, y, z, rfl⟩ := hst
  obtain ⟨dst, op, type, pos, after, guard⟩ := o
  dsimp only at ok
  unfold okOp at ok
  split at ok <;> rename_i heq <;> first | (cases ok; done) | (cases heq; done) | skip
  cases heq
  simp only [Bool.and_eq_true] at ok
  obtain ⟨⟨h1, h2⟩, h3⟩ := ok
  simp only [exec, Option.bind_eq_some_iff] at hx
  obtain ⟨h1', hs, hx⟩ := hx
  cases hx
  obtain ⟨w', hr, R', F'⟩ := store_rel (P := P) R hs (okO_rel E h2) (okO_rel E h3) h1
  unfold Oper.wp
  simp only [execOp, Sem.run_bind, hr, Result.andThen_ok, Sem.run_pure]
  exact K _ w' β R' F' .undef
 by_cases hsr : ∃ sz y z, x = .storer sz y z
 ·obtain ⟨sz, y, z, rfl⟩ := hsr
  obtain ⟨dst, op, type, pos, after, guard⟩ := o
  dsimp only at ok
  unfold okOp at ok
  split at ok <;> rename_i heq <;> first | (cases ok; done) | (cases heq; done) | skip
  cases heq
  simp only [Bool.and_eq_true] at ok
  obtain ⟨⟨h1, h2⟩, h3⟩ := ok
  simp only [exec] at hx
  split at hx
  case isFalse => cases hx
  simp only [Option.bind_eq_some_iff] at hx
  obtain ⟨h1', hs, hx⟩ := hx
  cases hx
  obtain ⟨w', hr, R', F'⟩ := store_rel (P := P) R hs (okO_rel E h2) (okO_rel E h3) h1
  unfold Oper.wp
  simp only [execOp, Sem.run_bind, hr, Result.andThen_ok, Sem.run_pure]
  exact K _ w' β R' F' .undef
 by_cases hmp : ∃ m k y, x = .mput m k y
 ·obtain ⟨m, k, y, rfl⟩ := hmp
  obtain ⟨dst, op, type, pos, after, guard⟩ := o
  dsimp only at ok
  unfold okOp at ok
  split at ok <;> rename_i heq <;> first | (cases ok; done) | (cases heq; done) | skip
  all_goals
   cases heq
   simp only [Bool.and_eq_true] at ok
   obtain ⟨⟨⟨h1, h2⟩, h3⟩, h4⟩ := ok
   obtain ⟨d, hd, hq⟩ := isTy_inv h1
   cases d <;> first | (cases hq; done) | skip
   obtain ⟨d2, hd2, hq3⟩ := isTy_inv hq
   cases d2 <;> first | (cases hq3; done) | skip
   simp only [decide_eq_true_eq] at hq3
   subst hq3
   simp only [exec, Option.bind_eq_some_iff] at hx
   obtain ⟨⟨b, es⟩, hm, n0, hk, hx⟩ := hx
   dsimp only at hx
   split at hx
   case isFalse => cases hx
   rename_i hokc
   cases hx
   obtain ⟨e1, e2⟩ := mapAt_inv hm
   have e3 := keyM_inv hk
   have v1 := okO_rel E h2
   have v2 := okO_rel E h3
   rw [e1] at v1
   rw [e3] at v2
   obtain ⟨w', hr, R', F'⟩ := mput_rel (P := P) R hd hd2 e2 hokc v1 v2 (okO_rel E h4)
   unfold Oper.wp
   simp only [execOp, Sem.run_bind, hr, Result.andThen_ok, Sem.run_pure]
   exact K _ w' β R' F' .undef
 by_cases hcl : ∃ f ys, x = .call f ys ∨ x = .callp f ys ∨ x = .callq f ys ∨ x = .calla f ys ∨ x = .calls f ys
 ·obtain ⟨f, ys, hcl⟩ := hcl
  obtain ⟨dst, op, type, pos, after, guard⟩ := o
  dsimp only at ok
  have key : ∃ c : Array Operand × Array TypeId, op = .call { callee := .value (.func f), args := c.1, argTypes := c.2 } ∧ okArgs c.1.toList ys = true := by
   rcases hcl with rfl | rfl | rfl | rfl | rfl
   all_goals
    unfold okOp at ok
    split at ok <;> rename_i heq <;> first | (cases ok; done) | (cases heq; done) | skip
    cases heq
    simp only [Bool.and_eq_true, decide_eq_true_eq] at ok
    obtain ⟨rfl, ok⟩ := ok
    exact ⟨(_, _), rfl, ok⟩
  obtain ⟨⟨args, ats⟩, rfl, hok⟩ := key
  obtain ⟨p1, p2⟩ := getAll_rel E hok
  have hs : Snd P f (getAll e ys) h av h' := by
   rcases hcl with rfl | rfl | hq | hq | hq
   ·exact callA_snd hΓ hx
   rotate_left
   ·subst hq
    simp only [exec] at hx
    split at hx
    ·rename_i hall
     simp only [Option.bind_eq_some_iff] at hx
     obtain ⟨⟨r, h2⟩, ⟨⟨r0, h1⟩, hrun, hp⟩, hx⟩ := hx
     cases hx
     obtain ⟨hc, hs⟩ := hΓ.h f _ _ _ _ hrun
     exact pure_snd hall ⟨hc, fun Z β w vs R hl hv => (hs Z β w vs R hl hv).mono fun e w' ⟨v, β', he, R', F', V'⟩ => ⟨v, β', r0, h1, h2, he, hp, R', F', V'⟩⟩ h
    ·cases hx
   ·subst hq
    simp only [exec] at hx
    unfold growH at hx
    split at hx
    ·rename_i r hh hq
     split at hx
     ·cases hx
      exact callA_snd hΓ hq
     ·cases hx
    ·cases hx
   ·subst hq
    simp only [exec] at hx
    unfold sameH at hx
    split at hx
    ·rename_i r hh hq
     split at hx
     ·rename_i he
      cases hx
      subst he
      exact callA_snd hΓ hq
     ·cases hx
    ·cases hx
   ·simp only [exec] at hx
    split at hx
    ·rename_i hall
     cases hp : Γ.p f (getAll e ys) with
     | none => rw [hp] at hx; cases hx
     | some r => rw [hp] at hx; cases hx; exact hΓ.p f _ _ h hall hp
    ·cases hx
  unfold Oper.wp
  have he : execOp a.eval ⟨dst, .call { callee := .value (.func f), args := args, argTypes := ats }, type, pos, after, guard⟩ = callFunc f (args.toList.map a.eval).toArray := by
   have : (args.toList.map a.eval).toArray = args.map a.eval := Array.ext' (by simp)
   simp [execOp, resolve, Deferred.ofValue, invoke, Act.eval, this]
  rw [he]
  exact hs.wp R p1 p2 K
 by_cases hcv : ∃ y ys, x = .callv y ys ∨ x = .callr y ys ∨ x = .callra y ys
 ·obtain ⟨y, ys, hcv⟩ := hcv
  obtain ⟨dst, op, type, pos, after, guard⟩ := o
  dsimp only at ok
  have key : ∃ (t : Tmp) (c : Array Operand × Array TypeId), op = .call { callee := .value (.tmp t), args := c.1, argTypes := c.2 } ∧ okO (.tmp t) y = true ∧ okArgs c.1.toList ys = true := by
   rcases hcv with rfl | rfl | rfl
   all_goals
    unfold okOp at ok
    split at ok <;> rename_i heq <;> first | (cases ok; done) | (cases heq; done) | skip
    cases heq
    simp only [Bool.and_eq_true] at ok
    exact ⟨_, (_, _), rfl, ok.1, ok.2⟩
  obtain ⟨t, ⟨args, ats⟩, rfl, h1, h2⟩ := key
  obtain ⟨p1, p2⟩ := getAll_rel E h2
  have v1 := okO_rel E h1
  have hx' : ∃ g first cap, y.get e = .fn (.func g) first cap ∧ callA Γ g (first ++ getAll e ys ++ cap) h = some (av, h') := by
   rcases hcv with rfl | rfl | rfl
   ·simp only [exec] at hx
    split at hx
    ·rename_i g first cap hg
     split at hx
     ·exact ⟨_, _, _, hg, hx⟩
     ·cases hx
    ·cases hx
   ·simp only [exec] at hx
    split at hx
    ·rename_i g first cap hg
     split at hx
     ·unfold sameH at hx
      split at hx
      ·rename_i r hh hq
       split at hx
       ·rename_i he
        cases hx
        subst he
        exact ⟨_, _, _, hg, hq⟩
       ·cases hx
      ·cases hx
     ·cases hx
    ·cases hx
   ·simp only [exec] at hx
    split at hx
    ·rename_i g first cap hg
     split at hx
     ·unfold growH at hx
      split at hx
      ·rename_i r hh hq
       split at hx
       ·cases hx
        exact ⟨_, _, _, hg, hq⟩
       ·cases hx
      ·cases hx
     ·cases hx
    ·cases hx
  obtain ⟨g, first, cap, hg, hx'⟩ := hx'
  rw [hg] at v1
  have hs : Snd P g _ h av h' := callA_snd hΓ hx'
  generalize hv1 : a.eval (.tmp t) = u at v1
  cases v1 with
  | pure _ _ hv => cases hv
  | fn _ _ _ va vc q1 q2 q3 q4 =>
  unfold Oper.wp
  have he : execOp a.eval ⟨dst, .call { callee := .value (.tmp t), args := args, argTypes := ats }, type, pos, after, guard⟩ = callFunc g (va ++ args.toList.map a.eval ++ vc).toArray := by
   have : (va ++ args.toList.map a.eval ++ vc).toArray = va.toArray ++ args.map a.eval ++ vc.toArray := Array.ext' (by simp)
   rw [this]
   simp [execOp, resolve, Deferred.ofValue, invoke, hv1]
  rw [he]
  refine hs.wp R (by simp only [List.length_append, q1, q2, p1]) ?_ K
  intro j yy uu hy hu
  rw [List.getElem?_append] at hy hu
  have e1 : (first ++ getAll e ys).length = (va ++ args.toList.map a.eval).length := by simp only [List.length_append, q1, p1]
  rw [e1] at hy
  split at hy
  ·rename_i hlt
   rw [if_pos hlt] at hu
   rw [List.getElem?_append] at hy hu
   rw [q1] at hy
   split at hy
   ·rename_i hlt2; rw [if_pos hlt2] at hu; exact q3 _ _ _ hy hu
   ·rename_i hlt2; rw [if_neg hlt2] at hu; exact p2 _ _ _ hy hu
  ·rename_i hlt
   rw [if_neg hlt] at hu
   exact q4 _ _ _ hy hu
 obtain ⟨s, he, hm⟩ := exec_makes R E ok hx (fun f ys => ⟨fun hh => hcl ⟨f, ys, .inl hh⟩, fun hh => hcl ⟨f, ys, .inr (.inl hh)⟩⟩) (fun y ys hh => hcv ⟨y, ys, .inl hh⟩) (fun y ys hh => hcv ⟨y, ys, .inr (.inl hh)⟩) (fun y ys hh => hcl ⟨y, ys, .inr (.inr (.inl hh))⟩) (fun y ys hh => hcl ⟨y, ys, .inr (.inr (.inr (.inl hh)))⟩) (fun y ys hh => hcl ⟨y, ys, .inr (.inr (.inr (.inr hh)))⟩) (fun y ys hh => hcv ⟨y, ys, .inr (.inr hh)⟩) (fun sz y z hh => hst ⟨sz, y, z, hh⟩) (fun sz y z hh => hsr ⟨sz, y, z, hh⟩) (fun y hh => hnck ⟨y, hh⟩) (fun y hh => hmv ⟨y, hh⟩) (fun m k y hh => hmp ⟨m, k, y, hh⟩)
 exact wp_of_makes he hm K
end
end Go.Am

/-
 The abstract machine: what an operation looks at.
-/
namespace Go.Am
def oper? : Option AO → List AO
 | none => []
 | some x => [x]
def AOp.ops : AOp → List AO
 | .mv x => [x]
 | .pick c a b => [c, a, b]
 | .alloc _ => []
 | .box x => [x]
 | .build _ ps => ps.map fun p => p.2.2
 | .bsl _ _ _ ps => ps.map fun p => p.2
 | .bslh _ _ _ ps => ps.map fun p => p.2
 | .bslo _ _ _ ps => ps.map fun p => p.2
 | .load _ _ a => [a]
 | .store _ a x => [a, x]
 | .storer _ a x => [a, x]
 | .loadx _ _ a q => [a, .t q]
 | .nck x => [x]
 | .bin _ x y => [x, y]
 | .beq _ x y => [x, y]
 | .seq _ _ x y => [x, y]
 | .un _ x => [x]
 | .conv _ x => [x]
 | .cstr x => [x]
 | .bts x => [x]
 | .mki _ x => [x]
 | .mkf _ a c => a ++ c
 | .mks _ _ _ l c => [l, c]
 | .sls x lo hi => x :: (oper? lo ++ oper? hi)
 | .sll _ x lo hi mx => x :: (oper? lo ++ (oper? hi ++ oper? mx))
 | .fad _ x => [x]
 | .fld _ _ _ x => [x]
 | .iad _ x i => [x, i]
 | .iada _ _ x i => [x, i]
 | .idxs x i => [x, i]
 | .idxa _ _ _ x i => [x, i]
 | .ext x _ => [x]
 | .call _ as => as
 | .callp _ as => as
 | .callv f as => f :: as
 | .app _ _ s x => [s, x]
 | .appz _ _ _ s x => [s, x]
 | .apps _ s x => [s, x]
 | .copy _ d s => [d, s]
 | .len _ x => [x]
 | .lena _ => []
 | .mm _ xs => xs
 | .no => []
 | .isnil _ _ x => [x]
 | .clr _ _ x => [x]
 | .rbox x => [x]
 | .loadr _ _ x => [x]
 | .callr f as => f :: as
 | .mkm => []
 | .mget _ m k => [m, k]
 | .mput m k x => [m, k, x]
 | .mlen m => [m]
 | .callq _ as => as
 | .calla _ as => as
 | .stb x => [x]
 | .csl x => [x]
 | .loadv _ _ t => [.t t]
 | .calls _ as => as
 | .callra f as => f :: as
section
variable {Γ : Tab} {e e' : Env} {h : AH}
theorem getAll_congr : ∀ (l : List AO), (∀ x ∈ l, x.get e = x.get e') → getAll e l = getAll e' l
 | [], _ => rfl
 | x :: l, hl => by
  simp only [getAll]
  rw [hl x (by simp), getAll_congr l fun y hy => hl y (by simp [hy])]
theorem parts_congr : ∀ (l : List (Nat × Nat × AO)) (cs : List AV), (∀ p ∈ l, p.2.2.get e = p.2.2.get e') → parts e l cs = parts e' l cs
 | [], _, _ => rfl
 | (off, size, x) :: l, cs, hl => by
  have hx : x.get e = x.get e' := hl (off, size, x) (by simp)
  simp only [parts, hx]
  rw [parts_congr l _ fun y hy => hl y (by simp [hy])]
theorem bparts_congr (sz : Nat) : ∀ (l : List (Nat × AO)) (es : List AV) (h : AH), (∀ p ∈ l, p.2.get e = p.2.get e') → bparts e sz l es h = bparts e' sz l es h
 | [], _, _, _ => rfl
 | (i, x) :: l, es, h, hl => by
  have hx : x.get e = x.get e' := hl (i, x) (by simp)
  simp only [bparts, hx]
  congr 1
  funext r
  rw [bparts_congr sz l _ _ fun y hy => hl y (by simp [hy])]
theorem bpartsP_congr (sz : Nat) : ∀ (l : List (Nat × AO)) (es : List AV), (∀ p ∈ l, p.2.get e = p.2.get e') → bpartsP e sz l es = bpartsP e' sz l es
 | [], _, _ => rfl
 | (i, x) :: l, es, hl => by
  have hx : x.get e = x.get e' := hl (i, x) (by simp)
  simp only [bpartsP, hx]
  rw [bpartsP_congr sz l _ fun y hy => hl y (by simp [hy])]
theorem optNat_congr (d : Nat) (x : Option AO) (hx : ∀ y ∈ oper? x, y.get e = y.get e') : optNat d e x = optNat d e' x := by
 cases x with
 | none => rfl
 | some y => simp only [optNat, hx y (by simp [oper?])]
theorem exec_congr (op : AOp) (ho : ∀ x ∈ op.ops, x.get e = x.get e') : exec Γ e h op = exec Γ e' h op := by
 cases op with
 | build zero ps => simp only [exec]; rw [parts_congr ps _ fun p hp => ho p.2.2 (by simp only [AOp.ops, List.mem_map]; exact ⟨p, hp, rfl⟩)]
 | bsl sz zero len ps => simp only [exec]; rw [bpartsP_congr _ ps _ fun p hp => ho p.2 (by simp only [AOp.ops, List.mem_map]; exact ⟨p, hp, rfl⟩)]
 | bslh sz zero len ps => simp only [exec]; rw [bparts_congr _ ps _ _ fun p hp => ho p.2 (by simp only [AOp.ops, List.mem_map]; exact ⟨p, hp, rfl⟩)]
 | bslo sz zero len ps => simp only [exec]; rw [bparts_congr _ ps _ _ fun p hp => ho p.2 (by simp only [AOp.ops, List.mem_map]; exact ⟨p, hp, rfl⟩)]
 | mkf f a c => simp only [exec]; rw [getAll_congr a fun y hy => ho y (by simp [AOp.ops, hy]), getAll_congr c fun y hy => ho y (by simp [AOp.ops, hy])]
 | call f as => simp only [exec]; rw [getAll_congr as ho]
 | callp f as => simp only [exec]; rw [getAll_congr as ho]
 | callv f as =>
  simp only [exec]
  rw [getAll_congr as fun y hy => ho y (by simp [AOp.ops, hy]), ho f (by simp [AOp.ops])]
 | callq f as => simp only [exec]; rw [getAll_congr as ho]
 | calla f as => simp only [exec]; rw [getAll_congr as ho]
 | calls f as => simp only [exec]; rw [getAll_congr as ho]
 | callra f as =>
  simp only [exec]
  rw [getAll_congr as fun y hy => ho y (by simp [AOp.ops, hy]), ho f (by simp [AOp.ops])]
 | callr f as =>
  simp only [exec]
  rw [getAll_congr as fun y hy => ho y (by simp [AOp.ops, hy]), ho f (by simp [AOp.ops])]
 | mm m xs => simp only [exec]; rw [getAll_congr xs ho]
 | sls x lo hi =>
  simp only [exec]
  rw [ho x (by simp [AOp.ops])]
  have h1 := fun d => optNat_congr (e := e) (e' := e') d lo fun y hy => ho y (by simp [AOp.ops, hy])
  have h2 := fun d => optNat_congr (e := e) (e' := e') d hi fun y hy => ho y (by simp [AOp.ops, hy])
  simp only [h1, h2]
 | sll sz x lo hi mx =>
  simp only [exec]
  rw [ho x (by simp [AOp.ops])]
  have h1 := fun d => optNat_congr (e := e) (e' := e') d lo fun y hy => ho y (by simp [AOp.ops, hy])
  have h2 := fun d => optNat_congr (e := e) (e' := e') d hi fun y hy => ho y (by simp [AOp.ops, hy])
  cases mx with
  | none => simp only [h1, h2]
  | some m => simp only [h1, h2, ho m (by simp [AOp.ops, oper?])]
 | loadv sz agg t =>
  have hq : e t = e' t := ho (.t t) (by simp [AOp.ops])
  simp only [exec, hq]
 | loadx sz agg a q =>
  have hq : e q = e' q := ho (.t q) (by simp [AOp.ops])
  simp only [exec, hq]
  rw [ho a (by simp [AOp.ops])]
 | _ => simp only [AOp.ops, List.mem_cons, List.not_mem_nil, or_false, forall_eq_or_imp, forall_eq] at ho <;> simp only [exec, ho]
def AOp.isN : AOp → Bool
 | .mv _ | .pick .. | .build .. | .bsl .. | .nck _ | .bin .. | .beq .. | .seq .. | .un .. | .conv .. | .cstr _ | .mki .. | .mkf .. | .sls .. | .fad .. | .fld .. | .iada .. | .idxs .. | .idxa .. | .ext .. | .callp .. | .len .. | .lena _ | .mm .. | .no | .isnil .. | .rbox _ | .loadr .. | .callq .. | .stb _ => true
 | _ => false
def AOp.isR : AOp → Bool
 | .load .. | .loadx .. | .bts _ | .sll .. | .iad .. | .callr .. | .mget .. | .mlen _ | .loadv .. | .calls .. => true
 | x => x.isN
def AOp.isVer : AOp → Bool
 | .sll .. | .iad .. => true
 | _ => false
def AOp.isW0 : AOp → Bool
 | .store .. | .storer .. | .alloc _ | .box _ => true
 | _ => false
def AOp.isAlc : AOp → Bool
 | .alloc _ | .box _ | .calla .. | .callra .. => true
 | _ => false
def AOp.isLd : AOp → Bool
 | .load .. | .loadx .. | .bts _ => true
 | _ => false
def AOp.isLdp : AOp → Bool
 | .load _ _ (.t _) => true
 | _ => false
theorem exec_ldp {sz : Nat} {agg : Bool} {t : Nat} {bs : AH} {v : AV} {h' : AH} (hp : ∀ b v i o, e t = .ptr b v i o → b < h.length) (hx : exec Γ e (h ++ bs) (.load sz agg (.t t)) = some (v, h')) : exec Γ e h (.load sz agg (.t t)) = some (v, h) := by
 simp only [exec, keepH, Option.bind_eq_some_iff] at hx ⊢
 obtain ⟨cs, h1, r, h2, hx⟩ := hx
 cases hx
 refine ⟨cs, ?_, _, h2, rfl⟩
 change cellsAt (h ++ bs) (e t) = some cs at h1
 change cellsAt h (e t) = some cs
 generalize e t = a at *
 unfold cellsAt at h1 ⊢
 cases a <;> first | exact h1 | skip
 rename_i b v i o
 have := hp b v i o rfl
 dsimp only at h1 ⊢
 rw [List.getElem?_append_left this] at h1
 exact h1
theorem cellsAt_grow {h : AH} {a : AV} {cs : List AV} (hc : cellsAt h a = some cs) (bs : AH) : cellsAt (h ++ bs) a = some cs := by
 unfold cellsAt at hc ⊢
 cases a <;> first | exact hc | skip
 rename_i b v i o
 dsimp only at hc ⊢
 cases hb : h[b]? with
 | none => rw [hb] at hc; cases hc
 | some X =>
  have hlt : b < h.length := (List.getElem?_eq_some_iff.1 hb).1
  rw [List.getElem?_append_left hlt, hb]
  rw [hb] at hc
  exact hc
theorem elems_grow {h : AH} {a : AV} {es : List AV} (hc : elems h a = some es) (bs : AH) : elems (h ++ bs) a = some es := by
 unfold elems at hc ⊢
 cases a <;> first | exact hc | skip
 rename_i b v o n
 dsimp only at hc ⊢
 cases hb : h[b]? with
 | none => rw [hb] at hc; cases hc
 | some X =>
  have hlt : b < h.length := (List.getElem?_eq_some_iff.1 hb).1
  rw [List.getElem?_append_left hlt, hb]
  rw [hb] at hc
  exact hc
theorem exec_ld (op : AOp) (hs : op.isLd = true) {v : AV} {h' : AH} (hx : exec Γ e h op = some (v, h')) (bs : AH) : exec Γ e (h ++ bs) op = some (v, h ++ bs) := by
 cases op <;> first | (cases hs; done) | skip
 case load =>
  simp only [exec, keepH, Option.bind_eq_some_iff] at hx ⊢
  obtain ⟨cs, h1, r, h2, hx⟩ := hx
  cases hx
  exact ⟨cs, cellsAt_grow h1 bs, _, h2, rfl⟩
 case loadx =>
  simp only [exec, keepH] at hx ⊢
  split at hx
  ·rename_i hf
   rw [if_pos hf]
   simp only [Option.bind_eq_some_iff] at hx ⊢
   obtain ⟨cs, h1, r, h2, hx⟩ := hx
   cases hx
   exact ⟨cs, cellsAt_grow h1 bs, _, h2, rfl⟩
  ·cases hx
 case bts =>
  simp only [exec, Option.bind_eq_some_iff] at hx ⊢
  obtain ⟨cs, h1, r, h2, hx⟩ := hx
  cases hx
  exact ⟨cs, elems_grow h1 bs, _, h2, rfl⟩
theorem exec_alc (op : AOp) (hs : op.isAlc = true) {v : AV} {h' : AH} (hx : exec Γ e h op = some (v, h')) : ∃ bs, h' = h ++ bs := by
 cases op <;> first | (cases hs; done) | skip
 case alloc =>
  simp only [exec] at hx
  cases hx
  exact ⟨_, rfl⟩
 case box =>
  simp only [exec] at hx
  split at hx
  ·cases hx; exact ⟨_, rfl⟩
  ·cases hx
 case calla =>
  simp only [exec] at hx
  unfold growH at hx
  split at hx
  ·split at hx
   ·rename_i ht
    cases hx
    refine ⟨h'.drop h.length, ?_⟩
    conv => rhs; lhs; rw [← ht]
    exact (List.take_append_drop _ _).symm
   ·cases hx
  ·cases hx
 case callra =>
  simp only [exec] at hx
  split at hx
  ·split at hx
   ·unfold growH at hx
    split at hx
    ·split at hx
     ·rename_i ht
      cases hx
      refine ⟨h'.drop h.length, ?_⟩
      conv => rhs; lhs; rw [← ht]
      exact (List.take_append_drop _ _).symm
     ·cases hx
    ·cases hx
   ·cases hx
  ·cases hx
theorem exec_N (op : AOp) (hn : op.isN = true) : exec Γ e h op = (exec Γ e [] op).map fun r => (r.1, h) := by
 cases op <;> first | (cases hn; done) | skip
 case mv => rfl
 case no => rfl
 case isnil => simp only [exec]; generalize isNil _ _ _ = q; cases q <;> rfl
 case mkf => rfl
 case rbox => simp only [exec]; split <;> rfl
 case callq f as =>
  simp only [exec]
  split
  ·cases hq : ((Γ.h f (getAll e as) []).bind fun x => purP x.snd x.fst) with
   | none => rfl
   | some r => rfl
  ·rfl
 case loadr => simp only [exec, keepH]; split <;> first | rfl | (generalize shape _ _ _ = q; cases q <;> rfl)
 case mki => rfl
 case lena => rfl
 case pick => simp only [exec]; split <;> rfl
 case build => simp only [exec]; rename_i zero ps; cases parts e ps zero <;> rfl
 case bsl => simp only [exec]; rename_i sz zero len ps; cases bpartsP e sz ps (List.replicate len zero) <;> rfl
 case nck => simp only [exec]; split <;> first | rfl | (split <;> rfl)
 case bin => simp only [exec]; generalize Am.bin _ _ _ = q; cases q <;> rfl
 case beq => simp only [exec]; split <;> rfl
 case seq => simp only [exec]; split <;> first | rfl | (generalize cellsEq _ _ _ = q; cases q <;> simp only [Option.bind_none, Option.bind_some, Option.map_none] <;> split <;> rfl)
 case un => simp only [exec]; generalize Am.un _ _ = q; cases q <;> rfl
 case conv => simp only [exec]; split <;> rfl
 case cstr => simp only [exec]; split <;> rfl
 case stb => simp only [exec]; split <;> rfl
 case sls =>
  simp only [exec]; split <;> first | rfl | skip
  generalize optNat _ _ _ = q1; cases q1 <;> first | rfl | skip
  simp only [Option.bind_some]
  generalize optNat _ _ _ = q2; cases q2 <;> first | rfl | skip
  simp only [Option.bind_some]; split <;> rfl
 case fad => simp only [exec]; split <;> first | rfl | (split <;> rfl)
 case fld => simp only [exec]; split <;> first | rfl | (split <;> first | rfl | (generalize shape _ _ _ = q; cases q <;> rfl))
 case iada =>
  simp only [exec]
  generalize nat? _ = q; cases q <;> first | rfl | skip
  simp only [Option.bind_some]; split <;> first | rfl | (split <;> first | rfl | (split <;> rfl))
 case idxs =>
  simp only [exec]; split <;> first | rfl | skip
  generalize nat? _ = q; cases q <;> first | rfl | skip
  simp only [Option.bind_some]
  generalize ((_ : List UInt8)[(_ : Nat)]? : Option UInt8) = q; cases q <;> rfl
 case idxa =>
  simp only [exec]; split <;> first | rfl | skip
  generalize nat? _ = q; cases q <;> first | rfl | skip
  simp only [Option.bind_some]; split <;> first | rfl | (generalize shape _ _ _ = q; cases q <;> rfl)
 case ext =>
  simp only [exec]; split <;> first | rfl | skip
  generalize ((_ : List AV)[(_ : Nat)]? : Option AV) = q; cases q <;> rfl
 case callp => simp only [exec]; split <;> first | rfl | (generalize Γ.p _ _ = q; cases q <;> rfl)
 case len => simp only [exec]; generalize slen _ _ = q; cases q <;> rfl
 case mm =>
  simp only [exec]; split <;> first | rfl | (generalize mmAll _ _ _ = q; cases q <;> rfl)
theorem exec_R (op : AOp) (hr : op.isR = true) {v : AV} {h' : AH} (hx : exec Γ e h op = some (v, h')) : h' = h := by
 by_cases hn : op.isN = true
 ·rw [exec_N op hn] at hx
  cases hq : exec Γ e [] op with
  | none => rw [hq] at hx; cases hx
  | some r => rw [hq] at hx; cases hx; rfl
 ·cases op <;> first | (exact absurd rfl hn) | (exact absurd hr hn) | skip
  case calls =>
   simp only [exec] at hx
   unfold sameH at hx
   split at hx
   ·split at hx
    ·cases hx; rfl
    ·cases hx
   ·cases hx
  case callr =>
   simp only [exec] at hx
   split at hx
   ·split at hx
    ·unfold sameH at hx
     split at hx
     ·split at hx
      ·cases hx; rfl
      ·cases hx
     ·cases hx
    ·cases hx
   ·cases hx
  case mget =>
   simp only [exec, Option.bind_eq_some_iff] at hx
   obtain ⟨_, _, _, _, hx⟩ := hx
   cases hx; rfl
  case mlen =>
   simp only [exec, Option.bind_eq_some_iff] at hx
   obtain ⟨_, _, hx⟩ := hx
   cases hx; rfl
  case load =>
   simp only [exec, keepH, Option.bind_eq_some_iff] at hx
   obtain ⟨_, _, _, _, hx⟩ := hx
   cases hx; rfl
  case loadv =>
   simp only [exec, keepH] at hx
   split at hx
   ·simp only [Option.bind_eq_some_iff] at hx
    obtain ⟨_, _, _, _, hx⟩ := hx
    cases hx; rfl
   ·cases hx
  case loadx =>
   simp only [exec, keepH] at hx
   split at hx
   ·simp only [Option.bind_eq_some_iff] at hx
    obtain ⟨_, _, _, _, hx⟩ := hx
    cases hx; rfl
   ·cases hx
  case bts =>
   simp only [exec, Option.bind_eq_some_iff] at hx
   obtain ⟨_, _, _, _, hx⟩ := hx
   cases hx; rfl
  case sll =>
   simp only [exec] at hx
   split at hx <;> first | (cases hx; done) | skip
   all_goals
    simp only [Option.bind_eq_some_iff] at hx
    obtain ⟨_, _, _, _, hx⟩ := hx
    split at hx
    ·split at hx
     ·cases hx; rfl
     ·cases hx
    ·simp only [Option.bind_eq_some_iff] at hx
     obtain ⟨_, _, hx⟩ := hx
     split at hx
     ·cases hx; rfl
     ·cases hx
  case iad =>
   simp only [exec] at hx
   split at hx <;> first | (cases hx; done) | skip
   ·simp only [Option.bind_eq_some_iff] at hx
    obtain ⟨_, _, _, _, hx⟩ := hx
    split at hx
    ·cases hx; rfl
    ·cases hx
   ·simp only [Option.bind_eq_some_iff] at hx
    obtain ⟨_, _, hx⟩ := hx
    split at hx
    ·cases hx; rfl
    ·cases hx
theorem exec_ver (op : AOp) (hs : op.isVer = true) {h2 : AH} (hr : ∀ b v, rowSz h2 b v = rowSz h b v) {v : AV} {h' : AH} (hx : exec Γ e h op = some (v, h')) : exec Γ e h2 op = some (v, h2) := by
 cases op <;> first | (cases hs; done) | skip
 case sll sz x lo hi mx =>
  simp only [exec] at hx ⊢
  split at hx
  ·simp only [Option.bind_eq_some_iff] at hx
   obtain ⟨a, ha, b, hb, hx⟩ := hx
   simp only [ha, hb, Option.bind_some]
   split at hx
   ·split at hx
    ·rename_i hc; cases hx; rw [if_pos hc]
    ·cases hx
   ·simp only [Option.bind_eq_some_iff] at hx
    obtain ⟨c, hc, hx⟩ := hx
    simp only [hc, Option.bind_some]
    split at hx
    ·rename_i hc; cases hx; rw [if_pos hc]
    ·cases hx
  ·simp only [Option.bind_eq_some_iff] at hx
   obtain ⟨a, ha, b, hb, hx⟩ := hx
   simp only [ha, hb, Option.bind_some, hr]
   split at hx
   ·split at hx
    ·rename_i hc; cases hx; rw [if_pos hc]
    ·cases hx
   ·simp only [Option.bind_eq_some_iff] at hx
    obtain ⟨c, hc, hx⟩ := hx
    simp only [hc, Option.bind_some]
    split at hx
    ·rename_i hc; cases hx; rw [if_pos hc]
    ·cases hx
  ·cases hx
 case iad sz x i =>
  simp only [exec] at hx ⊢
  split at hx
  ·simp only [Option.bind_eq_some_iff] at hx
   obtain ⟨a, ha, b, hb, hx⟩ := hx
   simp only [ha, hb, Option.bind_some]
   split at hx
   ·rename_i hc; cases hx; rw [if_pos hc]
   ·cases hx
  ·simp only [Option.bind_eq_some_iff] at hx
   obtain ⟨a, ha, hx⟩ := hx
   simp only [ha, Option.bind_some, hr]
   split at hx
   ·rename_i hc; cases hx; rw [if_pos hc]
   ·cases hx
  ·cases hx
theorem rowSz_set {b : Nat} {X Y : AB} (hX : h[b]? = some X) (hs : ∀ v, (match Y with | .row v' sz _ => if v = v' then some sz else none | .fro v' sz _ => if v = v' then some sz else none | _ => none) =
  (match X with | .row v' sz _ => if v = v' then some sz else none | .fro v' sz _ => if v = v' then some sz else none | _ => none)) (i v : Nat) : rowSz (h.set b Y) i v = rowSz h i v := by
 have hlt : b < h.length := (List.getElem?_eq_some_iff.1 hX).1
 unfold rowSz
 by_cases hi : i = b
 ·subst hi
  rw [List.getElem?_set_self hlt, hX]
  have := hs v
  cases X <;> cases Y <;> exact this
 ·rw [List.getElem?_set_ne (fun e => hi e.symm)]
theorem rowSz_push {cs : List AV} (i v : Nat) : rowSz (h ++ [.var cs]) i v = rowSz h i v := by
 unfold rowSz
 by_cases hi : i < h.length
 ·rw [List.getElem?_append_left hi]
 ·rw [List.getElem?_append_right (by omega), List.getElem?_eq_none (l := h) (by omega)]
  cases hj : i - h.length with
  | zero => rfl
  | succ j => rfl
theorem purS_rowSz {h h' : AH} {a a' : AV} (hp : purS h a = some (a', h')) (i v : Nat) : rowSz h' i v = rowSz h i v := by
 cases a <;> simp only [purS] at hp
 case own b vv o n =>
  split at hp
  ·rename_i v' sz es hX
   split at hp
   ·cases hp; exact rowSz_set hX (fun _ => rfl) i v
   ·cases hp
  ·split at hp
   ·cases hp; rfl
   ·cases hp
  ·cases hp
 all_goals
  split at hp
  ·cases hp; rfl
  ·cases hp
theorem purL_rowSz : ∀ {l l' : List AV} {h h' : AH}, purL h l = some (l', h') → ∀ (i v : Nat), rowSz h' i v = rowSz h i v
 | [], l', h, h', hp, i, v => by simp only [purL] at hp; cases hp; rfl
 | a :: l, l', h, h', hp, i, v => by
  simp only [purL, Option.bind_eq_some_iff] at hp
  obtain ⟨⟨a', h1⟩, h1e, ⟨l2, h2⟩, h2e, hp⟩ := hp
  cases hp
  rw [purL_rowSz h2e, purS_rowSz h1e]
theorem purE_rowSz {h h' : AH} {a a' : AV} (hp : purE h a = some (a', h')) (i v : Nat) : rowSz h' i v = rowSz h i v := by
 unfold purE at hp
 split at hp
 ·cases hp; rfl
 ·split at hp
  ·simp only [Option.bind_eq_some_iff] at hp
   obtain ⟨⟨l, h1⟩, h1e, hp⟩ := hp
   cases hp
   exact purL_rowSz h1e i v
  ·exact purS_rowSz hp i v
theorem exec_W0 (op : AOp) (hs : op.isW0 = true) {v : AV} {h' : AH} (hx : exec Γ e h op = some (v, h')) (i u : Nat) : rowSz h' i u = rowSz h i u := by
 cases op <;> first | (cases hs; done) | skip
 case alloc zero => simp only [exec] at hx; cases hx; exact rowSz_push i u
 case box x =>
  simp only [exec] at hx
  split at hx
  ·cases hx; exact rowSz_push i u
  ·cases hx
 case store sz a x =>
  simp only [exec, Option.bind_eq_some_iff] at hx
  obtain ⟨h1, hst, hx⟩ := hx
  cases hx
  unfold storeAt at hst
  split at hst
  ·split at hst
   ·rename_i hX
    split at hst
    ·cases hst; exact rowSz_set hX (fun _ => rfl) i u
    ·cases hst
   ·simp only [Option.bind_eq_some_iff] at hst
    obtain ⟨⟨x', h2⟩, hp, hst⟩ := hst
    split at hst
    ·rename_i hX
     simp only [Option.bind_eq_some_iff] at hst
     obtain ⟨y, hy, hst⟩ := hst
     split at hst
     ·cases hst
      rw [rowSz_set hX (fun _ => rfl) i u, purE_rowSz hp]
     ·cases hst
    ·cases hst
   ·cases hst
  ·cases hst
 case storer sz a x =>
  simp only [exec] at hx
  split at hx
  case isFalse => cases hx
  simp only [Option.bind_eq_some_iff] at hx
  obtain ⟨h1, hst, hx⟩ := hx
  cases hx
  unfold storeAt at hst
  split at hst
  ·split at hst
   ·rename_i hX
    split at hst
    ·cases hst; exact rowSz_set hX (fun _ => rfl) i u
    ·cases hst
   ·simp only [Option.bind_eq_some_iff] at hst
    obtain ⟨⟨x', h2⟩, hp, hst⟩ := hst
    split at hst
    ·rename_i hX
     simp only [Option.bind_eq_some_iff] at hst
     obtain ⟨y, hy, hst⟩ := hst
     split at hst
     ·cases hst
      rw [rowSz_set hX (fun _ => rfl) i u, purE_rowSz hp]
     ·cases hst
    ·cases hst
   ·cases hst
  ·cases hst
theorem storer_cells {h h' : AH} {sz : Nat} {a x : AV} (hv : isVarB h a = true) (hs : storeAt h sz a x = some h') {p : AV} (hf : farFrom a p = true) {cs : List AV} (hc : cellsAt h p = some cs) : cellsAt h' p = some cs := by
 unfold storeAt at hs
 split at hs
 ·rename_i b v i o
  unfold isVarB at hv
  dsimp only at hv
  split at hv
  ·rename_i cs0 hb
   rw [hb] at hs
   dsimp only at hs
   split at hs
   ·cases hs
    cases p <;> first | (simp [farFrom] at hf; done) | skip
    ·rename_i b' v' i' o'
     simp only [farFrom, decide_eq_true_eq] at hf
     unfold cellsAt at hc ⊢
     dsimp only at hc ⊢
     rw [List.getElem?_set_ne hf]
     exact hc
    ·unfold cellsAt at hc ⊢
     exact hc
   ·cases hs
  ·cases hv
 ·cases hs
def AOp.isRow (x : AOp) : Bool := x.isAlc || match x with
 | .app .. | .appz .. | .apps .. => true
 | _ => false
def AOp.isLdv : AOp → Bool
 | .loadv .. => true
 | _ => false
def VarKept (h h' : AH) : Prop := h.length ≤ h'.length ∧ ∀ (b : Nat) (cs : List AV), b < h.length → (h[b]? = some (.var cs) ↔ h'[b]? = some (.var cs))
theorem VarKept.refl (h : AH) : VarKept h h := ⟨Nat.le_refl _, fun _ _ _ => Iff.rfl⟩
theorem VarKept.trans {h h' h'' : AH} (a : VarKept h h') (b : VarKept h' h'') : VarKept h h'' :=
 ⟨Nat.le_trans a.1 b.1, fun k cs hk => (a.2 k cs hk).trans (b.2 k cs (Nat.lt_of_lt_of_le hk a.1))⟩
theorem VarKept.app (h bs : AH) : VarKept h (h ++ bs) := ⟨by simp, fun k cs hk => by rw [List.getElem?_append_left hk]⟩
theorem append_var {sz bytes : Nat} {s : AV} {news : List AV} {v : AV} {h' : AH} (hx : append h sz bytes s news = some (v, h')) : VarKept h h' := by
 unfold append at hx
 split at hx
 ·split at hx
  ·cases hx; exact VarKept.app _ _
  ·cases hx
 ·rename_i b v0 o n
  split at hx
  ·rename_i v' sz' es hb
   split at hx
   ·cases hx
    refine ⟨by simp, fun k cs hk => ?_⟩
    by_cases e1 : b = k
    ·subst e1
     rw [hb, List.getElem?_set_self hk]
     constructor <;> intro h <;> cases h
    ·rw [List.getElem?_set_ne e1]
   ·cases hx
  ·cases hx
 ·cases hx
theorem exec_row (op : AOp) (hr : op.isRow = true) {v : AV} {h' : AH} (hx : exec Γ e h op = some (v, h')) : VarKept h h' := by
 unfold AOp.isRow at hr
 rw [Bool.or_eq_true] at hr
 rcases hr with hr | hr
 ·obtain ⟨bs, rfl⟩ := exec_alc op hr hx
  exact VarKept.app _ _
 ·split at hr
  ·simp only [exec, Option.bind_eq_some_iff] at hx
   obtain ⟨_, _, hx⟩ := hx
   exact append_var hx
  ·simp only [exec, Option.bind_eq_some_iff] at hx
   obtain ⟨_, _, hx⟩ := hx
   exact append_var hx
  ·simp only [exec] at hx
   split at hx
   ·exact append_var hx
   ·cases hx
  ·cases hr
theorem exec_ldv {sz : Nat} {agg : Bool} {t : Nat} {h2 : AH} {v : AV} {h' : AH} (hx : exec Γ e h (.loadv sz agg t) = some (v, h')) (hv : ∀ (b : Nat) (cs : List AV), (∃ v i o, e t = .ptr b v i o) → h[b]? = some (.var cs) → h2[b]? = some (.var cs)) : exec Γ e h2 (.loadv sz agg t) = some (v, h2) := by
 simp only [exec] at hx ⊢
 generalize he : e t = p at hx ⊢
 split at hx
 case isFalse => cases hx
 rename_i hb
 cases p <;> first | (simp [isVarB] at hb; done) | skip
 rename_i b vv i o
 simp only [isVarB] at hb
 split at hb
 case h_2 => cases hb
 rename_i cs hcs
 have h2v := hv b cs ⟨vv, i, o, he⟩ hcs
 have e1 : isVarB h2 (.ptr b vv i o) = true := by simp only [isVarB, h2v]
 rw [if_pos e1]
 simp only [Option.bind_eq_some_iff, keepH] at hx ⊢
 obtain ⟨xs, h1, r, h3, hx⟩ := hx
 cases hx
 refine ⟨xs, ?_, _, h3, rfl⟩
 simp only [cellsAt, hcs] at h1
 simp only [cellsAt, h2v]
 exact h1
end
end Go.Am
