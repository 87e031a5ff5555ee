/-
 The abstract machine: code in a round of a range over a function.
-/
import Derived.Test.YtgefdmkmobaefaaAmGU
import Derived.OrdersIn
import Derived.TacticsIn
import Derived.LoopNIn
import Derived.RangeFuncCalls
set_option linter.unusedSimpArgs false
set_option linter.unusedVariables false
namespace Go.Am
section
variable {P : Program} {Z : Nat → Prop} {Γ : Tab} {xs : List AI} {w : World}
theorem rows_in {l m : Nat} {row : String} {args : Array Value} {R : Value → World → Prop} (h : Rows P row args w R) : RowsIn (Fence.wide.inRound l) m P row args w R := by
 intro c cs _
 obtain ⟨v, w', r, s⟩ := h c cs
 exact ⟨v, w', r, stepsIn_wide.2 s⟩
theorem oper_in {l m : Nat} {o : Oper} (hd : ∀ c, o.op ≠ .defer c) {a : Act} {next : Act → World → Prop} {Q : Exit → Act → World → Prop} (h : o.wp P a w next Q) : o.wpIn (Fence.wide.inRound l) m P a w next Q := by
 refine ⟨fun _ _ => trivial, ?_⟩
 have e : o.semAt (Fence.wide.inRound l).round a.eval = execOp a.eval o := Oper.semAt_some l _ _ hd
 rw [e]
 unfold Oper.wp at h
 generalize (execOp a.eval o).run P w = r at h
 unfold Oper.upon at h
 unfold Oper.uponIn
 split at h
 ·exact h
 ·exact h
 ·exact h
 ·exact ⟨fun h => by simp [Fence.wide, Fence.inRound] at h, CallsIn.inRound l (callsIn_wide.2 h)⟩
 ·exact ⟨fun h => by simp [Fence.wide, Fence.inRound] at h, rows_in h⟩
 ·exact h
 ·exact h.elim
theorem oper_wp_mono {o : Oper} {a : Act} {K K' : Act → World → Prop} {Q : Exit → Act → World → Prop} (h : o.wp P a w K Q) (hk : ∀ a w, K a w → K' a w) : o.wp P a w K' Q := Oper.wp_mono hk h
theorem list_in {l m : Nat} {ops : Array Oper} {Q : Exit → Act → World → Prop} (hQ : ¬ LetsOut Q) : ∀ (os : List Oper) (_ : ∀ o ∈ os, ∀ c, o.op ≠ .defer c) (a : Act) (w : World), wpList P ops Q os a w → wpListIn (Fence.wide.inRound l) m P ops Q os a w
 | [], _, a, w, h => h
 | o :: os, hd, a, w, h => by
  have ih := list_in (l := l) (m := m) (ops := ops) hQ os (fun x hx => hd x (by simp [hx]))
  unfold wpList at h
  unfold wpListIn
  split at h
  ·rename_i hw
   rw [if_pos hw]
   rcases h with h | ⟨_, h⟩
   ·exact oper_in (hd o (by simp)) (oper_wp_mono h ih)
   ·exact absurd h hQ
  ·rename_i hw
   rw [if_neg hw]
   exact ⟨fun _ _ => trivial, ih _ _ h⟩
theorem any_in {l m : Nat} {ops : Array Oper} {Q : Exit → Act → World → Prop} (hd : ∀ o ∈ ops.toList, ∀ c, o.op ≠ .defer c) (hQ : ¬ LetsOut Q) : ∀ (fuel : Nat) (S : Array Bool) (a : Act) (w : World), wpAny P .any ops Q fuel S a w → wpAnyIn (Fence.wide.inRound l) m P .any ops Q fuel S a w
 | 0, S, a, w, h => h
 | n + 1, S, a, w, h => by
  refine ⟨h.1, fun i hi => ?_⟩
  have h2 := h.2 i hi
  unfold wpOp at h2
  unfold wpOpIn
  cases ho : ops[i]? with
  | none => rw [ho] at h2; exact any_in hd hQ n _ a w h2
  | some o =>
   rw [ho] at h2
   simp only at h2 ⊢
   split at h2
   ·rename_i hw
    rw [if_pos hw]
    rcases h2 with h2 | ⟨_, h2⟩
    ·exact oper_in (hd o (by
      rw [Array.getElem?_eq_some_iff] at ho
      obtain ⟨h1, h2⟩ := ho
      rw [← h2]; simp)) (oper_wp_mono h2 fun a w => any_in hd hQ n _ a w)
    ·exact absurd h2 hQ
   ·rename_i hw
    rw [if_neg hw]
    exact ⟨fun _ _ => trivial, any_in hd hQ n _ _ w h2⟩
def notDefer : Op → Bool
 | .defer _ => false
 | _ => true
theorem notDefer_ne {op : Op} (h : notDefer op = true) : ∀ c, op ≠ .defer c := by
 rintro c rfl
 cases h
def ndC : Code → Bool
 | .scope _ => false
 | .region _ ops _ => ops.toList.all fun o => notDefer o.op
 | .seq a b => ndC a && ndC b
 | .cond _ x y => ndC x && ndC y
 | .block _ c => ndC c
 | .loop c => ndC c
 | _ => true
theorem flat_anyIn {l m : Nat} (hm : P.follows .mixedOrders = true) (hΓ : TabOK P Γ) {W : Nat → Bool} (hWs : ∀ x ∈ xs, ∀ t, x.dst = some t → W t = true) {n : Nat} {ops : Array Oper} {Q : Exit → Act → World → Prop} (ok : okAIs P n ops.toList ops.toList xs = true) (oka : okAny ops.toList xs = true)
  {s s' : St} (hf : flat Γ xs s = some s') {a : Act} {w : World} {β : Bds} (R : Rel Z β s.h w) (E : EnvR Z β s.h w s.e a n) {id : Nat}
  (k : ∀ a' w' β', Rel Z β' s'.h w' → Fr Z β s.h w β' s'.h w' → EnvR Z β' s'.h w' s'.e a' n → Keeps W a a' → Q .normal a' w') (hQ : ¬ LetsOut Q) (hnd : ∀ o ∈ ops.toList, ∀ c, o.op ≠ .defer c) : (Code.region id ops true).wpIn (Fence.wide.inRound l) m P Q a w := by
 unfold okAny at oka
 simp only [Bool.and_eq_true] at oka
 obtain ⟨f, val, f0, fn, hk⟩ := lex_run xs s s' hf
 have F1 : Fr Z β s.h w β s.h { w with drawn := w.drawn + 1 } := ⟨fun _ _ _ => rfl, rfl, rfl, rfl, fun _ _ _ e => e, Stay.drew (Stay.refl _ _)⟩
 have R1 : Rel Z β s.h { w with drawn := w.drawn + 1 } := (R.drawn _).1
 refine wpIn_region_any hm (any_in hnd hQ _ _ _ _ (flat_any_go hΓ hWs ok oka.1 oka.2 f0 fn hk (β0 := β) (w0 := w) (a0 := a) k ops.size (Array.replicate ops.size false) a _ β 0 (by simp) (by simp) (Nat.zero_le _) ?_ ?_ (by rw [f0]; exact R1) (by rw [f0]; exact F1) ?_ (Keeps.refl W a)))
 ·intro j i hj
  simp [Array.getElem?_replicate] at hj
  split at hj <;> simp at hj
 ·intro j x hx hr
  constructor
  ·intro h; omega
  ·intro h
   simp [Array.getElem?_replicate] at h
   split at h <;> simp at h
 ·rw [f0]
  have : (eS xs val s.e fun j => (Array.replicate ops.size false).getD j false) = s.e := by
   funext t
   refine eS_not fun j x _ _ => ?_
   simp [Array.getElem?_replicate]
   split <;> simp
  rw [this]
  exact E.fr F1
theorem region_soundIn {lr m : Nat} (hm : P.follows .mixedOrders = true) (hΓ : TabOK P Γ) {n : Nat} {id : Nat} {ops : Array Oper} {draw : Bool} {l : IT} (ok : okCode P n (.region id ops draw) (.ops l) = true) (nd : ndC (.region id ops draw) = true)
  {s s' : St} (hi : its Γ l s = some s') {W : Nat → Bool} (hW : ∀ t ∈ wr l, W t = true) {a : Act} {w : World} {β : Bds} (R : Rel Z β s.h w) (E : EnvR Z β s.h w s.e a n) {Q : Exit → Act → World → Prop}
  (k : ∀ a' w' β', Rel Z β' s'.h w' → Fr Z β s.h w β' s'.h w' → EnvR Z β' s'.h w' s'.e a' n → Keeps W a a' → Q .normal a' w') : (Code.region id ops draw).wpIn (Fence.wide.inRound lr) m P Q a w := by
 refine wpIn_mono (Q := fun x a w => x = .normal ∧ Q .normal a w) ?_ (fun e a w h => h.1 ▸ h.2)
 have hQ : ¬ LetsOut (fun x a w => x = Exit.normal ∧ Q .normal a w) := fun ⟨_, _, h, _⟩ => by cases h
 simp only [okCode, Bool.and_eq_true] at ok
 obtain ⟨⟨ok1, ok2⟩, ok3⟩ := ok
 obtain ⟨s1, h1, h2, h3, h4, _⟩ := its_flat Γ l [] none s s' s ok1 (fun c a h => by cases h) hi rfl (fun _ _ => rfl) (fun t ht => by simp [deadIn] at ht)
 have hWs : ∀ x ∈ flatten l none, ∀ t, x.dst = some t → W t = true := fun x hx t hd => hW t (wr_flatten l none x t hx hd)
 have k' : ∀ a' w' β', Rel Z β' s1.h w' → Fr Z β s.h w β' s1.h w' → EnvR Z β' s1.h w' s1.e a' n → Keeps W a a' → Q .normal a' w' := by
  intro a' w' β' R' F' E' K'
  rw [h2] at R' F' E'
  refine k a' w' β' R' F' ⟨E'.1, fun t => ?_⟩ K'
  cases hd : deadIn (kills l ++ []) t with
  | true => rw [h4 t hd]; exact .dead _
  | false => rw [← h3 t hd]; exact E'.2 t
 have hnd : ∀ o ∈ ops.toList, ∀ c, o.op ≠ .defer c := fun o ho => notDefer_ne (List.all_eq_true.1 nd o ho)
 have k'' : ∀ a' w' β', Rel Z β' s1.h w' → Fr Z β s.h w β' s1.h w' → EnvR Z β' s1.h w' s1.e a' n → Keeps W a a' → (fun x a w => x = Exit.normal ∧ Q .normal a w) Exit.normal a' w' := fun a' w' β' h1 h2 h3 h4 => ⟨rfl, k' a' w' β' h1 h2 h3 h4⟩
 cases draw with
 | false => exact wpIn_region_list (list_in hQ ops.toList hnd _ _ (flat_wp hΓ ops.toList (flatten l none) s s1 a w β ok2 hWs h1 R E k''))
 | true =>
  simp only [Bool.not_true, Bool.false_or] at ok3
  exact flat_anyIn hm hΓ hWs ok2 ok3 h1 R E k'' hQ hnd
theorem eval_soundIn {lr m0 : Nat} (hm : P.follows .mixedOrders = true) (hΓ : TabOK P Γ) {n : Nat} : ∀ (c' : AC) (c : Code), okCode P n c c' = true → ndC c = true → ∀ {V : Nat → Bool} {ρ : Type} {k : AX → St → Option ρ} {s : St} {r : ρ}, eval Γ c' V ρ k s = some r →
  ∀ {W : Nat → Bool}, (∀ t ∈ wrC c', W t = true) → ∀ {β : Bds} {a : Act} {w : World}, Rel Z β s.h w → EnvR Z β s.h w s.e a n → ∀ {Q : Exit → Act → World → Prop},
  (∀ x s' a' w' β', k x s' = some r → Rel Z β' s'.h w' → FrV V Z β s.h w β' s'.h w' → EnvR Z β' s'.h w' s'.e a' n → Keeps W a a' → Q x.exit' a' w') → c.wpIn (Fence.wide.inRound lr) m0 P Q a w
 | .skip, c, ok, nd, V, ρ, k, s, r, he, W, hW, β, a, w, R, E, Q, K => by
  cases c <;> first | (cases ok; done) | exact wpIn_skip (K .normal s a w β he R (Fr.refl _ _ _ _).toV E (Keeps.refl _ _)) | exact wpIn_label (K .normal s a w β he R (Fr.refl _ _ _ _).toV E (Keeps.refl _ _))
 | .exit id, c, ok, nd, V, ρ, k, s, r, he, W, hW, β, a, w, R, E, Q, K => by
  cases c <;> first | (cases ok; done) | skip
  rename_i id'
  have : id' = id := by simpa [okCode] using ok
  subst this
  exact wpIn_exit (K (.exit id') s a w β he R (Fr.refl _ _ _ _).toV E (Keeps.refl _ _))
 | .ret, c, ok, nd, V, ρ, k, s, r, he, W, hW, β, a, w, R, E, Q, K => by
  cases c <;> first | (cases ok; done) | skip
  exact wpIn_ret (K .ret s a w β he R (Fr.refl _ _ _ _).toV E (Keeps.refl _ _))
 | .scope x, c, ok, nd, V, ρ, k, s, r, he, W, hW, β, a, w, R, E, Q, K => by
  cases c <;> first | (cases ok; done) | (cases nd; done)
 | .ops l, c, ok, nd, V, ρ, k, s, r, he, W, hW, β, a, w, R, E, Q, K => by
  cases c <;> first | (cases ok; done) | skip
  simp only [eval, Option.bind_eq_some_iff] at he
  obtain ⟨s', hi, he⟩ := he
  exact region_soundIn hm hΓ ok nd hi hW R E fun a' w' β' R' F' E' K' => K .normal s' a' w' β' he R' F'.toV E' K'
 | .seq x y, c, ok, nd, V, ρ, k, s, r, he, W, hW, β, a, w, R, E, Q, K => by
  cases c <;> first | (cases ok; done) | skip
  simp only [okCode, Bool.and_eq_true] at ok
  simp only [ndC, Bool.and_eq_true] at nd
  simp only [wrC, List.mem_append] at hW
  simp only [eval] at he
  refine wpIn_seq (eval_soundIn hm hΓ x _ ok.1 nd.1 he (fun t ht => hW t (.inl ht)) R E fun ex s' a' w' β' hk R' F' E' K' => ?_)
  cases ex with
  | normal => exact eval_soundIn hm hΓ y _ ok.2 nd.2 hk (fun t ht => hW t (.inr ht)) R' E' fun ex s'' a'' w'' β'' hk' R'' F'' E'' K'' => K ex s'' a'' w'' β'' hk' R'' (F'.trans F'') E'' (K'.trans K'')
  | exit id => exact K (.exit id) s' a' w' β' hk R' F' E' K'
  | ret => exact K .ret s' a' w' β' hk R' F' E' K'
 | .cond x y z, c, ok, nd, V, ρ, k, s, r, he, W, hW, β, a, w, R, E, Q, K => by
  cases c <;> first | (cases ok; done) | skip
  simp only [okCode, Bool.and_eq_true] at ok
  simp only [ndC, Bool.and_eq_true] at nd
  simp only [wrC, List.mem_append] at hW
  simp only [eval] at he
  have v1 := okO_rel E ok.1.1
  split at he
  ·rename_i b hb
   rw [hb] at v1
   refine wpIn_cond v1.bool_inv ?_
   split at he
   ·rename_i hb; subst hb
    rw [if_pos rfl]
    exact eval_soundIn hm hΓ y _ ok.1.2 nd.1 he (fun t ht => hW t (.inl ht)) R E K
   ·rename_i hb
    rw [if_neg hb]
    exact eval_soundIn hm hΓ z _ ok.2 nd.2 he (fun t ht => hW t (.inr ht)) R E K
  ·cases he
 | .block id x, c, ok, nd, V, ρ, k, s, r, he, W, hW, β, a, w, R, E, Q, K => by
  cases c <;> first | (cases ok; done) | skip
  simp only [okCode, Bool.and_eq_true, decide_eq_true_eq] at ok
  obtain ⟨rfl, ok⟩ := ok
  simp only [eval] at he
  refine wpIn_block (eval_soundIn hm hΓ x _ ok nd he hW R E fun ex s' a' w' β' hk R' F' E' K' => ?_)
  cases ex with
  | normal => exact K .normal s' a' w' β' hk R' F' E' K'
  | ret => exact K .ret s' a' w' β' hk R' F' E' K'
  | exit i =>
   show if i = _ then Q .normal a' w' else Q (.exit i) a' w'
   dsimp only at hk
   split at hk
   ·rename_i hi; rw [if_pos hi]; exact K .normal s' a' w' β' hk R' F' E' K'
   ·rename_i hi; rw [if_neg hi]; exact K (.exit i) s' a' w' β' hk R' F' E' K'
 | .gho x g, c, ok, nd, V, ρ, k, s, r, he, W, hW, β, a, w, R, E, Q, K => by
  have ok' : okCode P n c x = true := by
   cases c <;> exact ok
  simp only [eval] at he
  refine eval_soundIn hm hΓ x c ok' nd he (fun t ht => hW t (by simpa [wrC] using ht)) R E fun ex s' a' w' β' hk R' F' E' K' => ?_
  cases ex with
  | exit id => exact K (.exit id) s' a' w' β' hk R' F' E' K'
  | normal =>
   simp only [Option.bind_eq_some_iff] at hk
   obtain ⟨s2, h1, h2⟩ := hk
   obtain ⟨R2, F2, E2⟩ := frzA_rel g R' E' h1
   exact K .normal s2 a' w' β' h2 R2 (F'.trans F2.toV) E2 K'
  | ret =>
   simp only [Option.bind_eq_some_iff] at hk
   obtain ⟨s2, h1, h2⟩ := hk
   obtain ⟨R2, F2, E2⟩ := frzA_rel g R' E' h1
   exact K .ret s2 a' w' β' h2 R2 (F'.trans F2.toV) E2 K'
 | .loopA ad keep wrs own outs x, c, ok, nd, V, ρ, k, s, r, he, W, hW, β, a, w, R, E, Q, K => by
  cases c <;> first | (cases ok; done) | skip
  rename_i body
  simp only [okCode, Bool.and_eq_true] at ok
  obtain ⟨⟨⟨ok1, ok2⟩, ok3⟩, ok4⟩ := ok
  simp only [wrC] at hW
  simp only [eval] at he
  obtain ⟨β0, R0, F0, E0⟩ := preOwn_rel own s β ok3 R E
  generalize hpre0 : preOwn own s = p0 at he R0 F0 E0
  obtain ⟨β1, R1, F01, E1⟩ := freshA_rel ad ok4 R0 E0
  have F1 := F0.trans F01
  generalize hpre : freshA ad p0 = pre at he R1 F01 F1 E1
  generalize hL : pre.h.length = L at he
  generalize hR0 : rowsOf pre.e own = RR0 at he
  generalize hR : tgt p0.h.length ad ++ RR0 = RR at he
  split at he
  ·rename_i hV
   simp only [Option.bind_eq_some_iff] at he
   obtain ⟨⟨ex, vals, hx⟩, hit, hpick⟩ := he
   have hk := pickExit_spec outs hpick
   obtain ⟨m, hm'⟩ := N_of_iter hit
   generalize he1 : (baseEnv RR pre.e).killR wrs = e1 at hm' hk
   -- what does not change
   have base : ∀ {β' : Bds} {h' : AH} {w' : World} {a' : Act}, FrV (volIn RR L) Z β1 pre.h w β' h' w' → Keeps (fun t => (wrC x).contains t) a a' → ∀ t, VR β' (Own Z β' h') w' (e1 t) (a'.tmps.getD t Go.undef) := by
    intro β' h' w' a' F' K' t
    rw [← he1]
    unfold Env.killR
    split
    ·exact .dead _
    ·rename_i hd
     have hnt : (wrC x).contains t = false := by
      cases hc : (wrC x).contains t with
      | false => rfl
      | true =>
       have := List.all_eq_true.1 ok2 t (by simpa using hc)
       exact absurd this hd
     rw [K'.same t hnt]
     refine baseEnv_rel (fun i v bd hi hb => F'.ext i v bd ?_ hb) F'.stay (E1.2 t)
     unfold volIn
     rw [hi, Bool.false_or, decide_eq_false_iff_not, ← hL]
     intro hle
     rw [R1.fresh i v hle] at hb
     cases hb
   have out : ∀ {β' : Bds} {h' : AH} {w' : World}, FrV (volIn RR L) Z β1 pre.h w β' h' w' → FrV V Z β s.h w β' h' w' := by
    intro β' h' w' F'
    refine ⟨F'.xkeep, F'.os, F'.tape, F'.output, fun i v bd hv hb => F'.ext i v bd ?_ (F1.ext i v bd hb), F1.stay.trans F'.stay⟩
    unfold volIn
    rw [Bool.or_eq_false_iff]
    constructor
    ·cases hc : RR.contains i with
     | false => rfl
     | true =>
      rw [← hR, List.contains_eq_mem, decide_eq_true_eq, List.mem_append] at hc
      rcases hc with hc | hc
      ·have hle := tgt_ge ad _ i (by simpa using hc)
       have h1 := F0.ext i v bd hb
       rw [R0.fresh i v hle] at h1
       cases h1
      ·have := List.all_eq_true.1 hV i hc
       rw [hv] at this; cases this
    ·rw [decide_eq_false_iff_not, ← hL]
     intro hle
     have h1 := F1.ext i v bd hb
     rw [R1.fresh i v hle] at h1
     cases h1
   have keepW : ∀ {a' : Act}, Keeps (fun t => (wrC x).contains t) a a' → Keeps W a a' := by
    intro a' K'
    refine ⟨K'.defers, fun t ht => K'.same t ?_⟩
    cases hc : (wrC x).contains t with
    | false => rfl
    | true =>
     have := hW t (by simpa using hc)
     rw [ht] at this; cases this
   have rounds : ∀ (m : Nat) (vs : List AV) (h : AH), iterN (fun y : List AV × AH => eval Γ x (volIn RR L) ((List AV × AH) ⊕ (AX × List AV × AH)) (fun ex s' => match ex with
      | .normal => some (.inl (head L RR keep (rebA p0.h.length ad s')))
      | ex => some (.inr (ex, (outsOf ex outs).map s'.e, s'.h))) ⟨e1.lay keep y.1, y.2⟩) m (vs, h) = some (ex, vals, hx) →
     ∀ (β' : Bds) (a' : Act) (w' : World), Rel Z β' h w' → FrV (volIn RR L) Z β1 pre.h w β' h w' → a'.tmps.size = n → Keeps (fun t => (wrC x).contains t) a a' →
     (∀ p ∈ keep.zip vs, VR β' (Own Z β' h) w' p.2 (a'.tmps.getD p.1 Go.undef)) → Code.roundsIn (Fence.wide.inRound lr) m0 P body Q m a' w' := by
    intro m
    induction m with
    | zero => intro vs h hi; cases hi
    | succ m ih =>
     intro vs h hi β' a' w' R' F' hn K' hvs
     rw [roundsIn_succ]
     have E' : EnvR Z β' h w' (e1.lay keep vs) a' n := ⟨hn, lay_rel (tm := fun t => a'.tmps.getD t Go.undef) (base F' K') keep vs hvs⟩
     simp only [iterN] at hi
     split at hi
     ·cases hi
     ·rename_i y hy
      obtain ⟨vs', h'⟩ := y
      refine eval_soundIn hm hΓ x body ok1 nd hy (W := fun t => (wrC x).contains t) (fun t ht => by simpa using ht) R' E' fun ex' s' a'' w'' β'' hk' R'' F'' E'' K'' => ?_
      cases ex' with
      | normal =>
       simp only [Option.some.injEq, Sum.inl.injEq, head, Prod.mk.injEq] at hk'
       obtain ⟨rfl, rfl⟩ := hk'
       obtain ⟨β3, R3, F3, E3⟩ := rebA_rel ad p0.h.length R'' E''
       refine ih _ _ hi _ a'' w'' (head_rel R3 L RR) (((F'.trans F'').trans F3.toV).trans head_frV) E3.1 (K'.trans K'') fun p hp => ?_
       rw [mem_zip_map keep p hp]
       exact normV_rel R3 L RR (E3.2 p.1)
      | exit id => simp at hk'
      | ret => simp at hk'
     ·rename_i y hy
      cases hi
      refine eval_soundIn hm hΓ x body ok1 nd hy (W := fun t => (wrC x).contains t) (fun t ht => by simpa using ht) R' E' fun ex' s' a'' w'' β'' hk' R'' F'' E'' K'' => ?_
      have fin : some (Sum.inr (α := List AV × AH) (ex', (outsOf ex' outs).map s'.e, s'.h)) = some (.inr (ex, vals, hx)) → Q ex'.exit' a'' w'' := by
       intro hq
       simp only [Option.some.injEq, Sum.inr.injEq, Prod.mk.injEq] at hq
       obtain ⟨rfl, rfl, rfl⟩ := hq
       have F3 := F'.trans F''
       have K3 := K'.trans K''
       refine K ex' _ a'' w'' β'' hk R'' (out F3) ⟨E''.1, lay_rel (tm := fun t => a''.tmps.getD t Go.undef) (base F3 K3) _ _ fun p hp => ?_⟩ (keepW K3)
       rw [mem_zip_map _ p hp]
       exact E''.2 p.1
      cases ex' with
      | normal => simp at hk'
      | exit id => exact fin hk'
      | ret => exact fin hk'
   refine wpIn_loop_rounds m (rounds m _ _ hm' (bdH β1 pre.h L RR) a w (head_rel R1 L RR) head_frV E1.1 (Keeps.refl _ _) fun p hp => ?_)
   rw [mem_zip_map keep p hp]
   exact normV_rel R1 L RR (E1.2 p.1)
  ·cases he
 | .loop keep wrs own outs x, c, ok, nd, V, ρ, k, s, r, he, W, hW, β, a, w, R, E, Q, K => by
  cases c <;> first | (cases ok; done) | skip
  rename_i body
  simp only [okCode, Bool.and_eq_true] at ok
  obtain ⟨⟨ok1, ok2⟩, ok3⟩ := ok
  simp only [wrC] at hW
  simp only [eval] at he
  obtain ⟨β1, R1, F1, E1⟩ := preOwn_rel own s β ok3 R E
  generalize hpre : preOwn own s = pre at he R1 F1 E1
  generalize hL : pre.h.length = L at he
  generalize hR : rowsOf pre.e own = RR at he
  split at he
  ·rename_i hV
   simp only [Option.bind_eq_some_iff] at he
   obtain ⟨⟨ex, vals, hx⟩, hit, hpick⟩ := he
   have hk := pickExit_spec outs hpick
   obtain ⟨m, hm'⟩ := N_of_iter hit
   generalize he1 : (baseEnv RR pre.e).killR wrs = e1 at hm' hk
   -- what does not change
   have base : ∀ {β' : Bds} {h' : AH} {w' : World} {a' : Act}, FrV (volIn RR L) Z β1 pre.h w β' h' w' → Keeps (fun t => (wrC x).contains t) a a' → ∀ t, VR β' (Own Z β' h') w' (e1 t) (a'.tmps.getD t Go.undef) := by
    intro β' h' w' a' F' K' t
    rw [← he1]
    unfold Env.killR
    split
    ·exact .dead _
    ·rename_i hd
     have hnt : (wrC x).contains t = false := by
      cases hc : (wrC x).contains t with
      | false => rfl
      | true =>
       have := List.all_eq_true.1 ok2 t (by simpa using hc)
       exact absurd this hd
     rw [K'.same t hnt]
     refine baseEnv_rel (fun i v bd hi hb => F'.ext i v bd ?_ hb) F'.stay (E1.2 t)
     unfold volIn
     rw [hi, Bool.false_or, decide_eq_false_iff_not, ← hL]
     intro hle
     rw [R1.fresh i v hle] at hb
     cases hb
   have out : ∀ {β' : Bds} {h' : AH} {w' : World}, FrV (volIn RR L) Z β1 pre.h w β' h' w' → FrV V Z β s.h w β' h' w' := by
    intro β' h' w' F'
    refine ⟨F'.xkeep, F'.os, F'.tape, F'.output, fun i v bd hv hb => F'.ext i v bd ?_ (F1.ext i v bd hb), F1.stay.trans F'.stay⟩
    unfold volIn
    rw [Bool.or_eq_false_iff]
    constructor
    ·cases hc : RR.contains i with
     | false => rfl
     | true =>
      have := List.all_eq_true.1 hV i (by simpa using hc)
      rw [hv] at this; cases this
    ·rw [decide_eq_false_iff_not, ← hL]
     intro hle
     have h1 := F1.ext i v bd hb
     rw [R1.fresh i v hle] at h1
     cases h1
   have keepW : ∀ {a' : Act}, Keeps (fun t => (wrC x).contains t) a a' → Keeps W a a' := by
    intro a' K'
    refine ⟨K'.defers, fun t ht => K'.same t ?_⟩
    cases hc : (wrC x).contains t with
    | false => rfl
    | true =>
     have := hW t (by simpa using hc)
     rw [ht] at this; cases this
   have rounds : ∀ (m : Nat) (vs : List AV) (h : AH), iterN (fun y : List AV × AH => eval Γ x (volIn RR L) ((List AV × AH) ⊕ (AX × List AV × AH)) (fun ex s' => match ex with
      | .normal => some (.inl (head L RR keep s'))
      | ex => some (.inr (ex, (outsOf ex outs).map s'.e, s'.h))) ⟨e1.lay keep y.1, y.2⟩) m (vs, h) = some (ex, vals, hx) →
     ∀ (β' : Bds) (a' : Act) (w' : World), Rel Z β' h w' → FrV (volIn RR L) Z β1 pre.h w β' h w' → a'.tmps.size = n → Keeps (fun t => (wrC x).contains t) a a' →
     (∀ p ∈ keep.zip vs, VR β' (Own Z β' h) w' p.2 (a'.tmps.getD p.1 Go.undef)) → Code.roundsIn (Fence.wide.inRound lr) m0 P body Q m a' w' := by
    intro m
    induction m with
    | zero => intro vs h hi; cases hi
    | succ m ih =>
     intro vs h hi β' a' w' R' F' hn K' hvs
     rw [roundsIn_succ]
     have E' : EnvR Z β' h w' (e1.lay keep vs) a' n := ⟨hn, lay_rel (tm := fun t => a'.tmps.getD t Go.undef) (base F' K') keep vs hvs⟩
     simp only [iterN] at hi
     split at hi
     ·cases hi
     ·rename_i y hy
      obtain ⟨vs', h'⟩ := y
      refine eval_soundIn hm hΓ x body ok1 nd hy (W := fun t => (wrC x).contains t) (fun t ht => by simpa using ht) R' E' fun ex' s' a'' w'' β'' hk' R'' F'' E'' K'' => ?_
      cases ex' with
      | normal =>
       simp only [Option.some.injEq, Sum.inl.injEq, head, Prod.mk.injEq] at hk'
       obtain ⟨rfl, rfl⟩ := hk'
       refine ih _ _ hi _ a'' w'' (head_rel R'' L RR) ((F'.trans F'').trans head_frV) E''.1 (K'.trans K'') fun p hp => ?_
       rw [mem_zip_map keep p hp]
       exact normV_rel R'' L RR (E''.2 p.1)
      | exit id => simp at hk'
      | ret => simp at hk'
     ·rename_i y hy
      cases hi
      refine eval_soundIn hm hΓ x body ok1 nd hy (W := fun t => (wrC x).contains t) (fun t ht => by simpa using ht) R' E' fun ex' s' a'' w'' β'' hk' R'' F'' E'' K'' => ?_
      have fin : some (Sum.inr (α := List AV × AH) (ex', (outsOf ex' outs).map s'.e, s'.h)) = some (.inr (ex, vals, hx)) → Q ex'.exit' a'' w'' := by
       intro hq
       simp only [Option.some.injEq, Sum.inr.injEq, Prod.mk.injEq] at hq
       obtain ⟨rfl, rfl, rfl⟩ := hq
       have F3 := F'.trans F''
       have K3 := K'.trans K''
       refine K ex' _ a'' w'' β'' hk R'' (out F3) ⟨E''.1, lay_rel (tm := fun t => a''.tmps.getD t Go.undef) (base F3 K3) _ _ fun p hp => ?_⟩ (keepW K3)
       rw [mem_zip_map _ p hp]
       exact E''.2 p.1
      cases ex' with
      | normal => simp at hk'
      | exit id => exact fin hk'
      | ret => exact fin hk'
   refine wpIn_loop_rounds m (rounds m _ _ hm' (bdH β1 pre.h L RR) a w (head_rel R1 L RR) head_frV E1.1 (Keeps.refl _ _) fun p hp => ?_)
   rw [mem_zip_map keep p hp]
   exact normV_rel R1 L RR (E1.2 p.1)
  ·cases he
end
end Go.Am
