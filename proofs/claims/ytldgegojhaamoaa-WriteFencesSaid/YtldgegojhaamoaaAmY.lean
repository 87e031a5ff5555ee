/-
  The abstract machine: code.
-/
import Derived.Test.YtldgegojhaamoaaAmX
set_option linter.unusedSimpArgs false
set_option linter.unusedVariables false
namespace Go.Am

def AX.exit' : AX → Exit
  | .normal => .normal
  | .exit id => .exit id
  | .ret => .ret

/-- The places that a piece of code writes. -/
def wrC : AC → List Nat
  | .ops l => wr l
  | .seq a b => wrC a ++ wrC b
  | .cond _ x y => wrC x ++ wrC y
  | .block _ c => wrC c
  | .loop _ _ _ _ c => wrC c
  | _ => []

/-- Which code is meant. -/
def okCode (P : Program) (n : Nat) : Code → AC → Bool
  | .skip, .skip => true
  | .region _ ops draw, .ops l => okIts [] l && okAIs P n ops.toList ops.toList (flatten l none) && (!draw || okAny ops.toList (flatten l none))
  | .seq a b, .seq a' b' => okCode P n a a' && okCode P n b b'
  | .cond c x y, .cond c' x' y' => okO c c' && okCode P n x x' && okCode P n y y'
  | .block id c, .block id' c' => decide (id = id') && okCode P n c c'
  | .loop c, .loop _ wr own _ c' => okCode P n c c' && (wrC c').all (fun t => deadIn wr t) && own.all (fun p => decide (0 < p.2))
  | .exit id, .exit id' => decide (id = id')
  | .ret, .ret => true
  | _, _ => false

section
variable {P : Program} {Z : Nat → Prop} {Γ : Tab}

theorem wr_flatten : ∀ (l : IT) (g : Option (Nat × Bool)) (x : AI) (t : Nat), x ∈ flatten l g → x.dst = some t → t ∈ wr l
  | .nil, g, x, t, hx, _ => by cases hx
  | .op d o rest, g, x, t, hx, hd => by
    simp only [flatten, List.mem_cons] at hx
    simp only [wr, List.mem_append]
    rcases hx with rfl | hx
    · left; dsimp only at hd; subst hd; simp [optL]
    · exact .inr (wr_flatten rest g x t hx hd)
  | .sc d a c lo hi l r rest, g, x, t, hx, hd => by
    simp only [flatten, List.mem_append, List.mem_cons] at hx
    simp only [wr, List.mem_append, List.mem_cons]
    rcases hx with hx | rfl | hx
    · exact .inl (wr_flatten l _ x t hx hd)
    · right; left; dsimp only at hd; cases hd; rfl
    · exact .inr (.inr (wr_flatten rest g x t hx hd))

/-- A region. -/
theorem region_sound (hm : P.follows .mixedOrders = true) (hΓ : TabOK P Γ) {n : Nat} {id : Nat} {ops : Array Oper} {draw : Bool} {l : IT} (ok : okCode P n (.region id ops draw) (.ops l) = true)
    {s s' : St} (hi : its Γ l s = some s') {W : Nat → Bool} (hW : ∀ t ∈ wr l, W t = true) {a : Act} {w : World} {β : Bds} (R : Rel Z β s.h w) (E : EnvR Z β s.h w s.e a n) {Q : Exit → Act → World → Prop}
    (k : ∀ a' w' β', Rel Z β' s'.h w' → Fr Z β s.h w β' s'.h w' → EnvR Z β' s'.h w' s'.e a' n → Keeps W a a' → Q .normal a' w') : (Code.region id ops draw).wp P Q a w := by
  simp only [okCode, Bool.and_eq_true] at ok
  obtain ⟨⟨ok1, ok2⟩, ok3⟩ := ok
  obtain ⟨s1, h1, h2, h3, h4, _⟩ := its_flat Γ l [] none s s' s ok1 (fun c a h => by cases h) hi rfl (fun _ _ => rfl) (fun t ht => by simp [deadIn] at ht)
  have hWs : ∀ x ∈ flatten l none, ∀ t, x.dst = some t → W t = true := fun x hx t hd => hW t (wr_flatten l none x t hx hd)
  have k' : ∀ a' w' β', Rel Z β' s1.h w' → Fr Z β s.h w β' s1.h w' → EnvR Z β' s1.h w' s1.e a' n → Keeps W a a' → Q .normal a' w' := by
    intro a' w' β' R' F' E' K'
    rw [h2] at R' F' E'
    refine k a' w' β' R' F' ⟨E'.1, fun t => ?_⟩ K'
    cases hd : deadIn (kills l ++ []) t with
    | true => rw [h4 t hd]; exact .dead _
    | false => rw [← h3 t hd]; exact E'.2 t
  cases draw with
  | false => exact wp_region_list (flat_wp hΓ ops.toList (flatten l none) s s1 a w β ok2 hWs h1 R E k')
  | true =>
    simp only [Bool.not_true, Bool.false_or] at ok3
    exact flat_any hm hΓ hWs ok2 ok3 h1 R E k'

theorem pickExit_spec {ρ : Type} {e : Env} {k : AX → St → Option ρ} {ex : AX} {vs : List AV} {h : AH} {r : ρ} : ∀ (outs : List (AX × List Nat)), pickExit e k (ex, vs, h) outs = some r → k ex ⟨e.lay (outsOf ex outs) vs, h⟩ = some r
  | [], hp => by cases hp
  | (x, ts) :: l, hp => by
    simp only [pickExit] at hp
    simp only [outsOf]
    split at hp
    · rename_i he; subst he; rw [if_pos rfl]; exact hp
    · rename_i he; rw [if_neg he]; exact pickExit_spec l hp

theorem mem_zip_map {α β : Type} {f : α → β} : ∀ (l : List α) (p : α × β), p ∈ l.zip (l.map f) → p.2 = f p.1
  | [], p, h => by cases h
  | x :: l, p, h => by
    simp only [List.map_cons, List.zip_cons_cons, List.mem_cons] at h
    rcases h with rfl | h
    · rfl
    · exact mem_zip_map l p h

/-- Code does what is said. -/
theorem eval_sound (hm : P.follows .mixedOrders = true) (hΓ : TabOK P Γ) {n : Nat} : ∀ (c' : AC) (c : Code), okCode P n c c' = true → ∀ {V : Nat → Bool} {ρ : Type} {k : AX → St → Option ρ} {s : St} {r : ρ}, eval Γ c' V ρ k s = some r →
    ∀ {W : Nat → Bool}, (∀ t ∈ wrC c', W t = true) → ∀ {β : Bds} {a : Act} {w : World}, Rel Z β s.h w → EnvR Z β s.h w s.e a n → ∀ {Q : Exit → Act → World → Prop},
    (∀ x s' a' w' β', k x s' = some r → Rel Z β' s'.h w' → FrV V Z β s.h w β' s'.h w' → EnvR Z β' s'.h w' s'.e a' n → Keeps W a a' → Q x.exit' a' w') → c.wp P Q a w
  | .skip, c, ok, V, ρ, k, s, r, he, W, hW, β, a, w, R, E, Q, K => by
    cases c <;> first | (cases ok; done) | skip
    exact wp_skip (K .normal s a w β he R (Fr.refl _ _ _ _).toV E (Keeps.refl _ _))
  | .exit id, c, ok, V, ρ, k, s, r, he, W, hW, β, a, w, R, E, Q, K => by
    cases c <;> first | (cases ok; done) | skip
    rename_i id'
    have : id' = id := by simpa [okCode] using ok
    subst this
    exact wp_exit (K (.exit id') s a w β he R (Fr.refl _ _ _ _).toV E (Keeps.refl _ _))
  | .ret, c, ok, V, ρ, k, s, r, he, W, hW, β, a, w, R, E, Q, K => by
    cases c <;> first | (cases ok; done) | skip
    exact wp_ret (K .ret s a w β he R (Fr.refl _ _ _ _).toV E (Keeps.refl _ _))
  | .ops l, c, ok, V, ρ, k, s, r, he, W, hW, β, a, w, R, E, Q, K => by
    cases c <;> first | (cases ok; done) | skip
    simp only [eval, Option.bind_eq_some_iff] at he
    obtain ⟨s', hi, he⟩ := he
    exact region_sound hm hΓ ok hi hW R E fun a' w' β' R' F' E' K' => K .normal s' a' w' β' he R' F'.toV E' K'
  | .seq x y, c, ok, V, ρ, k, s, r, he, W, hW, β, a, w, R, E, Q, K => by
    cases c <;> first | (cases ok; done) | skip
    simp only [okCode, Bool.and_eq_true] at ok
    simp only [wrC, List.mem_append] at hW
    simp only [eval] at he
    refine wp_seq (eval_sound hm hΓ x _ ok.1 he (fun t ht => hW t (.inl ht)) R E fun ex s' a' w' β' hk R' F' E' K' => ?_)
    cases ex with
    | normal => exact eval_sound hm hΓ y _ ok.2 hk (fun t ht => hW t (.inr ht)) R' E' fun ex s'' a'' w'' β'' hk' R'' F'' E'' K'' => K ex s'' a'' w'' β'' hk' R'' (F'.trans F'') E'' (K'.trans K'')
    | exit id => exact K (.exit id) s' a' w' β' hk R' F' E' K'
    | ret => exact K .ret s' a' w' β' hk R' F' E' K'
  | .cond x y z, c, ok, V, ρ, k, s, r, he, W, hW, β, a, w, R, E, Q, K => by
    cases c <;> first | (cases ok; done) | skip
    simp only [okCode, Bool.and_eq_true] at ok
    simp only [wrC, List.mem_append] at hW
    simp only [eval] at he
    have v1 := okO_rel E ok.1.1
    split at he
    · rename_i b hb
      rw [hb] at v1
      refine wp_cond v1.bool_inv ?_
      split at he
      · rename_i hb; subst hb
        rw [if_pos rfl]
        exact eval_sound hm hΓ y _ ok.1.2 he (fun t ht => hW t (.inl ht)) R E K
      · rename_i hb
        rw [if_neg hb]
        exact eval_sound hm hΓ z _ ok.2 he (fun t ht => hW t (.inr ht)) R E K
    · cases he
  | .block id x, c, ok, V, ρ, k, s, r, he, W, hW, β, a, w, R, E, Q, K => by
    cases c <;> first | (cases ok; done) | skip
    simp only [okCode, Bool.and_eq_true, decide_eq_true_eq] at ok
    obtain ⟨rfl, ok⟩ := ok
    simp only [eval] at he
    refine wp_block (eval_sound hm hΓ x _ ok he hW R E fun ex s' a' w' β' hk R' F' E' K' => ?_)
    cases ex with
    | normal => exact K .normal s' a' w' β' hk R' F' E' K'
    | ret => exact K .ret s' a' w' β' hk R' F' E' K'
    | exit i =>
      show if i = _ then Q .normal a' w' else Q (.exit i) a' w'
      dsimp only at hk
      split at hk
      · rename_i hi; rw [if_pos hi]; exact K .normal s' a' w' β' hk R' F' E' K'
      · rename_i hi; rw [if_neg hi]; exact K (.exit i) s' a' w' β' hk R' F' E' K'
  | .loop keep wrs own outs x, c, ok, V, ρ, k, s, r, he, W, hW, β, a, w, R, E, Q, K => by
    cases c <;> first | (cases ok; done) | skip
    rename_i body
    simp only [okCode, Bool.and_eq_true] at ok
    obtain ⟨⟨ok1, ok2⟩, ok3⟩ := ok
    simp only [wrC] at hW
    simp only [eval] at he
    obtain ⟨β1, R1, F1, E1⟩ := preOwn_rel own s β ok3 R E
    generalize hpre : preOwn own s = pre at he R1 F1 E1
    generalize hL : pre.h.length = L at he
    generalize hR : rowsOf pre.e own = RR at he
    split at he
    · rename_i hV
      simp only [Option.bind_eq_some_iff] at he
      obtain ⟨⟨ex, vals, hx⟩, hit, hpick⟩ := he
      have hk := pickExit_spec outs hpick
      obtain ⟨m, hm'⟩ := N_of_iter hit
      generalize he1 : (baseEnv RR pre.e).killR wrs = e1 at hm' hk
      -- what does not change
      have base : ∀ {β' : Bds} {h' : AH} {w' : World} {a' : Act}, FrV (volIn RR L) Z β1 pre.h w β' h' w' → Keeps (fun t => (wrC x).contains t) a a' → ∀ t, VR β' (Own Z β' h') w' (e1 t) (a'.tmps.getD t Go.undef) := by
        intro β' h' w' a' F' K' t
        rw [← he1]
        unfold Env.killR
        split
        · exact .dead _
        · rename_i hd
          have hnt : (wrC x).contains t = false := by
            cases hc : (wrC x).contains t with
            | false => rfl
            | true =>
              have := List.all_eq_true.1 ok2 t (by simpa using hc)
              exact absurd this hd
          rw [K'.same t hnt]
          refine baseEnv_rel (fun i v bd hi hb => F'.ext i v bd ?_ hb) F'.stay (E1.2 t)
          unfold volIn
          rw [hi, Bool.false_or, decide_eq_false_iff_not, ← hL]
          intro hle
          rw [R1.fresh i v hle] at hb
          cases hb
      have out : ∀ {β' : Bds} {h' : AH} {w' : World}, FrV (volIn RR L) Z β1 pre.h w β' h' w' → FrV V Z β s.h w β' h' w' := by
        intro β' h' w' F'
        refine ⟨F'.xkeep, F'.os, F'.tape, F'.output, fun i v bd hv hb => F'.ext i v bd ?_ (F1.ext i v bd hb), F1.stay.trans F'.stay⟩
        unfold volIn
        rw [Bool.or_eq_false_iff]
        constructor
        · cases hc : RR.contains i with
          | false => rfl
          | true =>
            have := List.all_eq_true.1 hV i (by simpa using hc)
            rw [hv] at this; cases this
        · rw [decide_eq_false_iff_not, ← hL]
          intro hle
          have h1 := F1.ext i v bd hb
          rw [R1.fresh i v hle] at h1
          cases h1
      have keepW : ∀ {a' : Act}, Keeps (fun t => (wrC x).contains t) a a' → Keeps W a a' := by
        intro a' K'
        refine ⟨K'.defers, fun t ht => K'.same t ?_⟩
        cases hc : (wrC x).contains t with
        | false => rfl
        | true =>
          have := hW t (by simpa using hc)
          rw [ht] at this; cases this
      have rounds : ∀ (m : Nat) (vs : List AV) (h : AH), iterN (fun y : List AV × AH => eval Γ x (volIn RR L) ((List AV × AH) ⊕ (AX × List AV × AH)) (fun ex s' => match ex with
            | .normal => some (.inl (head L RR keep s'))
            | ex => some (.inr (ex, (outsOf ex outs).map s'.e, s'.h))) ⟨e1.lay keep y.1, y.2⟩) m (vs, h) = some (ex, vals, hx) →
          ∀ (β' : Bds) (a' : Act) (w' : World), Rel Z β' h w' → FrV (volIn RR L) Z β1 pre.h w β' h w' → a'.tmps.size = n → Keeps (fun t => (wrC x).contains t) a a' →
          (∀ p ∈ keep.zip vs, VR β' (Own Z β' h) w' p.2 (a'.tmps.getD p.1 Go.undef)) → Code.rounds P body Q m a' w' := by
        intro m
        induction m with
        | zero => intro vs h hi; cases hi
        | succ m ih =>
          intro vs h hi β' a' w' R' F' hn K' hvs
          rw [rounds_succ]
          have E' : EnvR Z β' h w' (e1.lay keep vs) a' n := ⟨hn, lay_rel (tm := fun t => a'.tmps.getD t Go.undef) (base F' K') keep vs hvs⟩
          simp only [iterN] at hi
          split at hi
          · cases hi
          · rename_i y hy
            obtain ⟨vs', h'⟩ := y
            refine eval_sound hm hΓ x body ok1 hy (W := fun t => (wrC x).contains t) (fun t ht => by simpa using ht) R' E' fun ex' s' a'' w'' β'' hk' R'' F'' E'' K'' => ?_
            cases ex' with
            | normal =>
              simp only [Option.some.injEq, Sum.inl.injEq, head, Prod.mk.injEq] at hk'
              obtain ⟨rfl, rfl⟩ := hk'
              refine ih _ _ hi _ a'' w'' (head_rel R'' L RR) ((F'.trans F'').trans head_frV) E''.1 (K'.trans K'') fun p hp => ?_
              rw [mem_zip_map keep p hp]
              exact normV_rel R'' L RR (E''.2 p.1)
            | exit id => simp at hk'
            | ret => simp at hk'
          · rename_i y hy
            cases hi
            refine eval_sound hm hΓ x body ok1 hy (W := fun t => (wrC x).contains t) (fun t ht => by simpa using ht) R' E' fun ex' s' a'' w'' β'' hk' R'' F'' E'' K'' => ?_
            have fin : some (Sum.inr (α := List AV × AH) (ex', (outsOf ex' outs).map s'.e, s'.h)) = some (.inr (ex, vals, hx)) → Q ex'.exit' a'' w'' := by
              intro hq
              simp only [Option.some.injEq, Sum.inr.injEq, Prod.mk.injEq] at hq
              obtain ⟨rfl, rfl, rfl⟩ := hq
              have F3 := F'.trans F''
              have K3 := K'.trans K''
              refine K ex' _ a'' w'' β'' hk R'' (out F3) ⟨E''.1, lay_rel (tm := fun t => a''.tmps.getD t Go.undef) (base F3 K3) _ _ fun p hp => ?_⟩ (keepW K3)
              rw [mem_zip_map _ p hp]
              exact E''.2 p.1
            cases ex' with
            | normal => simp at hk'
            | exit id => exact fin hk'
            | ret => exact fin hk'
      refine wp_loop_rounds m (rounds m _ _ hm' (bdH β1 pre.h L RR) a w (head_rel R1 L RR) head_frV E1.1 (Keeps.refl _ _) fun p hp => ?_)
      rw [mem_zip_map keep p hp]
      exact normV_rel R1 L RR (E1.2 p.1)
    · cases he
end
end Go.Am
