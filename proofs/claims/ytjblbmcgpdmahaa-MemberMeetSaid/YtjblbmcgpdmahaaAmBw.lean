/-
  slices.Backward gives a row's elements, the last first.
-/
import Derived.Test.YtjblbmcgpdmahaaAmRfA
import Derived.Test.YtjblbmcgpdmahaaAmPe
set_option linter.unusedSimpArgs false
set_option linter.unusedVariables false
namespace Go.Am.Bw
open Go.Am Go.RowKit Go.Am.Nm

/-! The text's pieces. -/
def r0 : AC := .ops (.op (some 4) (.loadr 1 false (.t 1)) (.op (some 5) (.len false (.t 4)) (.op (some 6) (.bin .sub (.t 5) (.c (.int .i64 1))) (.op (some 3) (.mv (.t 6)) (.nil)))))
def b0 : AC := .seq (.ops (.op (some 7) (.mv (.t 3)) (.op (some 8) (.bin .geq (.t 7) (.c (.int .i64 0))) (.nil))))
 (.cond (.t 8) (.skip) (.exit 0))
def l3 (sz : Nat) (agg : Bool) : List AI := [⟨some 11, none, .mv (.t 0)⟩, ⟨some 12, none, .mv (.t 3)⟩, ⟨some 13, none, .loadr 1 false (.t 1)⟩, ⟨some 14, none, .mv (.t 3)⟩, ⟨some 15, none, .iad sz (.t 13) (.t 14)⟩, ⟨some 16, none, .load sz agg (.t 15)⟩]
def l3b : List AI := [⟨some 18, none, .un .not (.t 17)⟩]
def r2 : AC := .ops (.op (some 9) (.mv (.t 3)) (.op (some 10) (.bin .sub (.t 9) (.c (.int .i64 1))) (.op (some 3) (.mv (.t 10)) (.nil))))

/-- Is it slices.Backward's inner function? -/
def bwOK (P : Program) (f : FuncId) (sz : Nat) (agg : Bool) : Bool := match P.funcs[f]? with
  | some fn => match fn.body with
    | some (.seq R0 (.block 0 (.loop (.seq B0 (.seq (.block 1 (.seq (.region _ ops3 false) (.cond (.tmp 18) .ret .skip))) R2))))) =>
      decide (fn.ntmps = 19) && (fn.name == "runtime.NumGoroutine") == false && fn.results.isEmpty && okCode P 19 R0 r0 && okCode P 19 B0 b0 && okCode P 19 R2 r2 &&
      (match ops3.toList with
        | [o1, o2, o3, o4, o5, o6, o7, o8] => okAIs P 19 [o1, o2, o3, o4, o5, o6, o7, o8] [o1, o2, o3, o4, o5, o6] (l3 sz agg) && okAIs P 19 [o1, o2, o3, o4, o5, o6, o7, o8] [o8] l3b && o7.guard.isNone &&
            decide (o7.dst = some 17) && (match o7.op with | .call { callee := .value (.tmp 11), args, argTypes := _ } => (match args.toList with | [.tmp 12, .tmp 16] => true | _ => false) | _ => false)
        | _ => false)
    | _ => false
  | none => false

section
variable {P : Program} {Γ : Tab}

/-- An element that is loaded whole. -/
def Whole (sz : Nat) (agg : Bool) (y : AV) : Prop := y.isE = true ∧ y.cells.length = sz ∧ shape sz agg y.cells = some y
theorem ev_r0 {V : Nat → Bool} {e : Env} {f : Bool} {es : List AV} (hl : es.length ≤ 9223372036854775807) (h1 : e 1 = .rptr [.lst f es]) : ∃ e', eval Γ r0 V (AX × St) (fun x s => some (x, s)) ⟨e, []⟩ = some (.normal, ⟨e', []⟩) ∧
    e' 0 = e 0 ∧ e' 1 = e 1 ∧ e' 3 = .int .i64 ((es.length : Int) - 1) := by
  refine ⟨(((e.put 4 (.lst f es)).put 5 (.int .i64 es.length)).put 6 (.int .i64 ((es.length : Int) - 1))).put 3 (.int .i64 ((es.length : Int) - 1)), ?_, rfl, rfl, rfl⟩
  simp -implicitDefEqProofs (disch := omega) [wrap_of, ilt_t, ilt_f, ile_t, ile_f, nlt_t, nlt_f, nle_t, nle_f, ieq_t, ieq_f, imin_l, imin_r, imax_l, imax_r, take_app1, take_map_all, r0, h1]
theorem ev_b0 {V : Nat → Bool} {e : Env} {k : Int} (h3 : e 3 = .int .i64 k) : eval Γ b0 V (AX × St) (fun x s => some (x, s)) ⟨e, []⟩ =
    some (if 0 ≤ k then .normal else .exit 0, ⟨(e.put 7 (.int .i64 k)).put 8 (.bool (decide (0 ≤ k))), []⟩) := by
  by_cases hp : 0 ≤ k <;> simp -implicitDefEqProofs (disch := omega) [wrap_of, ilt_t, ilt_f, ile_t, ile_f, nlt_t, nlt_f, nle_t, nle_f, ieq_t, ieq_f, imin_l, imin_r, imax_l, imax_r, take_app1, take_map_all, b0, h3, hp]
theorem ev_l3 {e : Env} {f : Bool} {es : List AV} {k sz : Nat} {agg : Bool} (hk : k < es.length) (hy : Whole sz agg es[k]) (h1 : e 1 = .rptr [.lst f es]) (h3 : e 3 = .int .i64 (k : Int)) :
    ∃ e', flat Γ (l3 sz agg) ⟨e, []⟩ = some ⟨e', []⟩ ∧ e' 0 = e 0 ∧ e' 1 = e 1 ∧ e' 3 = e 3 ∧ e' 11 = e 0 ∧ e' 12 = .int .i64 (k : Int) ∧ e' 16 = es[k] := by
  obtain ⟨y1, y2, y3⟩ := hy
  refine ⟨(((((e.put 11 (e 0)).put 12 (.int .i64 (k : Int))).put 13 (.lst f es)).put 14 (.int .i64 (k : Int))).put 15 (.rptr es[k].cells)).put 16 es[k], ?_, rfl, rfl, rfl, rfl, rfl, rfl⟩
  have hk' : es[k]? = some es[k] := List.getElem?_eq_getElem hk
  have hn : ((k : Int)).toNat = k := by omega
  simp [l3, flat, exec, h1, h3, AO.get, nat?, Env.put, St.put, cellsAt, hk', y2, y3, keepH]
theorem ev_r2 {V : Nat → Bool} {e : Env} {k : Nat} (hk : k ≤ 9223372036854775807) (h3 : e 3 = .int .i64 (k : Int)) :
    ∃ e', eval Γ r2 V (AX × St) (fun x s => some (x, s)) ⟨e, []⟩ = some (.normal, ⟨e', []⟩) ∧ e' 0 = e 0 ∧ e' 1 = e 1 ∧ e' 3 = .int .i64 ((k : Int) - 1) := by
  refine ⟨((e.put 9 (.int .i64 (k : Int))).put 10 (.int .i64 ((k : Int) - 1))).put 3 (.int .i64 ((k : Int) - 1)), ?_, rfl, rfl, rfl⟩
  simp -implicitDefEqProofs (disch := omega) [wrap_of, ilt_t, ilt_f, ile_t, ile_f, nlt_t, nlt_f, nle_t, nle_f, ieq_t, ieq_f, imin_l, imin_r, imax_l, imax_r, take_app1, take_map_all, r2, h3]


section
variable (w : World) (Kb : Nat → Prop) (c : Nat)
/-- The box that holds the row. -/
def BoxL (f : Bool) (es : List AV) (W : World) : Prop := c < w.heap.size ∧ Kb c ∧ w.heap.size ≤ W.heap.size ∧ ∃ sv elem, W.heap[c]? = some (.cells #[sv] elem (0, 0)) ∧ PVR (ON w Kb W) W (.lst f es) sv
end
variable {w : World} {Kb : Nat → Prop} {c : Nat} {f : Bool} {es : List AV}
theorem own_n {O : Nat → Prop} (b : Nat) : Own O (fun _ _ => none) [] b ↔ O b := by
  constructor
  · rintro (h | ⟨k, X, hX, _⟩)
    · exact h
    · simp at hX
  · exact .inl
theorem rel_n (W : World) : Rel (ON w Kb W) (fun _ _ => none) [] W :=
  ⟨fun _ h => h.1, fun i c ho => by obtain ⟨X, hX, _⟩ := ho; simp at hX, fun _ _ _ => rfl, fun i v sz es v' hX => by simp at hX, fun i X hX => by simp at hX, fun i j c ho => by obtain ⟨X, hX, _⟩ := ho; simp at hX⟩
theorem not_on {W : World} {b : Nat} (hlt : b < W.heap.size) (h : ¬ ON w Kb W b) : b < w.heap.size ∧ Kb b := by
  by_cases hq : b < w.heap.size ∧ Kb b
  · exact hq
  · exact absurd ⟨hlt, hq⟩ h
theorem box_step {W W' : World} (hb : BoxL w Kb c f es W) (hs : W.heap.size ≤ W'.heap.size) (hk : ∀ b, b < w.heap.size → Kb b → W'.heap[b]? = W.heap[b]?) : BoxL w Kb c f es W' := by
  obtain ⟨h1, h2, h3, sv, elem, h4, h5⟩ := hb
  refine ⟨h1, h2, by omega, sv, elem, (hk c h1 h2).trans h4, h5.mono ⟨hs, fun b hb hn => ?_⟩⟩
  obtain ⟨q1, q2⟩ := not_on hb hn
  exact ⟨hk b q1 q2, fun ho => ho.2 ⟨q1, q2⟩⟩
theorem box_rptr {W : World} (hb : BoxL w Kb c f es W) {β : Bds} {O : Nat → Prop} (hO : ∀ b, O b ↔ ON w Kb W b) : VR β O W (.rptr [.lst f es]) (.pointer (some ⟨c, 0, none⟩)) := by
  obtain ⟨h1, h2, h3, sv, elem, h4, h5⟩ := hb
  refine .rptr [.lst f es] c 0 (fun _ => sv) (fun h => ((hO c).1 h).2 ⟨h1, h2⟩) (by omega) (fun j y hy => ?_) (fun j y hy => ?_) (fun j y hy => ?_)
  all_goals
    have hj : j = 0 := by
      cases j with
      | zero => rfl
      | succ j => simp at hy
    subst hj
    simp only [List.getElem?_cons_zero, Option.some.injEq] at hy
    subst hy
  · simp [World.cell?, h4]
  · cases h5; rfl
  · exact h5.mono ⟨Nat.le_refl _, fun b _ hn => ⟨rfl, fun h => hn ((hO b).1 h)⟩⟩

/-- What the iterator's places hold. -/
def eH (l : Nat) (f : Bool) (es : List AV) (k : Int) : Env := fun t => if t = 0 then .fn (.yield l) [] [] else if t = 1 then .rptr [.lst f es] else if t = 3 then .int .i64 k else .dead
structure HeadB (l c : Nat) (k : Int) (a : Act) : Prop where
  size : a.tmps.size = 19
  yld : a.tmps.getD 0 undef = .func (.yield l) #[] #[]
  box : a.tmps.getD 1 undef = .pointer (some ⟨c, 0, none⟩)
  at_ : a.tmps.getD 3 undef = .int .i64 k
  defers : a.defers = []
theorem at_headB {l : Nat} {k : Int} {a : Act} {W : World} (H : HeadB l c k a) (hb : BoxL w Kb c f es W) : At 19 (ON w Kb W) (fun _ _ => none) [] W (ON w Kb W) [] ⟨eH l f es k, []⟩ a (fun _ _ => none) W := by
  refine ⟨rel_n W, fun _ _ _ => rfl, rfl, rfl, rfl, fun _ _ _ e => e, Stay.refl _ _, ⟨H.size, fun t => ?_⟩, H.defers, fun _ h => h⟩
  show VR _ _ _ (if t = 0 then .fn (.yield l) [] [] else if t = 1 then .rptr [.lst f es] else if t = 3 then .int .i64 k else .dead) _
  by_cases h0 : t = 0
  · rw [if_pos h0, h0, H.yld]; exact fn_rel _
  rw [if_neg h0]
  by_cases h1 : t = 1
  · rw [if_pos h1, h1, H.box]; exact box_rptr hb own_n
  rw [if_neg h1]
  by_cases h3 : t = 3
  · rw [if_pos h3, h3, H.at_]; exact .pure _ _ (.int _ _)
  rw [if_neg h3]; exact .dead _
theorem at_grown {W W' : World} {s : St} {a : Act} {β' : Bds} (A : At 19 (ON w Kb W) (fun _ _ => none) [] W (ON w Kb W) [] s a β' W') : W.grownBy W' none :=
  ⟨A.os, A.tape, A.output, A.stay.1, fun k hk _ => by
    by_cases h : ON w Kb W k
    · exact A.keep k hk h
    · exact (A.stay.2 k hk (fun ho => h ((own_n k).1 ho))).1⟩
theorem grown_box {W W' : World} (hb : BoxL w Kb c f es W) (hg : W.grownBy W' none) : BoxL w Kb c f es W' :=
  box_step hb hg.size fun b hlt _ => hg.block b (by have := hb.2.2.1; omega) (by simp)
/-- The pairs: a place, and what stands there; the last first. -/
def bwL (es : List AV) : List (List AV) := (List.range es.length).map fun j => [.int .i64 ((es.length - 1 - j : Nat) : Int), es.getD (es.length - 1 - j) .dead]
theorem bwL_len : (bwL es).length = es.length := by simp [bwL]
theorem bwL_get {i : Nat} (hi : i < (bwL es).length) (hk : es.length - 1 - i < es.length) : (bwL es)[i] = [.int .i64 ((es.length - 1 - i : Nat) : Int), es[es.length - 1 - i]] := by
  simp [bwL, hk]
/-- A piece of code, and which places it leaves. -/
theorem stepK (hm : P.follows .mixedOrders = true) (hΓ : TabOK P Γ) {n : Nat} {Z : Nat → Prop} {β : Bds} {h : AH} {w : World} {Zc : Nat → Prop} {ds : List Deferred} {s : St} {a : Act} {β' : Bds} {W : World} (A : At n Z β h w Zc ds s a β' W) (R : Rel Z β h w) {c : Code} {c' : AC} (ok : okCode P n c c' = true) {x : AX} {s1 : St}
    (he : eval Γ c' (fun i => decide (h.length ≤ i)) (AX × St) (fun x s => some (x, s)) s = some (x, s1)) {m : Nat} {Q : Exit → Act → World → Prop}
    (K : ∀ a' β'' W', At n Z β h w Zc ds s1 a' β'' W' → Keeps (fun t => (wrC c').contains t) a a' → Q x.exit' a' W') : c.wpIn Fence.wide m P Q a W := by
  refine wpIn_wide.2 (eval_sound hm hΓ c' c ok he (W := fun t => (wrC c').contains t) (fun t ht => by simpa using ht) A.rel A.env fun x' s' a' w' β'' hk R' F' E' K' => ?_)
  simp only [Option.some.injEq, Prod.mk.injEq] at hk
  obtain ⟨rfl, rfl⟩ := hk
  exact K a' β'' w' (A.next R (fun i hi => by simpa using hi) R' F' E' K'.defers) K'
theorem bw_gives (hm : P.follows .mixedOrders = true) (hΓ : TabOK P Γ) {g : FuncId} {sz : Nat} {agg : Bool} (ok : bwOK P g sz agg = true) (hl : es.length ≤ 9223372036854775807) (hes : ∀ y ∈ es, Whole sz agg y)
    (hbw : BoxL w Kb c f es w) : GivesA P g #[.pointer (some ⟨c, 0, none⟩)] (bwL es) Kb w := by
  unfold bwOK at ok
  split at ok
  · rename_i fn hf
    split at ok
    · rename_i R0 B0 id3 ops3 R2 hbody
      simp only [Bool.and_eq_true, decide_eq_true_eq] at ok
      obtain ⟨⟨⟨⟨⟨⟨hn, _⟩, hres⟩, k0⟩, kb⟩, k2⟩, k3⟩ := ok
      split at k3
      · rename_i o1 o2 o3 o4 o5 o6 o7 o8 hops
        simp only [Bool.and_eq_true, decide_eq_true_eq] at k3
        obtain ⟨⟨⟨⟨q1, q2⟩, q3⟩, q4⟩, q5⟩ := k3
        split at q5
        · rename_i args ats hop
          split at q5
          · rename_i hargs
            intro l J Jx W hW hsz tJ tX hY h0
            have hbW : BoxL w Kb c f es W := box_step hbw hsz fun b hb _ => hW b hb
            refine callsIn_of_wp_marks hf hbody trivial ?_ rfl
            generalize hR : (fun (e : Ending) (W' : World) => (∃ v, e = .returned v) ∧ (J (bwL es).length W' ∨ Jx W')) = R
            have fin : ∀ {a : Act} {W' : World} {x : Exit}, a.defers = [] → (J es.length W' ∨ Jx W') → (x = .ret ∨ x = .normal) → bodyPostM Fence.wide 0 P fn R x a W' := fun hd hJ hx =>
              leave_ok hres hd (by rw [← hR, bwL_len]; exact ⟨⟨_, rfl⟩, hJ⟩) hx
            have key : ∀ (k i : Nat) (a : Act) (W1 : World), i + k = es.length → HeadB l c ((k : Int) - 1) a → BoxL w Kb c f es W1 → J i W1 →
                Code.roundsIn Fence.wide 0 P (.seq B0 (.seq (.block 1 (.seq (.region id3 ops3 false) (.cond (.tmp 18) .ret .skip))) R2)) (Exit.inBlock 0 (bodyPostM Fence.wide 0 P fn R)) (k + 1) a W1 := by
              intro k
              induction k with
              | zero =>
                intro i a W1 hk H hbx hJ
                have hiN : i = es.length := by omega
                rw [roundsIn_succ]
                refine wpIn_seq ((at_headB H hbx).step hm hΓ (rel_n W1) kb (x := .exit 0) (by rw [ev_b0 rfl, if_neg (by omega)]) fun a' β' W' A => ?_)
                exact fin (x := .normal) A.defers (.inl (hiN ▸ tJ i _ _ hJ (at_grown A))) (.inr rfl)
              | succ k ih =>
                intro i a W1 hk H hbx hJ
                have hkl : k < es.length := by omega
                have hik : es.length - 1 - i = k := by omega
                have hiN : i < (bwL es).length := by rw [bwL_len]; omega
                have hget : (bwL es)[i] = [.int .i64 (k : Int), es[k]] := by
                  rw [bwL_get hiN (by omega)]
                  simp only [hik]
                have hy := hes _ (List.getElem_mem hkl)
                have hkk : ((k + 1 : Nat) : Int) - 1 = (k : Int) := by omega
                rw [hkk] at H
                rw [roundsIn_succ]
                refine wpIn_seq (stepK hm hΓ (at_headB H hbx) (rel_n W1) kb (x := .normal) (by rw [ev_b0 rfl, if_pos (by omega)]) fun a1 β1 V1 A1 K1 => ?_)
                refine wpIn_seq (wpIn_block (wpIn_seq ?_))
                obtain ⟨e5, ev5, f50, f51, f53, f511, f512, f516⟩ := ev_l3 (Γ := Γ) (e := ((eH l f es (k : Int)).put 7 (.int .i64 (k : Int))).put 8 (.bool (decide (0 ≤ (k : Int))))) (f := f) hkl hy rfl rfl
                refine wpIn_region_list ?_
                rw [hops]
                refine list_wide (Q := fun x a' W' => x = .normal ∧ a'.tmps.getD 1 undef = .pointer (some ⟨c, 0, none⟩) ∧ ∃ β', At 19 (ON w Kb W1) (fun _ _ => none) [] W1 (ON w Kb W1) [] ⟨e5, []⟩ a' β' W') (fun ⟨_, _, h, _⟩ => by cases h) [o7, o8] ?_ (fun ch a w h => by cases h.1)
                  [o1, o2, o3, o4, o5, o6] a1 V1 (flat_wp hΓ [o1, o2, o3, o4, o5, o6] (l3 sz agg) _ ⟨e5, []⟩ a1 V1 β1 (by rw [hops]; exact q1) (W := fun t => decide (11 ≤ t)) (fun x hx t ht => by simp only [l3, List.mem_cons, List.not_mem_nil, or_false] at hx; rcases hx with rfl | rfl | rfl | rfl | rfl | rfl <;> cases ht <;> rfl) ev5 A1.rel A1.env
                    fun a' w' β' R' F' E' K' => ⟨rfl, (K'.same 1 rfl).trans ((K1.same 1 rfl).trans H.box), β', A1.next (rel_n W1) (V := fun i => decide (0 ≤ i)) (fun i hi => by simp) R' F'.toV E' K'.defers⟩)
                rintro a5 V5 ⟨_, c1, β5, A5⟩
                have hg5 := at_grown A5
                have hJ5 : J i V5 := tJ i _ _ hJ hg5
                have hbx5 := grown_box hbx hg5
                have hown5 : ∀ b, Own (ON w Kb W1) β5 [] b ↔ ON w Kb W1 b := fun b => by
                  constructor
                  · rintro (h | ⟨k, X, hX, _⟩)
                    · exact h
                    · simp at hX
                  · exact .inl
                have env5 : ∀ t v, e5 t = v → VR β5 (Own (ON w Kb W1) β5 []) V5 v (a5.tmps.getD t undef) := fun t v h => by rw [← h]; exact A5.env.2 t
                have c0 : a5.tmps.getD 0 undef = .func (.yield l) #[] #[] := fn_val (env5 _ _ (f50.trans rfl))
                have c11 : a5.tmps.getD 11 undef = .func (.yield l) #[] #[] := fn_val (env5 _ _ (f511.trans rfl))
                have c3 : a5.tmps.getD 3 undef = .int .i64 (k : Int) := (env5 _ _ (f53.trans rfl)).int_inv
                have c12 : a5.tmps.getD 12 undef = .int .i64 (k : Int) := (env5 _ _ f512).int_inv
                have hvs : args.map a5.eval = #[.int .i64 (k : Int), a5.tmps.getD 16 undef] := by
                  have : args = #[.tmp 12, .tmp 16] := Array.ext' (by simpa using hargs)
                  rw [this]
                  simp [Act.eval, c12]
                have hmean : Meant (ON w Kb W1) V5 (bwL es)[i] #[.int .i64 (k : Int), a5.tmps.getD 16 undef] := by
                  rw [hget]
                  refine ⟨rfl, fun j y u hy hu => ?_⟩
                  match j with
                  | 0 =>
                    simp only [List.getElem?_cons_zero, Option.some.injEq] at hy
                    simp at hu
                    subst hy hu
                    exact .int _ _
                  | 1 =>
                    simp only [List.getElem?_cons_succ, List.getElem?_cons_zero, Option.some.injEq] at hy
                    simp at hu
                    subst hy hu
                    have h16 := (env5 _ _ f516).pureE (hes _ (List.getElem_mem hkl)).1
                    rw [← Array.getD_eq_getD_getElem?]
                    exact h16.mono ⟨Nat.le_refl _, fun b hlt hn => ⟨rfl, fun ho => hn ((hown5 b).2 ho)⟩⟩
                  | j + 2 => simp at hy
                have hy' := hY i hiN W1 V5 _ hJ hg5 hmean
                have q3' : o7.guard = none := by simpa using q3
                unfold wpListIn
                rw [if_pos (wanted_none q3')]
                refine yield_wide hop (l := l) (by simpa [Act.eval] using c11) hvs hy' (fun e W' he => by rcases he with ⟨rfl, _⟩ | ⟨rfl, _⟩ <;> exact ⟨_, rfl⟩) fun b W3 hR3 => ?_
                rw [q4]
                obtain ⟨a6, ha6⟩ : ∃ a6, a6 = a5.put (some 17) (.bool b) := ⟨_, rfl⟩
                rw [← ha6]
                have s6 : a6.tmps.size = 19 := by rw [ha6]; simp [Act.put, A5.env.1]
                have get6 : ∀ t, t ≠ 17 → a6.tmps.getD t undef = a5.tmps.getD t undef := fun t ht => by
                  rw [ha6]; simp [Act.put, Array.getD_eq_getD_getElem?, Array.getElem?_setIfInBounds_ne (Ne.symm ht)]
                have c17 : a6.tmps.getD 17 undef = .bool b := by
                  rw [ha6]; simp [Act.put, Array.getD_eq_getD_getElem?, A5.env.1]
                have E6 : EnvR (fun b => b < W3.heap.size) (fun _ _ => none) [] W3 (fun t => if t = 17 then .bool b else .dead) a6 19 := by
                  refine ⟨s6, fun t => ?_⟩
                  show VR _ _ _ (if t = 17 then .bool b else .dead) _
                  by_cases ht : t = 17
                  · rw [if_pos ht, ht, c17]; exact .pure _ _ (.bool b)
                  · rw [if_neg ht]; exact .dead _
                have ev7 : flat Γ l3b ⟨fun t => if t = 17 then .bool b else .dead, []⟩ = some ⟨Env.put (fun t => if t = 17 then .bool b else .dead) 18 (.bool (!b)), []⟩ := by
                  simp [l3b, flat, exec, AO.get, un, keepH, St.put]
                show wpListIn Fence.wide 0 P ops3 _ ([o8] ++ []) a6 W3
                refine list_wide (P := P) (m := 0) (ops := ops3) (Q := fun x a' W' => x = .normal ∧ a'.tmps.size = 19 ∧ (∀ t, t ≠ 18 → a'.tmps.getD t undef = a6.tmps.getD t undef) ∧ a'.tmps.getD 18 undef = .bool (!b) ∧ a'.defers = [] ∧ W3.grownBy W' none)
                  (fun ⟨_, _, h, _⟩ => by cases h) [] ?_ (fun ch a w h => by cases h.1) [o8] a6 W3
                  (flat_wp hΓ [o8] l3b _ _ a6 W3 _ (by rw [hops]; exact q2) (W := fun t => decide (t = 18)) (fun x hx t ht => by simp only [l3b, List.mem_singleton] at hx; subst hx; simp at ht; simp [ht]) ev7 (no_rel W3) E6
                    fun a' w' β' R' F' E' K' => ⟨rfl, E'.1, fun t ht => K'.same t (by simpa using ht), ?_, ?_, ?_⟩)
                · rintro a7 W7 ⟨_, s7, h7, h18, hd7, hg7⟩
                  show Code.wpIn Fence.wide 0 P (.cond (.tmp 18) .ret .skip) _ a7 W7
                  rcases hR3 with ⟨he, hJ3, hs3, hk3⟩ | ⟨he, hJ3⟩
                  · have hbt : b = true := by injection he with he; injection he
                    subst hbt
                    refine wpIn_cond_false (by simpa [Act.eval] using h18) (wpIn_skip ?_)
                    have hJ7 : J (i + 1) W7 := tJ _ _ _ hJ3 hg7
                    have hbx7 : BoxL w Kb c f es W7 := grown_box (box_step hbx5 hs3 hk3) hg7
                    have g7 : ∀ t, t ≠ 17 → t ≠ 18 → a7.tmps.getD t undef = a5.tmps.getD t undef := fun t h1 h2 => (h7 t h2).trans (get6 t h1)
                    have H7 : HeadB l c (k : Int) a7 := ⟨s7, (g7 0 (by omega) (by omega)).trans c0, (g7 1 (by omega) (by omega)).trans c1, (g7 3 (by omega) (by omega)).trans c3, hd7⟩
                    show Code.wpIn Fence.wide 0 P R2 _ a7 W7
                    obtain ⟨e8, ev8, f80, f81, f83⟩ := ev_r2 (Γ := Γ) (V := fun i => decide (([] : AH).length ≤ i)) (e := eH l f es (k : Int)) (k := k) (by omega) rfl
                    refine stepK hm hΓ (at_headB H7 hbx7) (rel_n W7) k2 (x := .normal) ev8 fun a8 β8 W8 A8 K8 => ?_
                    have env8 : ∀ t v, e8 t = v → VR β8 (Own (ON w Kb W7) β8 []) W8 v (a8.tmps.getD t undef) := fun t v h => by rw [← h]; exact A8.env.2 t
                    have H8 : HeadB l c ((k : Int) - 1) a8 := ⟨A8.env.1, fn_val (env8 0 _ (f80.trans rfl)), (K8.same 1 rfl).trans H7.box, (env8 3 _ f83).int_inv, A8.defers⟩
                    exact ih (i + 1) a8 W8 (by omega) H8 (grown_box hbx7 (at_grown A8)) (tJ _ _ _ hJ7 (at_grown A8))
                  · have hbt : b = false := by injection he with he; injection he
                    subst hbt
                    refine wpIn_cond_true (by simpa [Act.eval] using h18) (wpIn_ret ?_)
                    exact fin (x := .ret) hd7 (.inr (tX _ _ hJ3 hg7)) (.inl rfl)
                · have := E'.2 18
                  simp only [Env.put] at this
                  exact VR.bool_inv (by simpa using this)
                · rw [K'.defers, ha6]
                  simp [Act.put, A5.defers]
                · exact ⟨F'.os, F'.tape, F'.output, F'.stay.1, fun k hk _ => F'.xkeep k hk hk⟩
            rw [hn]
            obtain ⟨a0, ha0⟩ : ∃ a0 : Act, a0 = { tmps := (#[.func (.yield l) #[] #[]] ++ #[Value.pointer (some ⟨c, 0, none⟩)]) ++ Array.replicate (19 - (#[Value.func (.yield l) #[] #[]] ++ #[Value.pointer (some ⟨c, 0, none⟩)]).size) undef, defers := [] } := ⟨_, rfl⟩
            have t0 : a0.tmps.getD 0 undef = .func (.yield l) #[] #[] := by rw [ha0]; simp [Array.getD_eq_getD_getElem?, Array.getElem?_append]
            have t1 : a0.tmps.getD 1 undef = .pointer (some ⟨c, 0, none⟩) := by rw [ha0]; simp [Array.getD_eq_getD_getElem?, Array.getElem?_append]
            have ts : a0.tmps.size = 19 := by rw [ha0]; simp
            have td : a0.defers = [] := by rw [ha0]
            rw [← ha0]
            have A0 : At 19 (ON w Kb W) (fun _ _ => none) [] W (ON w Kb W) [] ⟨fun t => if t = 0 then .fn (.yield l) [] [] else if t = 1 then .rptr [.lst f es] else .dead, []⟩ a0 (fun _ _ => none) W := by
              refine ⟨rel_n W, fun _ _ _ => rfl, rfl, rfl, rfl, fun _ _ _ e => e, Stay.refl _ _, ⟨ts, fun t => ?_⟩, td, fun _ h => h⟩
              show VR _ _ _ (if t = 0 then .fn (.yield l) [] [] else if t = 1 then .rptr [.lst f es] else .dead) _
              by_cases h0 : t = 0
              · rw [if_pos h0, h0, t0]; exact fn_rel _
              rw [if_neg h0]
              by_cases h1 : t = 1
              · rw [if_pos h1, h1, t1]; exact box_rptr hbW own_n
              rw [if_neg h1]; exact .dead _
            obtain ⟨e8, ev8, f80, f81, f83⟩ := ev_r0 (Γ := Γ) (V := fun i => decide (([] : AH).length ≤ i)) (e := fun t => if t = 0 then .fn (.yield l) [] [] else if t = 1 then .rptr [.lst f es] else .dead) (f := f) (es := es) hl rfl
            refine wpIn_seq (stepK hm hΓ A0 (rel_n W) k0 (x := .normal) ev8 fun a8 β8 W8 A8 K8 => ?_)
            have env8 : ∀ t v, e8 t = v → VR β8 (Own (ON w Kb W) β8 []) W8 v (a8.tmps.getD t undef) := fun t v h => by rw [← h]; exact A8.env.2 t
            have H8 : HeadB l c ((es.length : Int) - 1) a8 := ⟨A8.env.1, fn_val (env8 0 _ (f80.trans rfl)), (K8.same 1 rfl).trans t1, (env8 3 _ f83).int_inv, A8.defers⟩
            exact wpIn_block (wpIn_loop_rounds (es.length + 1) (key es.length 0 a8 W8 (by omega) H8 (grown_box hbW (at_grown A8)) (tJ _ _ _ h0 (at_grown A8))))
          · cases q5
        · cases q5
      · cases k3
    · cases ok
  · cases ok
theorem bw_enter {g : FuncId} {sz : Nat} {agg : Bool} (ok : bwOK P g sz agg = true) (args : Array Value) (w : World) : (callFunc g args).run P w = .ok (.enter g args) w := by
  unfold bwOK at ok
  split at ok
  · rename_i fn hf
    split at ok
    · rename_i hbody
      simp only [Bool.and_eq_true, decide_eq_true_eq, beq_iff_eq] at ok
      exact enter_of hf (by rw [hbody]; rfl) (by simpa using ok.1.1.1.1.1.2) args w
    · cases ok
  · cases ok
end
end Go.Am.Bw
