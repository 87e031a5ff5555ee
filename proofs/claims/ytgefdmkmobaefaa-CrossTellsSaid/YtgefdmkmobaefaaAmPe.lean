/-
 name.pieces gives the pieces: the walk.
-/
import Derived.Test.YtgefdmkmobaefaaAmPd
set_option linter.unusedSimpArgs false
set_option linter.unusedVariables false
namespace Go.Am.Nm
open Go.Am Go.RowKit
section
variable {P : Program} {Γ : Tab}
def enc (x : List UInt8 × Bool) : Array Value := #[.string ⟨x.1.toArray⟩, .bool x.2]
theorem wanted_none {o : Oper} (h : o.guard = none) {y : Nat → Option Bool} : Region.wanted o y = true := by unfold Region.wanted; rw [h]
def e6 (l : Nat) (r : List UInt8) : Env := fun t => if t = 0 then .fn (.yield l) [] [] else if t = 1 then .ptr 0 0 0 0 else if t = 3 then .str r else if t = 5 then .int .i64 ((upTo r).length : Int) else .dead
theorem pieces_gives (hm : P.follows .mixedOrders = true) (hΓ : TabOK P Γ) {f fC fI : FuncId} (ok : pcOK P f fC fI = true)
  (hC : ∀ p, Γ.p fC [.str p, .str [47]] = some (.tup [.str (cutR p), .bool (cutB p)])) (hI : ∀ s, Γ.p fI [.str s, .int .u8 47] = some (.int .i64 (idxI s)))
  {path : List UInt8} {c : Nat} {w : World} (hb : Box w c path) (Kb : Nat → Prop) : Gives P f #[.pointer (some ⟨c, 0, none⟩)] ((pcs path).map enc) c Kb w := by
 unfold pcOK at ok
 split at ok
 ·rename_i fn hf
  split at ok
  ·rename_i B0 R1 R2 X3 id5 ops5 R6 hbody
   simp only [Bool.and_eq_true, decide_eq_true_eq] at ok
   obtain ⟨⟨⟨⟨⟨⟨⟨⟨hn, _⟩, hres⟩, k0⟩, k1⟩, k2⟩, k3⟩, k6⟩, k5⟩ := ok
   split at k5
   ·rename_i o1 o2 o3 o4 o5 o6 o7 hops
    simp only [Bool.and_eq_true, decide_eq_true_eq] at k5
    obtain ⟨⟨⟨⟨q1, q2⟩, q3⟩, q4⟩, q5⟩ := k5
    split at q5
    ·rename_i args ats hop
     split at q5
     ·rename_i hargs
      intro l J Jx W hW hsz tJ tX hY h0
      have hcw := hb.lt
      have hbW : Box W c path := by
       obtain ⟨elem, h1⟩ := hb
       exact ⟨elem, (hW c hcw).trans h1⟩
      refine callsIn_of_wp_marks hf hbody trivial ?_ rfl
      generalize hR : (fun (e : Ending) (W' : World) => (∃ v, e = .returned v) ∧ (J ((pcs path).map enc).length W' ∨ Jx W')) = R
      have hlen : ((pcs path).map enc).length = (pcs path).length := by simp
      have fin : ∀ {a : Act} {W' : World} {x : Exit}, a.defers = [] → (J (pcs path).length W' ∨ Jx W') → (x = .ret ∨ x = .normal) → bodyPostM Fence.wide 0 P fn R x a W' := fun hd hJ hx =>
       leave_ok hres hd (by rw [← hR, hlen]; exact ⟨⟨_, rfl⟩, hJ⟩) hx
      have key : ∀ (k : Nat) (p : List UInt8) (i : Nat) (a : Act) (W1 : World), (pcs p).length = k → (pcs path).drop i = pcs p → i ≤ (pcs path).length → Head l c a → Box W1 c p → J i W1 →
        Code.roundsIn Fence.wide 0 P (.seq B0 (.block 1 (.seq R1 (.seq R2 (.seq X3 (.seq (.seq (.region id5 ops5 false) (.cond (.tmp 25) .ret .skip)) R6)))))) (Exit.inBlock 0 (bodyPostM Fence.wide 0 P fn R)) (k + 1) a W1 := by
       intro k
       induction k with
       | zero =>
        intro p i a W1 hk hd hi H hbx hJ
        have hp : p = [] := by
         cases p with
         | nil => rfl
         | cons x t => rw [pcs_cons (by simp)] at hk; simp at hk
        subst hp
        have hiN : i = (pcs path).length := by
         have := congrArg List.length hd
         rw [pcs_nil] at this
         simp at this
         omega
        rw [roundsIn_succ]
        refine wpIn_seq ((at_head H hbx).step hm hΓ (it_rel hbx) k0 (x := .exit 0) (by rw [ev_b0 rfl, if_pos rfl]) fun a' β' W' A => ?_)
        exact fin (x := .normal) A.defers (.inl (hiN ▸ tJ i _ _ hJ (at_turn A))) (.inr rfl)
       | succ k ih =>
        intro p i a W1 hk hd hi H hbx hJ
        have hp : p ≠ [] := by
         rintro rfl
         rw [pcs_nil] at hk
         simp at hk
        have hcons := pcs_cons hp
        rw [hcons] at hk hd
        have hiN : i < (pcs path).length := by
         have := congrArg List.length hd
         simp at this
         omega
        have hget : (pcs path)[i] = (upTo (cutR p), cutB p) := by
         rw [List.drop_eq_getElem_cons hiN] at hd
         exact (List.cons.inj hd).1
        have hd' : (pcs path).drop (i + 1) = pcs (from_ (cutR p)) := by
         rw [List.drop_eq_getElem_cons hiN] at hd
         exact (List.cons.inj hd).2
        have henc : ∀ (hi' : i < ((pcs path).map enc).length), ((pcs path).map enc)[i] = #[.string ⟨(upTo (cutR p)).toArray⟩, .bool (cutB p)] := fun hi' => by
         rw [List.getElem_map, hget]; rfl
        rw [roundsIn_succ]
        refine wpIn_seq ((at_head H hbx).step hm hΓ (it_rel hbx) k0 (x := .normal) (by rw [ev_b0 rfl, if_neg hp]) fun a1 β1 V1 A1 => ?_)
        refine wpIn_block (wpIn_seq ?_)
        obtain ⟨e2, ev2, f20, f21, f23, f24⟩ := ev_l1 (Γ := Γ) (V := fun i => decide (1 ≤ i)) hC (e := ((e0 l).put 6 (.str p)).put 7 (.bool (!decide (p = [])))) (p := p) rfl
        refine A1.step hm hΓ (it_rel hbx) k1 (x := .normal) ev2 fun a2 β2 V2 A2 => ?_
        refine wpIn_seq ?_
        obtain ⟨e3, ev3, f30, f31, f33, f34, f35⟩ := ev_l2 (Γ := Γ) (V := fun i => decide (1 ≤ i)) hI (h := [.var [.str p]]) f23
        refine A2.step hm hΓ (it_rel hbx) k2 (x := .normal) ev3 fun a3 β3 V3 A3 => ?_
        refine wpIn_seq ?_
        obtain ⟨e4, ev4, f40, f41, f43, f44, f45⟩ := ev_x3 (Γ := Γ) (V := fun i => decide (1 ≤ i)) (h := [.var [.str p]]) f33 f35
        refine A3.step hm hΓ (it_rel hbx) k3 (x := .normal) ev4 fun a4 β4 V4 A4 => ?_
        refine wpIn_seq (wpIn_seq ?_)
        obtain ⟨e5, ev5, f50, f51, f53, f54, f55, f56, f57, f58⟩ := ev_l5 (Γ := Γ) (h := [.var [.str p]]) f43 f45
        refine wpIn_region_list ?_
        rw [hops]
        have g0 : e5 0 = .fn (.yield l) [] [] := by rw [f50, f40, f30, f20]; rfl
        have g1 : e5 1 = .ptr 0 0 0 0 := by rw [f51, f41, f31, f21]; rfl
        have g4 : e5 4 = .bool (cutB p) := by rw [f54, f44, f34, f24]
        have g19 : e5 19 = .fn (.yield l) [] [] := by rw [f56, f40, f30, f20]; rfl
        have g23 : e5 23 = .bool (cutB p) := by rw [f58, f44, f34, f24]
        refine list_wide (Q := fun x a' W' => x = .normal ∧ ∃ β', At 29 (Zi W1 c) (βi c) [.var [.str p]] W1 (Zi W1 c) [] ⟨e5, [.var [.str p]]⟩ a' β' W') (fun ⟨_, _, h, _⟩ => by cases h) [o6, o7] ?_ (fun ch a w h => by cases h.1)
         [o1, o2, o3, o4, o5] a4 V4 (flat_wp hΓ [o1, o2, o3, o4, o5] l5 ⟨e4, [.var [.str p]]⟩ ⟨e5, [.var [.str p]]⟩ a4 V4 β4 (by rw [hops]; exact q1) (W := fun _ => true) (fun _ _ _ _ => rfl) ev5 A4.rel A4.env
          fun a' w' β' R' F' E' K' => ⟨rfl, β', A4.next (it_rel hbx) (V := fun i => decide (1 ≤ i)) (fun i hi => by simpa using hi) R' F'.toV E' K'.defers⟩)
        rintro a5 V5 ⟨_, β5, A5⟩
        have hJ5 : J i V5 := tJ i _ _ hJ (at_turn A5)
        have hβ5 : β5 0 0 = some ⟨some c, 0, 1, 1⟩ := A5.ext _ _ _ (βi0 c)
        have hbx5 : Box V5 c p := box_of A5.rel hβ5
        have env5 : ∀ t v, e5 t = v → VR β5 (Own (Zi W1 c) β5 [.var [.str p]]) V5 v (a5.tmps.getD t undef) := fun t v h => by rw [← h]; exact A5.env.2 t
        have c0 : a5.tmps.getD 0 undef = .func (.yield l) #[] #[] := fn_val (env5 _ _ g0)
        have c1 : a5.tmps.getD 1 undef = .pointer (some ⟨c, 0, none⟩) := by
         obtain ⟨bd, c', h1, h2, h3⟩ := (env5 _ _ g1).ptr_inv
         rw [hβ5] at h1; cases h1
         cases h2
         exact h3
        have c3 : a5.tmps.getD 3 undef = .string ⟨(cutR p).toArray⟩ := str_val (env5 _ _ f53)
        have c5 : a5.tmps.getD 5 undef = .int .i64 ((upTo (cutR p)).length : Int) := (env5 _ _ f55).int_inv
        have c19 : a5.tmps.getD 19 undef = .func (.yield l) #[] #[] := fn_val (env5 _ _ g19)
        have c22 : a5.tmps.getD 22 undef = .string ⟨(upTo (cutR p)).toArray⟩ := str_val (env5 _ _ f57)
        have c23 : a5.tmps.getD 23 undef = .bool (cutB p) := (env5 _ _ g23).bool_inv
        have hvs : args.map a5.eval = #[.string ⟨(upTo (cutR p)).toArray⟩, .bool (cutB p)] := by
         have : args = #[.tmp 22, .tmp 23] := Array.ext' (by simpa using hargs)
         rw [this]
         simp [Act.eval, c22, c23]
        have hy := hY i (by rw [hlen]; exact hiN) V5 hJ5
        rw [henc] at hy
        have q3' : o6.guard = none := by simpa using q3
        unfold wpListIn
        rw [if_pos (wanted_none q3')]
        refine yield_wide hop (l := l) (by simpa [Act.eval] using c19) hvs hy (fun e W' he => by rcases he with ⟨rfl, _⟩ | ⟨rfl, _⟩ <;> exact ⟨_, rfl⟩) fun b W3 hR3 => ?_
        rw [q4]
        -- behind the round: 'not', in the empty memory
        obtain ⟨a6, ha6⟩ : ∃ a6, a6 = a5.put (some 24) (.bool b) := ⟨_, rfl⟩
        rw [← ha6]
        have s6 : a6.tmps.size = 29 := by rw [ha6]; simp [Act.put, A5.env.1]
        have get6 : ∀ t, t ≠ 24 → a6.tmps.getD t undef = a5.tmps.getD t undef := fun t ht => by
         rw [ha6]; simp [Act.put, Array.getD_eq_getD_getElem?, Array.getElem?_setIfInBounds_ne (Ne.symm ht)]
        have c24 : a6.tmps.getD 24 undef = .bool b := by
         rw [ha6]; simp [Act.put, Array.getD_eq_getD_getElem?, A5.env.1]
        have E6 : EnvR (fun b => b < W3.heap.size) (fun _ _ => none) [] W3 (fun t => if t = 24 then .bool b else .dead) a6 29 := by
         refine ⟨s6, fun t => ?_⟩
         show VR _ _ _ (if t = 24 then .bool b else .dead) _
         by_cases ht : t = 24
         ·rw [if_pos ht, ht, c24]; exact .pure _ _ (.bool b)
         ·rw [if_neg ht]; exact .dead _
        have ev7 : flat Γ l5b ⟨fun t => if t = 24 then .bool b else .dead, []⟩ = some ⟨Env.put (fun t => if t = 24 then .bool b else .dead) 25 (.bool (!b)), []⟩ := by
         simp [l5b, flat, exec, AO.get, un, keepH, St.put]
        show wpListIn Fence.wide 0 P ops5 _ ([o7] ++ []) a6 W3
        refine list_wide (P := P) (m := 0) (ops := ops5) (Q := fun x a' W' => x = .normal ∧ a'.tmps.size = 29 ∧ (∀ t, t ≠ 25 → a'.tmps.getD t undef = a6.tmps.getD t undef) ∧ a'.tmps.getD 25 undef = .bool (!b) ∧ a'.defers = [] ∧ W3.grownBy W' none)
         (fun ⟨_, _, h, _⟩ => by cases h) [] ?_ (fun ch a w h => by cases h.1) [o7] a6 W3
         (flat_wp hΓ [o7] l5b _ _ a6 W3 _ (by rw [hops]; exact q2) (W := fun t => decide (t = 25)) (fun x hx t ht => by simp only [l5b, List.mem_singleton] at hx; subst hx; simp at ht; simp [ht]) ev7 (no_rel W3) E6
          fun a' w' β' R' F' E' K' => ⟨rfl, E'.1, fun t ht => K'.same t (by simpa using ht), ?_, ?_, ?_⟩)
        ·rintro a7 W7 ⟨_, s7, h7, h25, hd7, hg7⟩
         have hgc : W3.grownBy W7 (some c) := ⟨hg7.os, hg7.tape, hg7.output, hg7.size, fun k hk _ => hg7.block k hk (by simp)⟩
         show Code.wpIn Fence.wide 0 P (.cond (.tmp 25) .ret .skip) _ a7 W7
         rcases hR3 with ⟨he, hJ3, hk3⟩ | ⟨he, hJ3⟩
         ·have hbt : b = true := by injection he with he; injection he
          subst hbt
          refine wpIn_cond_false (by simpa [Act.eval] using h25) (wpIn_skip ?_)
          have hJ7 : J (i + 1) W7 := tJ _ _ _ hJ3 hgc
          have hbx7 : Box W7 c p := by
           obtain ⟨elem, h1⟩ := hbx5
           have e1 := (hk3 c hcw (.inl rfl)).trans h1
           exact ⟨elem, (hg7.block c (Array.getElem?_eq_some_iff.1 e1).1 (by simp)).trans e1⟩
          have g7 : ∀ t, t ≠ 24 → t ≠ 25 → a7.tmps.getD t undef = a5.tmps.getD t undef := fun t h1 h2 => (h7 t h2).trans (get6 t h1)
          have A7 : At 29 (Zi W7 c) (βi c) [.var [.str p]] W7 (Zi W7 c) [] ⟨e6 l (cutR p), [.var [.str p]]⟩ a7 (βi c) W7 := by
           refine ⟨it_rel hbx7, fun _ _ _ => rfl, rfl, rfl, rfl, fun _ _ _ e => e, Stay.refl _ _, ⟨s7, fun t => ?_⟩, hd7, fun _ h => h⟩
           show VR _ _ _ (if t = 0 then .fn (.yield l) [] [] else if t = 1 then .ptr 0 0 0 0 else if t = 3 then .str (cutR p) else if t = 5 then .int .i64 ((upTo (cutR p)).length : Int) else .dead) _
           by_cases t0 : t = 0
           ·rw [if_pos t0, t0, g7 0 (by omega) (by omega), c0]; exact fn_rel _
           rw [if_neg t0]
           by_cases t1 : t = 1
           ·rw [if_pos t1, t1, g7 1 (by omega) (by omega), c1]; exact .ptr 0 0 0 0 ⟨some c, 0, 1, 1⟩ c (βi0 c) rfl
           rw [if_neg t1]
           by_cases t3 : t = 3
           ·rw [if_pos t3, t3, g7 3 (by omega) (by omega), c3]; exact .pure _ _ (str_rel _)
           rw [if_neg t3]
           by_cases t5 : t = 5
           ·rw [if_pos t5, t5, g7 5 (by omega) (by omega), c5]; exact .pure _ _ (.int _ _)
           rw [if_neg t5]; exact .dead _
          show Code.wpIn Fence.wide 0 P R6 _ a7 W7
          obtain ⟨e8, ev8, f80, f81⟩ := ev_l6 (Γ := Γ) (V := fun i => decide (1 ≤ i)) (e := e6 l (cutR p)) (p := p) (r := cutR p) rfl rfl rfl
          refine A7.step hm hΓ (it_rel hbx7) k6 (x := .normal) ev8 fun a8 β8 W8 A8 => ?_
          have hβ8 : β8 0 0 = some ⟨some c, 0, 1, 1⟩ := A8.ext _ _ _ (βi0 c)
          have env8 : ∀ t v, e8 t = v → VR β8 (Own (Zi W7 c) β8 [.var [.str (from_ (cutR p))]]) W8 v (a8.tmps.getD t undef) := fun t v h => by rw [← h]; exact A8.env.2 t
          have H8 : Head l c a8 := by
           refine ⟨A8.env.1, fn_val (env8 0 _ f80), ?_, A8.defers⟩
           obtain ⟨bd, c', h1, h2, h3⟩ := (env8 1 _ f81).ptr_inv
           rw [hβ8] at h1; cases h1
           cases h2
           exact h3
          exact ih (from_ (cutR p)) (i + 1) a8 W8 (by simpa using hk) hd' hiN H8 (box_of A8.rel hβ8) (tJ _ _ _ hJ7 (at_turn A8))
         ·have hbt : b = false := by injection he with he; injection he
          subst hbt
          refine wpIn_cond_true (by simpa [Act.eval] using h25) (wpIn_ret ?_)
          exact fin (x := .ret) hd7 (.inr (tX _ _ hJ3 hgc)) (.inl rfl)
        ·have := E'.2 25
         simp only [Env.put] at this
         exact VR.bool_inv (by simpa using this)
        ·rw [K'.defers, ha6]
         simp [Act.put, A5.defers]
        ·exact ⟨F'.os, F'.tape, F'.output, F'.stay.1, fun k hk _ => F'.xkeep k hk hk⟩
      refine wpIn_block (wpIn_loop_rounds ((pcs path).length + 1) (key _ path 0 _ W rfl (by simp) (Nat.zero_le _) ⟨?_, ?_, ?_, rfl⟩ hbW h0))
      ·simp [hn]
      ·simp [Array.getD_eq_getD_getElem?, Array.getElem?_append]
      ·simp [Array.getD_eq_getD_getElem?, Array.getElem?_append]
     ·cases q5
    ·cases q5
   ·cases k5
  ·cases ok
 ·cases ok
theorem enter_of {f : FuncId} {fn : Func} (hf : P.funcs[f]? = some fn) (hb : fn.body.isSome = true) (hn : (fn.name == "runtime.NumGoroutine") = false) (args : Array Value) (w : World) : (callFunc f args).run P w = .ok (.enter f args) w := by
 have hb' : fn.body.isNone = false := by cases hfb : fn.body <;> simp_all
 simp only [callFunc, Sem.run_bind, run_program, Result.andThen_ok, hf, hn, hb', Bool.false_eq_true, if_false, Sem.run_pure]
theorem pc_enter {f fC fI : FuncId} (ok : pcOK P f fC fI = true) (args : Array Value) (w : World) : (callFunc f args).run P w = .ok (.enter f args) w := by
 unfold pcOK at ok
 split at ok
 ·rename_i fn hf
  split at ok
  ·rename_i hbody
   simp only [Bool.and_eq_true, decide_eq_true_eq, beq_iff_eq] at ok
   exact enter_of hf (by rw [hbody]; rfl) (by simpa using ok.1.1.1.1.1.1.1.2) args w
  ·cases ok
 ·cases ok
end
end Go.Am.Nm
