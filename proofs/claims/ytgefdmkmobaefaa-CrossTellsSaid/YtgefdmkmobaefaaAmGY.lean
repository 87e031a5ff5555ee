/-
 The abstract machine: slices.Clone.
-/
import Derived.Test.YtgefdmkmobaefaaAmGU
import Derived.Test.YtgefdmkmobaefaaAmGT
set_option linter.unusedSimpArgs false
set_option linter.unusedVariables false
namespace Go.Am
section
variable {P : Program} {Z : Nat → Prop} {Γ : Tab} {β : Bds} {h : AH} {w : World}
theorem fn_calls {f : FuncId} {F : AF} (ok : okF P f F = true) {args : List AV} (hle : args.length ≤ F.nt) {Rz : Ending → World → Prop} (R : Rel Z β h w) {vs : List Value} (hl : args.length = vs.length)
  (hv : ∀ (j : Nat) (y : AV) (u : Value), args[j]? = some y → vs[j]? = some u → VR β (Own Z β h) w y u)
  (H : ∀ (c : Code) (fn : Func) (a : Act), okCode P F.nt c F.body = true → okRes P fn.results.toList F.res = true → EnvR Z β h w (argEnv args) a F.nt → a.defers = [] → c.wp P (bodyPost P fn Rz) a w) : Calls P f vs.toArray w Rz := by
 unfold okF at ok
 split at ok
 ·rename_i fn hf
  split at ok
  ·rename_i c hc
   simp only [Bool.and_eq_true, decide_eq_true_eq, beq_iff_eq] at ok
   obtain ⟨⟨⟨hn, hcode⟩, hres⟩, hname⟩ := ok
   have E : EnvR Z β h w (argEnv args) { tmps := vs.toArray ++ Array.replicate (fn.ntmps - vs.toArray.size) undef, defers := [] } F.nt := by
    refine ⟨by simp; omega, fun t => ?_⟩
    unfold argEnv
    by_cases ht : t < args.length
    ·have h1 : args[t]? = some args[t] := List.getElem?_eq_getElem ht
     have h2 : vs[t]? = some (vs[t]'(by omega)) := List.getElem?_eq_getElem (by omega)
     have := hv t _ _ h1 h2
     rw [List.getD_eq_getElem?_getD, h1]
     rw [Array.getD_eq_getD_getElem?, Array.getElem?_append_left (by simp; omega)]
     simp only [List.getElem?_toArray, h2, Option.getD_some]
     exact this
    ·rw [List.getD_eq_getElem?_getD, List.getElem?_eq_none (by omega)]
     exact .dead _
   exact calls_of_wp hf hc (H c fn _ hcode hres E rfl)
  ·cases ok
 ·cases ok
theorem okF_callable {f : FuncId} {F : AF} (ok : okF P f F = true) : Callable P f := by
 unfold okF at ok
 split at ok
 ·rename_i fn hf
  split at ok
  ·rename_i c hc
   simp only [Bool.and_eq_true, decide_eq_true_eq, beq_iff_eq] at ok
   exact ⟨fn, hf, by rw [hc]; rfl, by simpa using ok.2⟩
  ·cases ok
 ·cases ok
def cloneF (sz bytes : Nat) (zero : AV) : AF := AF.mk 8 [.t 2] (.seq (.ops (.op (some 2) (.mv (.c (.lst true []))) (.nil)))
 (.seq (.seq (.ops (.op (some 3) (.mv (.t 0)) (.op (some 4) (.isnil .sl false (.t 3)) (.nil))))
 (.cond (.t 4) (.seq (.ops (.op (some 2) (.mv (.c (.lst true []))) (.nil)))
 (.ret)) (.skip)))
 (.seq (.ops (.op (some 5) (.bsl sz zero 0 []) (.op (some 6) (.mv (.t 0)) (.op (some 7) (.app sz bytes (.t 5) (.t 6)) (.op (some 2) (.mv (.t 7)) (.nil))))))
 (.ret))))
def cloneH (sz bytes : Nat) (args : List AV) (h : AH) : Option (AV × AH) := match args with
 | [a] => (elems h a).bind fun es => if szOk sz es = true ∧ 0 < sz ∧ es.length * bytes ≤ 140737488355328 ∧ es.length ≤ 140737488355328 then some (.own h.length 0 0 es.length, h ++ [.row 0 sz es]) else none
 | _ => none
theorem clone_snd (hm : P.follows .mixedOrders = true) (hΓ : TabOK P Γ) {f : FuncId} {sz bytes : Nat} {zero : AV} (ok : okF P f (cloneF sz bytes zero) = true) {args : List AV} {r : AV} {h' : AH} (hr : cloneH sz bytes args h = some (r, h')) : Snd P f args h r h' := by
 unfold cloneH at hr
 split at hr
 ·rename_i a
  simp only [Option.bind_eq_some_iff] at hr
  obtain ⟨es, hes, hr⟩ := hr
  split at hr
  ·rename_i hc
   cases hr
   obtain ⟨hc1, hc2, hc3, hc4⟩ := hc
   have happ : append h sz bytes (.lst true []) es = some (.own h.length 0 0 es.length, h ++ [.row 0 sz es]) := by
    simp only [append]
    rw [if_pos ⟨.inl trivial, by simp [szOk], hc1, by simpa using hc3, by simpa using hc4⟩]
    simp
   by_cases hne : es = []
   ·refine ⟨okF_callable ok, fun Z β w vs R hl hv => fn_calls ok (by simp [cloneF]) R hl hv fun c fn act hcode hres E hd => ?_⟩
    subst hne
    -- the two ways
    have hnil : isNil .sl false a = some .anyb := by
     cases a <;> simp only [elems] at hes <;> first | (cases hes; done) | skip
     ·cases hes; simp [isNil]
     ·rename_i b v o n
      have hn : n = 0 := by
       split at hes
       ·split at hes
        ·rename_i hc; simp only [Option.some.injEq] at hes
         have := congrArg List.length hes
         simp at this; omega
        ·cases hes
       ·split at hes
        ·rename_i hc; simp only [Option.some.injEq] at hes
         have := congrArg List.length hes
         simp at this; omega
        ·cases hes
       ·cases hes
      subst hn
      simp [isNil]
    cases c <;> first | (cases hcode; done) | skip
    rename_i c1 c2
    simp only [cloneF, okCode, Bool.and_eq_true] at hcode
    obtain ⟨ok1, hcode⟩ := hcode
    cases c1 <;> first | (cases ok1; done) | skip
    cases c2 <;> first | (cases hcode; done) | skip
    rename_i c2 c3
    simp only [okCode, Bool.and_eq_true] at hcode
    obtain ⟨hcode, ok3⟩ := hcode
    cases c2 <;> first | (cases hcode; done) | skip
    rename_i c4 c5
    simp only [okCode, Bool.and_eq_true] at hcode
    obtain ⟨ok4, ok5⟩ := hcode
    cases c4 <;> first | (cases ok4; done) | skip
    cases c5 <;> first | (cases ok5; done) | skip
    rename_i cc cx cy
    simp only [okCode, Bool.and_eq_true] at ok5
    obtain ⟨⟨okc, okx⟩, oky⟩ := ok5
    have h0 : argEnv [a] 0 = a := rfl
    have iA : its Γ (.op (some 2) (.mv (.c (.lst true []))) .nil) ⟨argEnv [a], h⟩ = some ⟨(argEnv [a]).put 2 (.lst true []), h⟩ := rfl
    generalize hs1 : (⟨(argEnv [a]).put 2 (.lst true []), h⟩ : St) = s1 at iA
    have iB : its Γ (.op (some 3) (.mv (.t 0)) (.op (some 4) (.isnil .sl false (.t 3)) .nil)) s1 = some ⟨(((argEnv [a]).put 2 (.lst true [])).put 3 a).put 4 .anyb, h⟩ := by
     rw [← hs1]
     show ((keepH h (isNil .sl false a)).bind fun r => some (St.put ⟨((argEnv [a]).put 2 (.lst true [])).put 3 a, r.2⟩ (some 4) r.1)) = _
     rw [hnil]; rfl
    refine wp_seq (region_sound hm hΓ ok1 iA (W := fun _ => true) (fun _ _ => rfl) R E fun a1 w1 β1 R1 F1 E1 K1 => ?_)
    refine wp_seq (wp_seq (region_sound hm hΓ ok4 iB (W := fun _ => true) (fun _ _ => rfl) R1 E1 fun a2 w2 β2 R2 F2 E2 K2 => ?_))
    have hs1h : s1.h = h := by rw [← hs1]
    rw [hs1h] at F1 F2 R1
    have hcv := okO_rel E2 okc
    have hcb : ∃ b, a2.eval cc = .bool b := by
     have : AO.get ((((argEnv [a]).put 2 (.lst true [])).put 3 a).put 4 .anyb) (.t 4) = .anyb := rfl
     rw [this] at hcv
     generalize a2.eval cc = u at hcv
     cases hcv with
     | pure _ _ hq => cases hq
     | anyb b => exact ⟨b, rfl⟩
    obtain ⟨b, hcb⟩ := hcb
    have F12 := F1.trans F2
    have K12 := K1.trans K2
    generalize hs2 : (⟨(((argEnv [a]).put 2 (.lst true [])).put 3 a).put 4 .anyb, h⟩ : St) = s2 at R2 F2 E2 F12
    have hs2h : s2.h = h := by rw [← hs2]
    refine wp_cond hcb ?_
    -- the end, by either way
    have fin : ∀ {s3 : St} {a3 : Act} {w3 : World} {β3 : Bds} {r3 : AV} {h3 : AH}, s3.e 2 = r3 → s3.h = h3 → Rel Z β3 s3.h w3 → FrV (fun i => decide (h.length ≤ i)) Z β2 s2.h w2 β3 s3.h w3 → EnvR Z β3 s3.h w3 s3.e a3 8 → Keeps (fun _ => true) a2 a3 →
      (∀ u w3 β3, Rel Z β3 h3 w3 → Fr Z β h w β3 h3 w3 → VR β3 (Own Z β3 h3) w3 r3 u → ∃ v β', Ending.returned u = .returned v ∧ Rel Z β' (h ++ [.row 0 sz []]) w3 ∧ Fr Z β h w β' (h ++ [.row 0 sz []]) w3 ∧ VR β' (Own Z β' (h ++ [.row 0 sz []])) w3 (.own h.length 0 0 0) v) →
      bodyPost P fn (fun e w' => ∃ v β', e = .returned v ∧ Rel Z β' (h ++ [.row 0 sz []]) w' ∧ Fr Z β h w β' (h ++ [.row 0 sz []]) w' ∧ VR β' (Own Z β' (h ++ [.row 0 sz []])) w' (.own h.length 0 0 0) v) .ret a3 w3 := by
     intro s3 a3 w3 β3 r3 h3 e2 eh R3 F3 E3 K3 hf
     obtain ⟨u, h1, h2⟩ := resV_rel R3 E3 (v := r3) hres (by simp [cloneF, resV, resAll, resOne, e2])
     rw [eh] at R3 F3 h2
     rw [hs2h] at F3
     have F4 : Fr Z β2 h w2 β3 h3 w3 := ⟨F3.xkeep, F3.os, F3.tape, F3.output, fun i v bd hb => F3.ext i v bd (by
      simp only [decide_eq_false_iff_not]
      intro hle
      rw [hs2h] at R2
      rw [R2.fresh i v hle] at hb
      cases hb) hb, F3.stay⟩
     rw [hs2h] at F12
     exact ⟨(K12.trans K3).defers.trans hd, u, h1, hf u w3 β3 R3 (F12.trans F4) h2⟩
    cases b with
    | true =>
     rw [if_pos rfl]
     refine eval_sound hm hΓ _ _ okx (V := fun i => decide (h.length ≤ i)) (ρ := St) (k := fun x s => match x with | .ret => some s | _ => none)
      (s := s2) (r := ⟨s2.e.put 2 (.lst true []), s2.h⟩) rfl (W := fun _ => true) (fun _ _ => rfl) R2 E2 fun x s' a3 w3 β3 hk R3 F3 E3 K3 => ?_
     cases x with
     | normal => cases hk
     | exit => cases hk
     | ret =>
      cases hk
      refine fin (s3 := ⟨s2.e.put 2 (.lst true []), s2.h⟩) (r3 := .lst true []) (h3 := h) rfl hs2h R3 F3 E3 K3 fun u w3 β3 R3 F3 hv => ?_
      have hv := hv.lst_inv
      obtain ⟨ad, rfl⟩ : ∃ ad, u = .slice ad 0 0 := by
       cases hv with
       | lst _ _ ad c _ _ _ _ hf _ _ _ _ _ _ =>
        have hc := hf rfl
        simp only [List.length_nil] at hc ⊢
        subst hc
        exact ⟨ad, rfl⟩
      obtain ⟨β4, R4, F4, V4⟩ := R3.push_none sz hc2
      exact ⟨_, β4, rfl, R4, F3.trans F4, V4 ad⟩
    | false =>
     rw [if_neg (by simp)]
     cases cy <;> first | (cases oky; done) | skip
     all_goals first | refine wp_skip ?_ | refine wp_label ?_
     all_goals
      have happ' : append s2.h sz bytes (.lst true []) [] = some (.own h.length 0 0 0, h ++ [.row 0 sz []]) := by rw [hs2h]; exact happ
      have hes' : elems s2.h a = some [] := by rw [hs2h]; exact hes
      have ha0 : s2.e 0 = a := by rw [← hs2]; rfl
      refine eval_sound hm hΓ _ _ ok3 (V := fun i => decide (h.length ≤ i)) (ρ := St) (k := fun x s => match x with | .ret => some s | _ => none)
       (s := s2) (r := ⟨(((s2.e.put 5 (.lst true [])).put 6 a).put 7 (.own h.length 0 0 0)).put 2 (.own h.length 0 0 0), h ++ [.row 0 sz []]⟩) ?_ (W := fun _ => true) (fun _ _ => rfl) R2 E2 fun x s' a3 w3 β3 hk R3 F3 E3 K3 => ?_
      ·simp [eval, its, exec, AO.get, St.put, Env.put, bpartsP, ha0, hes', happ']
      ·cases x with
       | normal => cases hk
       | exit => cases hk
       | ret =>
        cases hk
        exact fin (r3 := .own h.length 0 0 0) (h3 := h ++ [.row 0 sz []]) rfl rfl R3 F3 E3 K3 fun u w3 β3 R3 F3 hv => ⟨u, β3, rfl, R3, F3, hv⟩
   ·refine runH_snd hm hΓ ok ?_
    have hnil : isNil .sl false a = some (.bool false) := by
     cases a <;> simp only [elems] at hes <;> first | (cases hes; done) | skip
     ·cases hes; simp [isNil, hne]
     ·rename_i b v o n
      have hn : n ≠ 0 := by
       rintro rfl
       split at hes
       ·split at hes
        ·simp only [List.take_zero, Option.some.injEq] at hes; exact hne hes.symm
        ·cases hes
       ·split at hes
        ·simp only [List.take_zero, Option.some.injEq] at hes; exact hne hes.symm
        ·cases hes
       ·cases hes
      simp [isNil, hn]
    have h0 : argEnv [a] 0 = a := rfl
    simp [runH, cloneF, hnil, h0, bpartsP, hes, happ]
  ·cases hr
 ·cases hr
end
end Go.Am

/-
 The abstract machine: what is made with the rows, as a value; slices.Clone as one.
-/
namespace Go.Am
section
variable {P : Program} {Z : Nat → Prop} {Γ : Tab} {β : Bds} {h : AH} {w : World}
end
end Go.Am
