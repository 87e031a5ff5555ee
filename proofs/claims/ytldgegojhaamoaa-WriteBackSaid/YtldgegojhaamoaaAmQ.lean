/-
  The abstract machine: an operation that is meant does what the program's does.
-/
import Derived.Test.YtldgegojhaamoaaAmP
set_option linter.unusedSimpArgs false
set_option linter.unusedVariables false
namespace Go.Am

section
variable {P : Program} {Z : Nat → Prop} {β : Bds} {h : AH} {w : World}

theorem exec_sound (R : Rel Z β h w) {Γ : Tab} (hΓ : TabOK P Γ) {e : Env} {a : Act} {n : Nat} (E : EnvR Z β h w e a n) {o : Oper} {x : AOp} (ok : okOp P o.op x = true) {av : AV} {h' : AH} (hx : exec Γ e h x = some (av, h'))
    {next : Act → World → Prop} {Q : Exit → Act → World → Prop}
    (K : ∀ v w' β', Rel Z β' h' w' → Fr Z β h w β' h' w' → VR β' (Own Z β' h') w' av v → next (a.put o.dst v) w') : o.wp P a w next Q := by
  by_cases hmv : ∃ y, x = .mv y
  · obtain ⟨y, rfl⟩ := hmv
    obtain ⟨dst, op, type, pos, after, guard⟩ := o
    dsimp only at ok
    simp only [exec] at hx
    cases hx
    unfold okOp at ok
    split at ok <;> rename_i heq <;> first | (cases ok; done) | (cases heq; done) | skip
    all_goals
      cases heq
      have v1 := okO_rel E ok
      unfold Oper.wp
      simp only [execOp, Sem.run_pure]
      exact K _ w β R (Fr.refl Z β h w) v1
  by_cases hnck : ∃ y, x = .nck y
  · obtain ⟨y, rfl⟩ := hnck
    obtain ⟨dst, op, type, pos, after, guard⟩ := o
    dsimp only at ok
    unfold okOp at ok
    split at ok <;> rename_i heq <;> first | (cases ok; done) | (cases heq; done) | skip
    cases heq
    have v1 := okO_rel E ok
    simp only [exec] at hx
    unfold Oper.wp
    simp only [execOp]
    split at hx
    · rename_i b vv i oo hl
      cases hx
      rw [hl] at v1
      obtain ⟨bd, c, hb, hc, he⟩ := v1.ptr_inv
      rw [he] at v1 ⊢
      exact K _ w β R (Fr.refl Z β h w) v1
    · rename_i cs hl
      cases hx
      rw [hl] at v1
      generalize hv1 : a.eval _ = u at v1
      cases v1 with
      | pure _ _ hv => cases hv
      | rptr _ blk oo f' hO hw q1 q3 q2 =>
        exact K _ w β R (Fr.refl Z β h w) (.rptr _ blk oo f' hO hw q1 q3 q2)
    · rename_i f fa fc hl
      split at hx
      · cases hx
        rw [hl] at v1
        generalize hv1 : a.eval _ = u at v1
        cases v1 with
        | pure _ _ hv => cases hv
        | fn _ _ _ va vc q1 q2 q3 q4 =>
          exact K _ w β R (Fr.refl Z β h w) (.fn _ _ _ va vc q1 q2 q3 q4)
      · cases hx
    · cases hx
  by_cases hst : ∃ sz y z, x = .store sz y z
  · obtain ⟨sz, y, z, rfl⟩ := hst
    obtain ⟨dst, op, type, pos, after, guard⟩ := o
    dsimp only at ok
    unfold okOp at ok
    split at ok <;> rename_i heq <;> first | (cases ok; done) | (cases heq; done) | skip
    cases heq
    simp only [Bool.and_eq_true] at ok
    obtain ⟨⟨h1, h2⟩, h3⟩ := ok
    simp only [exec, Option.bind_eq_some_iff] at hx
    obtain ⟨h1', hs, hx⟩ := hx
    cases hx
    obtain ⟨w', hr, R', F'⟩ := store_rel (P := P) R hs (okO_rel E h2) (okO_rel E h3) h1
    unfold Oper.wp
    simp only [execOp, Sem.run_bind, hr, Result.andThen_ok, Sem.run_pure]
    exact K _ w' β R' F' .undef
  by_cases hcl : ∃ f ys, x = .call f ys ∨ x = .callp f ys
  · obtain ⟨f, ys, hcl⟩ := hcl
    obtain ⟨dst, op, type, pos, after, guard⟩ := o
    dsimp only at ok
    have key : ∃ c : Array Operand × Array TypeId, op = .call { callee := .value (.func f), args := c.1, argTypes := c.2 } ∧ okArgs c.1.toList ys = true := by
      rcases hcl with rfl | rfl
      all_goals
        unfold okOp at ok
        split at ok <;> rename_i heq <;> first | (cases ok; done) | (cases heq; done) | skip
        cases heq
        simp only [Bool.and_eq_true, decide_eq_true_eq] at ok
        obtain ⟨rfl, ok⟩ := ok
        exact ⟨(_, _), rfl, ok⟩
    obtain ⟨⟨args, ats⟩, rfl, hok⟩ := key
    obtain ⟨p1, p2⟩ := getAll_rel E hok
    have hs : Snd P f (getAll e ys) h av h' := by
      rcases hcl with rfl | rfl
      · exact callA_snd hΓ hx
      · simp only [exec] at hx
        split at hx
        · rename_i hall
          cases hp : Γ.p f (getAll e ys) with
          | none => rw [hp] at hx; cases hx
          | some r => rw [hp] at hx; cases hx; exact hΓ.p f _ _ h hall hp
        · cases hx
    unfold Oper.wp
    have he : execOp a.eval ⟨dst, .call { callee := .value (.func f), args := args, argTypes := ats }, type, pos, after, guard⟩ = callFunc f (args.toList.map a.eval).toArray := by
      have : (args.toList.map a.eval).toArray = args.map a.eval := Array.ext' (by simp)
      simp [execOp, resolve, Deferred.ofValue, invoke, Act.eval, this]
    rw [he]
    exact hs.wp R p1 p2 K
  by_cases hcv : ∃ y ys, x = .callv y ys
  · obtain ⟨y, ys, rfl⟩ := hcv
    obtain ⟨dst, op, type, pos, after, guard⟩ := o
    dsimp only at ok
    unfold okOp at ok
    split at ok <;> rename_i heq <;> first | (cases ok; done) | (cases heq; done) | skip
    cases heq
    rename_i t args ats
    simp only [Bool.and_eq_true] at ok
    obtain ⟨h1, h2⟩ := ok
    obtain ⟨p1, p2⟩ := getAll_rel E h2
    have v1 := okO_rel E h1
    simp only [exec] at hx
    split at hx
    · rename_i g first cap hg
      split at hx
      · rename_i g
        rw [hg] at v1
        have hs : Snd P g _ h av h' := callA_snd hΓ hx
        generalize hv1 : a.eval (.tmp t) = u at v1
        cases v1 with
        | pure _ _ hv => cases hv
        | fn _ _ _ va vc q1 q2 q3 q4 =>
        unfold Oper.wp
        have he : execOp a.eval ⟨dst, .call { callee := .value (.tmp t), args := args, argTypes := ats }, type, pos, after, guard⟩ = callFunc g (va ++ args.toList.map a.eval ++ vc).toArray := by
          have : (va ++ args.toList.map a.eval ++ vc).toArray = va.toArray ++ args.map a.eval ++ vc.toArray := Array.ext' (by simp)
          rw [this]
          simp [execOp, resolve, Deferred.ofValue, invoke, hv1]
        rw [he]
        refine hs.wp R (by simp only [List.length_append, q1, q2, p1]) ?_ K
        intro j yy uu hy hu
        rw [List.getElem?_append] at hy hu
        have e1 : (first ++ getAll e ys).length = (va ++ args.toList.map a.eval).length := by simp only [List.length_append, q1, p1]
        rw [e1] at hy
        split at hy
        · rename_i hlt
          rw [if_pos hlt] at hu
          rw [List.getElem?_append] at hy hu
          rw [q1] at hy
          split at hy
          · rename_i hlt2; rw [if_pos hlt2] at hu; exact q3 _ _ _ hy hu
          · rename_i hlt2; rw [if_neg hlt2] at hu; exact p2 _ _ _ hy hu
        · rename_i hlt
          rw [if_neg hlt] at hu
          exact q4 _ _ _ hy hu
      · cases hx
    · cases hx
  obtain ⟨s, he, hm⟩ := exec_makes R E ok hx (fun f ys => ⟨fun hh => hcl ⟨f, ys, .inl hh⟩, fun hh => hcl ⟨f, ys, .inr hh⟩⟩) (fun y ys hh => hcv ⟨y, ys, hh⟩) (fun sz y z hh => hst ⟨sz, y, z, hh⟩) (fun y hh => hnck ⟨y, hh⟩) (fun y hh => hmv ⟨y, hh⟩)
  exact wp_of_makes he hm K

end
end Go.Am
