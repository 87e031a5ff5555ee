import Derived.Test.YtldgegojhaamoaaK24
set_option linter.unusedSimpArgs false
set_option linter.unusedVariables false
namespace Go.Proofs.Ytldgegojhaamoaa
open Go.Am

def puts (ws : List Dirty) : List Dirty := ws.foldl (fun l w => put l w.ino w.frm false w.dat) []
theorem puts_snoc (ws : List Dirty) (w : Dirty) : puts (ws ++ [w]) = put (puts ws) w.ino w.frm false w.dat := by unfold puts; rw [List.foldl_append]; rfl
theorem rightB_of {w : Dirty} (h : rightD w = true) : rightB w.ino w.frm w.dat.length = true := h
theorem puts_right : ∀ (ws : List Dirty), (∀ w ∈ ws, rightD w = true) → (∀ d ∈ puts ws, Right d) ∧ (puts ws).length ≤ ws.length := by
  intro ws
  refine snoc_rec (p := fun ws => (∀ w ∈ ws, rightD w = true) → (∀ d ∈ puts ws, Right d) ∧ (puts ws).length ≤ ws.length) ?_ (fun ws w ih h => ?_) ws
  · intro _; simp [puts]
  · obtain ⟨h1, h2⟩ := ih fun x hx => h x (by simp [hx])
    rw [puts_snoc]
    refine ⟨put_right h1 (rightB_of (h w (by simp))), ?_⟩
    have := (put_length (puts ws) w.ino w.frm false w.dat).2
    simp; omega
theorem puts_see (ino : Int) (es : List Int) : ∀ (ws : List Dirty), (∀ w ∈ ws, rightD w = true) → see (puts ws) ino es = see ws ino es := by
  intro ws
  refine snoc_rec (p := fun ws => (∀ w ∈ ws, rightD w = true) → see (puts ws) ino es = see ws ino es) ?_ (fun ws w ih h => ?_) ws
  · intro _; rfl
  · have ih := ih fun x hx => h x (by simp [hx])
    have hr := right_of (h w (by simp))
    have hp := puts_right ws fun x hx => h x (by simp [hx])
    rw [puts_snoc, see_append, see_cons]
    by_cases hi : w.ino = ino
    · subst hi
      rw [see_put hp.1 hr.h0 (List.length_pos_iff.1 hr.h1), ih, if_pos rfl]
      rfl
    · rw [see_put_other _ _ _ hi, ih, if_neg hi]
      rfl
theorem lose (ino : Int) (es : List Int) : ∀ (ws : List Dirty), (∀ w ∈ ws, rightD w = true) → ∀ k, k ≤ (puts ws).length → ∃ m, m ≤ ws.length ∧ see ((puts ws).take k) ino es = see (ws.take m) ino es := by
  intro ws
  refine snoc_rec (p := fun ws => (∀ w ∈ ws, rightD w = true) → ∀ k, k ≤ (puts ws).length → ∃ m, m ≤ ws.length ∧ see ((puts ws).take k) ino es = see (ws.take m) ino es) ?_ (fun ws w ih h => ?_) ws
  · intro _ k hk; exact ⟨0, Nat.le_refl _, by simp [puts]⟩
  · intro k hk
    have hws : ∀ x ∈ ws, rightD x = true := fun x hx => h x (by simp [hx])
    have ih := ih hws
    have old : ∀ k', k' ≤ (puts ws).length → ∀ X : List Dirty, see X ino es = see ((puts ws).take k') ino es → ∃ m, m ≤ (ws ++ [w]).length ∧ see X ino es = see ((ws ++ [w]).take m) ino es := by
      intro k' hk' X hX
      obtain ⟨m, m1, m2⟩ := ih k' hk'
      exact ⟨m, by simp; omega, by rw [hX, m2, List.take_append_of_le_length m1]⟩
    have all : ∀ X : List Dirty, see X ino es = see (puts (ws ++ [w])) ino es → ∃ m, m ≤ (ws ++ [w]).length ∧ see X ino es = see ((ws ++ [w]).take m) ino es := by
      intro X hX
      exact ⟨(ws ++ [w]).length, Nat.le_refl _, by rw [hX, puts_see ino es _ h, List.take_length]⟩
    have hnew : puts (ws ++ [w]) = puts ws ++ [⟨w.ino, w.frm, false, w.dat⟩] → ∃ m, m ≤ (ws ++ [w]).length ∧ see ((puts (ws ++ [w])).take k) ino es = see ((ws ++ [w]).take m) ino es := by
      intro e
      by_cases hk2 : k ≤ (puts ws).length
      · exact old k hk2 _ (by rw [e, List.take_append_of_le_length hk2])
      · refine all _ ?_
        rw [List.take_of_length_le]
        rw [e]; simp; omega
    cases hl : last (puts ws) w.ino with
    | none => exact hnew (by rw [puts_snoc]; unfold put; rw [hl])
    | some q =>
      obtain ⟨i, x⟩ := q
      obtain ⟨A, C, h1, h2, h3, h4⟩ := last_split hl
      by_cases hn : near x w.frm w.dat.length = true
      · have e : puts (ws ++ [w]) = A ++ merge x w.ino w.frm w.dat :: C := by
          rw [puts_snoc]; unfold put; rw [hl]; simp only [hn, if_true]; subst h2; rw [h1, lsetL]
        by_cases hk2 : k ≤ A.length
        · exact old k (by rw [h1]; simp; omega) _ (by rw [e, h1, List.take_append_of_le_length hk2, List.take_append_of_le_length hk2])
        · obtain ⟨j, rfl⟩ : ∃ j, k = A.length + (j + 1) := ⟨k - A.length - 1, by omega⟩
          have t1 : ∀ y : Dirty, (A ++ y :: C).take (A.length + (j + 1)) = A ++ y :: C.take j := fun y => by rw [List.take_length_add_append, List.take_succ_cons]
          have hC : ∀ y ∈ C.take j, y.ino ≠ w.ino := fun y hy => h4 y (List.mem_of_mem_take hy)
          by_cases hi : w.ino = ino
          · refine all _ ?_
            have hs : ∀ X : List Dirty, (∀ y ∈ X, y.ino ≠ w.ino) → see (A ++ merge x w.ino w.frm w.dat :: X) ino es = layD (see A ino es) (merge x w.ino w.frm w.dat) := fun X hX => by
              rw [see_append, see_cons, if_pos (show (merge x w.ino w.frm w.dat).ino = ino from hi), see_none (hi ▸ hX)]
            rw [e, t1, hs _ hC, hs _ h4]
          · refine old (A.length + (j + 1)) ?_ _ ?_
            · have : (puts ws).length = (puts (ws ++ [w])).length := by rw [e, h1]; simp
              omega
            · rw [e, h1, t1, t1, see_append, see_append, see_cons, see_cons, if_neg (show ¬ (merge x w.ino w.frm w.dat).ino = ino from hi), if_neg (h3 ▸ hi)]
      · exact hnew (by rw [puts_snoc]; unfold put; rw [hl]; simp only [hn, if_false]; rfl)

def putsF (ws : List Dirty) : Bool := (ws.foldl (fun (s : Bool × List Dirty) w => (false, put s.2 w.ino w.frm false w.dat)) (true, [])).1
theorem l7_1 {n : Nat} (hn : 9 < n) (ws : List Dirty) (hw : ws.length ≤ 30) (hr : ∀ w ∈ ws, rightD w = true) (f : Bool) (e0 : Env) (h0 : e0 0 = .lst f (ws.map D)) :
    iter (round (C24.tab n) [10, 11] [(.exit 0, [10])] c7_1 e0 0 []) ([.lst true [], .int .i64 0], []) = some (.exit 0, [.lst (putsF ws) ((puts ws).map D)], []) := by
  have := for_list (f := round (C24.tab n) [10, 11] [(.exit 0, [10])] c7_1 e0 0 []) (fun i (s : Bool × List Dirty) => ([.lst s.1 (s.2.map D), .int .i64 i], [])) ws (fun s w => (false, put s.2 w.ino w.frm false w.dat)) (fun s => (.exit 0, [.lst s.1 (s.2.map D)], [])) (fun i s => s.2.length ≤ i ∧ ∀ d ∈ s.2, Right d)
    (fun i hi s hs => by
      have hwr := hr _ (List.getElem_mem hi)
      have h15 := s15 (n := n) (by omega) s.2 s.1 ws[i].fl ws[i].ino ws[i].frm ws[i].dat (by omega) hs.2 (rightB_of hwr)
      have hl := (put_length s.2 ws[i].ino ws[i].frm false ws[i].dat).2
      refine ⟨⟨by simp only; omega, put_right hs.2 (rightB_of hwr)⟩, ?_⟩
      simp -implicitDefEqProofs (disch := omega) [wrap_of, ilt_t, ilt_f, ile_t, ile_f, nlt_t, nlt_f, nle_t, nle_f, ieq_t, ieq_f, imin_l, imin_r, imax_l, imax_r, take_app1, take_map_all, round_eq, b7_1, h0, hi, a15, h15])
    (fun s hs => by simp -implicitDefEqProofs (disch := omega) [wrap_of, ilt_t, ilt_f, ile_t, ile_f, nlt_t, nlt_f, nle_t, nle_f, ieq_t, ieq_f, imin_l, imin_r, imax_l, imax_r, take_app1, take_map_all, round_eq, b7_1, h0]) (true, []) ⟨Nat.le_refl _, by simp⟩
  simp only [Int.natCast_zero, List.map_nil] at this
  have e : ∀ (ws : List Dirty) (s : Bool × List Dirty), (ws.foldl (fun s w => (false, put s.2 w.ino w.frm false w.dat)) s).2 = ws.foldl (fun l w => put l w.ino w.frm false w.dat) s.2 := by
    intro ws
    induction ws with
    | nil => intro s; rfl
    | cons w ws ih => intro s; rw [List.foldl_cons, ih]; rfl
  rw [this, e]; rfl
def loseG (ino : Int) (got : List Int) (s : Bool × List Int) (w : Dirty) : (Bool × List Int) ⊕ (AX × List AV × AH) :=
  if w.ino = ino then (if layD s.2 w = got then .inr (.ret, [.bool true], []) else .inl (false, layD s.2 w)) else .inl s
theorem loseG_ret (ino : Int) (got : List Int) : ∀ (ws : List Dirty) (m : Nat) (s : Bool × List Int), s.2 ≠ got → see (ws.take m) ino s.2 = got → foldE (loseG ino got) ws s = .inr (.ret, [.bool true], [])
  | [], m, s, h, h2 => absurd (by simpa [see] using h2) h
  | w :: ws, 0, s, h, h2 => absurd (by simpa [see] using h2) h
  | w :: ws, m + 1, s, h, h2 => by
    rw [List.take_succ_cons, see_cons] at h2
    simp only [foldE, loseG]
    by_cases hi : w.ino = ino
    · rw [if_pos hi] at h2 ⊢
      by_cases hg : layD s.2 w = got
      · rw [if_pos hg]
      · rw [if_neg hg]
        exact loseG_ret ino got ws m _ hg h2
    · rw [if_neg hi] at h2 ⊢
      exact loseG_ret ino got ws m s h h2
theorem l7_2 {n : Nat} (hn : 4 < n) (ws : List Dirty) (hw : ws.length ≤ 30) (hr : ∀ w ∈ ws, Right w) (f g gf : Bool) (ino : Int) (es got : List Int) (hes : es.length ≤ 4096) (hgot : got.length ≤ 4096) (e0 : Env) (h0 : e0 0 = .lst f (ws.map D)) (h3 : e0 3 = .int .i64 ino) (h9 : e0 9 = .bool true) (h12 : e0 12 = .lst gf (got.map B)) (m : Nat) (hne : es ≠ got) (hm : see (ws.take m) ino es = got) :
    iter (round (C24.tab n) [14, 15] [(.exit 2, []), (.ret, [8])] c7_2 e0 0 []) ([.lst g (es.map B), .int .i64 0], []) = some (.ret, [.bool true], []) := by
  have := for_listE (f := round (C24.tab n) [14, 15] [(.exit 2, []), (.ret, [8])] c7_2 e0 0 []) (fun i (s : Bool × List Int) => ([.lst s.1 (s.2.map B), .int .i64 i], [])) ws (loseG ino got) (fun s => (.exit 2, [], [])) (fun i s => s.2.length ≤ 4096)
    (fun i hi s hs => by
      have hwr := hr _ (List.getElem_mem hi)
      have d0 := hwr.h0
      have d1 := hwr.h1
      have d2 := hwr.h2
      have h11 := s11 (n := n) (by omega) s.2 ws[i].dat s.1 ws[i].fl ws[i].frm (by omega) (by omega) (by omega)
      rw [layR_right hwr] at h11
      have hl := layD_4096 hwr hs
      have h17 := s17 (n := n) (by omega) (layD s.2 ws[i]) got false gf (by omega)
      unfold loseG
      by_cases hi1 : ws[i].ino = ino
      · rw [if_pos hi1]
        by_cases hg : layD s.2 ws[i] = got
        · rw [if_pos hg]
          simp only [hg, decide_true] at h17
          simp -implicitDefEqProofs (disch := omega) [wrap_of, ilt_t, ilt_f, ile_t, ile_f, nlt_t, nlt_f, nle_t, nle_f, ieq_t, ieq_f, imin_l, imin_r, imax_l, imax_r, take_app1, take_map_all, round_eq, b7_2, h0, h3, h9, h12, hi, hi1, h11, a17, h17, hg]
        · rw [if_neg hg]
          simp only [hg, decide_false] at h17
          refine ⟨hl, ?_⟩
          simp -implicitDefEqProofs (disch := omega) [wrap_of, ilt_t, ilt_f, ile_t, ile_f, nlt_t, nlt_f, nle_t, nle_f, ieq_t, ieq_f, imin_l, imin_r, imax_l, imax_r, take_app1, take_map_all, round_eq, b7_2, h0, h3, h9, h12, hi, hi1, h11, a17, h17]
      · rw [if_neg hi1]
        refine ⟨hs, ?_⟩
        simp -implicitDefEqProofs (disch := omega) [wrap_of, ilt_t, ilt_f, ile_t, ile_f, nlt_t, nlt_f, nle_t, nle_f, ieq_t, ieq_f, imin_l, imin_r, imax_l, imax_r, take_app1, take_map_all, round_eq, b7_2, h0, h3, h9, h12, hi, hi1])
    (fun s hs => by simp -implicitDefEqProofs (disch := omega) [wrap_of, ilt_t, ilt_f, ile_t, ile_f, nlt_t, nlt_f, nle_t, nle_f, ieq_t, ieq_f, imin_l, imin_r, imax_l, imax_r, take_app1, take_map_all, round_eq, b7_2, h0]) (g, es) hes
  rw [loseG_ret ino got ws m (g, es) hne hm] at this
  simp only [Int.natCast_zero] at this
  exact this
theorem tmod_cast (a b : Nat) : (a : Int).tmod ((b : Int) + 1) = ((a % (b + 1) : Nat) : Int) := by
  rw [← Int.natCast_succ, Int.ofNat_tmod]
theorem w7 (l : List Dirty) (hl : l.length ≤ 9223372036854775807) (hs : ∀ d ∈ l, Short d) (f h : Bool) (k : Int) (hk0 : 0 ≤ k) (hk1 : k ≤ 255) (es : List Int) (he : es.length ≤ 9223372036854775807) (ino : Int) :
    runP (C24.tab 36) c7 [.lst f (l.map D), .int .u8 k, .lst h (es.map B), .int .i64 ino] = some (.bool true) := by
  rw [runP_eq, runH_eq]
  have h9 : (C24.tab 36).p 9 [] = some (.bool true) := s9 (by omega)
  have h10 := s10 (n := 36) (by omega) l hl hs f
  cases hfit : fits l with
  | false =>
    rw [hfit] at h10
    simp -implicitDefEqProofs (disch := omega) [wrap_of, ilt_t, ilt_f, ile_t, ile_f, nlt_t, nlt_f, nle_t, nle_f, ieq_t, ieq_f, imin_l, imin_r, imax_l, imax_r, take_app1, take_map_all, c7, a9, h9, a10, h10]
  | true =>
    rw [hfit] at h10
    obtain ⟨f1, f2, f3, f4⟩ := fits_right hfit
    have frd : ∀ x ∈ l, rightD x = true := by
      intro x hx
      unfold fits at hfit
      simp only [Bool.and_eq_true, List.all_eq_true] at hfit
      exact hfit.1.2 x hx
    obtain ⟨kk, rfl⟩ : ∃ kk : Nat, k = kk := ⟨k.toNat, by omega⟩
    by_cases he5 : es.length ≤ 4096
    · obtain ⟨p1, p2⟩ := puts_right l frd
      obtain ⟨r, hr⟩ : ∃ r, r = kk % ((puts l).length + 1) := ⟨_, rfl⟩
      have hrl : r < (puts l).length + 1 := by rw [hr]; exact Nat.mod_lt _ (by omega)
      have hmod := tmod_cast kk (puts l).length
      rw [← hr] at hmod
      obtain ⟨m, m1, m2⟩ := lose ino es l frd r (by omega)
      simp -implicitDefEqProofs (disch := omega) [wrap_of, ilt_t, ilt_f, ile_t, ile_f, nlt_t, nlt_f, nle_t, nle_f, ieq_t, ieq_f, imin_l, imin_r, imax_l, imax_r, take_app1, take_map_all, c7, a9, h9, a10, h10, he5]
      rw [l7_1 (by omega) l f1 frd f _ (by simp -implicitDefEqProofs (disch := omega) [wrap_of, ilt_t, ilt_f, ile_t, ile_f, nlt_t, nlt_f, nle_t, nle_f, ieq_t, ieq_f, imin_l, imin_r, imax_l, imax_r, take_app1, take_map_all, ])]
      generalize putsF l = g
      have h27 := s27 (n := 36) (by omega) r (by omega) ino g h (puts l) es p1 (by omega)
      obtain ⟨b1, b2⟩ := backG_eq ino r (h, es) (puts l)
      rw [b1, b2] at h27
      have sl := see_le (l := (puts l).take r) (fun d hd => p1 d (List.mem_of_mem_take hd)) ino es he5
      generalize (backG ino r ((h, es), puts l)).1.1 = fl at h27
      have h17 := s17 (n := 36) (by omega) es (see ((puts l).take r) ino es) h fl (by omega)
      by_cases hsame : es = see ((puts l).take r) ino es
      · rw [decide_eq_true hsame] at h17
        simp -implicitDefEqProofs (disch := omega) [wrap_of, ilt_t, ilt_f, ile_t, ile_f, nlt_t, nlt_f, nle_t, nle_f, ieq_t, ieq_f, imin_l, imin_r, imax_l, imax_r, take_app1, take_map_all, hmod, a27, h27, a17, h17]
      · rw [decide_eq_false hsame] at h17
        simp -implicitDefEqProofs (disch := omega) [wrap_of, ilt_t, ilt_f, ile_t, ile_f, nlt_t, nlt_f, nle_t, nle_f, ieq_t, ieq_f, imin_l, imin_r, imax_l, imax_r, take_app1, take_map_all, hmod, a27, h27, a17, h17]
        rw [l7_2 (by omega) l f1 f2 f h fl ino es (see ((puts l).take r) ino es) he5 sl _ (by simp -implicitDefEqProofs (disch := omega) [wrap_of, ilt_t, ilt_f, ile_t, ile_f, nlt_t, nlt_f, nle_t, nle_f, ieq_t, ieq_f, imin_l, imin_r, imax_l, imax_r, take_app1, take_map_all, ]) (by simp -implicitDefEqProofs (disch := omega) [wrap_of, ilt_t, ilt_f, ile_t, ile_f, nlt_t, nlt_f, nle_t, nle_f, ieq_t, ieq_f, imin_l, imin_r, imax_l, imax_r, take_app1, take_map_all, ]) (by simp -implicitDefEqProofs (disch := omega) [wrap_of, ilt_t, ilt_f, ile_t, ile_f, nlt_t, nlt_f, nle_t, nle_f, ieq_t, ieq_f, imin_l, imin_r, imax_l, imax_r, take_app1, take_map_all, ]) (by simp -implicitDefEqProofs (disch := omega) [wrap_of, ilt_t, ilt_f, ile_t, ile_f, nlt_t, nlt_f, nle_t, nle_f, ieq_t, ieq_f, imin_l, imin_r, imax_l, imax_r, take_app1, take_map_all, ]) m hsame m2.symm]
        simp -implicitDefEqProofs (disch := omega) [wrap_of, ilt_t, ilt_f, ile_t, ile_f, nlt_t, nlt_f, nle_t, nle_f, ieq_t, ieq_f, imin_l, imin_r, imax_l, imax_r, take_app1, take_map_all, ]
    · simp -implicitDefEqProofs (disch := omega) [wrap_of, ilt_t, ilt_f, ile_t, ile_f, nlt_t, nlt_f, nle_t, nle_f, ieq_t, ieq_f, imin_l, imin_r, imax_l, imax_r, take_app1, take_map_all, c7, a9, h9, a10, h10, he5]
end Go.Proofs.Ytldgegojhaamoaa
