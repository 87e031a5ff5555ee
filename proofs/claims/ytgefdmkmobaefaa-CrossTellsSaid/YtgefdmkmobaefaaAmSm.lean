/-
 name.Split: its summary.
-/
import Derived.Test.YtgefdmkmobaefaaAmSl
set_option linter.unusedSimpArgs false
set_option linter.unusedVariables false
namespace Go.Am.Nm
open Go.Am Go.RowKit
def goodP (rightN : List UInt8 → Bool) (x : List UInt8 × Bool) : Bool := x.2 && rightN x.1
def splitL (rightN : List UInt8 → Bool) (path : List UInt8) : Option (List (List UInt8)) :=
 if path = [47] then some [] else if pcs path ≠ [] ∧ (pcs path).length ≤ 12 ∧ (pcs path).all (goodP rightN) = true then some ((pcs path).map (·.1)) else none
def splitV (rightN : List UInt8 → Bool) (path : List UInt8) : AV := match splitL rightN path with
 | some l => .tup [.lst (decide (path = [47])) (l.map AV.str), .int .i64 0]
 | none => .tup [.lst true [], .int .i64 60]
section
variable {P : Program} {Γ : Tab}
theorem assign_in {t s : Tmp} {os : List Oper} {ops : Array Oper} (hops : ops.toList = os) (ok : isAssign os t s = true) {id l m : Nat} {a : Act} {w : World} {Q : Exit → Act → World → Prop} (h : Q .normal (a.put (some t) (a.tmps.getD s undef)) w) :
  (Code.region id ops false).wpIn (Fence.wide.inRound l) m P Q a w := by
 unfold isAssign at ok
 split at ok
 ·rename_i o
  simp only [Bool.and_eq_true, decide_eq_true_eq] at ok
  obtain ⟨⟨q1, q2⟩, q3⟩ := ok
  split at q3
  ·rename_i s' ho
   have hs : s' = s := by simpa using q3
   subst hs
   refine wpIn_region_list ?_
   rw [hops]
   unfold wpListIn
   rw [if_pos (wanted_none (by simpa using q2))]
   refine oper_in (fun c hc => by rw [ho] at hc; cases hc) ?_
   unfold Oper.wp
   have hx : (execOp a.eval o).run P w = .ok (.value (a.eval (.tmp s'))) w := by
    unfold execOp
    simp only [ho, Sem.run_pure]
   rw [hx, Oper.upon_value, q1]
   exact h
  ·cases q3
 ·cases ok
def e1 (x : Option (List UInt8 × Bool)) : Env := fun t => if t = 2 then .ptr 0 0 0 0 else if t = 3 then .ptr 1 0 0 0 else if t = 4 then .ptr 2 0 0 0 else if t = 5 then (x.elim .dead fun x => .str x.1) else if t = 6 then (x.elim .dead fun x => .bool x.2) else .dead
theorem box_at {Z : Nat → Prop} {β : Bds} {h : AH} {W : World} {k : Nat} {p : List UInt8} (R : Rel Z β h W) (hk : h[k]? = some (.var [.str p])) : ∃ c, β k 0 = some ⟨some c, 0, 1, 1⟩ ∧ Box W c p := by
 obtain ⟨c, cur, elem, e1, e2, e3, e4⟩ := R.blk k _ hk
 obtain ⟨v, g1, _, g3⟩ := e4 0 _ rfl
 have hv := str_val g3
 subst hv
 have : cur = #[.string ⟨p.toArray⟩] := by
  have hs : cur.size = 1 := e3
  apply Array.ext
  ·simpa using hs
  ·intro j h1 h2
   have hj : j = 0 := by omega
   subst hj
   have := Array.getElem?_eq_getElem h1
   rw [g1] at this
   simpa using this.symm
 exact ⟨c, e1, elem, by rw [← this]; exact e2⟩
theorem fnp_val {O : Nat → Prop} {β : Bds} {w : World} {f : Fn} {b c : Nat} {v : Value} (hβ : β b 0 = some ⟨some c, 0, 1, 1⟩) (h : VR β O w (.fn f [] [.ptr b 0 0 0]) v) : v = .func f #[] #[.pointer (some ⟨c, 0, none⟩)] := by
 cases h with
 | pure _ _ h => cases h
 | fn _ _ _ va vc h1 h2 q1 q2 =>
  have e1 : va = [] := List.eq_nil_of_length_eq_zero (by simpa using h1.symm)
  subst e1
  match vc, h2 with
  | [u], _ =>
   obtain ⟨bd, c', g1, g2, g3⟩ := (q2 0 _ u rfl rfl).ptr_inv
   rw [hβ] at g1; cases g1
   cases g2
   rw [g3]
   simp
theorem split_snd (hm : P.follows .mixedOrders = true) (hΓ : TabOK P Γ) {f fP fR fIt fC fI : FuncId} (ok : splitOK P f fP fR = true) (okP : pcOK P fIt fC fI = true) {rightN : List UInt8 → Bool}
  (hC : ∀ p, Γ.p fC [.str p, .str [47]] = some (.tup [.str (cutR p), .bool (cutB p)])) (hI : ∀ s, Γ.p fI [.str s, .int .u8 47] = some (.int .i64 (idxI s)))
  (hR : ∀ s, Γ.p fR [.str s] = some (.bool (rightN s))) (hP : ∀ p h, callA Γ fP [.str p] h = some (.fn (.func fIt) [] [.ptr h.length 0 0 0], h ++ [.var [.str p]]))
  (path : List UInt8) (h : AH) : Snd P f [.str path] h (splitV rightN path) h := by
 unfold splitOK at ok
 split at ok
 ·rename_i fn hf
  split at ok
  ·rename_i R0 X1 R3 R4 ps idA opsA idB opsB bd PO hbody
   simp only [Bool.and_eq_true, decide_eq_true_eq, beq_iff_eq] at ok
   obtain ⟨⟨⟨⟨⟨⟨⟨⟨⟨⟨⟨⟨hn, hres⟩, k0⟩, k1⟩, k3⟩, k4⟩, kb⟩, nb⟩, kp⟩, hps⟩, ha⟩, hb⟩, hname⟩ := ok
   have hps' : ps = #[11, 12] := by
    split at hps
    ·rename_i h1; exact Array.ext' (by simpa using h1)
    ·cases hps
   subst hps'
   refine pure_snd rfl ⟨⟨fn, hf, by rw [hbody]; rfl, by simpa using hname⟩, fun Z β w vs R hl hv => ?_⟩ h
   refine (callsIn_wide (n := 1)).1 (callsIn_of_wp_marks hf hbody trivial ?_ rfl)
   generalize hRR : (fun (e : Ending) (w' : World) => ∃ v β' r0 h1 h2, e = .returned v ∧ purP h1 r0 = some (splitV rightN path, h2) ∧ Rel Z β' h1 w' ∧ Fr Z β [] w β' h1 w' ∧ VR β' (Own Z β' h1) w' r0 v) = RR
   have A0 := At.start (n := 33) R hl hv (by simp)
   rw [hn]
   refine wpIn_seq (A0.step hm hΓ R k0 (x := .normal) ev_r0 fun a1 β1 W1 A1 => ?_)
   refine wpIn_seq (A1.step hm hΓ R k1 (ev_x1 (p := path) rfl rfl rfl) fun a2 β2 W2 A2 => ?_)
   by_cases hp : path = [47]
   ·rw [if_pos hp]
    refine A2.leave0 (x := .ret) (r := .tup [.lst true [], .int .i64 0]) hres (by simp -implicitDefEqProofs (disch := omega) [wrap_of, ilt_t, ilt_f, ile_t, ile_f, nlt_t, nlt_f, nle_t, nle_f, ieq_t, ieq_f, imin_l, imin_r, imax_l, imax_r, take_app1, take_map_all, AX.exit']) (.inl rfl) fun u β' W' h1 h2 h3 => ?_
    rw [← hRR]
    exact ⟨u, β', .tup [.lst true [], .int .i64 0], _, _, rfl, (by simp -implicitDefEqProofs (disch := omega) [wrap_of, ilt_t, ilt_f, ile_t, ile_f, nlt_t, nlt_f, nle_t, nle_f, ieq_t, ieq_f, imin_l, imin_r, imax_l, imax_r, take_app1, take_map_all, splitV, splitL, hp]; rfl), h1, h2, h3⟩
   rw [if_neg hp]
   refine wpIn_seq (A2.step hm hΓ R k3 (x := .normal) ev_r3 fun a3 β3 W3 A3 => ?_)
   refine wpIn_seq (wpIn_seq (A3.step hm hΓ R k4 (x := .normal) (ev_r4 (p := path) (hP path) rfl) fun a4 β4 W4 A4 => ?_))
   obtain ⟨β5, A5⟩ := A4.preOwn (i := 2) (sz := 1) (by decide) rfl
   obtain ⟨c, hβ, hbx⟩ := box_at (k := 3) (p := path) A5.rel rfl
   have hlen : ((pcs path).map enc).length = (pcs path).length := by simp
   have hne : pcs path ≠ [] → splitL rightN path = none ∨ (splitL rightN path = some ((pcs path).map (·.1)) ∧ (pcs path).length ≤ 12) := fun h0 => by
    unfold splitL
    rw [if_neg hp]
    split
    ·rename_i h1; exact .inr ⟨rfl, h1.2.1⟩
    ·exact .inl rfl
   -- the activation of round i
   obtain ⟨T0, hT0⟩ : ∃ T0 : Array Value → Array Value, T0 = fun x => ((#[11, 12] : Array Tmp).zip x).foldl (fun t (p, v) => t.setIfInBounds p v) a4.tmps := ⟨_, rfl⟩
   have hT : ∀ x : List UInt8 × Bool, T0 (enc x) = (a4.tmps.setIfInBounds 11 (.string ⟨x.1.toArray⟩)).setIfInBounds 12 (.bool x.2) := fun x => by rw [hT0]; simp [enc]
   have hs4 : a4.tmps.size = 33 := A5.env.1
   refine wpIn_block (rf_sound hm hΓ kb nb A5.rel (kb := 3) (c := c) ⟨_, rfl, _, rfl, hβ⟩ (gf := fIt) (lb := #[.pointer (some ⟨c, 0, none⟩)]) (fnp_val hβ (A5.env.2 10)) (pc_enter okP)
    (encs := (pcs path).map enc) (pieces_gives hm hΓ okP hC hI hbx _) (fun x hx => by
     obtain ⟨y, _, rfl⟩ := List.mem_map.1 hx
     rfl)
    (fun i hh => i ≤ 12 ∧ ((pcs path).take i).all (goodP rightN) = true ∧ hh = hp5 i (((pcs path).take i).map (·.1)))
    (fun ex hh => ex = .ret ∧ splitL rightN path = none ∧ ∃ i l, hh = hpX i l) 5 rfl
    (fun i hh hi => by obtain ⟨_, _, rfl⟩ := hi; simp [hp5, okMB, AV.okM]) (fun ex hh hi => by obtain ⟨_, _, i, l, rfl⟩ := hi; simp [hpX, okMB, AV.okM])
    ⟨by omega, by simp, rfl⟩
    (fun i hi => (({ tmps := T0 ((pcs path).map enc)[i], defers := [] } : Act).put (some 5) ((T0 ((pcs path).map enc)[i]).getD 11 undef)).put (some 6) ((({ tmps := T0 ((pcs path).map enc)[i], defers := [] } : Act).put (some 5) ((T0 ((pcs path).map enc)[i]).getD 11 undef)).tmps.getD 12 undef))
    (fun l i hi W K hK => ?_) (fun i => e1 (pcs path)[i]?) (fun i hi O' β' W hst hext => ?_) (fun i hh hi hI => ?_) (fun D W' hh β' hD hI R' F' hk => ?_) (fun D ex W' hh β' hD hne hX R' F' hk => ?_))
   ·refine wpIn_seq (assign_in rfl ha ?_)
    refine assign_in rfl hb ?_
    rw [hT0] at hK
    exact hK
   ·have hi' : i < (pcs path).length := by simpa using hi
    rw [List.getElem?_eq_getElem hi']
    have he : ((pcs path).map enc)[i] = enc (pcs path)[i] := by simp
    rw [he, hT]
    refine ⟨by simp [Act.put, hs4], fun t => ?_⟩
    obtain ⟨x, hx⟩ : ∃ x, x = (pcs path)[i] := ⟨_, rfl⟩
    rw [← hx]
    obtain ⟨v1, hv1⟩ : ∃ v1 : Value, v1 = .string ⟨x.1.toArray⟩ := ⟨_, rfl⟩
    rw [← hv1]
    have m2 : VR β' O' W (.ptr 0 0 0 0) (a4.tmps.getD 2 undef) := (A5.env.2 2).mono hext hst
    have m3 : VR β' O' W (.ptr 1 0 0 0) (a4.tmps.getD 3 undef) := (A5.env.2 3).mono hext hst
    have m4 : VR β' O' W (.ptr 2 0 0 0) (a4.tmps.getD 4 undef) := (A5.env.2 4).mono hext hst
    show VR β' O' W (if t = 2 then .ptr 0 0 0 0 else if t = 3 then .ptr 1 0 0 0 else if t = 4 then .ptr 2 0 0 0 else if t = 5 then .str x.1 else if t = 6 then .bool x.2 else .dead) _
    have other : ∀ t, t ≠ 5 → t ≠ 6 → t ≠ 11 → t ≠ 12 → ((({ tmps := (a4.tmps.setIfInBounds 11 v1).setIfInBounds 12 (.bool x.2), defers := [] } : Act).put (some 5) (((a4.tmps.setIfInBounds 11 v1).setIfInBounds 12 (.bool x.2)).getD 11 undef)).put (some 6)
      ((({ tmps := (a4.tmps.setIfInBounds 11 v1).setIfInBounds 12 (.bool x.2), defers := [] } : Act).put (some 5) (((a4.tmps.setIfInBounds 11 v1).setIfInBounds 12 (.bool x.2)).getD 11 undef)).tmps.getD 12 undef)).tmps.getD t undef = a4.tmps.getD t undef := fun t h1 h2 h3 h4 => by
     simp [Act.put, Array.getD_eq_getD_getElem?, Array.getElem?_setIfInBounds_ne (Ne.symm h1), Array.getElem?_setIfInBounds_ne (Ne.symm h2), Array.getElem?_setIfInBounds_ne (Ne.symm h3), Array.getElem?_setIfInBounds_ne (Ne.symm h4)]
    by_cases t2 : t = 2
    ·rw [if_pos t2, t2, other 2 (by omega) (by omega) (by omega) (by omega)]; exact m2
    rw [if_neg t2]
    by_cases t3 : t = 3
    ·rw [if_pos t3, t3, other 3 (by omega) (by omega) (by omega) (by omega)]; exact m3
    rw [if_neg t3]
    by_cases t4 : t = 4
    ·rw [if_pos t4, t4, other 4 (by omega) (by omega) (by omega) (by omega)]; exact m4
    rw [if_neg t4]
    by_cases t5 : t = 5
    ·rw [if_pos t5, t5]
     have : ((({ tmps := (a4.tmps.setIfInBounds 11 v1).setIfInBounds 12 (.bool x.2), defers := [] } : Act).put (some 5) (((a4.tmps.setIfInBounds 11 v1).setIfInBounds 12 (.bool x.2)).getD 11 undef)).put (some 6)
      ((({ tmps := (a4.tmps.setIfInBounds 11 v1).setIfInBounds 12 (.bool x.2), defers := [] } : Act).put (some 5) (((a4.tmps.setIfInBounds 11 v1).setIfInBounds 12 (.bool x.2)).getD 11 undef)).tmps.getD 12 undef)).tmps.getD 5 undef = v1 := by
      simp [Act.put, Array.getD_eq_getD_getElem?, hs4]
     rw [this, hv1]
     exact .pure _ _ (str_rel _)
    rw [if_neg t5]
    by_cases t6 : t = 6
    ·rw [if_pos t6, t6]
     have : ((({ tmps := (a4.tmps.setIfInBounds 11 v1).setIfInBounds 12 (.bool x.2), defers := [] } : Act).put (some 5) (((a4.tmps.setIfInBounds 11 v1).setIfInBounds 12 (.bool x.2)).getD 11 undef)).put (some 6)
      ((({ tmps := (a4.tmps.setIfInBounds 11 v1).setIfInBounds 12 (.bool x.2), defers := [] } : Act).put (some 5) (((a4.tmps.setIfInBounds 11 v1).setIfInBounds 12 (.bool x.2)).getD 11 undef)).tmps.getD 12 undef)).tmps.getD 6 undef = .bool x.2 := by
      simp [Act.put, Array.getD_eq_getD_getElem?, hs4]
     rw [this]
     exact .pure _ _ (.bool _)
    rw [if_neg t6]; exact .dead _
   ·have hi' : i < (pcs path).length := by simpa using hi
    obtain ⟨h12, hall, rfl⟩ := hI
    rw [List.getElem?_eq_getElem hi']
    obtain ⟨x, hx⟩ : ∃ x, x = (pcs path)[i] := ⟨_, rfl⟩
    have htake : (pcs path).take (i + 1) = (pcs path).take i ++ [x] := by rw [hx]; exact List.take_succ_eq_append_getElem hi'
    have hev := ev_body (Γ := Γ) (V := volIn [] 5) (e := e1 (some (pcs path)[i])) (s := x.1) (b := x.2) hR rfl rfl rfl (by rw [hx]; rfl) (by rw [hx]; rfl) (i := i) (l := ((pcs path).take i).map (·.1)) (by simp; omega) h12
    by_cases hg : (x.2 && (rightN x.1 && decide (i < 12))) = true
    ·rw [if_pos hg] at hev
     simp only [Bool.and_eq_true, decide_eq_true_eq] at hg
     refine ⟨_, _, hev, fun _ => ⟨by omega, ?_, ?_⟩, fun h0 => absurd rfl h0⟩
     ·rw [htake, List.all_append, hall]
      simp [goodP, hg.1, hg.2.1]
     ·rw [htake]
      simp [hp5, normH, normB, normS]
    ·rw [if_neg hg] at hev
     refine ⟨_, _, hev, fun h0 => (by cases h0), fun _ => ⟨rfl, ?_, i, _, rfl⟩⟩
     unfold splitL
     rw [if_neg hp, if_neg]
     rintro ⟨_, h1, h2⟩
     apply hg
     have hgx : goodP rightN x = true := by rw [hx]; exact List.all_eq_true.1 h2 _ (List.getElem_mem hi')
     simp only [goodP, Bool.and_eq_true] at hgx
     have : i < 12 := by omega
     simp [hgx.1, hgx.2, this]
   ·obtain ⟨h12, hall, rfl⟩ := hI
    rw [hlen] at h12 hall
    have A6 := A5.behind R hD R' F'
    rw [hlen] at A6
    obtain ⟨e', ev, g2, g3⟩ := ev_post (Γ := Γ) (V := fun i => decide (([] : AH).length ≤ i)) (e := ((((((argEnv [AV.str path]).put 2 (.ptr 0 0 0 0)).put 3 (.ptr 1 0 0 0)).put 7 (.str path)).put 8 (.bool (decide (path = [47])))).put 4 (.ptr 2 0 0 0) |>.put 9 (.str path) |>.put 10 (.fn (.func fIt) [] [.ptr 3 0 0 0]))) rfl rfl rfl (i := (pcs path).length) (l := ((pcs path).take (pcs path).length).map (·.1))
    refine A6.step1 hm hΓ R hk kp (x := .ret) ev fun a' β'' W'' A7 hk7 => ?_
    rw [List.take_length] at A7 hall
    by_cases hz : pcs path = []
    ·rw [hz] at A7
     simp only [List.length_nil, if_true] at A7
     refine A7.leave1 (x := .ret) (r := .tup [.lst true [], .int .i64 60]) R (Nat.le_trans A5.stay.1 hD) hk7 hres (by simp -implicitDefEqProofs (disch := omega) [wrap_of, ilt_t, ilt_f, ile_t, ile_f, nlt_t, nlt_f, nle_t, nle_f, ieq_t, ieq_f, imin_l, imin_r, imax_l, imax_r, take_app1, take_map_all, hpX, g2, g3]) (.inl rfl) fun u β' W' h1 h2 h3 => ?_
     rw [← hRR]
     exact ⟨u, β', .tup [.lst true [], .int .i64 60], _, _, rfl, (by simp -implicitDefEqProofs (disch := omega) [wrap_of, ilt_t, ilt_f, ile_t, ile_f, nlt_t, nlt_f, nle_t, nle_f, ieq_t, ieq_f, imin_l, imin_r, imax_l, imax_r, take_app1, take_map_all, splitV, splitL, hp, hz]; rfl), h1, h2, h3⟩
    ·have hz' : ¬ (pcs path).length = 0 := fun h0 => hz (List.eq_nil_of_length_eq_zero h0)
     rw [if_neg hz'] at A7
     refine A7.leave1 (x := .ret) (r := .tup [.own 4 (pcs path).length 0 (pcs path).length, .int .i64 0]) R (Nat.le_trans A5.stay.1 hD) hk7 hres (by simp -implicitDefEqProofs (disch := omega) [wrap_of, ilt_t, ilt_f, ile_t, ile_f, nlt_t, nlt_f, nle_t, nle_f, ieq_t, ieq_f, imin_l, imin_r, imax_l, imax_r, take_app1, take_map_all, g2, g3]) (.inl rfl) fun u β' W' h1 h2 h3 => ?_
     rw [← hRR]
     have hsl : splitL rightN path = some ((pcs path).map (·.1)) := by
      unfold splitL
      rw [if_neg hp, if_pos ⟨hz, h12, hall⟩]
     refine ⟨u, β', .tup [.own 4 (pcs path).length 0 (pcs path).length, .int .i64 0], _, ?hh, rfl, ?_, h1, h2, h3⟩
     rotate_left
     simp -implicitDefEqProofs (disch := omega) [wrap_of, ilt_t, ilt_f, ile_t, ile_f, nlt_t, nlt_f, nle_t, nle_f, ieq_t, ieq_f, imin_l, imin_r, imax_l, imax_r, take_app1, take_map_all, splitV, hsl, hp]
     rfl
   ·obtain ⟨rfl, hsl, i, l, rfl⟩ := hX
    have A6 := A5.behind R hD R' F'
    refine A6.leave1 (x := .ret) (r := .tup [.lst true [], .int .i64 60]) R (Nat.le_trans A5.stay.1 hD) hk hres (by simp -implicitDefEqProofs (disch := omega) [wrap_of, ilt_t, ilt_f, ile_t, ile_f, nlt_t, nlt_f, nle_t, nle_f, ieq_t, ieq_f, imin_l, imin_r, imax_l, imax_r, take_app1, take_map_all, hpX]) (.inl rfl) fun u β' W' h1 h2 h3 => ?_
    rw [← hRR]
    exact ⟨u, β', .tup [.lst true [], .int .i64 60], _, _, rfl, (by simp -implicitDefEqProofs (disch := omega) [wrap_of, ilt_t, ilt_f, ile_t, ile_f, nlt_t, nlt_f, nle_t, nle_f, ieq_t, ieq_f, imin_l, imin_r, imax_l, imax_r, take_app1, take_map_all, splitV, hsl]; rfl), h1, h2, h3⟩
  ·cases ok
 ·cases ok
def splitY (rightN : List UInt8 → Bool) : List AV → Option AV
 | [.str path] => some (splitV rightN path)
 | _ => none
theorem split_y (hm : P.follows .mixedOrders = true) (hΓ : TabOK P Γ) {f fP fR fIt fC fI : FuncId} (ok : splitOK P f fP fR = true) (okP : pcOK P fIt fC fI = true) {rightN : List UInt8 → Bool}
  (hC : ∀ p, Γ.p fC [.str p, .str [47]] = some (.tup [.str (cutR p), .bool (cutB p)])) (hI : ∀ s, Γ.p fI [.str s, .int .u8 47] = some (.int .i64 (idxI s)))
  (hR : ∀ s, Γ.p fR [.str s] = some (.bool (rightN s))) (hP : ∀ p h, callA Γ fP [.str p] h = some (.fn (.func fIt) [] [.ptr h.length 0 0 0], h ++ [.var [.str p]]))
  (args : List AV) (r : AV) (h : AH) (hr : splitY rightN args = some r) : Snd P f args h r h := by
 unfold splitY at hr
 split at hr
 ·cases hr
  exact split_snd hm hΓ ok okP hC hI hR hP _ h
 ·cases hr
end
end Go.Am.Nm
