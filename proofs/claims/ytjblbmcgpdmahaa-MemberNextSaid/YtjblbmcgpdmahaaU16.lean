import Derived.Test.YtjblbmcgpdmahaaT16
set_option linter.unusedSimpArgs false
set_option linter.unusedVariables false
namespace Go.Proofs.Ytjblbmcgpdmahaa
open Go.Am

theorem putP_zero {l more : List En} (h : l.length + more.length ≤ 500) : putP l 0 0 more = some (putL l 0 more) := by
  have h3 := putL_len l more 0
  unfold putP fits13
  rw [if_pos]
  · rfl
  · exact ⟨by simp, by simp; omega⟩
theorem logEq_comm {a b : List En} (h : a.map core = b.map core) : logEq a b = true := by simp [logEq, h]
/-- MemberOver -/
theorem lp7 (b : Ba) (hb : BFin b) (l : List En) (hl : Fin l) (f : Bool) (back : Nat) (hk : back < 256) (more : List En) (hm : Fin more) (g : Bool) :
    runP (C16.tab 58) c7 [Bs b, .lst f (l.map E), .int .u8 (back : Int), .lst g (more.map E)] = some (.bool true) := by
  rw [runP_eq, runH_eq]
  have h9 := s9 (n := 58) (by decide)
  have h10 := s10 (n := 58) (by decide) b hb l hl f
  have h35 := s35 (n := 58) (by decide) more hm g
  have e1 : IntKind.i64.wrap (back : Int) = (back : Int) := wrap_of (by omega) (by omega)
  have e2 : ((back : Int).tmod 20) = ((back % 20 : Nat) : Int) := by rw [Int.tmod_eq_emod_of_nonneg (by omega)]; omega
  have hg20 : back % 20 < 20 := Nat.mod_lt _ (by omega)
  have e3 : IntKind.i64.wrap ((back % 20 : Nat) : Int) = ((back % 20 : Nat) : Int) := wrap_of (by omega) (by omega)
  generalize back % 20 = gone at *
  simp only [Bs] at h10
  cases q1 : fitB b l with
  | false =>
    rw [q1] at h10
    generalize fewE more = q2 at *
    simp -implicitDefEqProofs (disch := omega) [wrap_of, ilt_t, ilt_f, ile_t, ile_f, nlt_t, nlt_f, nle_t, nle_f, ieq_t, ieq_f, imin_l, imin_r, imax_l, imax_r, take_app1, take_map_all, c7, a9, h9, a10, h10, a35, h35, e1, e2, e3]
  | true =>
    rw [q1] at h10
    cases q2 : fewE more with
    | false =>
      rw [q2] at h35
      simp -implicitDefEqProofs (disch := omega) [wrap_of, ilt_t, ilt_f, ile_t, ile_f, nlt_t, nlt_f, nle_t, nle_f, ieq_t, ieq_f, imin_l, imin_r, imax_l, imax_r, take_app1, take_map_all, c7, a9, h9, a10, h10, a35, h35, e1, e2, e3]
    | true =>
      rw [q2] at h35
      have F := fits_of q1
      have M := few_iff.1 q2
      have hlo := F.lo
      have hhi := F.hi
      have hll := F.len
      have hml := M.len
      by_cases k0 : b.many < gone
      · simp -implicitDefEqProofs (disch := omega) [wrap_of, ilt_t, ilt_f, ile_t, ile_f, nlt_t, nlt_f, nle_t, nle_f, ieq_t, ieq_f, imin_l, imin_r, imax_l, imax_r, take_app1, take_map_all, c7, a9, h9, a10, h10, a35, h35, e1, e2, e3, k0]
      · by_cases k1 : gone = 0
        · subst k1
          simp -implicitDefEqProofs (disch := omega) [wrap_of, ilt_t, ilt_f, ile_t, ile_f, nlt_t, nlt_f, nle_t, nle_f, ieq_t, ieq_f, imin_l, imin_r, imax_l, imax_r, take_app1, take_map_all, c7, a9, h9, a10, h10, a35, h35, e1, e2, e3, k0]
        · have ed : b.many - (b.many - (gone : Int)) = gone := by omega
          have g16 := s16 (n := 58) (by decide) b F.gb l more F.gl M.gl f g (b.many - gone) 0 (by omega) (by omega)
          by_cases k2 : more.length ≤ gone
          · have hp : putM f b l (b.many - gone) 0 more = some (f, l) := by
              unfold putM
              rw [if_pos (by omega), if_pos (by omega)]
            rw [hp] at g16
            have g22 := s22 (n := 58) (by decide) l l f f F.gl.fin F.gl.fin
            rw [logEq_refl] at g22
            simp only [Bs, putMV, Option.elim_some] at g16
            simp -implicitDefEqProofs (disch := omega) [wrap_of, ilt_t, ilt_f, ile_t, ile_f, nlt_t, nlt_f, nle_t, nle_f, ieq_t, ieq_f, imin_l, imin_r, imax_l, imax_r, take_app1, take_map_all, c7, a9, h9, a10, h10, a35, h35, e1, e2, e3, k0, k1, a16, g16, k2, a22, g22]
          · obtain ⟨m, rfl⟩ : ∃ m, gone = m + 1 := ⟨gone - 1, by omega⟩
            have hml' : m < more.length := by omega
            have ht := teA_of hml'
            obtain ⟨x, hx⟩ : ∃ x, x = more[m] := ⟨_, rfl⟩
            rw [← hx] at ht
            have ei : ((m + 1 : Nat) : Int) - 1 = (m : Int) := by omega
            have ei2 : ((m : Int) + 1 - 1) = (m : Int) := by omega
            by_cases k3 : x.te = b.term
            · have hp : putM f b l (b.many - (m + 1 : Nat)) 0 more = some (false, putL l 0 (more.drop (m + 1))) := by
                unfold putM
                rw [if_pos (by omega), if_neg (by omega), ed, show (((m + 1 : Nat) : Int) - 1).toNat = m by omega, ht, if_pos k3, show (((m + 1 : Nat) : Int)).toNat = m + 1 by omega, putP_zero (by simp; omega)]
                rfl
              rw [hp] at g16
              have hfit : fitsA b l (b.many + (0 : Nat)) b.term = true := by
                unfold fitsA
                rw [term_some (Nat.zero_le _)]
                simp
              have hp2 := putM_at (more := more.drop (m + 1)) hfit (by simp; omega) f
              rw [Int.natCast_zero, Int.add_zero] at hp2
              have g16' := s16 (n := 58) (by decide) b F.gb l (more.drop (m + 1)) F.gl (M.gl.drop _) f g b.many b.term (by omega) (by omega)
              rw [hp2] at g16'
              have g36 := s36 (n := 58) (by decide) l (more.drop (m + 1)) F.gl (M.gl.drop _) f g 0 0
              rw [putP_zero (by simp; omega)] at g36
              have hpl := putL_len l (more.drop (m + 1)) 0
              have hdl : (more.drop (m + 1)).length ≤ 40 := by simp; omega
              have hxg := F.gl.put (M.gl.drop (m + 1)) 0 (by omega)
              generalize putL l 0 (more.drop (m + 1)) = y at *
              have g22 := s22 (n := 58) (by decide) y y false false hxg.fin hxg.fin
              rw [logEq_refl] at g22
              simp only [Bs, putMV, putV, Option.elim_some, List.map_drop, Int.natCast_add, Int.natCast_one] at g16 g16' g36
              simp -implicitDefEqProofs (disch := omega) [wrap_of, ilt_t, ilt_f, ile_t, ile_f, nlt_t, nlt_f, nle_t, nle_f, ieq_t, ieq_f, imin_l, imin_r, imax_l, imax_r, take_app1, take_map_all, c7, a9, h9, a10, h10, a35, h35, e1, e2, e3, k0, k1, a16, g16, g16', k2, ei, ei2, hml', ← hx, k3, a36, g36, a22, g22]
            · have hp : putM f b l (b.many - (m + 1 : Nat)) 0 more = none := by
                unfold putM
                rw [if_pos (by omega), if_neg (by omega), ed, show (((m + 1 : Nat) : Int) - 1).toNat = m by omega, ht, if_neg k3]
              rw [hp] at g16
              simp only [Bs, putMV, Option.elim_none, Int.natCast_add, Int.natCast_one] at g16
              simp -implicitDefEqProofs (disch := omega) [wrap_of, ilt_t, ilt_f, ile_t, ile_f, nlt_t, nlt_f, nle_t, nle_f, ieq_t, ieq_f, imin_l, imin_r, imax_l, imax_r, take_app1, take_map_all, c7, a9, h9, a10, h10, a35, h35, e1, e2, e3, k0, k1, a16, g16, k2, ei, ei2, hml', ← hx, k3]
theorem agr_core : ∀ (l m : List En), (l.take (agr l m)).map core = (m.take (agr l m)).map core
  | [], m => by simp [agr]
  | _ :: _, [] => by simp [agr]
  | a :: l, b :: m => by
    simp only [agr]
    split
    · rename_i h
      simp only [List.take_succ_cons, List.map_cons, h, agr_core l m]
    · simp
theorem ofE_core {a b : En} (h : core a = core b) : ofE a = ofE b := by
  have : a.da = b.da := congrArg Prod.snd h
  unfold ofE tl
  rw [this]
theorem peers_core {b : Ba} {l m : List En} (h : l.map core = m.map core) : peersS b l = peersS b m := by
  unfold peersS
  have key : ∀ (l m : List En) (s : PS), l.map core = m.map core → l.foldl pg s = m.foldl pg s := by
    intro l
    induction l with
    | nil =>
      intro m s h
      cases m with
      | nil => rfl
      | cons _ _ => simp at h
    | cons a l ih =>
      intro m s h
      cases m with
      | nil => simp at h
      | cons c m =>
        simp only [List.map_cons, List.cons.injEq] at h
        rw [List.foldl_cons, List.foldl_cons]
        have e : pg s a = pg s c := by unfold pg; rw [ofE_core h.1]
        rw [e]
        exact ih m _ h.2
  exact key l m _ h
/-- What is laid from the beginning. -/
theorem putL_zero (l more : List En) : ∃ x, putL l 0 more = x ∧ more.length ≤ x.length ∧ (x.take more.length).map core = more.map core ∧ (more.length < x.length → x = l) := by
  refine ⟨_, rfl, ?_⟩
  have ha := agr_le l more
  have hc := agr_core l more
  unfold putL
  rw [List.drop_zero, Nat.zero_add]
  generalize agr l more = a at *
  split
  · rename_i h
    refine ⟨by simp; omega, ?_, fun h' => by simp at h'; omega⟩
    have e : (l.take a ++ more.drop a).length = more.length := by simp; omega
    rw [List.take_of_length_le (by omega), List.map_append, hc, ← List.map_append, List.take_append_drop]
  · rename_i h
    have : a = more.length := by omega
    subst this
    rw [List.take_of_length_le (Nat.le_refl more.length)] at hc
    exact ⟨ha.1, hc, fun _ => rfl⟩
/-- MemberHanded -/
theorem lp8 (b : Ba) (hb : BFin b) (l : List En) (hl : Fin l) (f : Bool) (lead : Ba) (hd : BFin lead) (more : List En) (hm : Fin more) (g : Bool) :
    runP (C16.tab 60) c8 [Bs b, .lst f (l.map E), Bs lead, .lst g (more.map E)] = some (.bool true) := by
  rw [runP_eq, runH_eq]
  have h9 := s9 (n := 60) (by decide)
  have h10 := s10 (n := 60) (by decide) b hb l hl f
  have h10' := s10 (n := 60) (by decide) lead hd more hm g
  simp only [Bs] at h10 h10'
  cases q1 : fitB b l with
  | false =>
    rw [q1] at h10
    generalize fitB lead more = q2 at *
    simp -implicitDefEqProofs (disch := omega) [wrap_of, ilt_t, ilt_f, ile_t, ile_f, nlt_t, nlt_f, nle_t, nle_f, ieq_t, ieq_f, imin_l, imin_r, imax_l, imax_r, take_app1, take_map_all, c8, a9, h9, a10, h10, h10']
  | true =>
    rw [q1] at h10
    cases q2 : fitB lead more with
    | false =>
      rw [q2] at h10'
      simp -implicitDefEqProofs (disch := omega) [wrap_of, ilt_t, ilt_f, ile_t, ile_f, nlt_t, nlt_f, nle_t, nle_f, ieq_t, ieq_f, imin_l, imin_r, imax_l, imax_r, take_app1, take_map_all, c8, a9, h9, a10, h10, h10']
    | true =>
      rw [q2] at h10'
      have F := fits_of q1
      have M := fits_of q2
      have hlo := F.lo
      have hhi := F.hi
      have hll := F.len
      have hml := M.len
      have hlo' := M.lo
      have hhi' := M.hi
      have g18 := s18 (n := 60) (by decide) b lead F.gb M.gb l F.gl f
      by_cases k0 : lead.many ≤ b.many
      · rw [if_pos k0] at g18
        have g21 := s21 (n := 60) (by decide) b b F.gb.fin F.gb.fin
        have g22 := s22 (n := 60) (by decide) l l f f F.gl.fin F.gl.fin
        rw [logEq_refl] at g22
        rw [baseEq_refl] at g21
        simp only [Bs] at g18 g21
        simp -implicitDefEqProofs (disch := omega) [wrap_of, ilt_t, ilt_f, ile_t, ile_f, nlt_t, nlt_f, nle_t, nle_f, ieq_t, ieq_f, imin_l, imin_r, imax_l, imax_r, take_app1, take_map_all, c8, a9, h9, a10, h10, h10', a18, g18, k0, a21, g21, a22, g22]
      · rw [if_neg k0] at g18
        have hms : ∃ (fm : Bool) (m : List En), Few m ∧ (C16.tab 60).p 18 [Bs b, .lst f (l.map E), Bs lead] = some (.tup [Bs lead, .lst fm (m.map E)]) := by
          rw [g18]
          split
          · exact ⟨false, _, ⟨by simp; omega, fun e he => F.eda e (List.mem_of_mem_drop he), fun e he => F.te e (List.mem_of_mem_drop he)⟩, rfl⟩
          · exact ⟨true, [], ⟨by simp, by simp, by simp⟩, rfl⟩
        obtain ⟨fm, m, hmf, g18⟩ := hms
        have hmm := hmf.len
        have g16 := s16 (n := 60) (by decide) lead M.gb m more hmf.gl M.gl fm g lead.many lead.term (by omega) (by omega)
        have hfit : fitsA lead m (lead.many + (0 : Nat)) lead.term = true := by
          unfold fitsA
          rw [term_some (Nat.zero_le _)]
          simp
        have hp := putM_at (more := more) hfit (by omega) fm
        rw [Int.natCast_zero, Int.add_zero] at hp
        rw [hp] at g16
        have hpl := putL_len m more 0
        obtain ⟨x, hx, hx1, hx2, hx3⟩ := putL_zero m more
        have hxg := hmf.gl.put M.gl 0 (by omega)
        rw [hx] at g16 hxg hpl
        have g12 := s12 (n := 60) (by decide) lead M.gb x hxg false
        have g12' := s12 (n := 60) (by decide) lead M.gb more M.gl g
        have g21 := s21 (n := 60) (by decide) lead lead M.gb.fin M.gb.fin
        rw [baseEq_refl] at g21
        have g22 := s22 (n := 60) (by decide) (x.take more.length) more false g (hxg.take _).fin M.gl.fin
        have g22' := s22 (n := 60) (by decide) (x.take more.length) more true g (hxg.take _).fin M.gl.fin
        rw [logEq_comm hx2] at g22 g22'
        by_cases k1 : more.length < x.length
        · have hxm := hx3 k1
          have g37 := s37 (n := 60) (by decide) m x hmf.gl hxg fm false
          rw [show logEq m x = true by rw [hxm]; exact logEq_refl m] at g37
          have hmx : ¬ x.length < more.length := by omega
          simp only [Bs, psV, putMV, Option.elim_some, List.map_take] at g12 g12' g16 g18 g21 g22 g22' g37
          generalize (peersS lead x).1 = P at *
          generalize (peersS lead more).1 = Q at *
          simp -implicitDefEqProofs (disch := omega) [wrap_of, ilt_t, ilt_f, ile_t, ile_f, nlt_t, nlt_f, nle_t, nle_f, ieq_t, ieq_f, imin_l, imin_r, imax_l, imax_r, take_app1, take_map_all, c8, a9, h9, a10, h10, h10', a18, g18, k0, a16, g16, a12, g12, g12', a21, g21, hmx, a22, g22, g22', k1, a37, g37, hx1]
        · have hxe : x.length = more.length := by omega
          rw [List.take_of_length_le (by omega)] at hx2 g22 g22'
          rw [peers_core hx2] at g12
          have hql := (right_iff.1 (peers_right M.right more)).2.2
          simp only [Bs, psV, putMV, Option.elim_some] at g12 g12' g16 g18 g21
          generalize (peersS lead more).1 = Q at *
          obtain ⟨fq, qs, qa⟩ := Q
          simp only at hql
          have g20 := s20 (n := 60) (by decide) qs qs fq fq (by omega) (by omega)
          rw [decide_eq_true rfl] at g20
          have htk : List.take more.length (x.map E) = x.map E := List.take_of_length_le (by simp; omega)
          simp -implicitDefEqProofs (disch := omega) [wrap_of, ilt_t, ilt_f, ile_t, ile_f, nlt_t, nlt_f, nle_t, nle_f, ieq_t, ieq_f, imin_l, imin_r, imax_l, imax_r, take_app1, take_map_all, c8, a9, h9, a10, h10, h10', a18, g18, k0, a16, g16, a12, g12, g12', a21, g21, hxe, htk, a22, g22, g22', a20, g20]
end Go.Proofs.Ytjblbmcgpdmahaa
