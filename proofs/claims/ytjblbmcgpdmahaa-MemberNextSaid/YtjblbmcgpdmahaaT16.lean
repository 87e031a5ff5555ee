import Derived.Test.YtjblbmcgpdmahaaS16
set_option linter.unusedSimpArgs false
set_option linter.unusedVariables false
namespace Go.Proofs.Ytjblbmcgpdmahaa
open Go.Am

/-! What is cut changes nothing behind. -/
theorem pg_two (m : List En) : ∀ (f f' : Bool) (ps : List Int) (a : Int) (n : Int),
    (m.foldl pg ((f, ps, a), n)).1.2.1 = (m.foldl pg ((f', ps, 0), n)).1.2.1 ∧ ((m.foldl pg ((f, ps, a), n)).1.2.2 = (m.foldl pg ((f', ps, 0), n)).1.2.2 ∨ ((m.foldl pg ((f', ps, 0), n)).1.2.2 = 0 ∧ (m.foldl pg ((f, ps, a), n)).1.2.2 = a)) := by
  induction m with
  | nil => intro f f' ps a n; exact ⟨rfl, .inr ⟨rfl, rfl⟩⟩
  | cons e m ih =>
    intro f f' ps a n
    rw [List.foldl_cons, List.foldl_cons]
    unfold pg
    cases ofE e with
    | none => exact ih f f' ps a (n + 1)
    | some q => exact ⟨rfl, .inl rfl⟩
theorem pg_at (m : List En) : ∀ (s : PS), s.1.2.2 ≤ s.2 → (m.foldl pg s).1.2.2 ≤ (m.foldl pg s).2 := by
  induction m with
  | nil => intro s h; exact h
  | cons e m ih =>
    intro s h
    rw [List.foldl_cons]
    refine ih _ ?_
    unfold pg
    cases ofE e with
    | none => simp only [Option.elim_none]; omega
    | some q => simp only [Option.elim_some]; omega
theorem peers_cut {b : Ba} (h0 : 0 ≤ b.many) (l : List En) (k : Nat) (hk : k ≤ l.length) (u : Int) (fd : Bool) (da : List UInt8) :
    (peersS b l).1.2.1 = (peersS (cutB b l (b.many + k) u fd da) (l.drop k)).1.2.1 ∧
    ((peersS b l).1.2.2 = (peersS (cutB b l (b.many + k) u fd da) (l.drop k)).1.2.2 ∨ ((peersS (cutB b l (b.many + k) u fd da) (l.drop k)).1.2.2 = 0 ∧ (peersS b l).1.2.2 ≤ b.many + k)) := by
  have e1 : (b.many + (k : Int) - b.many).toNat = k := by omega
  have e2 : peersS b l = (l.drop k).foldl pg (peersS b (l.take k)) := by
    unfold peersS
    rw [← List.foldl_append, List.take_append_drop]
  have e3 : (peersS b (l.take k)).2 = b.many + k := by
    unfold peersS
    rw [pg_snd]
    simp only [List.length_take]
    omega
  have e4 : peersS (cutB b l (b.many + k) u fd da) (l.drop k) = (l.drop k).foldl pg (((peersS b (l.take k)).1.1, (peersS b (l.take k)).1.2.1, 0), b.many + k) := by
    unfold cutB
    rw [e1]
    rfl
  have e5 : (peersS b (l.take k)).1.2.2 ≤ b.many + k := by
    rw [← e3]
    exact pg_at _ _ (by simpa using h0)
  rw [e2, e4]
  generalize peersS b (l.take k) = s at *
  obtain ⟨⟨f, ps, a⟩, n⟩ := s
  simp only at e3 e5
  subst e3
  have := pg_two (l.drop k) f f ps a (b.many + k)
  refine ⟨this.1, this.2.imp id fun h => ⟨h.1, by rw [h.2]; exact e5⟩⟩
theorem term_some {b : Ba} {l : List En} {k : Nat} (hk : k ≤ l.length) : termA b l (b.many + k) = some (if k = 0 then b.term else teA l (k - 1)) := by
  unfold termA
  rw [if_neg (by omega)]
  by_cases h : k = 0
  · subst h; simp
  · rw [if_neg (by omega), if_neg h]
    congr 2
    omega
theorem teA_drop (l : List En) (k j : Nat) : teA (l.drop k) j = teA l (k + j) := by
  unfold teA
  rw [List.getElem?_drop]
theorem term_cut {b : Ba} {l : List En} {k : Nat} (hk : k ≤ l.length) (fd : Bool) (da : List UInt8) (j : Nat) :
    termA (cutB b l (b.many + k) (if k = 0 then b.term else teA l (k - 1)) fd da) (l.drop k) (b.many + k + j) = termA b l (b.many + k + j) := by
  have hm : (cutB b l (b.many + k) (if k = 0 then b.term else teA l (k - 1)) fd da).many = b.many + k := rfl
  have ht : (cutB b l (b.many + k) (if k = 0 then b.term else teA l (k - 1)) fd da).term = if k = 0 then b.term else teA l (k - 1) := rfl
  generalize cutB b l (b.many + k) (if k = 0 then b.term else teA l (k - 1)) fd da = C at *
  by_cases h : k + j ≤ l.length
  · have h1 := term_some (b := C) (l := l.drop k) (k := j) (by simp; omega)
    have h2 := term_some (b := b) (l := l) (k := k + j) h
    rw [hm] at h1
    rw [Int.natCast_add, ← Int.add_assoc] at h2
    rw [h1, h2, ht, teA_drop]
    by_cases hj : j = 0
    · subst hj
      simp
    · rw [if_neg hj, if_neg (by omega)]
      congr 2
      omega
  · unfold termA
    rw [if_pos (by rw [hm]; simp only [List.length_drop]; omega), if_pos (by omega)]
theorem fits_cut {b : Ba} {l : List En} {k : Nat} (hk : k ≤ l.length) (fd : Bool) (da : List UInt8) (j : Nat) (t : Int) :
    fitsA (cutB b l (b.many + k) (if k = 0 then b.term else teA l (k - 1)) fd da) (l.drop k) (b.many + k + j) t = fitsA b l (b.many + k + j) t := by
  unfold fitsA
  rw [term_cut hk]
theorem putL_drop {l more : List En} {k j : Nat} (h : k + j ≤ l.length) : (putL l (k + j) more).drop k = putL (l.drop k) j more := by
  have ha := (agr_le (l.drop (k + j)) more).1
  have e : (l.drop k).drop j = l.drop (k + j) := by rw [List.drop_drop]
  unfold putL
  rw [e]
  rw [List.length_drop] at ha
  generalize agr (l.drop (k + j)) more = a at *
  split
  · rw [List.drop_append_of_le_length (by rw [List.length_take]; omega), List.drop_take]
    congr 2
    omega
  · rfl
theorem putL_ge {l more : List En} {p : Nat} (h : p ≤ l.length) : p ≤ (putL l p more).length := by
  have ha := (agr_le (l.drop p) more).1
  rw [List.length_drop] at ha
  unfold putL
  split
  · simp only [List.length_append, List.length_take]; omega
  · exact h
theorem fits13_of {b : Ba} {l : List En} {k : Nat} {t : Int} (h : fitsA b l (b.many + k) t = true) : k ≤ l.length ∧ fits13 l (k : Int) (if k = 0 then 0 else t) = true := by
  obtain ⟨k', h1, h2⟩ := fits_le h
  have : k' = k := by omega
  subst this
  refine ⟨h2, ?_⟩
  unfold fitsA at h
  rw [term_some h2] at h
  have h := of_decide_eq_true h
  unfold fits13
  rw [decide_eq_true_eq]
  refine ⟨by omega, by omega, ?_⟩
  by_cases h0 : k' = 0
  · subst h0; simp
  · rw [if_neg h0] at h ⊢
    rw [if_neg (by omega)]
    have h := Option.some.inj h
    rw [show ((k' : Int) - 1).toNat = k' - 1 by omega]
    exact h
/-- What is put, if it fits. -/
theorem putM_at {b : Ba} {l more : List En} {k : Nat} {t : Int} (h : fitsA b l (b.many + k) t = true) (hlen : l.length + more.length ≤ 500) (f : Bool) : putM f b l (b.many + k) t more = some (false, putL l k more) := by
  obtain ⟨h1, h2⟩ := fits13_of h
  have h3 := putL_len l more k
  unfold putM
  rw [if_neg (by omega), if_pos h, show b.many + (k : Int) - b.many = k by omega]
  have e : (if b.many + (k : Int) = b.many then (0 : Int) else t) = if k = 0 then 0 else t := by
    by_cases h0 : k = 0
    · rw [if_pos h0, if_pos (by omega)]
    · rw [if_neg h0, if_neg (by omega)]
  rw [e]
  unfold putP
  rw [show ((k : Int)).toNat = k by omega, if_pos ⟨h2, by omega⟩]
  rfl
theorem putM_no {b : Ba} {l more : List En} {k : Nat} {t : Int} (h : fitsA b l (b.many + k) t = false) (f : Bool) : putM f b l (b.many + k) t more = none := by
  unfold putM
  rw [if_neg (by omega), h]
  rfl
set_option maxHeartbeats 4000000 in
/-- MemberGone -/
theorem lp6 (b : Ba) (hb : BFin b) (l : List En) (hl : Fin l) (f : Bool) (upto at_ : Nat) (hu : upto < 256) (ha : at_ < 256) (t : Int) (more : List En) (hm : Fin more) (g : Bool) :
    runP (C16.tab 57) c6 [Bs b, .lst f (l.map E), .int .u8 (upto : Int), .int .u8 (at_ : Int), I t, .lst g (more.map E)] = some (.bool true) := by
  rw [runP_eq, runH_eq]
  have h9 := s9 (n := 57) (by decide)
  have h10 := s10 (n := 57) (by decide) b hb l hl f
  have h35 := s35 (n := 57) (by decide) more hm g
  simp only [Bs] at h10
  cases q1 : fitB b l with
  | false =>
    rw [q1] at h10
    generalize fewE more = q2 at *
    simp -implicitDefEqProofs (disch := omega) [wrap_of, ilt_t, ilt_f, ile_t, ile_f, nlt_t, nlt_f, nle_t, nle_f, ieq_t, ieq_f, imin_l, imin_r, imax_l, imax_r, take_app1, take_map_all, c6, a9, h9, a10, h10, a35, h35]
  | true =>
    rw [q1] at h10
    cases q2 : fewE more with
    | false =>
      rw [q2] at h35
      simp -implicitDefEqProofs (disch := omega) [wrap_of, ilt_t, ilt_f, ile_t, ile_f, nlt_t, nlt_f, nle_t, nle_f, ieq_t, ieq_f, imin_l, imin_r, imax_l, imax_r, take_app1, take_map_all, c6, a9, h9, a10, h10, a35, h35]
    | true =>
      rw [q2] at h35
      by_cases t0 : t < 0
      · simp -implicitDefEqProofs (disch := omega) [wrap_of, ilt_t, ilt_f, ile_t, ile_f, nlt_t, nlt_f, nle_t, nle_f, ieq_t, ieq_f, imin_l, imin_r, imax_l, imax_r, take_app1, take_map_all, c6, a9, h9, a10, h10, a35, h35, t0]
      · by_cases t1 : 1000000 < t
        · simp -implicitDefEqProofs (disch := omega) [wrap_of, ilt_t, ilt_f, ile_t, ile_f, nlt_t, nlt_f, nle_t, nle_f, ieq_t, ieq_f, imin_l, imin_r, imax_l, imax_r, take_app1, take_map_all, c6, a9, h9, a10, h10, a35, h35, t0, t1]
        · have F := fits_of q1
          have M := few_iff.1 q2
          have hlo := F.lo
          have hhi := F.hi
          have hll := F.len
          have hml := M.len
          obtain ⟨k, hk⟩ : ∃ k, k = upto % (l.length + 1) := ⟨_, rfl⟩
          obtain ⟨j, hj⟩ : ∃ j, j = at_ % 8 := ⟨_, rfl⟩
          have hkl : k ≤ l.length := by rw [hk]; have := Nat.mod_lt upto (show 0 < l.length + 1 by omega); omega
          have hj8 : j < 8 := by omega
          have e1 : ((upto : Int).tmod ((l.length : Int) + 1)) = (k : Int) := by
            rw [Int.tmod_eq_emod_of_nonneg (by omega), hk, Int.natCast_emod, Int.natCast_add]; rfl
          have e2 : IntKind.i64.wrap (upto : Int) = (upto : Int) := wrap_of (by omega) (by omega)
          have e3 : IntKind.i64.wrap (at_ : Int) = (at_ : Int) := wrap_of (by omega) (by omega)
          have e4 : ((at_ : Int).tmod 8) = (j : Int) := by rw [Int.tmod_eq_emod_of_nonneg (by omega)]; omega
          have e5 : (b.many + (k : Int) - b.many).toNat = k := by omega
          have g14 := s14 (n := 57) (by decide) b F.gb l F.gl f (b.many + k) [] (by simp) true
          have g12 := s12 (n := 57) (by decide) b F.gb l F.gl f
          have g23 := s23 (n := 57) (by decide) b F.gb l F.gl f (b.many + k + j) t
          have g16 := s16 (n := 57) (by decide) b F.gb l more F.gl M.gl f g (b.many + k + j) t (by omega) (by omega)
          have hts := term_some (b := b) hkl
          have hpc := peers_cut hlo l k hkl (if k = 0 then b.term else teA l (k - 1)) false []
          have hfc := fits_cut (b := b) hkl false [] j t
          have hpl := peers_len F l
          have hpt := peers_len F (l.take k)
          unfold cutV at g14
          rw [hts] at g14
          simp only [e5] at g14
          have hCm : (cutB b l (b.many + k) (if k = 0 then b.term else teA l (k - 1)) false []).many = b.many + k := rfl
          have hCp : (cutB b l (b.many + k) (if k = 0 then b.term else teA l (k - 1)) false []).ps.length ≤ 7 := by
            unfold cutB
            rw [e5]
            exact hpt
          have hCd : (cutB b l (b.many + k) (if k = 0 then b.term else teA l (k - 1)) false []).da = [] := rfl
          generalize cutB b l (b.many + k) (if k = 0 then b.term else teA l (k - 1)) false [] = C at *
          have GC : GB C := ⟨by omega, by omega, by omega, by rw [hCd]; simp⟩
          have G2 := F.gl.drop k
          have g12' := s12 (n := 57) (by decide) C GC (l.drop k) G2 false
          have g23' := s23 (n := 57) (by decide) C GC (l.drop k) G2 false (b.many + k + j) t
          have g16' := s16 (n := 57) (by decide) C GC (l.drop k) more G2 M.gl false g (b.many + k + j) t (by omega) (by omega)
          rw [hfc] at g23'
          have hps : (peersS C (l.drop k)).1.2.1.length ≤ 7 := by rw [← hpc.1]; exact hpl
          generalize (peersS b l).1 = P at *
          generalize (peersS C (l.drop k)).1 = Q at *
          obtain ⟨fp, ps, i⟩ := P
          obtain ⟨fq, qs, i'⟩ := Q
          simp only at hpc hpl hps
          obtain ⟨rfl, hii⟩ := hpc
          have g20 := s20 (n := 57) (by decide) ps ps fp fq (by omega) (by omega)
          rw [decide_eq_true rfl] at g20
          have el : (List.drop k l).length = l.length - k := List.length_drop
          have c1 : ((l.length - k : Nat) : Int) = (l.length : Int) - (b.many + (k : Int) - b.many) := by omega
          have c2 : b.many + (k : Int) - b.many = k := by omega
          have c3 : ((l.length - k : Nat) : Int) = (l.length : Int) - (k : Int) := by omega
          have e6 : b.many + (k : Int) + j = b.many + ((k + j : Nat) : Int) := by omega
          have e7 : b.many + (k : Int) + (j : Int) = C.many + (j : Int) := by omega
          cases hfit : fitsA b l (b.many + k + j) t with
          | false =>
            rw [hfit] at g23 g23' hfc
            have h1 : putM f b l (b.many + k + j) t more = none := by rw [e6] at hfit ⊢; exact putM_no hfit f
            have h2 : putM false C (l.drop k) (b.many + k + j) t more = none := by rw [e7] at hfc ⊢; exact putM_no hfc false
            rw [h1] at g16
            rw [h2] at g16'
            simp only [Bs, psV, putMV, Option.elim_none, List.map_drop, List.map_nil] at g12 g12' g14 g16 g16' g23 g23'
            rcases hii with rfl | ⟨rfl, hi⟩
            · by_cases i0 : i = 0
              · simp -implicitDefEqProofs (disch := omega) [wrap_of, ilt_t, ilt_f, ile_t, ile_f, nlt_t, nlt_f, nle_t, nle_f, ieq_t, ieq_f, imin_l, imin_r, imax_l, imax_r, take_app1, take_map_all, c6, a9, h9, a10, h10, a35, h35, t0, t1, e1, e2, e3, e4, a14, g14, a12, g12, g12', a20, g20, i0, c2, c3, g23, g23', a16, g16, g16']
              · simp -implicitDefEqProofs (disch := omega) [wrap_of, ilt_t, ilt_f, ile_t, ile_f, nlt_t, nlt_f, nle_t, nle_f, ieq_t, ieq_f, imin_l, imin_r, imax_l, imax_r, take_app1, take_map_all, c6, a9, h9, a10, h10, a35, h35, t0, t1, e1, e2, e3, e4, a14, g14, a12, g12, g12', a20, g20, i0, c2, c3, g23, g23', a16, g16, g16']
            · simp -implicitDefEqProofs (disch := omega) [wrap_of, ilt_t, ilt_f, ile_t, ile_f, nlt_t, nlt_f, nle_t, nle_f, ieq_t, ieq_f, imin_l, imin_r, imax_l, imax_r, take_app1, take_map_all, c6, a9, h9, a10, h10, a35, h35, t0, t1, e1, e2, e3, e4, a14, g14, a12, g12, g12', a20, g20, hi, c2, c3, g23, g23', a16, g16, g16']
          | true =>
            rw [hfit] at g23 g23' hfc
            have h1 : putM f b l (b.many + k + j) t more = some (false, putL l (k + j) more) := by rw [e6] at hfit ⊢; exact putM_at hfit (by omega) f
            have h2 : putM false C (l.drop k) (b.many + k + j) t more = some (false, putL (l.drop k) j more) := by rw [e7] at hfc ⊢; exact putM_at hfc (by omega) false
            rw [h1] at g16
            rw [h2] at g16'
            have hkj : k + j ≤ l.length := by
              rw [e6] at hfit
              exact (fits13_of hfit).1
            rw [← putL_drop hkj] at g16'
            have hxk := putL_ge (more := more) hkj
            have hxl := putL_len l more (k + j)
            have hxg := F.gl.put M.gl (k + j) (by omega)
            generalize putL l (k + j) more = x at *
            have hxl2 := hxg.drop k
            have g14' := s14 (n := 57) (by decide) b F.gb x hxg false (b.many + k) [] (by simp) true
            unfold cutV at g14'
            rw [term_some (show k ≤ x.length by omega)] at g14'
            simp only [e5] at g14'
            have g22 := s22 (n := 57) (by decide) (x.drop k) (x.drop k) false false hxl2.fin hxl2.fin
            rw [logEq_refl] at g22
            generalize cutB b x (b.many + k) (if k = 0 then b.term else teA x (k - 1)) false [] = D at *
            simp only [Bs, psV, putMV, Option.elim_some, List.map_drop, List.map_nil] at g12 g12' g14 g14' g16 g16' g22 g23 g23'
            rcases hii with rfl | ⟨rfl, hi⟩
            · by_cases i0 : i = 0
              · simp -implicitDefEqProofs (disch := omega) [wrap_of, ilt_t, ilt_f, ile_t, ile_f, nlt_t, nlt_f, nle_t, nle_f, ieq_t, ieq_f, imin_l, imin_r, imax_l, imax_r, take_app1, take_map_all, c6, a9, h9, a10, h10, a35, h35, t0, t1, e1, e2, e3, e4, a14, g14, a12, g12, g12', a20, g20, i0, c2, c3, g23, g23', a16, g16, g16', g14', a22, g22]
              · simp -implicitDefEqProofs (disch := omega) [wrap_of, ilt_t, ilt_f, ile_t, ile_f, nlt_t, nlt_f, nle_t, nle_f, ieq_t, ieq_f, imin_l, imin_r, imax_l, imax_r, take_app1, take_map_all, c6, a9, h9, a10, h10, a35, h35, t0, t1, e1, e2, e3, e4, a14, g14, a12, g12, g12', a20, g20, i0, c2, c3, g23, g23', a16, g16, g16', g14', a22, g22]
            · simp -implicitDefEqProofs (disch := omega) [wrap_of, ilt_t, ilt_f, ile_t, ile_f, nlt_t, nlt_f, nle_t, nle_f, ieq_t, ieq_f, imin_l, imin_r, imax_l, imax_r, take_app1, take_map_all, c6, a9, h9, a10, h10, a35, h35, t0, t1, e1, e2, e3, e4, a14, g14, a12, g12, g12', a20, g20, hi, c2, c3, g23, g23', a16, g16, g16', g14', a22, g22]
end Go.Proofs.Ytjblbmcgpdmahaa
