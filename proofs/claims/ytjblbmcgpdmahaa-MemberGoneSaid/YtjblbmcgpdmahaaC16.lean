import Derived.Test.YtjblbmcgpdmahaaB16
set_option linter.unusedSimpArgs false
set_option linter.unusedVariables false
namespace Go.Proofs.Ytjblbmcgpdmahaa
open Go.Am

/-- What a machine can go through. -/
structure GL (l : List En) : Prop where
  len : l.length ≤ 1000000
  da : ∀ e ∈ l, e.da.length ≤ 1000000
structure GB (b : Ba) : Prop where
  lo : 0 ≤ b.many
  hi : b.many ≤ 2000000
  ps : b.ps.length ≤ 1000000
  da : b.da.length ≤ 1000000
theorem GL.fin {l : List En} (h : GL l) : Fin l := ⟨by have := h.len; omega, fun e he => by have := h.da e he; omega⟩
theorem GB.fin {b : Ba} (h : GB b) : BFin b := ⟨by have := h.ps; omega, by have := h.da; omega⟩
def teA (l : List En) (k : Nat) : Int := (l[k]?).elim 0 En.te
theorem teA_of {l : List En} {k : Nat} (h : k < l.length) : teA l k = l[k].te := by simp [teA, h]
/-- The term at a place. -/
def termA (b : Ba) (l : List En) (at_ : Int) : Option Int :=
  if at_ < b.many ∨ b.many + l.length < at_ then none else if at_ = b.many then some b.term else some (teA l (at_ - b.many - 1).toNat)
theorem place_of {m at_ : Int} {n : Nat} (h1 : ¬ (at_ < m ∨ m + n < at_)) (h2 : ¬ at_ = m) : ∃ k : Nat, at_ = m + k + 1 ∧ k < n := ⟨(at_ - m - 1).toNat, by omega, by omega⟩
theorem s41 {n : Nat} (hn : 1 < n) (b : Ba) (hb : GB b) (l : List En) (hl : GL l) (f : Bool) (at_ : Int) :
    (C16.tab n).p 41 [Bs b, .lst f (l.map E), .int .i64 at_] = some (.tup [.int .i64 ((termA b l at_).getD 0), .bool (termA b l at_).isSome]) := by
  rw [p41 hn, runP_eq, runH_eq]
  have h1 := hb.lo
  have h2 := hb.hi
  have h3 := hl.len
  unfold termA
  by_cases c1 : at_ < b.many
  · simp -implicitDefEqProofs (disch := omega) [wrap_of, ilt_t, ilt_f, ile_t, ile_f, nlt_t, nlt_f, nle_t, nle_f, ieq_t, ieq_f, imin_l, imin_r, imax_l, imax_r, take_app1, take_map_all, c41, c1]
  · by_cases c2 : b.many + l.length < at_
    · simp -implicitDefEqProofs (disch := omega) [wrap_of, ilt_t, ilt_f, ile_t, ile_f, nlt_t, nlt_f, nle_t, nle_f, ieq_t, ieq_f, imin_l, imin_r, imax_l, imax_r, take_app1, take_map_all, c41, c1, c2]
    · by_cases c3 : at_ = b.many
      · subst c3
        simp -implicitDefEqProofs (disch := omega) [wrap_of, ilt_t, ilt_f, ile_t, ile_f, nlt_t, nlt_f, nle_t, nle_f, ieq_t, ieq_f, imin_l, imin_r, imax_l, imax_r, take_app1, take_map_all, c41, c2]
      · obtain ⟨k, hk, hkl⟩ := place_of (fun h => h.elim c1 c2) c3
        have ht := teA_of hkl
        obtain ⟨x, hx⟩ : ∃ x, x = l[k] := ⟨_, rfl⟩
        rw [← hx] at ht
        subst hk
        have e1 : b.many + (k : Int) + 1 - b.many = (k : Int) + 1 := by omega
        have e2 : ((k : Int) + 1 - 1) = (k : Int) := by omega
        have e3 : ¬ (b.many + (k : Int) + 1 = b.many) := by omega
        simp -implicitDefEqProofs (disch := omega) [wrap_of, ilt_t, ilt_f, ile_t, ile_f, nlt_t, nlt_f, nle_t, nle_f, ieq_t, ieq_f, imin_l, imin_r, imax_l, imax_r, take_app1, take_map_all, c41, c1, c2, c3, e1, e2, e3, hkl, ← hx, ht]
def fitsA (b : Ba) (l : List En) (at_ t : Int) : Bool := decide (termA b l at_ = some t)
theorem s23 {n : Nat} (hn : 5 < n) (b : Ba) (hb : GB b) (l : List En) (hl : GL l) (f : Bool) (at_ t : Int) :
    (C16.tab n).p 23 [Bs b, .lst f (l.map E), .int .i64 at_, .int .i64 t] = some (.bool (fitsA b l at_ t)) := by
  rw [p23 hn, runP_eq, runH_eq]
  have h := s41 (n := 5) (by decide) b hb l hl f at_
  simp only [Bs] at h
  unfold fitsA
  cases hq : termA b l at_ with
  | none =>
    rw [hq] at h
    simp -implicitDefEqProofs (disch := omega) [wrap_of, ilt_t, ilt_f, ile_t, ile_f, nlt_t, nlt_f, nle_t, nle_f, ieq_t, ieq_f, imin_l, imin_r, imax_l, imax_r, take_app1, take_map_all, c23, a41, h]
  | some u =>
    rw [hq] at h
    by_cases hu : u = t
    · subst hu
      simp -implicitDefEqProofs (disch := omega) [wrap_of, ilt_t, ilt_f, ile_t, ile_f, nlt_t, nlt_f, nle_t, nle_f, ieq_t, ieq_f, imin_l, imin_r, imax_l, imax_r, take_app1, take_map_all, c23, a41, h]
    · simp -implicitDefEqProofs (disch := omega) [wrap_of, ilt_t, ilt_f, ile_t, ile_f, nlt_t, nlt_f, nle_t, nle_f, ieq_t, ieq_f, imin_l, imin_r, imax_l, imax_r, take_app1, take_map_all, c23, a41, h, hu]
theorem s24 {n : Nat} (hn : 39 < n) (b : Ba) (hb : GB b) (l : List En) (hl : GL l) (f : Bool) (at_ t : Int) (ha : at_ ≤ 9223372036854775807) :
    (C16.tab n).p 24 [Bs b, .lst f (l.map E), .int .i64 at_, .int .i64 t] = some (.bool (fitsA b l at_ t)) := by
  rw [p24 hn, runP_eq, runH_eq]
  have h1 := hb.lo
  have h2 := hb.hi
  have h3 := hl.len
  unfold fitsA termA
  by_cases c1 : at_ < b.many
  · simp -implicitDefEqProofs (disch := omega) [wrap_of, ilt_t, ilt_f, ile_t, ile_f, nlt_t, nlt_f, nle_t, nle_f, ieq_t, ieq_f, imin_l, imin_r, imax_l, imax_r, take_app1, take_map_all, c24, c1]
  · by_cases c2 : b.many + l.length < at_
    · have c2' : (l.length : Int) < at_ - b.many := by omega
      simp -implicitDefEqProofs (disch := omega) [wrap_of, ilt_t, ilt_f, ile_t, ile_f, nlt_t, nlt_f, nle_t, nle_f, ieq_t, ieq_f, imin_l, imin_r, imax_l, imax_r, take_app1, take_map_all, c24, c1, c2, c2']
    · have c2' : ¬ ((l.length : Int) < at_ - b.many) := by omega
      by_cases c3 : at_ = b.many
      · subst c3
        have e0 : ¬ ((l.length : Int) < 0) := by omega
        by_cases c4 : t = b.term
        · subst c4
          simp -implicitDefEqProofs (disch := omega) [wrap_of, ilt_t, ilt_f, ile_t, ile_f, nlt_t, nlt_f, nle_t, nle_f, ieq_t, ieq_f, imin_l, imin_r, imax_l, imax_r, take_app1, take_map_all, c24, c2, e0]
        · have c5 : ¬ b.term = t := fun h => c4 h.symm
          simp -implicitDefEqProofs (disch := omega) [wrap_of, ilt_t, ilt_f, ile_t, ile_f, nlt_t, nlt_f, nle_t, nle_f, ieq_t, ieq_f, imin_l, imin_r, imax_l, imax_r, take_app1, take_map_all, c24, c2, e0, c4, c5]
      · obtain ⟨k, hk, hkl⟩ := place_of (fun h => h.elim c1 c2) c3
        have ht := teA_of hkl
        obtain ⟨x, hx⟩ : ∃ x, x = l[k] := ⟨_, rfl⟩
        rw [← hx] at ht
        subst hk
        have e1 : b.many + (k : Int) + 1 - b.many = (k : Int) + 1 := by omega
        have e2 : ((k : Int) + 1 - 1) = (k : Int) := by omega
        have e3 : ¬ (b.many + (k : Int) + 1 = b.many) := by omega
        rw [e1] at c2'
        by_cases c4 : x.te = t
        · simp -implicitDefEqProofs (disch := omega) [wrap_of, ilt_t, ilt_f, ile_t, ile_f, nlt_t, nlt_f, nle_t, nle_f, ieq_t, ieq_f, imin_l, imin_r, imax_l, imax_r, take_app1, take_map_all, c24, c1, c2, c2', c3, e1, e2, e3, hkl, ← hx, ht, c4]
        · simp -implicitDefEqProofs (disch := omega) [wrap_of, ilt_t, ilt_f, ile_t, ile_f, nlt_t, nlt_f, nle_t, nle_f, ieq_t, ieq_f, imin_l, imin_r, imax_l, imax_r, take_app1, take_map_all, c24, c1, c2, c2', c3, e1, e2, e3, hkl, ← hx, ht, c4]
def fits13 (l : List En) (at_ t : Int) : Bool := decide (0 ≤ at_ ∧ at_ ≤ l.length ∧ (if at_ = 0 then 0 else teA l (at_ - 1).toNat) = t)
theorem at_of {at_ : Int} {n : Nat} (h1 : 0 ≤ at_) (h2 : at_ ≤ n) (h3 : ¬ at_ = 0) : ∃ k : Nat, at_ = k + 1 ∧ k < n := ⟨(at_ - 1).toNat, by omega, by omega⟩
theorem s55 {n : Nat} (hn : 6 < n) (l : List En) (hl : GL l) (f : Bool) (at_ t : Int) : (C16.tab n).p 55 [.lst f (l.map E), .int .i64 at_, .int .i64 t] = some (.bool (fits13 l at_ t)) := by
  rw [p55 hn, runP_eq, runH_eq]
  have h3 := hl.len
  unfold fits13
  by_cases c1 : 0 ≤ at_
  · by_cases c2 : at_ ≤ l.length
    · by_cases c3 : at_ = 0
      · subst c3
        by_cases c4 : t = 0
        · subst c4
          simp -implicitDefEqProofs (disch := omega) [wrap_of, ilt_t, ilt_f, ile_t, ile_f, nlt_t, nlt_f, nle_t, nle_f, ieq_t, ieq_f, imin_l, imin_r, imax_l, imax_r, take_app1, take_map_all, c55]
        · have c5 : ¬ 0 = t := fun h => c4 h.symm
          simp -implicitDefEqProofs (disch := omega) [wrap_of, ilt_t, ilt_f, ile_t, ile_f, nlt_t, nlt_f, nle_t, nle_f, ieq_t, ieq_f, imin_l, imin_r, imax_l, imax_r, take_app1, take_map_all, c55, c4, c5]
      · obtain ⟨k, hk, hkl⟩ := at_of c1 c2 c3
        have ht := teA_of hkl
        obtain ⟨x, hx⟩ : ∃ x, x = l[k] := ⟨_, rfl⟩
        rw [← hx] at ht
        subst hk
        have e2 : ((k : Int) + 1 - 1) = (k : Int) := by omega
        have e3 : ¬ ((k : Int) + 1 = 0) := by omega
        by_cases c4 : x.te = t
        · simp -implicitDefEqProofs (disch := omega) [wrap_of, ilt_t, ilt_f, ile_t, ile_f, nlt_t, nlt_f, nle_t, nle_f, ieq_t, ieq_f, imin_l, imin_r, imax_l, imax_r, take_app1, take_map_all, c55, c1, c2, e2, e3, hkl, ← hx, ht, c4]
        · simp -implicitDefEqProofs (disch := omega) [wrap_of, ilt_t, ilt_f, ile_t, ile_f, nlt_t, nlt_f, nle_t, nle_f, ieq_t, ieq_f, imin_l, imin_r, imax_l, imax_r, take_app1, take_map_all, c55, c1, c2, e2, e3, hkl, ← hx, ht, c4]
    · simp -implicitDefEqProofs (disch := omega) [wrap_of, ilt_t, ilt_f, ile_t, ile_f, nlt_t, nlt_f, nle_t, nle_f, ieq_t, ieq_f, imin_l, imin_r, imax_l, imax_r, take_app1, take_map_all, c55, c1, c2]
  · simp -implicitDefEqProofs (disch := omega) [wrap_of, ilt_t, ilt_f, ile_t, ile_f, nlt_t, nlt_f, nle_t, nle_f, ieq_t, ieq_f, imin_l, imin_r, imax_l, imax_r, take_app1, take_map_all, c55, c1]
theorem s66 {n : Nat} (hn : 41 < n) (l : List En) (hl : GL l) (f : Bool) (at_ : Int) (c1 : 0 ≤ at_) (c2 : at_ ≤ l.length) : (C16.tab n).p 66 [.lst f (l.map E), .int .i64 at_] = some (.int .i64 (if at_ = 0 then 0 else teA l (at_ - 1).toNat)) := by
  rw [p66 hn, runP_eq, runH_eq]
  have h3 := hl.len
  by_cases c3 : at_ = 0
  · subst c3
    simp -implicitDefEqProofs (disch := omega) [wrap_of, ilt_t, ilt_f, ile_t, ile_f, nlt_t, nlt_f, nle_t, nle_f, ieq_t, ieq_f, imin_l, imin_r, imax_l, imax_r, take_app1, take_map_all, c66]
  · obtain ⟨k, hk, hkl⟩ := at_of c1 c2 c3
    have ht := teA_of hkl
    obtain ⟨x, hx⟩ : ∃ x, x = l[k] := ⟨_, rfl⟩
    rw [← hx] at ht
    subst hk
    have e2 : ((k : Int) + 1 - 1) = (k : Int) := by omega
    have e3 : ¬ ((k : Int) + 1 = 0) := by omega
    simp -implicitDefEqProofs (disch := omega) [wrap_of, ilt_t, ilt_f, ile_t, ile_f, nlt_t, nlt_f, nle_t, nle_f, ieq_t, ieq_f, imin_l, imin_r, imax_l, imax_r, take_app1, take_map_all, c66, e2, e3, hkl, ← hx, ht]
theorem s59 {n : Nat} (hn : 42 < n) (l : List En) (hl : GL l) (f : Bool) (at_ t : Int) : (C16.tab n).p 59 [.lst f (l.map E), .int .i64 at_, .int .i64 t] = some (.bool (fits13 l at_ t)) := by
  rw [p59 hn, runP_eq, runH_eq]
  have h3 := hl.len
  have h66 := s66 (n := 42) (by decide) l hl f at_
  unfold fits13
  by_cases c1 : 0 ≤ at_
  · by_cases c2 : at_ ≤ l.length
    · have h66 := h66 c1 c2
      generalize (if at_ = 0 then 0 else teA l (at_ - 1).toNat) = u at *
      by_cases c4 : u = t
      · simp -implicitDefEqProofs (disch := omega) [wrap_of, ilt_t, ilt_f, ile_t, ile_f, nlt_t, nlt_f, nle_t, nle_f, ieq_t, ieq_f, imin_l, imin_r, imax_l, imax_r, take_app1, take_map_all, c59, c1, c2, a66, h66, c4]
      · simp -implicitDefEqProofs (disch := omega) [wrap_of, ilt_t, ilt_f, ile_t, ile_f, nlt_t, nlt_f, nle_t, nle_f, ieq_t, ieq_f, imin_l, imin_r, imax_l, imax_r, take_app1, take_map_all, c59, c1, c2, a66, h66, c4]
    · simp -implicitDefEqProofs (disch := omega) [wrap_of, ilt_t, ilt_f, ile_t, ile_f, nlt_t, nlt_f, nle_t, nle_f, ieq_t, ieq_f, imin_l, imin_r, imax_l, imax_r, take_app1, take_map_all, c59, c1, c2]
  · simp -implicitDefEqProofs (disch := omega) [wrap_of, ilt_t, ilt_f, ile_t, ile_f, nlt_t, nlt_f, nle_t, nle_f, ieq_t, ieq_f, imin_l, imin_r, imax_l, imax_r, take_app1, take_map_all, c59, c1]
end Go.Proofs.Ytjblbmcgpdmahaa
