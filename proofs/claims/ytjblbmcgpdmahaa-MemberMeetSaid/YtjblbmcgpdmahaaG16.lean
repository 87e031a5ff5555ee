import Derived.Test.YtjblbmcgpdmahaaF16
set_option linter.unusedSimpArgs false
set_option linter.unusedVariables false
namespace Go.Proofs.Ytjblbmcgpdmahaa
open Go.Am

/-- Entries laid behind a place of a log with a base. -/
def putM (f : Bool) (b : Ba) (l : List En) (a t : Int) (more : List En) : Option (Bool × List En) :=
  if a < b.many then
    if (more.length : Int) ≤ b.many - a then some (f, l) else if teA more (b.many - a - 1).toNat = b.term then (putP l 0 0 (more.drop (b.many - a).toNat)).map fun m => (false, m) else none
  else if fitsA b l a t = true then (putP l (a - b.many) (if a = b.many then 0 else t) more).map fun m => (false, m) else none
def putMV (o : Option (Bool × List En)) : AV := o.elim (.tup [.lst true [], .bool false]) fun m => .tup [.lst m.1 (m.2.map E), .bool true]
theorem putMV_map (o : Option (List En)) : putMV (o.map fun m => (false, m)) = putV o := by cases o <;> rfl
theorem GL.drop {l : List En} (h : GL l) (k : Nat) : GL (l.drop k) := ⟨by have := h.len; simp; omega, fun e he => h.da e (List.mem_of_mem_drop he)⟩
theorem GL.take {l : List En} (h : GL l) (k : Nat) : GL (l.take k) := ⟨by have := h.len; simp; omega, fun e he => h.da e (List.mem_of_mem_take he)⟩
theorem gone_of {m a : Int} {n : Nat} (h : a < m) (h' : ¬ (n : Int) ≤ m - a) : ∃ k : Nat, m - a = k + 1 ∧ k < n := ⟨(m - a - 1).toNat, by omega, by omega⟩
theorem s16 {n : Nat} (hn : 10 < n) (b : Ba) (hb : GB b) (l more : List En) (hl : GL l) (hm : GL more) (f g : Bool) (a t : Int) (a0 : 0 ≤ a) (a1 : a ≤ 3000000) :
    (C16.tab n).p 16 [Bs b, .lst f (l.map E), .int .i64 a, .int .i64 t, .lst g (more.map E)] = some (putMV (putM f b l a t more)) := by
  rw [p16 hn, runP_eq, runH_eq]
  have h1 := hb.lo
  have h2 := hb.hi
  have hll := hl.len
  have hml := hm.len
  unfold putM
  by_cases c1 : a < b.many
  · rw [if_pos c1]
    by_cases c2 : (more.length : Int) ≤ b.many - a
    · rw [if_pos c2]
      simp -implicitDefEqProofs (disch := omega) [wrap_of, ilt_t, ilt_f, ile_t, ile_f, nlt_t, nlt_f, nle_t, nle_f, ieq_t, ieq_f, imin_l, imin_r, imax_l, imax_r, take_app1, take_map_all, c16, c1, c2, putMV]
    · rw [if_neg c2]
      obtain ⟨k, hk, hkl⟩ := gone_of c1 c2
      have ht := teA_of hkl
      obtain ⟨x, hx⟩ : ∃ x, x = more[k] := ⟨_, rfl⟩
      rw [← hx] at ht
      have e1 : (b.many - a - 1).toNat = k := by omega
      have e2 : (b.many - a).toNat = k + 1 := by omega
      have e3 : ((k : Int) + 1 - 1) = (k : Int) := by omega
      have e4 : ((k : Int) + 1).toNat = k + 1 := by omega
      rw [e1, ht, e2]
      by_cases c3 : x.te = b.term
      · have h36 := s36 (n := 10) (by decide) l (more.drop (k + 1)) hl (hm.drop _) f g 0 0
        rw [List.map_drop] at h36
        rw [if_pos c3, putMV_map]
        unfold putV at h36 ⊢
        cases ho : putP l 0 0 (more.drop (k + 1)) with
        | none =>
          rw [ho] at h36
          simp only [Option.elim_none] at h36 ⊢
          simp -implicitDefEqProofs (disch := omega) [wrap_of, ilt_t, ilt_f, ile_t, ile_f, nlt_t, nlt_f, nle_t, nle_f, ieq_t, ieq_f, imin_l, imin_r, imax_l, imax_r, take_app1, take_map_all, c16, c1, hk, hkl, ← hx, e3, e4, c3, a36, h36]
        | some m =>
          rw [ho] at h36
          simp only [Option.elim_some] at h36 ⊢
          simp -implicitDefEqProofs (disch := omega) [wrap_of, ilt_t, ilt_f, ile_t, ile_f, nlt_t, nlt_f, nle_t, nle_f, ieq_t, ieq_f, imin_l, imin_r, imax_l, imax_r, take_app1, take_map_all, c16, c1, hk, hkl, ← hx, e3, e4, c3, a36, h36]
      · rw [if_neg c3]
        simp -implicitDefEqProofs (disch := omega) [wrap_of, ilt_t, ilt_f, ile_t, ile_f, nlt_t, nlt_f, nle_t, nle_f, ieq_t, ieq_f, imin_l, imin_r, imax_l, imax_r, take_app1, take_map_all, c16, c1, hk, hkl, ← hx, e3, e4, c3, putMV]
  · rw [if_neg c1]
    have h23 := s23 (n := 10) (by decide) b hb l hl f a t
    simp only [Bs] at h23
    cases hf : fitsA b l a t with
    | false =>
      rw [hf] at h23
      simp -implicitDefEqProofs (disch := omega) [wrap_of, ilt_t, ilt_f, ile_t, ile_f, nlt_t, nlt_f, nle_t, nle_f, ieq_t, ieq_f, imin_l, imin_r, imax_l, imax_r, take_app1, take_map_all, c16, c1, a23, h23, putMV]
    | true =>
      rw [hf] at h23
      simp only [if_true]
      rw [putMV_map]
      by_cases c3 : a = b.many
      · subst c3
        have h36 := s36 (n := 10) (by decide) l more hl hm f g 0 0
        rw [if_pos rfl, Int.sub_self]
        unfold putV at h36 ⊢
        cases ho : putP l 0 0 more with
        | none =>
          rw [ho] at h36
          simp only [Option.elim_none] at h36 ⊢
          simp -implicitDefEqProofs (disch := omega) [wrap_of, ilt_t, ilt_f, ile_t, ile_f, nlt_t, nlt_f, nle_t, nle_f, ieq_t, ieq_f, imin_l, imin_r, imax_l, imax_r, take_app1, take_map_all, c16, a23, h23, a36, h36]
        | some m =>
          rw [ho] at h36
          simp only [Option.elim_some] at h36 ⊢
          simp -implicitDefEqProofs (disch := omega) [wrap_of, ilt_t, ilt_f, ile_t, ile_f, nlt_t, nlt_f, nle_t, nle_f, ieq_t, ieq_f, imin_l, imin_r, imax_l, imax_r, take_app1, take_map_all, c16, a23, h23, a36, h36]
      · have h36 := s36 (n := 10) (by decide) l more hl hm f g (a - b.many) t
        rw [if_neg c3]
        unfold putV at h36 ⊢
        cases ho : putP l (a - b.many) t more with
        | none =>
          rw [ho] at h36
          simp only [Option.elim_none] at h36 ⊢
          simp -implicitDefEqProofs (disch := omega) [wrap_of, ilt_t, ilt_f, ile_t, ile_f, nlt_t, nlt_f, nle_t, nle_f, ieq_t, ieq_f, imin_l, imin_r, imax_l, imax_r, take_app1, take_map_all, c16, c1, a23, h23, c3, a36, h36]
        | some m =>
          rw [ho] at h36
          simp only [Option.elim_some] at h36 ⊢
          simp -implicitDefEqProofs (disch := omega) [wrap_of, ilt_t, ilt_f, ile_t, ile_f, nlt_t, nlt_f, nle_t, nle_f, ieq_t, ieq_f, imin_l, imin_r, imax_l, imax_r, take_app1, take_map_all, c16, c1, a23, h23, c3, a36, h36]
theorem s17 {n : Nat} (hn : 44 < n) (b : Ba) (hb : GB b) (l more : List En) (hl : GL l) (hm : GL more) (f g : Bool) (a t : Int) (a0 : 0 ≤ a) (a1 : a ≤ 3000000) :
    (C16.tab n).p 17 [Bs b, .lst f (l.map E), .int .i64 a, .int .i64 t, .lst g (more.map E)] = some (putMV (putM f b l a t more)) := by
  rw [p17 hn, runP_eq, runH_eq]
  have h1 := hb.lo
  have h2 := hb.hi
  have hll := hl.len
  have hml := hm.len
  unfold putM
  by_cases c1 : a < b.many
  · rw [if_pos c1]
    by_cases c2 : (more.length : Int) ≤ b.many - a
    · rw [if_pos c2]
      simp -implicitDefEqProofs (disch := omega) [wrap_of, ilt_t, ilt_f, ile_t, ile_f, nlt_t, nlt_f, nle_t, nle_f, ieq_t, ieq_f, imin_l, imin_r, imax_l, imax_r, take_app1, take_map_all, c17, c1, c2, putMV]
    · rw [if_neg c2]
      obtain ⟨k, hk, hkl⟩ := gone_of c1 c2
      have ht := teA_of hkl
      obtain ⟨x, hx⟩ : ∃ x, x = more[k] := ⟨_, rfl⟩
      rw [← hx] at ht
      have e1 : (b.many - a - 1).toNat = k := by omega
      have e2 : (b.many - a).toNat = k + 1 := by omega
      have e3 : ((k : Int) + 1 - 1) = (k : Int) := by omega
      have e4 : ((k : Int) + 1).toNat = k + 1 := by omega
      rw [e1, ht, e2]
      by_cases c3 : x.te = b.term
      · have h44 := s44 (n := 44) (by decide) l (more.drop (k + 1)) hl (hm.drop _) f g 0 0
        rw [List.map_drop] at h44
        rw [if_pos c3, putMV_map]
        unfold putV at h44 ⊢
        cases ho : putP l 0 0 (more.drop (k + 1)) with
        | none =>
          rw [ho] at h44
          simp only [Option.elim_none] at h44 ⊢
          simp -implicitDefEqProofs (disch := omega) [wrap_of, ilt_t, ilt_f, ile_t, ile_f, nlt_t, nlt_f, nle_t, nle_f, ieq_t, ieq_f, imin_l, imin_r, imax_l, imax_r, take_app1, take_map_all, c17, c1, hk, hkl, ← hx, e3, e4, c3, a44, h44]
        | some m =>
          rw [ho] at h44
          simp only [Option.elim_some] at h44 ⊢
          simp -implicitDefEqProofs (disch := omega) [wrap_of, ilt_t, ilt_f, ile_t, ile_f, nlt_t, nlt_f, nle_t, nle_f, ieq_t, ieq_f, imin_l, imin_r, imax_l, imax_r, take_app1, take_map_all, c17, c1, hk, hkl, ← hx, e3, e4, c3, a44, h44]
      · rw [if_neg c3]
        simp -implicitDefEqProofs (disch := omega) [wrap_of, ilt_t, ilt_f, ile_t, ile_f, nlt_t, nlt_f, nle_t, nle_f, ieq_t, ieq_f, imin_l, imin_r, imax_l, imax_r, take_app1, take_map_all, c17, c1, hk, hkl, ← hx, e3, e4, c3, putMV]
  · rw [if_neg c1]
    have h24 := s24 (n := 44) (by decide) b hb l hl f a t (by omega)
    simp only [Bs] at h24
    cases hf : fitsA b l a t with
    | false =>
      rw [hf] at h24
      simp -implicitDefEqProofs (disch := omega) [wrap_of, ilt_t, ilt_f, ile_t, ile_f, nlt_t, nlt_f, nle_t, nle_f, ieq_t, ieq_f, imin_l, imin_r, imax_l, imax_r, take_app1, take_map_all, c17, c1, a24, h24, putMV]
    | true =>
      rw [hf] at h24
      simp only [if_true]
      rw [putMV_map]
      by_cases c3 : a = b.many
      · subst c3
        have h44 := s44 (n := 44) (by decide) l more hl hm f g 0 0
        rw [if_pos rfl, Int.sub_self]
        unfold putV at h44 ⊢
        cases ho : putP l 0 0 more with
        | none =>
          rw [ho] at h44
          simp only [Option.elim_none] at h44 ⊢
          simp -implicitDefEqProofs (disch := omega) [wrap_of, ilt_t, ilt_f, ile_t, ile_f, nlt_t, nlt_f, nle_t, nle_f, ieq_t, ieq_f, imin_l, imin_r, imax_l, imax_r, take_app1, take_map_all, c17, a24, h24, a44, h44]
        | some m =>
          rw [ho] at h44
          simp only [Option.elim_some] at h44 ⊢
          simp -implicitDefEqProofs (disch := omega) [wrap_of, ilt_t, ilt_f, ile_t, ile_f, nlt_t, nlt_f, nle_t, nle_f, ieq_t, ieq_f, imin_l, imin_r, imax_l, imax_r, take_app1, take_map_all, c17, a24, h24, a44, h44]
      · have h44 := s44 (n := 44) (by decide) l more hl hm f g (a - b.many) t
        rw [if_neg c3]
        unfold putV at h44 ⊢
        cases ho : putP l (a - b.many) t more with
        | none =>
          rw [ho] at h44
          simp only [Option.elim_none] at h44 ⊢
          simp -implicitDefEqProofs (disch := omega) [wrap_of, ilt_t, ilt_f, ile_t, ile_f, nlt_t, nlt_f, nle_t, nle_f, ieq_t, ieq_f, imin_l, imin_r, imax_l, imax_r, take_app1, take_map_all, c17, c1, a24, h24, c3, a44, h44]
        | some m =>
          rw [ho] at h44
          simp only [Option.elim_some] at h44 ⊢
          simp -implicitDefEqProofs (disch := omega) [wrap_of, ilt_t, ilt_f, ile_t, ile_f, nlt_t, nlt_f, nle_t, nle_f, ieq_t, ieq_f, imin_l, imin_r, imax_l, imax_r, take_app1, take_map_all, c17, c1, a24, h24, c3, a44, h44]
/-- A log that is handed another one's beginning. -/
theorem s18 {n : Nat} (hn : 11 < n) (b from_ : Ba) (hb : GB b) (hfr : GB from_) (l : List En) (hl : GL l) (f : Bool) :
    (C16.tab n).p 18 [Bs b, .lst f (l.map E), Bs from_] = some (if from_.many ≤ b.many then .tup [Bs b, .lst f (l.map E)] else if fitsA b l from_.many from_.term = true then .tup [Bs from_, .lst false ((l.drop (from_.many - b.many).toNat).map E)] else .tup [Bs from_, .lst true []]) := by
  rw [p18 hn, runP_eq, runH_eq]
  have h1 := hb.lo
  have h2 := hfr.hi
  have hll := hl.len
  have h43 := q43 (n := 11) (by decide)
  have h23 := s23 (n := 11) (by decide) b hb l hl f from_.many from_.term
  simp only [Bs] at h23
  by_cases c1 : from_.many ≤ b.many
  · simp -implicitDefEqProofs (disch := omega) [wrap_of, ilt_t, ilt_f, ile_t, ile_f, nlt_t, nlt_f, nle_t, nle_f, ieq_t, ieq_f, imin_l, imin_r, imax_l, imax_r, take_app1, take_map_all, c18, c1]
  · cases hf : fitsA b l from_.many from_.term with
    | false =>
      rw [hf] at h23
      simp -implicitDefEqProofs (disch := omega) [wrap_of, ilt_t, ilt_f, ile_t, ile_f, nlt_t, nlt_f, nle_t, nle_f, ieq_t, ieq_f, imin_l, imin_r, imax_l, imax_r, take_app1, take_map_all, c18, c1, a23, h23]
    | true =>
      rw [hf] at h23
      have hle : (from_.many - b.many).toNat ≤ l.length := by
        unfold fitsA termA at hf
        have := of_decide_eq_true hf
        split at this
        · cases this
        · omega
      obtain ⟨k, hk⟩ : ∃ k : Nat, from_.many - b.many = k := ⟨(from_.many - b.many).toNat, by omega⟩
      have e1 : (from_.many - b.many).toNat = k := by omega
      rw [e1] at hle ⊢
      simp -implicitDefEqProofs (disch := omega) [wrap_of, ilt_t, ilt_f, ile_t, ile_f, nlt_t, nlt_f, nle_t, nle_f, ieq_t, ieq_f, imin_l, imin_r, imax_l, imax_r, take_app1, take_map_all, c18, c1, a23, h23, hk, hle, h43]
      rw [List.take_of_length_le (by simp)]
theorem fits_le {b : Ba} {l : List En} {a t : Int} (h : fitsA b l a t = true) : ∃ k : Nat, a = b.many + k ∧ k ≤ l.length := by
  unfold fitsA termA at h
  have := of_decide_eq_true h
  split at this
  · cases this
  · exact ⟨(a - b.many).toNat, by omega, by omega⟩
theorem s19 {n : Nat} (hn : 45 < n) (b from_ : Ba) (hb : GB b) (hfr : GB from_) (l : List En) (hl : GL l) (f : Bool) :
    ∃ g, (C16.tab n).p 19 [Bs b, .lst f (l.map E), Bs from_] = some (if from_.many ≤ b.many then .tup [Bs b, .lst f (l.map E)] else if fitsA b l from_.many from_.term = true then .tup [Bs from_, .lst g ((l.drop (from_.many - b.many).toNat).map E)] else .tup [Bs from_, .lst true []]) := by
  rw [p19 hn, runP_eq, runH_eq]
  have h1 := hb.lo
  have h2 := hfr.hi
  have hll := hl.len
  have h24 := s24 (n := 45) (by decide) b hb l hl f from_.many from_.term (by omega)
  simp only [Bs] at h24
  by_cases c1 : from_.many ≤ b.many
  · refine ⟨f, ?_⟩
    simp -implicitDefEqProofs (disch := omega) [wrap_of, ilt_t, ilt_f, ile_t, ile_f, nlt_t, nlt_f, nle_t, nle_f, ieq_t, ieq_f, imin_l, imin_r, imax_l, imax_r, take_app1, take_map_all, c19, c1]
  · cases hf : fitsA b l from_.many from_.term with
    | false =>
      rw [hf] at h24
      refine ⟨f, ?_⟩
      simp -implicitDefEqProofs (disch := omega) [wrap_of, ilt_t, ilt_f, ile_t, ile_f, nlt_t, nlt_f, nle_t, nle_f, ieq_t, ieq_f, imin_l, imin_r, imax_l, imax_r, take_app1, take_map_all, c19, c1, a24, h24]
    | true =>
      rw [hf] at h24
      obtain ⟨k, hk, hle⟩ := fits_le hf
      have e0 : from_.many - b.many = k := by omega
      have e1 : (from_.many - b.many).toNat = k := by omega
      rw [e1]
      refine ⟨f, ?_⟩
      simp -implicitDefEqProofs (disch := omega) [wrap_of, ilt_t, ilt_f, ile_t, ile_f, nlt_t, nlt_f, nle_t, nle_f, ieq_t, ieq_f, imin_l, imin_r, imax_l, imax_r, take_app1, take_map_all, c19, c1, a24, h24, e0, hle]
/-- A log whose beginning goes. -/
def cutB (b : Ba) (l : List En) (up u : Int) (fd : Bool) (da : List UInt8) : Ba := ⟨up, u, (peersS b (l.take (up - b.many).toNat)).1.1, (peersS b (l.take (up - b.many).toNat)).1.2.1, fd, da⟩
def cutV (b : Ba) (l : List En) (f : Bool) (up : Int) (fd : Bool) (da : List UInt8) (g : Bool) : AV := match termA b l up with
  | some u => .tup [Bs (cutB b l up u fd da), .lst g ((l.drop (up - b.many).toNat).map E), .bool true]
  | none => .tup [Bs b, .lst f (l.map E), .bool false]
theorem term_le {b : Ba} {l : List En} {a u : Int} (h : termA b l a = some u) : ∃ k : Nat, a = b.many + k ∧ k ≤ l.length ∧ u = if k = 0 then b.term else teA l (k - 1) := by
  unfold termA at h
  split at h
  · cases h
  · split at h
    · cases h
      exact ⟨0, by omega, by omega, by simp⟩
    · cases h
      refine ⟨(a - b.many).toNat, by omega, by omega, ?_⟩
      rw [if_neg (by omega)]
      congr 1
      omega
theorem s14 {n : Nat} (hn : 4 < n) (b : Ba) (hb : GB b) (l : List En) (hl : GL l) (f : Bool) (up : Int) (da : List UInt8) (hda : da.length ≤ 1000000) (fd : Bool) :
    (C16.tab n).p 14 [Bs b, .lst f (l.map E), .int .i64 up, .lst fd (da.map B)] = some (cutV b l f up false da false) := by
  rw [p14 hn, runP_eq, runH_eq]
  have h1 := hb.lo
  have h2 := hb.hi
  have hll := hl.len
  have h41 := s41 (n := 4) (by decide) b hb l hl f up
  have h42 := q42 (n := 4) (by decide)
  have h43 := q43 (n := 4) (by decide)
  simp only [Bs] at h41
  unfold cutV
  cases ht : termA b l up with
  | none =>
    rw [ht] at h41
    simp -implicitDefEqProofs (disch := omega) [wrap_of, ilt_t, ilt_f, ile_t, ile_f, nlt_t, nlt_f, nle_t, nle_f, ieq_t, ieq_f, imin_l, imin_r, imax_l, imax_r, take_app1, take_map_all, c14, a41, h41]
  | some u =>
    rw [ht] at h41
    obtain ⟨k, rfl, hle, _⟩ := term_le ht
    have e0 : b.many + (k : Int) - b.many = k := by omega
    have h12 := fun f => s12 (n := 4) (by decide) b hb (l.take k) (hl.take k) f
    simp only [Bs, List.map_take, psV] at h12
    have e1 : ((k : Int)).toNat = k := by omega
    unfold cutB
    rw [e0, e1]
    generalize (peersS b (l.take k)).1 = q at *
    simp -implicitDefEqProofs (disch := omega) [wrap_of, ilt_t, ilt_f, ile_t, ile_f, nlt_t, nlt_f, nle_t, nle_f, ieq_t, ieq_f, imin_l, imin_r, imax_l, imax_r, take_app1, take_map_all, c14, a41, h41, e0, hle, h12, h42, h43]
    rw [List.take_of_length_le (by simp)]
theorem s15 {n : Nat} (hn : 38 < n) (b : Ba) (hb : GB b) (l : List En) (hl : GL l) (f : Bool) (up : Int) (hup : up ≤ 9223372036854775807) (da : List UInt8) (fd : Bool) :
    ∃ g, (C16.tab n).p 15 [Bs b, .lst f (l.map E), .int .i64 up, .lst fd (da.map B)] = some (cutV b l f up fd da g) := by
  rw [p15 hn, runP_eq, runH_eq]
  have h1 := hb.lo
  have h2 := hb.hi
  have hll := hl.len
  unfold cutV
  refine ⟨f, ?_⟩
  cases ht : termA b l up with
  | none =>
    unfold termA at ht
    split at ht
    · rename_i hc
      by_cases c1 : up < b.many
      · simp -implicitDefEqProofs (disch := omega) [wrap_of, ilt_t, ilt_f, ile_t, ile_f, nlt_t, nlt_f, nle_t, nle_f, ieq_t, ieq_f, imin_l, imin_r, imax_l, imax_r, take_app1, take_map_all, c15, c1]
      · have c2 : (l.length : Int) < up - b.many := by omega
        simp -implicitDefEqProofs (disch := omega) [wrap_of, ilt_t, ilt_f, ile_t, ile_f, nlt_t, nlt_f, nle_t, nle_f, ieq_t, ieq_f, imin_l, imin_r, imax_l, imax_r, take_app1, take_map_all, c15, c1, c2]
    · split at ht <;> cases ht
  | some u =>
    obtain ⟨k, rfl, hle, hu⟩ := term_le ht
    have c1 : ¬ b.many + (k : Int) < b.many := by omega
    have e0 : b.many + (k : Int) - b.many = k := by omega
    have h13 := fun f => s13 (n := 38) (by decide) b hb (l.take k) (hl.take k) f
    simp only [Bs, List.map_take, psV] at h13
    have e1 : ((k : Int)).toNat = k := by omega
    unfold cutB
    rw [e0, e1]
    generalize (peersS b (l.take k)).1 = q at *
    by_cases hk0 : k = 0
    · subst hk0
      simp only [if_true] at hu
      subst hu
      simp only [List.take_zero] at h13
      simp -implicitDefEqProofs (disch := omega) [wrap_of, ilt_t, ilt_f, ile_t, ile_f, nlt_t, nlt_f, nle_t, nle_f, ieq_t, ieq_f, imin_l, imin_r, imax_l, imax_r, take_app1, take_map_all, c15, h13]
    · obtain ⟨j, rfl⟩ : ∃ j, k = j + 1 := ⟨k - 1, by omega⟩
      have hj : j < l.length := by omega
      have ht := teA_of hj
      obtain ⟨x, hx⟩ : ∃ x, x = l[j] := ⟨_, rfl⟩
      rw [← hx] at ht
      rw [if_neg (by omega), Nat.add_sub_cancel, ht] at hu
      subst hu
      have e2 : ((j : Int) + 1 - 1) = (j : Int) := by omega
      have e3 : b.many + ((j : Int) + 1) - b.many = (j : Int) + 1 := by omega
      have e4 : ((j : Int) + 1).toNat = j + 1 := by omega
      simp -implicitDefEqProofs (disch := omega) [wrap_of, ilt_t, ilt_f, ile_t, ile_f, nlt_t, nlt_f, nle_t, nle_f, ieq_t, ieq_f, imin_l, imin_r, imax_l, imax_r, take_app1, take_map_all, c15, c1, e3, e4, e2, hle, hj, ← hx, h13]
end Go.Proofs.Ytjblbmcgpdmahaa
