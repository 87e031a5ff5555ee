import Derived.Test.YtlooipgkklaijaaH18
set_option linter.unusedSimpArgs false
set_option linter.unusedVariables false
namespace Go.Proofs.Ytlooipgkklaijaa
open Go.Am Go.Am.Nm Go.Lib Go.Am.Sh

theorem half {i j : Nat} : bin .shr (.int .u64 ((i : Int) + j)) (.int .u64 1) = some (.int .u64 (((i + j) / 2 : Nat) : Int)) := by
  have h : ((i : Int) + j).fdiv 2 = (((i + j) / 2 : Nat) : Int) := by
    rw [Int.fdiv_eq_ediv_of_nonneg _ (by omega)]
    omega
  simp only [bin]
  rw [← h]
  rfl
/-- They rise. -/
def Inc (l : List P) : Prop := ∀ i j, i < j → j < l.length → sLess (pat l i) (pat l j) = true
/-- How many stand ahead of a path. -/
def cnt (l : List P) (s : List UInt8) : Nat := l.findIdx fun p => !sLess p.pa s
def fnd (l : List P) (s : List UInt8) : Bool := decide (cnt l s < l.length ∧ pat l (cnt l s) = s)
theorem cnt_le (l : List P) (s : List UInt8) : cnt l s ≤ l.length := List.findIdx_le_length
theorem cnt_iff {l : List P} (hi : Inc l) (s : List UInt8) {i : Nat} (h : i < l.length) : i < cnt l s ↔ sLess (pat l i) s = true := by
  constructor
  · intro hc
    have := List.not_of_lt_findIdx hc
    rw [pat_of h]
    simpa using this
  · intro hc
    rcases Nat.lt_or_ge i (cnt l s) with h' | h'
    · exact h'
    · exfalso
      have hcl : cnt l s < l.length := by omega
      have hn := List.findIdx_getElem (w := hcl)
      have hn' : sLess (pat l (cnt l s)) s = false := by
        simp only [Bool.not_eq_true'] at hn
        rw [pat_of hcl]; exact hn
      rcases Nat.lt_or_ge (cnt l s) i with h2 | h2
      · have := Kp.sLess_trans (hi _ _ h2 h) hc
        rw [hn'] at this; cases this
      · have : cnt l s = i := by omega
        rw [this, hc] at hn'; cases hn'
theorem l62 {n : Nat} (hn : 15 < n) (l : List P) (hi : Inc l) (hl : l.length ≤ 1000000) (f : Bool) (s : List UInt8) (e0 : Env) (h0 : e0 0 = .lst f (l.map D)) (h1 : e0 1 = .str s) (h2 : e0 2 = .fn (.func 63) [] []) :
    iter (round (C18.tab n) [9, 10] [(.exit 0, [9])] c62_1 e0 0 []) ([.int .i64 0, .int .i64 l.length], []) = some (.exit 0, [.int .i64 (cnt l s : Nat)], []) :=
  for_half (f := round (C18.tab n) [9, 10] [(.exit 0, [9])] c62_1 e0 0 []) (fun i j => ([.int .i64 (i : Int), .int .i64 (j : Int)], [])) l.length (cnt l s) (cnt_le l s) (fun c => (.exit 0, [.int .i64 (c : Int)], []))
    (fun i j hij hj => by
      have hh := half (i := i) (j := j)
      obtain ⟨m, hmm⟩ : ∃ m, m = (i + j) / 2 := ⟨_, rfl⟩
      rw [← hmm] at hh ⊢
      have hm : m < l.length := by omega
      obtain ⟨x, hx⟩ : ∃ x, x = l[m] := ⟨_, rfl⟩
      have hlt := cnt_iff hi s hm
      have hp := pat_of hm
      rw [← hx] at hp
      rw [hp] at hlt
      have h63 := s63 (n := n) hn x s
      simp only [D] at h63
      have hc := cmp_neg (a := x.pa) (b := s)
      by_cases h : m < cnt l s
      · have hc' : compareBytes x.pa s < 0 := hc.2 (hlt.1 h)
        simp -implicitDefEqProofs (disch := omega) [wrap_of, ilt_t, ilt_f, ile_t, ile_f, nlt_t, nlt_f, nle_t, nle_f, ieq_t, ieq_f, imin_l, imin_r, imax_l, imax_r, take_app1, take_map_all, round_eq, b62_1, h0, h1, h2, wrap_u64, hh, hm, ← hx, a63, h63, h, hc']
      · have hc' : ¬ compareBytes x.pa s < 0 := fun h' => h (hlt.2 (hc.1 h'))
        simp -implicitDefEqProofs (disch := omega) [wrap_of, ilt_t, ilt_f, ile_t, ile_f, nlt_t, nlt_f, nle_t, nle_f, ieq_t, ieq_f, imin_l, imin_r, imax_l, imax_r, take_app1, take_map_all, round_eq, b62_1, h0, h1, h2, wrap_u64, hh, hm, ← hx, a63, h63, h, hc'])
    (fun i hi => by simp -implicitDefEqProofs (disch := omega) [wrap_of, ilt_t, ilt_f, ile_t, ile_f, nlt_t, nlt_f, nle_t, nle_f, ieq_t, ieq_f, imin_l, imin_r, imax_l, imax_r, take_app1, take_map_all, round_eq, b62_1, h0]) _ 0 l.length rfl (Nat.zero_le _) (cnt_le l s) (Nat.le_refl _)
theorem cmp_zero {a b : List UInt8} : decide (compareBytes a b = 0) = decide (a = b) := by
  rw [compare_eq]
  by_cases h : a = b
  · simp [h]
  · rw [if_neg h]
    cases sLess a b <;> simp [h]
theorem s62 {n : Nat} (hn : 28 < n) (l : List P) (hi : Inc l) (hl : l.length ≤ 1000000) (f : Bool) (s : List UInt8) :
    callA (C18.tab n) 62 [.lst f (l.map D), .str s, .fn (.func 63) [] []] [] = some (.tup [.int .i64 (cnt l s : Nat), .bool (fnd l s)], []) := by
  rw [p62 hn, runH_eq]
  have hc := cnt_le l s
  have h1 := l62 (n := 28) (by decide) l hi hl f s
  simp -implicitDefEqProofs (disch := omega) [wrap_of, ilt_t, ilt_f, ile_t, ile_f, nlt_t, nlt_f, nle_t, nle_f, ieq_t, ieq_f, imin_l, imin_r, imax_l, imax_r, take_app1, take_map_all, c62]
  rw [h1 _ (by simp -implicitDefEqProofs (disch := omega) [wrap_of, ilt_t, ilt_f, ile_t, ile_f, nlt_t, nlt_f, nle_t, nle_f, ieq_t, ieq_f, imin_l, imin_r, imax_l, imax_r, take_app1, take_map_all, ]) (by simp -implicitDefEqProofs (disch := omega) [wrap_of, ilt_t, ilt_f, ile_t, ile_f, nlt_t, nlt_f, nle_t, nle_f, ieq_t, ieq_f, imin_l, imin_r, imax_l, imax_r, take_app1, take_map_all, ]) (by simp -implicitDefEqProofs (disch := omega) [wrap_of, ilt_t, ilt_f, ile_t, ile_f, nlt_t, nlt_f, nle_t, nle_f, ieq_t, ieq_f, imin_l, imin_r, imax_l, imax_r, take_app1, take_map_all, ])]
  unfold fnd
  by_cases h : cnt l s < l.length
  · obtain ⟨x, hx⟩ : ∃ x, x = l[cnt l s] := ⟨_, rfl⟩
    have hp := pat_of h
    rw [← hx] at hp
    have h63 := s63 (n := 28) (by decide) x s
    simp only [D] at h63
    have hz := cmp_zero (a := x.pa) (b := s)
    simp -implicitDefEqProofs (disch := omega) [wrap_of, ilt_t, ilt_f, ile_t, ile_f, nlt_t, nlt_f, nle_t, nle_f, ieq_t, ieq_f, imin_l, imin_r, imax_l, imax_r, take_app1, take_map_all, h, ← hx, a63, h63, hp, hz]
  · simp -implicitDefEqProofs (disch := omega) [wrap_of, ilt_t, ilt_f, ile_t, ile_f, nlt_t, nlt_f, nle_t, nle_f, ieq_t, ieq_f, imin_l, imin_r, imax_l, imax_r, take_app1, take_map_all, h]
theorem s48 {n : Nat} (hn : 29 < n) (l : List P) (hi : Inc l) (hl : l.length ≤ 1000000) (f : Bool) (s : List UInt8) :
    (C18.tab n).p 48 [.lst f (l.map D), .str s] = some (.tup [.int .i64 (cnt l s : Nat), .bool (fnd l s)]) := by
  rw [p48 hn, runP_eq, runH_eq]
  have h := s62 (n := 29) (by decide) l hi hl f s
  simp -implicitDefEqProofs (disch := omega) [wrap_of, ilt_t, ilt_f, ile_t, ile_f, nlt_t, nlt_f, nle_t, nle_f, ieq_t, ieq_f, imin_l, imin_r, imax_l, imax_r, take_app1, take_map_all, c48, h]
theorem set_at {l : List P} {i : Nat} (h : i < l.length) (a : AV) : ((l.map D).set i a)[i]? = some a := by simp [h]
/-- A piece of another epoch. -/
def setE (l : List P) (i : Nat) (e : Int) : List P := (l[i]?).elim l fun x => l.set i ⟨x.pa, x.gr, e⟩
def setM (l : List P) (i : Nat) (g : Int) : List P := (l[i]?).elim l fun x => l.set i ⟨x.pa, g, x.ep + 1⟩
theorem s50 {n : Nat} (hn : 12 < n) (l : List P) (i : Nat) (hi : i < l.length) (e : Int) :
    callA (C18.tab n) 50 [.ptr 1 0 i 0, .ptr 0 0 0 0] [.var [.int .i64 e], .row 0 3 (l.map D)] = some (.tup [], [.var [.int .i64 e], .row 0 3 ((setE l i e).map D)]) := by
  rw [p50 hn, runH_eq]
  unfold setE
  rw [List.getElem?_eq_getElem hi]
  obtain ⟨x, hx⟩ : ∃ x, x = l[i] := ⟨_, rfl⟩
  rw [← hx]
  simp -implicitDefEqProofs (disch := omega) [wrap_of, ilt_t, ilt_f, ile_t, ile_f, nlt_t, nlt_f, nle_t, nle_f, ieq_t, ieq_f, imin_l, imin_r, imax_l, imax_r, take_app1, take_map_all, c50, hi, ← hx]
theorem s53 {n : Nat} (hn : 13 < n) (l : List P) (i : Nat) (hi : i < l.length) (e : Int) (he : 0 ≤ e) (he' : e ≤ 1099511627776) :
    callA (C18.tab n) 53 [.ptr 1 0 i 0, .ptr 0 0 0 0] [.var [.int .i64 e], .row 0 3 (l.map D)] = some (.tup [], [.var [.int .i64 e], .row 0 3 ((setE l i (e + 1)).map D)]) := by
  rw [p53 hn, runH_eq]
  unfold setE
  rw [List.getElem?_eq_getElem hi]
  obtain ⟨x, hx⟩ : ∃ x, x = l[i] := ⟨_, rfl⟩
  rw [← hx]
  simp -implicitDefEqProofs (disch := omega) [wrap_of, ilt_t, ilt_f, ile_t, ile_f, nlt_t, nlt_f, nle_t, nle_f, ieq_t, ieq_f, imin_l, imin_r, imax_l, imax_r, take_app1, take_map_all, c53, hi, ← hx]
theorem s55 {n : Nat} (hn : 14 < n) (l : List P) (i : Nat) (hi : i < l.length) (g : Int) (he : ∀ p ∈ l, 0 ≤ p.ep ∧ p.ep ≤ 1099511627776) :
    callA (C18.tab n) 55 [.ptr 1 0 i 0, .ptr 0 0 0 0] [.var [.int .i64 g], .row 0 3 (l.map D)] = some (.tup [], [.var [.int .i64 g], .row 0 3 ((setM l i g).map D)]) := by
  rw [p55 hn, runH_eq]
  unfold setM
  rw [List.getElem?_eq_getElem hi]
  obtain ⟨x, hx⟩ : ∃ x, x = l[i] := ⟨_, rfl⟩
  obtain ⟨he1, he2⟩ := he _ (List.getElem_mem hi)
  rw [← hx] at he1 he2 ⊢
  have hst := fun a => set_at hi a
  simp -implicitDefEqProofs (disch := omega) [wrap_of, ilt_t, ilt_f, ile_t, ile_f, nlt_t, nlt_f, nle_t, nle_f, ieq_t, ieq_f, imin_l, imin_r, imax_l, imax_r, take_app1, take_map_all, c55, hi, ← hx, hst]
/-- What turns the piece at a place. -/
def Turns (Γ : Tab) (g : FuncId) (e : Int) (l l' : List P) (i : Nat) : Prop := callA Γ g [.ptr 1 0 i 0, .ptr 0 0 0 0] [.var [.int .i64 e], .row 0 3 (l.map D)] = some (.tup [], [.var [.int .i64 e], .row 0 3 (l'.map D)])
theorem s49 {n : Nat} (hn : 30 < n) (g : FuncId) (e : Int) (l l' : List P) (i : Nat) (hi : i < l.length) (hl : l.length ≤ 1000000) (ht : Turns (C18.tab 30) g e l l' i) (f : Bool) :
    callA (C18.tab n) 49 [.lst f (l.map D), .int .i64 i, .fn (.func g) [] [.ptr 0 0 0 0]] [.var [.int .i64 e]] = some (.own 1 0 0 l.length, [.var [.int .i64 e], .row 0 3 (l'.map D)]) := by
  rw [p49 hn, runH_eq]
  have h39 := fun args h => p39 (n := 30) (by decide) args h
  unfold Turns at ht
  simp -implicitDefEqProofs (disch := omega) [wrap_of, ilt_t, ilt_f, ile_t, ile_f, nlt_t, nlt_f, nle_t, nle_f, ieq_t, ieq_f, imin_l, imin_r, imax_l, imax_r, take_app1, take_map_all, c49, h39, hi, ht]
end Go.Proofs.Ytlooipgkklaijaa
