import Derived.Test.YtjblbmcgpdmahaaG16
set_option linter.unusedSimpArgs false
set_option linter.unusedVariables false
namespace Go.Proofs.Ytjblbmcgpdmahaa
open Go.Am

/-- A number as a byte. -/
def by8 (n : Int) : UInt8 := UInt8.ofNat (n % 256).toNat
theorem wrap_8 (n : Int) : IntKind.u8.wrap n = ((by8 n).toNat : Int) := by
  have e1 : IntKind.u8.wrap n = n % 256 := by
    unfold IntKind.wrap
    simp [IntKind.bits, IntKind.signed]
  rw [e1]
  unfold by8
  have h1 : (n % 256).toNat < 256 := by omega
  rw [UInt8.toNat_ofNat_of_lt' h1]
  omega
/-- The entry that tells seats. -/
def entE (t : Int) (ps : List Int) : En := ⟨t, false, 77 :: ps.map by8⟩
theorem fold_by (ps : List Int) : ∀ a : List UInt8, ps.foldl (fun a x => a ++ [by8 x]) a = a ++ ps.map by8 := by
  induction ps with
  | nil => intro a; simp
  | cons b t ih => intro a; simp [ih]
theorem l50 {Γ : Tab} (ps : List Int) (hp : ps.length ≤ 1000000) (f : Bool) (e0 : Env) (h10 : e0 10 = .lst f (ps.map I)) (h11 : e0 11 = .int .i64 ps.length) :
    iter (round Γ [5, 12] [(.exit 0, [5])] c50_1 e0 1 [0]) ([.own 0 0 0 1, .int .i64 0], [.row 0 1 [.int .u8 77]]) = some (.exit 0, [.own 0 0 0 (ps.length + 1)], [.row 0 1 ((77 :: ps.map by8).map B)]) := by
  have := for_list (f := round Γ [5, 12] [(.exit 0, [5])] c50_1 e0 1 [0]) (fun i (a : List UInt8) => ([.own 0 0 0 a.length, .int .i64 (i : Int)], [.row 0 1 (a.map B)])) ps (fun a x => a ++ [by8 x]) (fun a => (.exit 0, [.own 0 0 0 a.length], [.row 0 1 (a.map B)])) (fun i a => a.length = i + 1)
    (fun i hi a ha => by
      obtain ⟨x, hx⟩ : ∃ x, x = ps[i] := ⟨_, rfl⟩
      have hw := wrap_8 x
      refine ⟨by simp [ha], ?_⟩
      simp -implicitDefEqProofs (disch := omega) [wrap_of, ilt_t, ilt_f, ile_t, ile_f, nlt_t, nlt_f, nle_t, nle_f, ieq_t, ieq_f, imin_l, imin_r, imax_l, imax_r, take_app1, take_map_all, round_eq, b50_1, h10, h11, hi, ← hx, hw])
    (fun a ha => by simp -implicitDefEqProofs (disch := omega) [wrap_of, ilt_t, ilt_f, ile_t, ile_f, nlt_t, nlt_f, nle_t, nle_f, ieq_t, ieq_f, imin_l, imin_r, imax_l, imax_r, take_app1, take_map_all, round_eq, b50_1, h11]) [77] rfl
  rw [fold_by] at this
  simpa [show B 77 = AV.int IntKind.u8 77 from rfl] using this
theorem s50 {n : Nat} (hn : 15 < n) (ps : List Int) (hp : ps.length ≤ 1000000) (f : Bool) : (C16.tab n).p 50 [.int .u8 77, .lst f (ps.map I)] = some (.lst false ((77 :: ps.map by8).map B)) := by
  rw [p50 hn, runP_eq, runH_eq]
  have h := l50 (Γ := C16.tab 15) ps hp f
  simp -implicitDefEqProofs (disch := omega) [wrap_of, ilt_t, ilt_f, ile_t, ile_f, nlt_t, nlt_f, nle_t, nle_f, ieq_t, ieq_f, imin_l, imin_r, imax_l, imax_r, take_app1, take_map_all, c50]
  rw [h _ (by simp -implicitDefEqProofs (disch := omega) [wrap_of, ilt_t, ilt_f, ile_t, ile_f, nlt_t, nlt_f, nle_t, nle_f, ieq_t, ieq_f, imin_l, imin_r, imax_l, imax_r, take_app1, take_map_all, ]) (by simp -implicitDefEqProofs (disch := omega) [wrap_of, ilt_t, ilt_f, ile_t, ile_f, nlt_t, nlt_f, nle_t, nle_f, ieq_t, ieq_f, imin_l, imin_r, imax_l, imax_r, take_app1, take_map_all, ])]
  simp -implicitDefEqProofs (disch := omega) [wrap_of, ilt_t, ilt_f, ile_t, ile_f, nlt_t, nlt_f, nle_t, nle_f, ieq_t, ieq_f, imin_l, imin_r, imax_l, imax_r, take_app1, take_map_all, ]
theorem s29 {n : Nat} (hn : 16 < n) (t : Int) (ps : List Int) (hp : ps.length ≤ 1000000) (f : Bool) : (C16.tab n).p 29 [.int .i64 t, .lst f (ps.map I)] = some (E (entE t ps)) := by
  rw [p29 hn, runP_eq, runH_eq]
  have h := s50 (n := 16) (by decide) ps hp f
  unfold entE
  simp -implicitDefEqProofs (disch := omega) [wrap_of, ilt_t, ilt_f, ile_t, ile_f, nlt_t, nlt_f, nle_t, nle_f, ieq_t, ieq_f, imin_l, imin_r, imax_l, imax_r, take_app1, take_map_all, c29, a50, h]
theorem l49 {Γ : Tab} (ps : List Int) (hp : ps.length ≤ 1000000) (f : Bool) (e0 : Env) (h1 : e0 1 = .lst f (ps.map I)) :
    iter (round Γ [5, 6] [(.exit 0, [5])] c49_1 e0 2 [1]) ([.own 1 0 0 1, .int .i64 0], [.var [.int .i64 0, .lst true []], .row 0 1 [.int .u8 77]]) = some (.exit 0, [.own 1 0 0 (ps.length + 1)], [.var [.int .i64 0, .lst true []], .row 0 1 ((77 :: ps.map by8).map B)]) := by
  have := for_list (f := round Γ [5, 6] [(.exit 0, [5])] c49_1 e0 2 [1]) (fun i (a : List UInt8) => ([.own 1 0 0 a.length, .int .i64 (i : Int)], [.var [.int .i64 0, .lst true []], .row 0 1 (a.map B)])) ps (fun a x => a ++ [by8 x]) (fun a => (.exit 0, [.own 1 0 0 a.length], [.var [.int .i64 0, .lst true []], .row 0 1 (a.map B)])) (fun i a => a.length = i + 1)
    (fun i hi a ha => by
      obtain ⟨x, hx⟩ : ∃ x, x = ps[i] := ⟨_, rfl⟩
      have hw := wrap_8 x
      refine ⟨by simp [ha], ?_⟩
      simp -implicitDefEqProofs (disch := omega) [wrap_of, ilt_t, ilt_f, ile_t, ile_f, nlt_t, nlt_f, nle_t, nle_f, ieq_t, ieq_f, imin_l, imin_r, imax_l, imax_r, take_app1, take_map_all, round_eq, b49_1, h1, hi, ← hx, hw])
    (fun a ha => by simp -implicitDefEqProofs (disch := omega) [wrap_of, ilt_t, ilt_f, ile_t, ile_f, nlt_t, nlt_f, nle_t, nle_f, ieq_t, ieq_f, imin_l, imin_r, imax_l, imax_r, take_app1, take_map_all, round_eq, b49_1, h1]) [77] rfl
  rw [fold_by] at this
  simpa [show B 77 = AV.int IntKind.u8 77 from rfl] using this
theorem s49 {n : Nat} (hn : 48 < n) (t : Int) (ps : List Int) (hp : ps.length ≤ 1000000) (f : Bool) : (C16.tab n).p 49 [.int .i64 t, .lst f (ps.map I)] = some (E (entE t ps)) := by
  rw [p49 hn, runP_eq, runH_eq]
  have h := l49 (Γ := C16.tab 48) ps hp f
  unfold entE
  simp -implicitDefEqProofs (disch := omega) [wrap_of, ilt_t, ilt_f, ile_t, ile_f, nlt_t, nlt_f, nle_t, nle_f, ieq_t, ieq_f, imin_l, imin_r, imax_l, imax_r, take_app1, take_map_all, c49]
  rw [h _ (by simp -implicitDefEqProofs (disch := omega) [wrap_of, ilt_t, ilt_f, ile_t, ile_f, nlt_t, nlt_f, nle_t, nle_f, ieq_t, ieq_f, imin_l, imin_r, imax_l, imax_r, take_app1, take_map_all, ])]
  simp -implicitDefEqProofs (disch := omega) [wrap_of, ilt_t, ilt_f, ile_t, ile_f, nlt_t, nlt_f, nle_t, nle_f, ieq_t, ieq_f, imin_l, imin_r, imax_l, imax_r, take_app1, take_map_all, ]
/-- How many are less. -/
def cntI (l : List Int) (x : Int) : Nat := l.findIdx fun p => decide (x ≤ p)
def fndI (l : List Int) (x : Int) : Bool := decide (l[cntI l x]? = some x)
theorem half {i j : Nat} : bin .shr (.int .u64 ((i : Int) + j)) (.int .u64 1) = some (.int .u64 (((i + j) / 2 : Nat) : Int)) := by
  have h : ((i : Int) + j).fdiv 2 = (((i + j) / 2 : Nat) : Int) := by
    rw [Int.fdiv_eq_ediv_of_nonneg _ (by omega)]
    omega
  simp only [bin]
  rw [← h]
  rfl
/-- They rise. -/
def IncI (l : List Int) : Prop := ∀ i j (_ : i < j) (h : j < l.length), l[i] < l[j]
theorem cntI_le (l : List Int) (s : Int) : cntI l s ≤ l.length := List.findIdx_le_length
theorem cntI_iff {l : List Int} (hi : IncI l) (s : Int) {i : Nat} (h : i < l.length) : i < cntI l s ↔ l[i] < s := by
  constructor
  · intro hc
    have := List.not_of_lt_findIdx hc
    simpa using this
  · intro hc
    rcases Nat.lt_or_ge i (cntI l s) with h' | h'
    · exact h'
    · exfalso
      have hcl : cntI l s < l.length := by omega
      have hn := List.findIdx_getElem (w := hcl)
      have hn' : s ≤ l[cntI l s] := of_decide_eq_true hn
      rcases Nat.lt_or_ge (cntI l s) i with h2 | h2
      · have := hi _ _ h2 h
        omega
      · have : cntI l s = i := by omega
        simp only [this] at hn'
        omega
theorem s67 {n : Nat} (hn : 19 < n) (x : Int) : (C16.tab n).p 67 [I x] = some (.bool false) := by
  rw [p67 hn, runP_eq, runH_eq]
  simp -implicitDefEqProofs (disch := omega) [wrap_of, ilt_t, ilt_f, ile_t, ile_f, nlt_t, nlt_f, nle_t, nle_f, ieq_t, ieq_f, imin_l, imin_r, imax_l, imax_r, take_app1, take_map_all, c67]
theorem s61 {n : Nat} (hn : 21 < n) (x : Int) : (C16.tab n).p 61 [I x] = some (.bool false) := by
  rw [p61 hn, runP_eq, runH_eq]
  simp -implicitDefEqProofs (disch := omega) [wrap_of, ilt_t, ilt_f, ile_t, ile_f, nlt_t, nlt_f, nle_t, nle_f, ieq_t, ieq_f, imin_l, imin_r, imax_l, imax_r, take_app1, take_map_all, c61]
theorem s60 {n : Nat} (hn : 20 < n) (x y : Int) : (C16.tab n).p 60 [I x, I y] = some (.bool (decide (x < y))) := by
  rw [p60 hn, runP_eq, runH_eq]
  have h1 := s67 (n := 20) (by decide) x
  have h2 := s67 (n := 20) (by decide) y
  simp -implicitDefEqProofs (disch := omega) [wrap_of, ilt_t, ilt_f, ile_t, ile_f, nlt_t, nlt_f, nle_t, nle_f, ieq_t, ieq_f, imin_l, imin_r, imax_l, imax_r, take_app1, take_map_all, c60, a67, h1, h2]
theorem l46 {n : Nat} (hn : 20 < n) (l : List Int) (hi : IncI l) (hl : l.length ≤ 1000000) (cs : List AV) (s : Int) (e0 : Env) (h0 : e0 0 = .own 1 0 0 l.length) (h1 : e0 1 = I s) (hcs : cs = [.int .i64 0, .lst true []]) :
    iter (round (C16.tab n) [7, 8] [(.exit 0, [7])] c46_1 e0 2 []) ([.int .i64 0, .int .i64 l.length], [.var cs, .row 0 1 (l.map I)]) = some (.exit 0, [.int .i64 (cntI l s : Nat)], [.var cs, .row 0 1 (l.map I)]) :=
  for_half (f := round (C16.tab n) [7, 8] [(.exit 0, [7])] c46_1 e0 2 []) (fun i j => ([.int .i64 (i : Int), .int .i64 (j : Int)], [.var cs, .row 0 1 (l.map I)])) l.length (cntI l s) (cntI_le l s) (fun c => (.exit 0, [.int .i64 (c : Int)], [.var cs, .row 0 1 (l.map I)]))
    (fun i j hij hj => by
      subst hcs
      have hh := half (i := i) (j := j)
      obtain ⟨m, hmm⟩ : ∃ m, m = (i + j) / 2 := ⟨_, rfl⟩
      rw [← hmm] at hh ⊢
      have hm : m < l.length := by omega
      have hlt := cntI_iff hi s hm
      obtain ⟨x, hx⟩ : ∃ x, x = l[m] := ⟨_, rfl⟩
      rw [← hx] at hlt
      have h60 := s60 (n := n) hn x s
      by_cases h : m < cntI l s
      · have hc' : x < s := hlt.1 h
        simp -implicitDefEqProofs (disch := omega) [wrap_of, ilt_t, ilt_f, ile_t, ile_f, nlt_t, nlt_f, nle_t, nle_f, ieq_t, ieq_f, imin_l, imin_r, imax_l, imax_r, take_app1, take_map_all, round_eq, b46_1, h0, h1, wrap_u64, hh, hm, ← hx, a60, h60, h, hc']
      · have hc' : ¬ x < s := fun h' => h (hlt.2 h')
        simp -implicitDefEqProofs (disch := omega) [wrap_of, ilt_t, ilt_f, ile_t, ile_f, nlt_t, nlt_f, nle_t, nle_f, ieq_t, ieq_f, imin_l, imin_r, imax_l, imax_r, take_app1, take_map_all, round_eq, b46_1, h0, h1, wrap_u64, hh, hm, ← hx, a60, h60, h, hc'])
    (fun i hi => by simp -implicitDefEqProofs (disch := omega) [wrap_of, ilt_t, ilt_f, ile_t, ile_f, nlt_t, nlt_f, nle_t, nle_f, ieq_t, ieq_f, imin_l, imin_r, imax_l, imax_r, take_app1, take_map_all, round_eq, b46_1, h0]) _ 0 l.length rfl (Nat.zero_le _) (cntI_le l s) (Nat.le_refl _)
theorem s46 {n : Nat} (hn : 22 < n) (l : List Int) (hi : IncI l) (hl : l.length ≤ 1000000) (s : Int) :
    callA (C16.tab n) 46 [.own 1 0 0 l.length, I s] [.var [.int .i64 0, .lst true []], .row 0 1 (l.map I)] = some (.tup [.int .i64 (cntI l s : Nat), .bool (fndI l s)], [.var [.int .i64 0, .lst true []], .row 0 1 (l.map I)]) := by
  rw [p46 hn, runH_eq]
  have hc := cntI_le l s
  have h1 := fun e0 h0 h1 => l46 (n := 22) (by decide) l hi hl _ s e0 h0 h1 rfl
  simp -implicitDefEqProofs (disch := omega) [wrap_of, ilt_t, ilt_f, ile_t, ile_f, nlt_t, nlt_f, nle_t, nle_f, ieq_t, ieq_f, imin_l, imin_r, imax_l, imax_r, take_app1, take_map_all, c46]
  rw [h1 _ (by simp -implicitDefEqProofs (disch := omega) [wrap_of, ilt_t, ilt_f, ile_t, ile_f, nlt_t, nlt_f, nle_t, nle_f, ieq_t, ieq_f, imin_l, imin_r, imax_l, imax_r, take_app1, take_map_all, ]) (by simp -implicitDefEqProofs (disch := omega) [wrap_of, ilt_t, ilt_f, ile_t, ile_f, nlt_t, nlt_f, nle_t, nle_f, ieq_t, ieq_f, imin_l, imin_r, imax_l, imax_r, take_app1, take_map_all, ])]
  unfold fndI
  by_cases h : cntI l s < l.length
  · obtain ⟨x, hx⟩ : ∃ x, x = l[cntI l s] := ⟨_, rfl⟩
    have h61 := s61 (n := 22) (by decide) x
    by_cases hxs : x = s
    · simp -implicitDefEqProofs (disch := omega) [wrap_of, ilt_t, ilt_f, ile_t, ile_f, nlt_t, nlt_f, nle_t, nle_f, ieq_t, ieq_f, imin_l, imin_r, imax_l, imax_r, take_app1, take_map_all, h, ← hx, a61, h61, hxs]
    · simp -implicitDefEqProofs (disch := omega) [wrap_of, ilt_t, ilt_f, ile_t, ile_f, nlt_t, nlt_f, nle_t, nle_f, ieq_t, ieq_f, imin_l, imin_r, imax_l, imax_r, take_app1, take_map_all, h, ← hx, a61, h61, hxs]
  · simp -implicitDefEqProofs (disch := omega) [wrap_of, ilt_t, ilt_f, ile_t, ile_f, nlt_t, nlt_f, nle_t, nle_f, ieq_t, ieq_f, imin_l, imin_r, imax_l, imax_r, take_app1, take_map_all, h]
end Go.Proofs.Ytjblbmcgpdmahaa
