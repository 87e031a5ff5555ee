import Derived.Test.YtnokdfhhnjmeoaaI23
set_option linter.unusedSimpArgs false
set_option linter.unusedVariables false
namespace Go.Proofs.Ytnokdfhhnjmeoaa
open Go.Am Go.Am.Kp

structure Act where
  dO : Int
  ino : Int
  page : Int
  name : List UInt8
  is : Int
  fl : Bool
  dat : List Int
  til : Int
@[simp] def A (a : Act) : AV := .agg [.int .u8 a.dO, .int .i64 a.ino, .int .i64 a.page, .str a.name, .int .i64 a.is, .lst a.fl (a.dat.map B), .int .i64 a.til]
@[simp] theorem szA (l : List Act) : szOk 7 (l.map A) = true := by simp [szOk]
structure Small (a : Act) : Prop where
  name : a.name.length ≤ 40
  dat : a.dat.length ≤ 100
def bigA (a : Act) : Bool := decide (40 < a.name.length) || decide (100 < a.dat.length)
def Range (a : Act) : Prop := a.name.length ≤ 9223372036854775807 ∧ a.dat.length ≤ 9223372036854775807
theorem l10 {Γ : Tab} (l : List Act) (hl : l.length ≤ 9223372036854775807) (hr : ∀ a ∈ l, Range a) (f : Bool) (e0 : Env) (h0 : e0 0 = .lst f (l.map A)) :
    iter (round Γ [3] [(.exit 0, []), (.ret, [2])] c10_1 e0 0 []) ([.int .i64 0], []) = some ((l.find? bigA).elim (.exit 0, [], []) (fun _ => (.ret, [.bool true], []))) :=
  for_idx (f := round Γ [3] [(.exit 0, []), (.ret, [2])] c10_1 e0 0 []) (fun i => ([.int .i64 i], [])) l bigA (fun _ _ => (.ret, [.bool true], [])) (.exit 0, [], [])
    (fun i hi => by
      obtain ⟨h1, h2⟩ := hr _ (List.getElem_mem hi)
      unfold bigA
      by_cases h : 40 < l[i].name.length
      · simp -implicitDefEqProofs (disch := omega) [wrap_of, ilt_t, ilt_f, ile_t, ile_f, nlt_t, nlt_f, nle_t, nle_f, ieq_t, ieq_f, imin_l, imin_r, imax_l, imax_r, take_app1, take_map_all, round_eq, b10_1, h0, hi, h]
      · by_cases h' : 100 < l[i].dat.length <;> simp -implicitDefEqProofs (disch := omega) [wrap_of, ilt_t, ilt_f, ile_t, ile_f, nlt_t, nlt_f, nle_t, nle_f, ieq_t, ieq_f, imin_l, imin_r, imax_l, imax_r, take_app1, take_map_all, round_eq, b10_1, h0, hi, h, h'])
    (by simp -implicitDefEqProofs (disch := omega) [wrap_of, ilt_t, ilt_f, ile_t, ile_f, nlt_t, nlt_f, nle_t, nle_f, ieq_t, ieq_f, imin_l, imin_r, imax_l, imax_r, take_app1, take_map_all, round_eq, b10_1, h0])
def greatB (l : List Act) : Bool := decide (60 < l.length) || l.any bigA
/-- catacomblaw23.great -/
theorem s10 {n : Nat} (hn : 32 < n) (l : List Act) (hl : l.length ≤ 9223372036854775807) (hr : ∀ a ∈ l, Range a) (f : Bool) :
    (C23.tab n).p 10 [.lst f (l.map A)] = some (.bool (greatB l)) := by
  rw [p10 hn, runP_eq, runH_eq]
  unfold greatB
  by_cases h : 60 < l.length
  · simp -implicitDefEqProofs (disch := omega) [wrap_of, ilt_t, ilt_f, ile_t, ile_f, nlt_t, nlt_f, nle_t, nle_f, ieq_t, ieq_f, imin_l, imin_r, imax_l, imax_r, take_app1, take_map_all, c10, h]
  · simp -implicitDefEqProofs (disch := omega) [wrap_of, ilt_t, ilt_f, ile_t, ile_f, nlt_t, nlt_f, nle_t, nle_f, ieq_t, ieq_f, imin_l, imin_r, imax_l, imax_r, take_app1, take_map_all, c10, h]
    rw [l10 l hl hr f _ (by simp -implicitDefEqProofs (disch := omega) [wrap_of, ilt_t, ilt_f, ile_t, ile_f, nlt_t, nlt_f, nle_t, nle_f, ieq_t, ieq_f, imin_l, imin_r, imax_l, imax_r, take_app1, take_map_all, ])]
    cases hf : l.find? bigA with
    | none =>
      have : l.any bigA = false := by
        rw [List.any_eq_false]
        intro x hx
        rw [List.find?_eq_none] at hf
        simpa using hf x hx
      rw [this]
      simp -implicitDefEqProofs (disch := omega) [wrap_of, ilt_t, ilt_f, ile_t, ile_f, nlt_t, nlt_f, nle_t, nle_f, ieq_t, ieq_f, imin_l, imin_r, imax_l, imax_r, take_app1, take_map_all, ]
    | some x =>
      have : l.any bigA = true := List.any_eq_true.2 ⟨x, List.mem_of_find?_eq_some hf, List.find?_some hf⟩
      rw [this]
      simp -implicitDefEqProofs (disch := omega) [wrap_of, ilt_t, ilt_f, ile_t, ile_f, nlt_t, nlt_f, nle_t, nle_f, ieq_t, ieq_f, imin_l, imin_r, imax_l, imax_r, take_app1, take_map_all, ]
theorem small_of {l : List Act} (h : greatB l = false) : l.length ≤ 60 ∧ ∀ a ∈ l, Small a := by
  unfold greatB at h
  simp only [Bool.or_eq_false_iff, decide_eq_false_iff_not, List.any_eq_false, bigA, Bool.or_eq_true, decide_eq_true_eq] at h
  refine ⟨by omega, fun a ha => ?_⟩
  have := h.2 a ha
  exact ⟨by omega, by omega⟩

/-- What an act asks for. -/
inductive Md where
  | page | name | forget | age
def md (a : Act) : Md := if a.dO.tmod 4 = 0 then .page else if a.dO.tmod 4 = 1 then .name else if a.dO.tmod 4 = 2 then .forget else .age
/-- Rows behind an act; g: the flag of the bytes that are kept. -/
def doG (g : Bool) (l : List K) (a : Act) : List K := match md a with
  | .page => put l ⟨a.ino, [], a.page, 0, g, a.dat, a.til⟩
  | .name => if a.name = [] then l else put l ⟨a.ino, a.name, 0, a.is, true, [], a.til⟩
  | .forget => l.filter fun k => !decide (k.ino = a.ino)
  | .age => l.filter fun k => decide (a.til < k.til)
def doF (f : Bool) (a : Act) : Bool := match md a with
  | .name => if a.name = [] then f else false
  | _ => false
theorem filter_age (l : List K) (t : Int) : (l.filter fun k => !decide (k.til ≤ t)) = l.filter fun k => decide (t < k.til) := by
  congr 1; funext k
  by_cases h : k.til ≤ t
  · have : ¬ t < k.til := by omega
    simp [h, this]
  · have : t < k.til := by omega
    simp [this]
/-- catacomblaw23.do -/
theorem s13 {n : Nat} (hn : 36 < n) (l : List K) (hs : Sorted l) (hl : l.length ≤ 100000) (f : Bool) (a : Act) (ha : Small a) (h0 : 0 ≤ a.dO) :
    (C23.tab n).p 13 [.lst f (l.map D), A a] = some (.lst (doF f a) ((doG false l a).map D)) := by
  rw [p13 hn, runP_eq, runH_eq]
  unfold doG doF md
  have hd := ha.dat
  by_cases h1 : a.dO.tmod 4 = 0
  · simp -implicitDefEqProofs (disch := omega) [wrap_of, ilt_t, ilt_f, ile_t, ile_f, nlt_t, nlt_f, nle_t, nle_f, ieq_t, ieq_f, imin_l, imin_r, imax_l, imax_r, take_app1, take_map_all, c13, h1, a24, s24 (by omega : 30 < 36) l hs hl f a.fl a.ino a.page a.til a.dat (by omega)]
  · by_cases h2 : a.dO.tmod 4 = 1
    · have h := s23 (n := 36) (by omega) l hs hl f a.ino a.is a.til a.name
      by_cases hm : a.name = []
      · rw [hm] at h
        simp -implicitDefEqProofs (disch := omega) [wrap_of, ilt_t, ilt_f, ile_t, ile_f, nlt_t, nlt_f, nle_t, nle_f, ieq_t, ieq_f, imin_l, imin_r, imax_l, imax_r, take_app1, take_map_all, c13, h1, h2, a23, h, hm]
      · simp -implicitDefEqProofs (disch := omega) [wrap_of, ilt_t, ilt_f, ile_t, ile_f, nlt_t, nlt_f, nle_t, nle_f, ieq_t, ieq_f, imin_l, imin_r, imax_l, imax_r, take_app1, take_map_all, c13, h1, h2, a23, h, hm]
    · by_cases h3 : a.dO.tmod 4 = 2
      · simp -implicitDefEqProofs (disch := omega) [wrap_of, ilt_t, ilt_f, ile_t, ile_f, nlt_t, nlt_f, nle_t, nle_f, ieq_t, ieq_f, imin_l, imin_r, imax_l, imax_r, take_app1, take_map_all, c13, h1, h2, h3, a22, s22 (by omega : 26 < 36) l hl f a.ino]
      · simp -implicitDefEqProofs (disch := omega) [wrap_of, ilt_t, ilt_f, ile_t, ile_f, nlt_t, nlt_f, nle_t, nle_f, ieq_t, ieq_f, imin_l, imin_r, imax_l, imax_r, take_app1, take_map_all, c13, h1, h2, h3, a21, s21 (by omega : 25 < 36) l hl f a.til, filter_age]
/-- catacomblaw23.want -/
theorem s14 {n : Nat} (hn : 42 < n) (l : List K) (hs : Sorted l) (hl : l.length ≤ 100000) (f : Bool) (a : Act) (ha : Small a) (h0 : 0 ≤ a.dO) :
    (C23.tab n).p 14 [.lst f (l.map D), A a] = some (.lst (doF f a) ((doG a.fl l a).map D)) := by
  rw [p14 hn, runP_eq, runH_eq]
  unfold doG doF md
  have hd := ha.dat
  by_cases h1 : a.dO.tmod 4 = 0
  · simp -implicitDefEqProofs (disch := omega) [wrap_of, ilt_t, ilt_f, ile_t, ile_f, nlt_t, nlt_f, nle_t, nle_f, ieq_t, ieq_f, imin_l, imin_r, imax_l, imax_r, take_app1, take_map_all, c14, h1, a31, s31 (by omega : 38 < 42) l hs hl f a.fl a.ino a.page a.til a.dat]
  · by_cases h2 : a.dO.tmod 4 = 1
    · have h := s32 (n := 42) (by omega) l hs hl f a.ino a.is a.til a.name
      by_cases hm : a.name = []
      · rw [hm] at h
        simp -implicitDefEqProofs (disch := omega) [wrap_of, ilt_t, ilt_f, ile_t, ile_f, nlt_t, nlt_f, nle_t, nle_f, ieq_t, ieq_f, imin_l, imin_r, imax_l, imax_r, take_app1, take_map_all, c14, h1, h2, a32, h, hm]
      · simp -implicitDefEqProofs (disch := omega) [wrap_of, ilt_t, ilt_f, ile_t, ile_f, nlt_t, nlt_f, nle_t, nle_f, ieq_t, ieq_f, imin_l, imin_r, imax_l, imax_r, take_app1, take_map_all, c14, h1, h2, a32, h, hm]
    · by_cases h3 : a.dO.tmod 4 = 2
      · simp -implicitDefEqProofs (disch := omega) [wrap_of, ilt_t, ilt_f, ile_t, ile_f, nlt_t, nlt_f, nle_t, nle_f, ieq_t, ieq_f, imin_l, imin_r, imax_l, imax_r, take_app1, take_map_all, c14, h1, h2, h3, a33, s33 (by omega : 40 < 42) l (by omega) f a.ino]
      · simp -implicitDefEqProofs (disch := omega) [wrap_of, ilt_t, ilt_f, ile_t, ile_f, nlt_t, nlt_f, nle_t, nle_f, ieq_t, ieq_f, imin_l, imin_r, imax_l, imax_r, take_app1, take_map_all, c14, h1, h2, h3, a34, s34 (by omega : 41 < 42) l (by omega) f a.til]
end Go.Proofs.Ytnokdfhhnjmeoaa
