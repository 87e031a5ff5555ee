import Derived.Test.YtjblbmcgpdmahaaCfg16
import Derived.Test.YtjblbmcgpdmahaaAmGS
set_option linter.unusedSimpArgs false
set_option linter.unusedVariables false
namespace Go.Proofs.Ytjblbmcgpdmahaa
open Go.Am

abbrev I (n : Int) : AV := .int .i64 n
abbrev B (b : UInt8) : AV := .int .u8 (b.toNat : Int)
/-- An entry; 'fl': whether its bytes' capacity is their length. -/
structure En where
  te : Int
  fl : Bool
  da : List UInt8
@[simp] def E (e : En) : AV := .agg [.int .i64 e.te, .lst e.fl (e.da.map B)]
structure Ba where
  many : Int
  term : Int
  fp : Bool
  ps : List Int
  fd : Bool
  da : List UInt8
@[simp] def Bs (b : Ba) : AV := .agg [.int .i64 b.many, .int .i64 b.term, .lst b.fp (b.ps.map I), .lst b.fd (b.da.map B)]
@[simp] theorem szI (l : List Int) : szOk 1 (l.map I) = true := by simp [szOk]
@[simp] theorem szB (l : List UInt8) : szOk 1 (l.map B) = true := by simp [szOk]
@[simp] theorem szE (l : List En) : szOk 2 (l.map E) = true := by simp [szOk]
@[simp] theorem toBytes_B : ∀ l : List UInt8, toBytes (l.map B) = some l
  | [] => rfl
  | b :: l => by simp [toBytes, toBytes_B l]
theorem zip_eq {α : Type} [DecidableEq α] : ∀ {a b : List α}, a.length = b.length → ((a.zip b).all (fun x => decide (x.1 = x.2)) = true ↔ a = b)
  | [], [], _ => by simp
  | x :: a, y :: b, h => by
    have := zip_eq (a := a) (b := b) (by simpa using h)
    simp only [List.zip_cons_cons, List.all_cons, Bool.and_eq_true, this, decide_eq_true_eq, List.cons.injEq]
theorem B_inj {a b : UInt8} : ((a.toNat : Int) = (b.toNat : Int)) ↔ a = b := by
  constructor
  · intro h
    exact UInt8.toNat.inj (by omega)
  · rintro rfl; rfl
theorem l20 {n : Nat} (a b : List Int) (hl : a.length = b.length) (ha : a.length ≤ 9223372036854775807) (f g : Bool) (e0 : Env) (h0 : e0 0 = .lst f (a.map I)) (h1 : e0 1 = .lst g (b.map I)) :
    iter (round (C16.tab n) [5] [(.exit 0, []), (.ret, [4])] c20_1 e0 0 []) ([.int .i64 0], []) = some (if (a.zip b).all (fun x => decide (x.1 = x.2)) = true then (.exit 0, [], []) else (.ret, [.bool false], [])) :=
  for_cmp (f := round (C16.tab n) [5] [(.exit 0, []), (.ret, [4])] c20_1 e0 0 []) (fun i => ([.int .i64 i], [])) a b hl (fun x y => decide (x = y)) _ _
    (fun i hi hi' => by
      obtain ⟨x, hx⟩ : ∃ x, x = a[i] := ⟨_, rfl⟩
      obtain ⟨y, hy⟩ : ∃ y, y = b[i] := ⟨_, rfl⟩
      rw [← hx, ← hy]
      by_cases hxy : x = y
      · simp -implicitDefEqProofs (disch := omega) [wrap_of, ilt_t, ilt_f, ile_t, ile_f, nlt_t, nlt_f, nle_t, nle_f, ieq_t, ieq_f, imin_l, imin_r, imax_l, imax_r, take_app1, take_map_all, round_eq, b20_1, h0, h1, hi, hi', ← hx, ← hy, hxy]
      · simp -implicitDefEqProofs (disch := omega) [wrap_of, ilt_t, ilt_f, ile_t, ile_f, nlt_t, nlt_f, nle_t, nle_f, ieq_t, ieq_f, imin_l, imin_r, imax_l, imax_r, take_app1, take_map_all, round_eq, b20_1, h0, h1, hi, hi', ← hx, ← hy, hxy])
    (by simp -implicitDefEqProofs (disch := omega) [wrap_of, ilt_t, ilt_f, ile_t, ile_f, nlt_t, nlt_f, nle_t, nle_f, ieq_t, ieq_f, imin_l, imin_r, imax_l, imax_r, take_app1, take_map_all, round_eq, b20_1, h0, h1])
/-- catacombref14.Ints -/
theorem s20 {n : Nat} (hn : 12 < n) (a b : List Int) (f g : Bool) (ha : a.length ≤ 9223372036854775807) (hb : b.length ≤ 9223372036854775807) :
    (C16.tab n).p 20 [.lst f (a.map I), .lst g (b.map I)] = some (.bool (decide (a = b))) := by
  rw [p20 hn, runP_eq, runH_eq]
  by_cases hl : a.length = b.length
  · have hz := zip_eq hl
    simp -implicitDefEqProofs (disch := omega) [wrap_of, ilt_t, ilt_f, ile_t, ile_f, nlt_t, nlt_f, nle_t, nle_f, ieq_t, ieq_f, imin_l, imin_r, imax_l, imax_r, take_app1, take_map_all, c20, hl]
    rw [l20 a b hl (by omega) f g _ (by simp -implicitDefEqProofs (disch := omega) [wrap_of, ilt_t, ilt_f, ile_t, ile_f, nlt_t, nlt_f, nle_t, nle_f, ieq_t, ieq_f, imin_l, imin_r, imax_l, imax_r, take_app1, take_map_all, ]) (by simp -implicitDefEqProofs (disch := omega) [wrap_of, ilt_t, ilt_f, ile_t, ile_f, nlt_t, nlt_f, nle_t, nle_f, ieq_t, ieq_f, imin_l, imin_r, imax_l, imax_r, take_app1, take_map_all, ])]
    by_cases hab : a = b
    · rw [if_pos (hz.2 hab)]
      simp -implicitDefEqProofs (disch := omega) [wrap_of, ilt_t, ilt_f, ile_t, ile_f, nlt_t, nlt_f, nle_t, nle_f, ieq_t, ieq_f, imin_l, imin_r, imax_l, imax_r, take_app1, take_map_all, hab]
    · rw [if_neg (fun h => hab (hz.1 h))]
      simp -implicitDefEqProofs (disch := omega) [wrap_of, ilt_t, ilt_f, ile_t, ile_f, nlt_t, nlt_f, nle_t, nle_f, ieq_t, ieq_f, imin_l, imin_r, imax_l, imax_r, take_app1, take_map_all, hab]
  · have hab : a ≠ b := fun h => hl (by rw [h])
    simp -implicitDefEqProofs (disch := omega) [wrap_of, ilt_t, ilt_f, ile_t, ile_f, nlt_t, nlt_f, nle_t, nle_f, ieq_t, ieq_f, imin_l, imin_r, imax_l, imax_r, take_app1, take_map_all, c20, hl, hab]
/-- What counts of an entry. -/
def core (e : En) : Int × List UInt8 := (e.te, e.da)
def logEq (a b : List En) : Bool := decide (a.map core = b.map core)
theorem l22a {n : Nat} (a b : List En) (i : Nat) (hi : i < a.length) (hi' : i < b.length) (x y : En) (hx : x = a[i]) (hy : y = b[i]) (hl : x.da.length = y.da.length) (hxl : x.da.length ≤ 9223372036854775807) (f g : Bool) (e0 : Env) (h0 : e0 0 = .lst f (a.map E)) (h1 : e0 1 = .lst g (b.map E)) (h5 : e0 5 = .int .i64 (i : Int)) :
    iter (round (C16.tab n) [6] [(.exit 2, []), (.ret, [4])] c22_1 e0 0 []) ([.int .i64 0], []) = some (if (x.da.zip y.da).all (fun x => decide (x.1 = x.2)) = true then (.exit 2, [], []) else (.ret, [.bool false], [])) :=
  for_cmp (f := round (C16.tab n) [6] [(.exit 2, []), (.ret, [4])] c22_1 e0 0 []) (fun i => ([.int .i64 i], [])) x.da y.da hl (fun x y => decide (x = y)) _ _
    (fun k hk hk' => by
      obtain ⟨u, hu⟩ : ∃ u, u = x.da[k] := ⟨_, rfl⟩
      obtain ⟨v, hv⟩ : ∃ v, v = y.da[k] := ⟨_, rfl⟩
      rw [← hu, ← hv]
      by_cases huv : u = v
      · simp -implicitDefEqProofs (disch := omega) [wrap_of, ilt_t, ilt_f, ile_t, ile_f, nlt_t, nlt_f, nle_t, nle_f, ieq_t, ieq_f, imin_l, imin_r, imax_l, imax_r, take_app1, take_map_all, round_eq, b22_1, h0, h1, h5, hi, hi', ← hx, ← hy, hk, hk', ← hu, ← hv, huv]
      · have : ¬ ((u.toNat : Int) = (v.toNat : Int)) := fun h => huv (B_inj.1 h)
        simp -implicitDefEqProofs (disch := omega) [wrap_of, ilt_t, ilt_f, ile_t, ile_f, nlt_t, nlt_f, nle_t, nle_f, ieq_t, ieq_f, imin_l, imin_r, imax_l, imax_r, take_app1, take_map_all, round_eq, b22_1, h0, h1, h5, hi, hi', ← hx, ← hy, hk, hk', ← hu, ← hv, huv, this])
    (by simp -implicitDefEqProofs (disch := omega) [wrap_of, ilt_t, ilt_f, ile_t, ile_f, nlt_t, nlt_f, nle_t, nle_f, ieq_t, ieq_f, imin_l, imin_r, imax_l, imax_r, take_app1, take_map_all, round_eq, b22_1, h0, h1, h5, hi, ← hx])
theorem l22 {n : Nat} (a b : List En) (hl : a.length = b.length) (ha : a.length ≤ 9223372036854775807) (hda : ∀ e ∈ a, e.da.length ≤ 9223372036854775807) (hdb : ∀ e ∈ b, e.da.length ≤ 9223372036854775807) (f g : Bool) (e0 : Env) (h0 : e0 0 = .lst f (a.map E)) (h1 : e0 1 = .lst g (b.map E)) :
    iter (round (C16.tab n) [5] [(.exit 0, []), (.ret, [4])] c22_2 e0 0 []) ([.int .i64 0], []) = some (if (a.zip b).all (fun x => decide (core x.1 = core x.2)) = true then (.exit 0, [], []) else (.ret, [.bool false], [])) :=
  for_cmp (f := round (C16.tab n) [5] [(.exit 0, []), (.ret, [4])] c22_2 e0 0 []) (fun i => ([.int .i64 i], [])) a b hl (fun x y => decide (core x = core y)) _ _
    (fun i hi hi' => by
      obtain ⟨x, hx⟩ : ∃ x, x = a[i] := ⟨_, rfl⟩
      obtain ⟨y, hy⟩ : ∃ y, y = b[i] := ⟨_, rfl⟩
      have hxa := hda _ (List.getElem_mem hi)
      have hyb := hdb _ (List.getElem_mem hi')
      have h22 := fun hl e0 => l22a (n := n) a b i hi hi' x y hx hy hl (by rw [hx]; exact hxa) f g e0
      rw [← hx] at hxa
      rw [← hy] at hyb
      rw [← hx, ← hy]
      unfold core
      by_cases ht : x.te = y.te
      · by_cases hd : x.da.length = y.da.length
        · have hz := zip_eq hd
          simp -implicitDefEqProofs (disch := omega) [wrap_of, ilt_t, ilt_f, ile_t, ile_f, nlt_t, nlt_f, nle_t, nle_f, ieq_t, ieq_f, imin_l, imin_r, imax_l, imax_r, take_app1, take_map_all, round_eq, b22_2, h0, h1, hi, hi', ← hx, ← hy, ht, hd]
          rw [h22 hd _ (by simp -implicitDefEqProofs (disch := omega) [wrap_of, ilt_t, ilt_f, ile_t, ile_f, nlt_t, nlt_f, nle_t, nle_f, ieq_t, ieq_f, imin_l, imin_r, imax_l, imax_r, take_app1, take_map_all, h0]) (by simp -implicitDefEqProofs (disch := omega) [wrap_of, ilt_t, ilt_f, ile_t, ile_f, nlt_t, nlt_f, nle_t, nle_f, ieq_t, ieq_f, imin_l, imin_r, imax_l, imax_r, take_app1, take_map_all, h1]) (by simp -implicitDefEqProofs (disch := omega) [wrap_of, ilt_t, ilt_f, ile_t, ile_f, nlt_t, nlt_f, nle_t, nle_f, ieq_t, ieq_f, imin_l, imin_r, imax_l, imax_r, take_app1, take_map_all, ])]
          by_cases hab : x.da = y.da
          · rw [if_pos (hz.2 hab)]
            simp -implicitDefEqProofs (disch := omega) [wrap_of, ilt_t, ilt_f, ile_t, ile_f, nlt_t, nlt_f, nle_t, nle_f, ieq_t, ieq_f, imin_l, imin_r, imax_l, imax_r, take_app1, take_map_all, hab]
          · rw [if_neg (fun h => hab (hz.1 h))]
            simp -implicitDefEqProofs (disch := omega) [wrap_of, ilt_t, ilt_f, ile_t, ile_f, nlt_t, nlt_f, nle_t, nle_f, ieq_t, ieq_f, imin_l, imin_r, imax_l, imax_r, take_app1, take_map_all, hab]
        · have hab : x.da ≠ y.da := fun h => hd (by rw [h])
          simp -implicitDefEqProofs (disch := omega) [wrap_of, ilt_t, ilt_f, ile_t, ile_f, nlt_t, nlt_f, nle_t, nle_f, ieq_t, ieq_f, imin_l, imin_r, imax_l, imax_r, take_app1, take_map_all, round_eq, b22_2, h0, h1, hi, hi', ← hx, ← hy, ht, hd, hab]
      · simp -implicitDefEqProofs (disch := omega) [wrap_of, ilt_t, ilt_f, ile_t, ile_f, nlt_t, nlt_f, nle_t, nle_f, ieq_t, ieq_f, imin_l, imin_r, imax_l, imax_r, take_app1, take_map_all, round_eq, b22_2, h0, h1, hi, hi', ← hx, ← hy, ht])
    (by simp -implicitDefEqProofs (disch := omega) [wrap_of, ilt_t, ilt_f, ile_t, ile_f, nlt_t, nlt_f, nle_t, nle_f, ieq_t, ieq_f, imin_l, imin_r, imax_l, imax_r, take_app1, take_map_all, round_eq, b22_2, h0, h1])
theorem core_zip : ∀ {a b : List En}, a.length = b.length → ((a.zip b).all (fun x => decide (core x.1 = core x.2)) = true ↔ a.map core = b.map core)
  | [], [], _ => by simp
  | x :: a, y :: b, h => by
    have := core_zip (a := a) (b := b) (by simpa using h)
    simp only [List.zip_cons_cons, List.all_cons, Bool.and_eq_true, this, decide_eq_true_eq, List.map_cons, List.cons.injEq]
/-- Rows that a machine can hold. -/
def Fin (l : List En) : Prop := l.length ≤ 9223372036854775807 ∧ ∀ e ∈ l, e.da.length ≤ 9223372036854775807
/-- catacombref14.Log -/
theorem s22 {n : Nat} (hn : 13 < n) (a b : List En) (f g : Bool) (ha : Fin a) (hb : Fin b) :
    (C16.tab n).p 22 [.lst f (a.map E), .lst g (b.map E)] = some (.bool (logEq a b)) := by
  rw [p22 hn, runP_eq, runH_eq]
  have hal := ha.1
  have hbl := hb.1
  unfold logEq
  by_cases hl : a.length = b.length
  · have hz := core_zip hl
    simp -implicitDefEqProofs (disch := omega) [wrap_of, ilt_t, ilt_f, ile_t, ile_f, nlt_t, nlt_f, nle_t, nle_f, ieq_t, ieq_f, imin_l, imin_r, imax_l, imax_r, take_app1, take_map_all, c22, hl]
    rw [l22 a b hl hal ha.2 hb.2 f g _ (by simp -implicitDefEqProofs (disch := omega) [wrap_of, ilt_t, ilt_f, ile_t, ile_f, nlt_t, nlt_f, nle_t, nle_f, ieq_t, ieq_f, imin_l, imin_r, imax_l, imax_r, take_app1, take_map_all, ]) (by simp -implicitDefEqProofs (disch := omega) [wrap_of, ilt_t, ilt_f, ile_t, ile_f, nlt_t, nlt_f, nle_t, nle_f, ieq_t, ieq_f, imin_l, imin_r, imax_l, imax_r, take_app1, take_map_all, ])]
    by_cases hab : a.map core = b.map core
    · rw [if_pos (hz.2 hab)]
      simp -implicitDefEqProofs (disch := omega) [wrap_of, ilt_t, ilt_f, ile_t, ile_f, nlt_t, nlt_f, nle_t, nle_f, ieq_t, ieq_f, imin_l, imin_r, imax_l, imax_r, take_app1, take_map_all, hab]
    · rw [if_neg (fun h => hab (hz.1 h))]
      simp -implicitDefEqProofs (disch := omega) [wrap_of, ilt_t, ilt_f, ile_t, ile_f, nlt_t, nlt_f, nle_t, nle_f, ieq_t, ieq_f, imin_l, imin_r, imax_l, imax_r, take_app1, take_map_all, hab]
  · have hab : a.map core ≠ b.map core := fun h => hl (by have := congrArg List.length h; simpa using this)
    simp -implicitDefEqProofs (disch := omega) [wrap_of, ilt_t, ilt_f, ile_t, ile_f, nlt_t, nlt_f, nle_t, nle_f, ieq_t, ieq_f, imin_l, imin_r, imax_l, imax_r, take_app1, take_map_all, c22, hl, hab]
/-- Are bases alike? -/
def baseEq (a b : Ba) : Bool := decide (a.ps = b.ps) && (decide (a.da = b.da) && (decide (a.many = b.many) && decide (a.term = b.term)))
structure BFin (b : Ba) : Prop where
  ps : b.ps.length ≤ 9223372036854775807
  da : b.da.length ≤ 9223372036854775807
theorem s21 {n : Nat} (hn : 14 < n) (a b : Ba) (ha : BFin a) (hb : BFin b) : (C16.tab n).p 21 [Bs a, Bs b] = some (.bool (baseEq a b)) := by
  rw [p21 hn, runP_eq, runH_eq]
  have h20 := s20 (n := 14) (by decide) a.ps b.ps a.fp b.fp ha.ps hb.ps
  have h22 := s22 (n := 14) (by decide) [⟨0, a.fd, a.da⟩] [⟨0, b.fd, b.da⟩] true true ⟨by simp, by simpa using ha.da⟩ ⟨by simp, by simpa using hb.da⟩
  have e22 : logEq [⟨0, a.fd, a.da⟩] [⟨0, b.fd, b.da⟩] = decide (a.da = b.da) := by simp [logEq, core]
  rw [e22] at h22
  simp only [List.map_cons, List.map_nil, E] at h22
  unfold baseEq
  by_cases h1 : a.ps = b.ps
  · rw [h1] at h20
    by_cases h2 : a.da = b.da
    · rw [h2] at h22
      by_cases h3 : a.many = b.many
      · simp -implicitDefEqProofs (disch := omega) [wrap_of, ilt_t, ilt_f, ile_t, ile_f, nlt_t, nlt_f, nle_t, nle_f, ieq_t, ieq_f, imin_l, imin_r, imax_l, imax_r, take_app1, take_map_all, c21, a20, h20, a22, h22, h1, h2, h3]
      · simp -implicitDefEqProofs (disch := omega) [wrap_of, ilt_t, ilt_f, ile_t, ile_f, nlt_t, nlt_f, nle_t, nle_f, ieq_t, ieq_f, imin_l, imin_r, imax_l, imax_r, take_app1, take_map_all, c21, a20, h20, a22, h22, h1, h2, h3]
    · simp -implicitDefEqProofs (disch := omega) [wrap_of, ilt_t, ilt_f, ile_t, ile_f, nlt_t, nlt_f, nle_t, nle_f, ieq_t, ieq_f, imin_l, imin_r, imax_l, imax_r, take_app1, take_map_all, c21, a20, h20, a22, h22, h1, h2]
  · simp -implicitDefEqProofs (disch := omega) [wrap_of, ilt_t, ilt_f, ile_t, ile_f, nlt_t, nlt_f, nle_t, nle_f, ieq_t, ieq_f, imin_l, imin_r, imax_l, imax_r, take_app1, take_map_all, c21, a20, h20, a22, h22, h1]
/-- bytes.Equal -/
theorem s65 {n : Nat} (hn : 7 < n) (a b : List UInt8) (f g : Bool) : (C16.tab n).p 65 [.lst f (a.map B), .lst g (b.map B)] = some (.bool (decide (a = b))) := by
  rw [p65 hn, runP_eq, runH_eq]
  simp -implicitDefEqProofs (disch := omega) [wrap_of, ilt_t, ilt_f, ile_t, ile_f, nlt_t, nlt_f, nle_t, nle_f, ieq_t, ieq_f, imin_l, imin_r, imax_l, imax_r, take_app1, take_map_all, c65, strBin]
theorem s56 {n : Nat} (hn : 8 < n) (a b : En) : (C16.tab n).p 56 [E a, E b] = some (.bool (decide (core a = core b))) := by
  rw [p56 hn, runP_eq, runH_eq]
  have h65 := s65 (n := 8) (by decide) a.da b.da a.fl b.fl
  unfold core
  by_cases h : a.te = b.te
  · simp -implicitDefEqProofs (disch := omega) [wrap_of, ilt_t, ilt_f, ile_t, ile_f, nlt_t, nlt_f, nle_t, nle_f, ieq_t, ieq_f, imin_l, imin_r, imax_l, imax_r, take_app1, take_map_all, c56, a65, h65, h]
  · simp -implicitDefEqProofs (disch := omega) [wrap_of, ilt_t, ilt_f, ile_t, ile_f, nlt_t, nlt_f, nle_t, nle_f, ieq_t, ieq_f, imin_l, imin_r, imax_l, imax_r, take_app1, take_map_all, c56, a65, h65, h]
theorem l57 {n : Nat} (x y : En) (hl : x.da.length = y.da.length) (hx : x.da.length ≤ 9223372036854775807) (e0 : Env) (h2 : e0 2 = .rptr [.int .i64 x.te, .lst x.fl (x.da.map B)]) (h3 : e0 3 = .rptr [.int .i64 y.te, .lst y.fl (y.da.map B)]) :
    iter (round (C16.tab n) [5] [(.exit 0, []), (.ret, [4])] c57_1 e0 0 []) ([.int .i64 0], []) = some (if (x.da.zip y.da).all (fun x => decide (x.1 = x.2)) = true then (.exit 0, [], []) else (.ret, [.bool false], [])) :=
  for_cmp (f := round (C16.tab n) [5] [(.exit 0, []), (.ret, [4])] c57_1 e0 0 []) (fun i => ([.int .i64 i], [])) x.da y.da hl (fun x y => decide (x = y)) _ _
    (fun k hk hk' => by
      obtain ⟨u, hu⟩ : ∃ u, u = x.da[k] := ⟨_, rfl⟩
      obtain ⟨v, hv⟩ : ∃ v, v = y.da[k] := ⟨_, rfl⟩
      rw [← hu, ← hv]
      by_cases huv : u = v
      · simp -implicitDefEqProofs (disch := omega) [wrap_of, ilt_t, ilt_f, ile_t, ile_f, nlt_t, nlt_f, nle_t, nle_f, ieq_t, ieq_f, imin_l, imin_r, imax_l, imax_r, take_app1, take_map_all, round_eq, b57_1, h2, h3, hk, hk', ← hu, ← hv, huv]
      · have : ¬ ((u.toNat : Int) = (v.toNat : Int)) := fun h => huv (B_inj.1 h)
        simp -implicitDefEqProofs (disch := omega) [wrap_of, ilt_t, ilt_f, ile_t, ile_f, nlt_t, nlt_f, nle_t, nle_f, ieq_t, ieq_f, imin_l, imin_r, imax_l, imax_r, take_app1, take_map_all, round_eq, b57_1, h2, h3, hk, hk', ← hu, ← hv, huv, this])
    (by simp -implicitDefEqProofs (disch := omega) [wrap_of, ilt_t, ilt_f, ile_t, ile_f, nlt_t, nlt_f, nle_t, nle_f, ieq_t, ieq_f, imin_l, imin_r, imax_l, imax_r, take_app1, take_map_all, round_eq, b57_1, h2, h3])
theorem s57 {n : Nat} (hn : 40 < n) (a b : En) (ha : a.da.length ≤ 9223372036854775807) (hb : b.da.length ≤ 9223372036854775807) : (C16.tab n).p 57 [E a, E b] = some (.bool (decide (core a = core b))) := by
  rw [p57 hn, runP_eq, runH_eq]
  unfold core
  by_cases ht : a.te = b.te
  · by_cases hd : a.da.length = b.da.length
    · have hz := zip_eq hd
      simp -implicitDefEqProofs (disch := omega) [wrap_of, ilt_t, ilt_f, ile_t, ile_f, nlt_t, nlt_f, nle_t, nle_f, ieq_t, ieq_f, imin_l, imin_r, imax_l, imax_r, take_app1, take_map_all, c57, ht, hd]
      rw [l57 a b hd ha _ (by simp -implicitDefEqProofs (disch := omega) [wrap_of, ilt_t, ilt_f, ile_t, ile_f, nlt_t, nlt_f, nle_t, nle_f, ieq_t, ieq_f, imin_l, imin_r, imax_l, imax_r, take_app1, take_map_all, ht]) (by simp -implicitDefEqProofs (disch := omega) [wrap_of, ilt_t, ilt_f, ile_t, ile_f, nlt_t, nlt_f, nle_t, nle_f, ieq_t, ieq_f, imin_l, imin_r, imax_l, imax_r, take_app1, take_map_all, ])]
      by_cases hab : a.da = b.da
      · rw [if_pos (hz.2 hab)]
        simp -implicitDefEqProofs (disch := omega) [wrap_of, ilt_t, ilt_f, ile_t, ile_f, nlt_t, nlt_f, nle_t, nle_f, ieq_t, ieq_f, imin_l, imin_r, imax_l, imax_r, take_app1, take_map_all, hab]
      · rw [if_neg (fun h => hab (hz.1 h))]
        simp -implicitDefEqProofs (disch := omega) [wrap_of, ilt_t, ilt_f, ile_t, ile_f, nlt_t, nlt_f, nle_t, nle_f, ieq_t, ieq_f, imin_l, imin_r, imax_l, imax_r, take_app1, take_map_all, hab]
    · have hab : a.da ≠ b.da := fun h => hd (by rw [h])
      simp -implicitDefEqProofs (disch := omega) [wrap_of, ilt_t, ilt_f, ile_t, ile_f, nlt_t, nlt_f, nle_t, nle_f, ieq_t, ieq_f, imin_l, imin_r, imax_l, imax_r, take_app1, take_map_all, c57, ht, hd, hab]
  · simp -implicitDefEqProofs (disch := omega) [wrap_of, ilt_t, ilt_f, ile_t, ile_f, nlt_t, nlt_f, nle_t, nle_f, ieq_t, ieq_f, imin_l, imin_r, imax_l, imax_r, take_app1, take_map_all, c57, ht]
end Go.Proofs.Ytjblbmcgpdmahaa
