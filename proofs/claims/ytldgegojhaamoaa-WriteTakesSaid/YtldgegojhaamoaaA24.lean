import Derived.Test.YtldgegojhaamoaaCfg24
import Derived.Test.YtldgegojhaamoaaAmSp
set_option linter.unusedSimpArgs false
set_option linter.unusedVariables false
namespace Go.Proofs.Ytldgegojhaamoaa
open Go.Am

/-- A byte. -/
abbrev B : Int → AV := AV.int .u8
structure Dirty where
  ino : Int
  frm : Int
  fl : Bool
  dat : List Int
@[simp] def D (d : Dirty) : AV := .agg [.int .i64 d.ino, .int .i64 d.frm, .lst d.fl (d.dat.map B)]
@[simp] theorem szD (l : List Dirty) : szOk 3 (l.map D) = true := by simp [szOk]
/-- A piece that can be laid. -/
structure Good (d : Dirty) : Prop where
  h0 : 0 ≤ d.frm
  h1 : d.frm ≤ 9223372036854775807
  h2 : d.dat ≠ [] → d.frm + d.dat.length ≤ 1099511627776

/-- Bytes laid into a file's. -/
def lay (es : List Int) (p : Nat) (d : List Int) : List Int := if d = [] then es else over (es ++ List.replicate (p + d.length - es.length) 0) p d
def layD (es : List Int) (d : Dirty) : List Int := lay es d.frm.toNat d.dat
theorem lay_length (es : List Int) (p : Nat) (d : List Int) : (lay es p d).length = if d = [] then es.length else max es.length (p + d.length) := by
  unfold lay
  split
  · rfl
  · rw [over_length _ _ _ (by simp; omega)]; simp; omega
theorem layD_le {es : List Int} {d : Dirty} (h : Good d) (he : es.length ≤ 1099511627776) : (layD es d).length ≤ 1099511627776 := by
  unfold layD
  rw [lay_length]
  split
  · exact he
  · rename_i hz
    have := h.h2 hz
    have := h.h0
    omega

theorem l30 {Γ : Tab} (l : List Dirty) (hl : l.length ≤ 9223372036854775807) (hg : ∀ d ∈ l, Good d) (f : Bool) (e0 : Env) (h11 : e0 11 = .lst f (l.map D)) (h12 : e0 12 = .int .i64 l.length) (es : List Int) (he : es.length ≤ 1099511627776) :
    iter (round Γ [5, 13] [(.exit 0, [5])] c30_1 e0 1 [0]) ([.own 0 0 0 es.length, .int .i64 0], [.row 0 1 (es.map B)]) = some (.exit 0, [.own 0 0 0 (l.foldl layD es).length], [.row 0 1 ((l.foldl layD es).map B)]) :=
  for_list (f := round Γ [5, 13] [(.exit 0, [5])] c30_1 e0 1 [0]) (fun i es => ([.own 0 0 0 es.length, .int .i64 i], [.row 0 1 (es.map B)])) l layD (fun es => (.exit 0, [.own 0 0 0 es.length], [.row 0 1 (es.map B)])) (fun _ es => es.length ≤ 1099511627776)
    (fun i hi es he => by
      have hd := hg l[i] (List.getElem_mem hi)
      refine ⟨layD_le hd he, ?_⟩
      obtain ⟨d, hdd⟩ : ∃ d, d = l[i] := ⟨_, rfl⟩
      rw [← hdd] at hd ⊢
      obtain ⟨ino, frm, fl, dat⟩ := d
      obtain ⟨h0, h1, h2⟩ := hd
      simp only at h0 h1 h2
      obtain ⟨p, rfl⟩ : ∃ p : Nat, frm = p := ⟨frm.toNat, by omega⟩
      simp only [round_eq, layD, Int.toNat_natCast]
      by_cases hz : dat = []
      · subst hz
        simp -implicitDefEqProofs (disch := omega) [wrap_of, ilt_t, ilt_f, ile_t, ile_f, nlt_t, nlt_f, nle_t, nle_f, ieq_t, ieq_f, imin_l, imin_r, imax_l, imax_r, take_app1, take_map_all, b30_1, h11, h12, hi, ← hdd, lay, over_nil']
      · have hz' : 0 < dat.length := List.length_pos_iff.2 hz
        have h2 := h2 hz
        by_cases hm : 0 < p + dat.length - es.length
        · simp -implicitDefEqProofs (disch := omega) [wrap_of, ilt_t, ilt_f, ile_t, ile_f, nlt_t, nlt_f, nle_t, nle_f, ieq_t, ieq_f, imin_l, imin_r, imax_l, imax_r, take_app1, take_map_all, b30_1, h11, h12, hi, ← hdd, lay, hz]
          refine ⟨?_, ?_⟩
          · rw [over_length _ _ _ (by simp; omega)]; simp; omega
          · rw [← over_map]; simp
        · simp -implicitDefEqProofs (disch := omega) [wrap_of, ilt_t, ilt_f, ile_t, ile_f, nlt_t, nlt_f, nle_t, nle_f, ieq_t, ieq_f, imin_l, imin_r, imax_l, imax_r, take_app1, take_map_all, b30_1, h11, h12, hi, ← hdd, lay, hz]
          refine ⟨?_, ?_⟩
          · rw [over_length _ _ _ (by omega)]
          · rw [over_map])
    (fun es he => by
      simp -implicitDefEqProofs (disch := omega) [wrap_of, ilt_t, ilt_f, ile_t, ile_f, nlt_t, nlt_f, nle_t, nle_f, ieq_t, ieq_f, imin_l, imin_r, imax_l, imax_r, take_app1, take_map_all, round_eq, b30_1, h12])
    es he

/-- write.laid -/
theorem s30 {n : Nat} (hn : 1 < n) (es : List Int) (l : List Dirty) (f g : Bool) (he : es.length ≤ 1099511627776) (hl : l.length ≤ 9223372036854775807) (hg : ∀ d ∈ l, Good d) :
    (C24.tab n).p 30 [.lst f (es.map B), .lst g (l.map D)] = some (.lst false ((l.foldl layD es).map B)) := by
  rw [p30 hn, runP_eq, runH_eq]
  simp -implicitDefEqProofs (disch := omega) [wrap_of, ilt_t, ilt_f, ile_t, ile_f, nlt_t, nlt_f, nle_t, nle_f, ieq_t, ieq_f, imin_l, imin_r, imax_l, imax_r, take_app1, take_map_all, c30, p32]
  rw [l30 l hl hg g _ (by simp -implicitDefEqProofs (disch := omega) [wrap_of, ilt_t, ilt_f, ile_t, ile_f, nlt_t, nlt_f, nle_t, nle_f, ieq_t, ieq_f, imin_l, imin_r, imax_l, imax_r, take_app1, take_map_all, ]) (by simp -implicitDefEqProofs (disch := omega) [wrap_of, ilt_t, ilt_f, ile_t, ile_f, nlt_t, nlt_f, nle_t, nle_f, ieq_t, ieq_f, imin_l, imin_r, imax_l, imax_r, take_app1, take_map_all, ]) es he]
  simp -implicitDefEqProofs (disch := omega) [wrap_of, ilt_t, ilt_f, ile_t, ile_f, nlt_t, nlt_f, nle_t, nle_f, ieq_t, ieq_f, imin_l, imin_r, imax_l, imax_r, take_app1, take_map_all, ]

theorem l17 {Γ : Tab} (a b : List Int) (f g : Bool) (e0 : Env) (h0 : e0 0 = .lst f (a.map B)) (h1 : e0 1 = .lst g (b.map B)) (hl : a.length = b.length) (hb : a.length ≤ 9223372036854775807) :
    iter (round Γ [5] [(.exit 0, []), (.ret, [4])] c17_1 e0 0 []) ([.int .i64 0], []) = some (if (a.zip b).all (fun x => decide (x.1 = x.2)) = true then (.exit 0, [], []) else (.ret, [.bool false], [])) :=
  for_cmp (f := round Γ [5] [(.exit 0, []), (.ret, [4])] c17_1 e0 0 []) (fun i => ([.int .i64 i], [])) a b hl (fun x y => decide (x = y)) _ _
    (fun i hi hi' => by
      simp -implicitDefEqProofs (disch := omega) [wrap_of, ilt_t, ilt_f, ile_t, ile_f, nlt_t, nlt_f, nle_t, nle_f, ieq_t, ieq_f, imin_l, imin_r, imax_l, imax_r, take_app1, take_map_all, round_eq, b17_1, h0, h1, hi, hi']
      )
    (by simp -implicitDefEqProofs (disch := omega) [wrap_of, ilt_t, ilt_f, ile_t, ile_f, nlt_t, nlt_f, nle_t, nle_f, ieq_t, ieq_f, imin_l, imin_r, imax_l, imax_r, take_app1, take_map_all, round_eq, b17_1, h0])
theorem zip_all_eq {α : Type} [DecidableEq α] : ∀ (a b : List α), a.length = b.length → (a.zip b).all (fun x => decide (x.1 = x.2)) = decide (a = b)
  | [], [], _ => rfl
  | x :: a, y :: b, h => by
    rw [List.zip_cons_cons, List.all_cons, zip_all_eq a b (by simpa using h)]
    simp only [List.cons.injEq, Bool.decide_and]
/-- catacombref24.Bytes -/
theorem s17 {n : Nat} (hn : 4 < n) (a b : List Int) (f g : Bool) (hb : a.length ≤ 9223372036854775807) : (C24.tab n).p 17 [.lst f (a.map B), .lst g (b.map B)] = some (.bool (decide (a = b))) := by
  rw [p17 hn, runP_eq, runH_eq]
  by_cases hl : a.length = b.length
  · simp -implicitDefEqProofs (disch := omega) [wrap_of, ilt_t, ilt_f, ile_t, ile_f, nlt_t, nlt_f, nle_t, nle_f, ieq_t, ieq_f, imin_l, imin_r, imax_l, imax_r, take_app1, take_map_all, c17, hl]
    rw [l17 a b f g _ (by simp -implicitDefEqProofs (disch := omega) [wrap_of, ilt_t, ilt_f, ile_t, ile_f, nlt_t, nlt_f, nle_t, nle_f, ieq_t, ieq_f, imin_l, imin_r, imax_l, imax_r, take_app1, take_map_all, ]) (by simp -implicitDefEqProofs (disch := omega) [wrap_of, ilt_t, ilt_f, ile_t, ile_f, nlt_t, nlt_f, nle_t, nle_f, ieq_t, ieq_f, imin_l, imin_r, imax_l, imax_r, take_app1, take_map_all, ]) hl hb, zip_all_eq a b hl]
    by_cases h : a = b <;> simp -implicitDefEqProofs (disch := omega) [wrap_of, ilt_t, ilt_f, ile_t, ile_f, nlt_t, nlt_f, nle_t, nle_f, ieq_t, ieq_f, imin_l, imin_r, imax_l, imax_r, take_app1, take_map_all, h]
  · have h : a ≠ b := fun e => hl (by rw [e])
    simp -implicitDefEqProofs (disch := omega) [wrap_of, ilt_t, ilt_f, ile_t, ile_f, nlt_t, nlt_f, nle_t, nle_f, ieq_t, ieq_f, imin_l, imin_r, imax_l, imax_r, take_app1, take_map_all, c17, hl, h]

def sameD (x y : Dirty) : Bool := decide (x.ino = y.ino) && (decide (x.frm = y.frm) && decide (x.dat = y.dat))
def Short (d : Dirty) : Prop := d.dat.length ≤ 9223372036854775807
theorem l14 {n : Nat} (hn : 4 < n) (a b : List Dirty) (f g : Bool) (e0 : Env) (h0 : e0 0 = .lst f (a.map D)) (h1 : e0 1 = .lst g (b.map D)) (hl : a.length = b.length) (hb : a.length ≤ 9223372036854775807) (hs : ∀ d ∈ a, Short d) :
    iter (round (C24.tab n) [5] [(.exit 0, []), (.ret, [4])] c14_1 e0 0 []) ([.int .i64 0], []) = some (if (a.zip b).all (fun x => sameD x.1 x.2) = true then (.exit 0, [], []) else (.ret, [.bool false], [])) :=
  for_cmp (f := round (C24.tab n) [5] [(.exit 0, []), (.ret, [4])] c14_1 e0 0 []) (fun i => ([.int .i64 i], [])) a b hl sameD _ _
    (fun i hi hi' => by
      have hs := hs _ (List.getElem_mem hi)
      unfold Short at hs
      simp -implicitDefEqProofs (disch := omega) [wrap_of, ilt_t, ilt_f, ile_t, ile_f, nlt_t, nlt_f, nle_t, nle_f, ieq_t, ieq_f, imin_l, imin_r, imax_l, imax_r, take_app1, take_map_all, round_eq, b14_1, h0, h1, hi, hi', s17 hn _ _ _ _ hs, sameD]
      by_cases e1 : a[i].ino = b[i].ino <;> by_cases e2 : a[i].frm = b[i].frm <;> by_cases e3 : a[i].dat = b[i].dat <;> simp [e1, e2, e3])
    (by simp -implicitDefEqProofs (disch := omega) [wrap_of, ilt_t, ilt_f, ile_t, ile_f, nlt_t, nlt_f, nle_t, nle_f, ieq_t, ieq_f, imin_l, imin_r, imax_l, imax_r, take_app1, take_map_all, round_eq, b14_1, h0])
/-- Two rows of pieces: the same? -/
def same (a b : List Dirty) : Bool := decide (a.length = b.length) && (a.zip b).all (fun x => sameD x.1 x.2)
/-- catacombref24.Same -/
theorem s14 {n : Nat} (hn : 5 < n) (a b : List Dirty) (f g : Bool) (hb : a.length ≤ 9223372036854775807) (hs : ∀ d ∈ a, Short d) : (C24.tab n).p 14 [.lst f (a.map D), .lst g (b.map D)] = some (.bool (same a b)) := by
  rw [p14 hn, runP_eq, runH_eq]
  by_cases hl : a.length = b.length
  · simp -implicitDefEqProofs (disch := omega) [wrap_of, ilt_t, ilt_f, ile_t, ile_f, nlt_t, nlt_f, nle_t, nle_f, ieq_t, ieq_f, imin_l, imin_r, imax_l, imax_r, take_app1, take_map_all, c14, hl]
    rw [l14 (by omega) a b f g _ (by simp -implicitDefEqProofs (disch := omega) [wrap_of, ilt_t, ilt_f, ile_t, ile_f, nlt_t, nlt_f, nle_t, nle_f, ieq_t, ieq_f, imin_l, imin_r, imax_l, imax_r, take_app1, take_map_all, ]) (by simp -implicitDefEqProofs (disch := omega) [wrap_of, ilt_t, ilt_f, ile_t, ile_f, nlt_t, nlt_f, nle_t, nle_f, ieq_t, ieq_f, imin_l, imin_r, imax_l, imax_r, take_app1, take_map_all, ]) hl hb hs]
    unfold same
    by_cases h : (a.zip b).all (fun x => sameD x.1 x.2) = true <;> simp -implicitDefEqProofs (disch := omega) [wrap_of, ilt_t, ilt_f, ile_t, ile_f, nlt_t, nlt_f, nle_t, nle_f, ieq_t, ieq_f, imin_l, imin_r, imax_l, imax_r, take_app1, take_map_all, h, hl]
  · simp -implicitDefEqProofs (disch := omega) [wrap_of, ilt_t, ilt_f, ile_t, ile_f, nlt_t, nlt_f, nle_t, nle_f, ieq_t, ieq_f, imin_l, imin_r, imax_l, imax_r, take_app1, take_map_all, c14, hl, same]
/-- write.Next -/
theorem s13_nil {n : Nat} (hn : 3 < n) (f : Bool) : (C24.tab n).p 13 [.lst f []] = some (.tup [D ⟨0, 0, true, []⟩, .lst true [], .bool false]) := by
  rw [p13 hn, runP_eq, runH_eq]
  simp -implicitDefEqProofs (disch := omega) [wrap_of, ilt_t, ilt_f, ile_t, ile_f, nlt_t, nlt_f, nle_t, nle_f, ieq_t, ieq_f, imin_l, imin_r, imax_l, imax_r, take_app1, take_map_all, c13]
theorem s13_cons {n : Nat} (hn : 3 < n) (f : Bool) (d : Dirty) (l : List Dirty) : (C24.tab n).p 13 [.lst f ((d :: l).map D)] = some (.tup [D d, .lst f (l.map D), .bool true]) := by
  rw [p13 hn, runP_eq, runH_eq]
  simp -implicitDefEqProofs (disch := omega) [wrap_of, ilt_t, ilt_f, ile_t, ile_f, nlt_t, nlt_f, nle_t, nle_f, ieq_t, ieq_f, imin_l, imin_r, imax_l, imax_r, take_app1, take_map_all, c13]
/-- write.Lay -/
def layR (es : List Int) (p : Int) (d : List Int) : AV × Int := if p < 0 then (.lst true [], 1) else if 0 < d.length ∧ 4096 - (d.length : Int) < p then (.lst true [], 2) else (.lst false ((lay es p.toNat d).map B), 0)
theorem s11 {n : Nat} (hn : 2 < n) (es d : List Int) (f g : Bool) (p : Int) (he : es.length ≤ 1099511627776) (hd : d.length ≤ 9223372036854775807) (hp : p ≤ 9223372036854775807) :
    (C24.tab n).p 11 [.lst f (es.map B), .int .i64 p, .lst g (d.map B)] = some (.tup [(layR es p d).1, .int .i64 (layR es p d).2]) := by
  rw [p11 hn, runP_eq, runH_eq]
  unfold layR
  by_cases h1 : p < 0
  · simp -implicitDefEqProofs (disch := omega) [wrap_of, ilt_t, ilt_f, ile_t, ile_f, nlt_t, nlt_f, nle_t, nle_f, ieq_t, ieq_f, imin_l, imin_r, imax_l, imax_r, take_app1, take_map_all, c11, h1]
  · by_cases h2 : 0 < d.length ∧ 4096 - (d.length : Int) < p
    · obtain ⟨h2, h3⟩ := h2
      simp -implicitDefEqProofs (disch := omega) [wrap_of, ilt_t, ilt_f, ile_t, ile_f, nlt_t, nlt_f, nle_t, nle_f, ieq_t, ieq_f, imin_l, imin_r, imax_l, imax_r, take_app1, take_map_all, c11, h1, h2, h3]
    · rw [if_neg h1, if_neg h2]
      have hs := s30 (n := 2) (by omega) es [⟨0, p, g, d⟩] f true he (by simp) (by
        intro x hx
        simp only [List.mem_singleton] at hx
        subst hx
        refine ⟨by simp only; omega, hp, fun hz => ?_⟩
        have hz' : 0 < d.length := List.length_pos_iff.2 hz
        simp only
        omega)
      simp at hs
      have hb : (decide (0 < d.length) && decide (4096 - (d.length : Int) < p)) = false := by
        rw [Bool.eq_false_iff]; simpa using h2
      simp -implicitDefEqProofs (disch := omega) [wrap_of, ilt_t, ilt_f, ile_t, ile_f, nlt_t, nlt_f, nle_t, nle_f, ieq_t, ieq_f, imin_l, imin_r, imax_l, imax_r, take_app1, take_map_all, c11, h1, a30, hs]
      rfl
theorem s34 {n : Nat} (hn : 7 < n) (i a b : Int) (c : Bool) (e : List AV) : (C24.tab n).p 34 [.int .i64 i, .agg [.int .i64 a, .int .i64 b, .lst c e]] = some (.bool (decide (a = i))) := by
  rw [p34 hn, runP_eq, runH_eq]
  simp -implicitDefEqProofs (disch := omega) [wrap_of, ilt_t, ilt_f, ile_t, ile_f, nlt_t, nlt_f, nle_t, nle_f, ieq_t, ieq_f, imin_l, imin_r, imax_l, imax_r, take_app1, take_map_all, c34]

theorem short_of {d : Dirty} (h : Good d) : d.dat.length ≤ 1099511627776 := by
  by_cases hz : d.dat = []
  · rw [hz]; simp
  · have := h.h2 hz; have := h.h0; omega
/-- Where a piece meets another one, they are one. -/
def near (x : Dirty) (p n : Int) : Bool := !(decide (x.frm + x.dat.length < p) || decide (p + n < x.frm))
def merge (x : Dirty) (ino p : Int) (d : List Int) : Dirty :=
  ⟨ino, min x.frm p, false, lay (lay [] (x.frm - min x.frm p).toNat x.dat) (p - min x.frm p).toNat d⟩
def pick (l : List Dirty) (ino : Int) (i : Nat) : Option (Nat × Dirty) := match l[i]? with
  | some x => if x.ino = ino then some (i, x) else none
  | none => none
/-- The last piece of a file, and where it stands. -/
def last (l : List Dirty) (ino : Int) : Option (Nat × Dirty) := (List.range l.length).reverse.findSome? (pick l ino)
/-- write.Put -/
def put (l : List Dirty) (ino p : Int) (fl : Bool) (d : List Int) : List Dirty := match last l ino with
  | some x => if near x.2 p d.length = true then l.set x.1 (merge x.2 ino p d) else l ++ [⟨ino, p, fl, d⟩]
  | none => l ++ [⟨ino, p, fl, d⟩]
def heap15 (l : List Dirty) (ino p : Int) (d : List Int) : AH := [.fro 0 1 (d.map B), .var [.int .i64 ino, .int .i64 p, .own 0 0 0 d.length], .row 0 3 (l.map D)]
def put15 (l : List Dirty) (ino p : Int) (d : List Int) (x : Nat × Dirty) : AX × List AV × AH :=
  if near x.2 p d.length = true then (.ret, [.own 2 0 0 l.length], heap15 (l.set x.1 (merge x.2 ino p d)) ino p d ++ [.var [.int .i64 x.2.ino, .int .i64 x.2.frm, .lst x.2.fl (x.2.dat.map B)]])
  else (.exit 0, [], heap15 l ino p d ++ [.var [.int .i64 x.2.ino, .int .i64 x.2.frm, .lst x.2.fl (x.2.dat.map B)]])
/-- A piece. -/
structure Right (d : Dirty) : Prop where
  h0 : 0 ≤ d.frm
  h1 : 0 < d.dat.length
  h2 : d.frm + d.dat.length ≤ 4096
theorem Right.good {d : Dirty} (h : Right d) : Good d := ⟨h.h0, by have := h.h2; omega, fun _ => by have := h.h2; omega⟩
theorem l15 {n : Nat} (hn : 8 < n) (l : List Dirty) (hl : l.length ≤ 9223372036854775807) (hg : ∀ d ∈ l, Right d) (ino p : Int) (d : List Int) (g : Bool) (hp : 0 ≤ p) (hp2 : p + d.length ≤ 4096) (e0 : Env) (h1 : e0 1 = .int .i64 ino) (h2 : e0 2 = .int .i64 p) (h3 : e0 3 = .lst g (d.map B))
    (h10 : e0 10 = .fn (.func 34) [.int .i64 ino] []) (h11 : e0 11 = .own 2 0 0 l.length) :
    iter (round (C24.tab n) [12] [(.exit 0, []), (.ret, [8])] c15_1 e0 3 []) ([.int .i64 ((l.length : Int) - 1)], heap15 l ino p d) = some (((last l ino).map (put15 l ino p d)).getD (.exit 0, [], heap15 l ino p d)) := by
  unfold last
  rw [← findSome_map]
  exact for_down (f := round (C24.tab n) [12] [(.exit 0, []), (.ret, [8])] c15_1 e0 3 []) (fun i => ([.int .i64 ((i : Int) - 1)], heap15 l ino p d)) l.length (fun i => (pick l ino i).map (put15 l ino p d)) _
    (fun i hi => by
      have hx := hg _ (List.getElem_mem hi)
      have hx0 := hx.h0
      have hx1 := hx.h1
      have hx2 := hx.h2
      have hxe : l[i]? = some l[i] := List.getElem?_eq_getElem hi
      unfold pick put15
      rw [hxe]
      simp only
      by_cases hi1 : l[i].ino = ino
      · rw [if_pos hi1]
        simp only [Option.map_some]
        by_cases hne : near l[i] p d.length = true
        · rw [if_pos hne]
          have hne' := hne
          unfold near at hne
          simp only [Bool.not_eq_true', Bool.or_eq_false_iff, decide_eq_false_iff_not] at hne
          obtain ⟨n1, n2⟩ := hne
          have hs := s30 (n := n) (by omega) [] [⟨0, l[i].frm - min l[i].frm p, l[i].fl, l[i].dat⟩, ⟨0, p - min l[i].frm p, g, d⟩] true true (by simp) (by simp) (by
            intro x hx
            simp only [List.mem_cons, List.not_mem_nil, or_false] at hx
            rcases hx with rfl | rfl
            · exact ⟨by simp only; omega, by simp only; omega, fun _ => by simp only; omega⟩
            · exact ⟨by simp only; omega, by simp only; omega, fun _ => by simp only; omega⟩)
          simp at hs
          simp -implicitDefEqProofs (disch := omega) [wrap_of, ilt_t, ilt_f, ile_t, ile_f, nlt_t, nlt_f, nle_t, nle_f, ieq_t, ieq_f, imin_l, imin_r, imax_l, imax_r, take_app1, take_map_all, round_eq, b15_1, h1, h2, h3, h10, h11, heap15, hi, a34, s34, hi1, a30, hs]
          simp [merge, layD, hi1]
        · rw [if_neg hne]
          have hor : l[i].frm + l[i].dat.length < p ∨ p + d.length < l[i].frm := by
            unfold near at hne; simp at hne; omega
          simp -implicitDefEqProofs (disch := omega) [wrap_of, ilt_t, ilt_f, ile_t, ile_f, nlt_t, nlt_f, nle_t, nle_f, ieq_t, ieq_f, imin_l, imin_r, imax_l, imax_r, take_app1, take_map_all, round_eq, b15_1, h1, h2, h3, h10, h11, heap15, hi, a34, s34, hi1, hor]
      · rw [if_neg hi1]
        simp only [Option.map_none]
        simp -implicitDefEqProofs (disch := omega) [wrap_of, ilt_t, ilt_f, ile_t, ile_f, nlt_t, nlt_f, nle_t, nle_f, ieq_t, ieq_f, imin_l, imin_r, imax_l, imax_r, take_app1, take_map_all, round_eq, b15_1, h1, h2, h3, h10, h11, heap15, hi, a34, s34, hi1])
    (by simp -implicitDefEqProofs (disch := omega) [wrap_of, ilt_t, ilt_f, ile_t, ile_f, nlt_t, nlt_f, nle_t, nle_f, ieq_t, ieq_f, imin_l, imin_r, imax_l, imax_r, take_app1, take_map_all, round_eq, b15_1, heap15]) _ (Nat.le_refl _)
def rightB (ino p : Int) (n : Nat) : Bool := decide (1 ≤ ino) && decide (0 ≤ p) && decide (0 < n) && decide (p + n ≤ 4096)
def rightD (d : Dirty) : Bool := rightB d.ino d.frm d.dat.length
theorem s33 {n : Nat} (hn : 6 < n) (ino p : Int) (f : Bool) (d : List Int) (hm : d.length ≤ 9223372036854775807) :
    (C24.tab n).p 33 [.agg [.int .i64 ino, .int .i64 p, .lst f (d.map B)]] = some (.bool (rightB ino p d.length)) := by
  rw [p33 hn, runP_eq, runH_eq]
  unfold rightB
  simp -implicitDefEqProofs (disch := omega) [wrap_of, ilt_t, ilt_f, ile_t, ile_f, nlt_t, nlt_f, nle_t, nle_f, ieq_t, ieq_f, imin_l, imin_r, imax_l, imax_r, take_app1, take_map_all, c33]
  rw [Bool.eq_iff_iff]; simp only [Bool.and_eq_true, decide_eq_true_eq]; omega
/-- write.Put -/
theorem s15_not {n : Nat} (hn : 9 < n) (l : List AV) (f g : Bool) (ino p : Int) (d : List Int) (hd : d.length ≤ 140737488355328) (hr : rightB ino p d.length = false) :
    (C24.tab n).p 15 [.lst f l, .int .i64 ino, .int .i64 p, .lst g (d.map B)] = some (.lst f l) := by
  rw [p15 hn, runP_eq, runH_eq]
  simp -implicitDefEqProofs (disch := omega) [wrap_of, ilt_t, ilt_f, ile_t, ile_f, nlt_t, nlt_f, nle_t, nle_f, ieq_t, ieq_f, imin_l, imin_r, imax_l, imax_r, take_app1, take_map_all, c15, p32, a33, s33, hr]
theorem s15 {n : Nat} (hn : 9 < n) (l : List Dirty) (f g : Bool) (ino p : Int) (d : List Int) (hl : l.length ≤ 1000000000) (hg : ∀ d ∈ l, Right d) (hr : rightB ino p d.length = true) :
    (C24.tab n).p 15 [.lst f (l.map D), .int .i64 ino, .int .i64 p, .lst g (d.map B)] = some (.lst false ((put l ino p false d).map D)) := by
  rw [p15 hn, runP_eq, runH_eq]
  have hr' := hr
  unfold rightB at hr'
  simp only [Bool.and_eq_true, decide_eq_true_eq] at hr'
  obtain ⟨⟨⟨r1, r2⟩, r3⟩, r4⟩ := hr'
  simp -implicitDefEqProofs (disch := omega) [wrap_of, ilt_t, ilt_f, ile_t, ile_f, nlt_t, nlt_f, nle_t, nle_f, ieq_t, ieq_f, imin_l, imin_r, imax_l, imax_r, take_app1, take_map_all, c15, p32, a33, s33, p35, hr]
  have hl15 := fun e0 a b c d' e => l15 (n := 9) (by omega) l (by omega) hg ino p d g r2 r4 e0 a b c d' e
  unfold put
  cases hlast : last l ino with
  | none =>
    rw [hlast] at hl15
    unfold heap15 at hl15
    rw [hl15 _ (by simp -implicitDefEqProofs (disch := omega) [wrap_of, ilt_t, ilt_f, ile_t, ile_f, nlt_t, nlt_f, nle_t, nle_f, ieq_t, ieq_f, imin_l, imin_r, imax_l, imax_r, take_app1, take_map_all, ]) (by simp -implicitDefEqProofs (disch := omega) [wrap_of, ilt_t, ilt_f, ile_t, ile_f, nlt_t, nlt_f, nle_t, nle_f, ieq_t, ieq_f, imin_l, imin_r, imax_l, imax_r, take_app1, take_map_all, ]) (by simp -implicitDefEqProofs (disch := omega) [wrap_of, ilt_t, ilt_f, ile_t, ile_f, nlt_t, nlt_f, nle_t, nle_f, ieq_t, ieq_f, imin_l, imin_r, imax_l, imax_r, take_app1, take_map_all, ]) (by simp -implicitDefEqProofs (disch := omega) [wrap_of, ilt_t, ilt_f, ile_t, ile_f, nlt_t, nlt_f, nle_t, nle_f, ieq_t, ieq_f, imin_l, imin_r, imax_l, imax_r, take_app1, take_map_all, ]) (by simp -implicitDefEqProofs (disch := omega) [wrap_of, ilt_t, ilt_f, ile_t, ile_f, nlt_t, nlt_f, nle_t, nle_f, ieq_t, ieq_f, imin_l, imin_r, imax_l, imax_r, take_app1, take_map_all, ])]
    simp -implicitDefEqProofs (disch := omega) [wrap_of, ilt_t, ilt_f, ile_t, ile_f, nlt_t, nlt_f, nle_t, nle_f, ieq_t, ieq_f, imin_l, imin_r, imax_l, imax_r, take_app1, take_map_all, ]
    try exact List.take_of_length_le (by simp)
  | some x =>
    rw [hlast] at hl15
    unfold put15 heap15 at hl15
    rw [hl15 _ (by simp -implicitDefEqProofs (disch := omega) [wrap_of, ilt_t, ilt_f, ile_t, ile_f, nlt_t, nlt_f, nle_t, nle_f, ieq_t, ieq_f, imin_l, imin_r, imax_l, imax_r, take_app1, take_map_all, ]) (by simp -implicitDefEqProofs (disch := omega) [wrap_of, ilt_t, ilt_f, ile_t, ile_f, nlt_t, nlt_f, nle_t, nle_f, ieq_t, ieq_f, imin_l, imin_r, imax_l, imax_r, take_app1, take_map_all, ]) (by simp -implicitDefEqProofs (disch := omega) [wrap_of, ilt_t, ilt_f, ile_t, ile_f, nlt_t, nlt_f, nle_t, nle_f, ieq_t, ieq_f, imin_l, imin_r, imax_l, imax_r, take_app1, take_map_all, ]) (by simp -implicitDefEqProofs (disch := omega) [wrap_of, ilt_t, ilt_f, ile_t, ile_f, nlt_t, nlt_f, nle_t, nle_f, ieq_t, ieq_f, imin_l, imin_r, imax_l, imax_r, take_app1, take_map_all, ]) (by simp -implicitDefEqProofs (disch := omega) [wrap_of, ilt_t, ilt_f, ile_t, ile_f, nlt_t, nlt_f, nle_t, nle_f, ieq_t, ieq_f, imin_l, imin_r, imax_l, imax_r, take_app1, take_map_all, ])]
    by_cases hne : near x.2 p d.length = true
    · simp -implicitDefEqProofs (disch := omega) [wrap_of, ilt_t, ilt_f, ile_t, ile_f, nlt_t, nlt_f, nle_t, nle_f, ieq_t, ieq_f, imin_l, imin_r, imax_l, imax_r, take_app1, take_map_all, hne]
      try exact List.take_of_length_le (by simp)
    · simp only [Bool.not_eq_true] at hne
      simp -implicitDefEqProofs (disch := omega) [wrap_of, ilt_t, ilt_f, ile_t, ile_f, nlt_t, nlt_f, nle_t, nle_f, ieq_t, ieq_f, imin_l, imin_r, imax_l, imax_r, take_app1, take_map_all, hne]
      try exact List.take_of_length_le (by simp)
end Go.Proofs.Ytldgegojhaamoaa