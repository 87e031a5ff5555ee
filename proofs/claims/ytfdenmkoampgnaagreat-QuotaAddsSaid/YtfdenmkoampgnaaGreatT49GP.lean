import Derived.Test.YtfdenmkoampgnaaGreatT49GM
import Derived.Test.YtfdenmkoampgnaaGreatTrGJ
import Derived.Test.YtfdenmkoampgnaaGreatT49GA
set_option linter.unusedSimpArgs false
set_option linter.unusedVariables false
namespace Go.Proofs.YtfdenmkoampgnaaGreat
open Go.Am Go.Tr

theorem bt_of {k : Nat} {t : Tr.Tree} (h : Bg k t) (hk : k ≤ 700) : Bt t :=
  ⟨by have := h.len; omega, fun n hn => by have := h.ents n hn; omega, h.ck0, by have := h.ck; omega, h.nx0, by have := h.nx; omega⟩
abbrev WFt (t : Tr.Tree) : Prop := WF okN sLess t
theorem nameOf_len (n : Nat) : (nameOf n).length ≤ 9223372036854775807 := by
  have h : n % 6 < 6 := Nat.mod_lt _ (by omega)
  unfold nameOf names
  rcases (by omega : n % 6 = 0 ∨ n % 6 = 1 ∨ n % 6 = 2 ∨ n % 6 = 3 ∨ n % 6 = 4 ∨ n % 6 = 5) with h | h | h | h | h | h <;> rw [h] <;> simp
theorem s10 {n : Nat} (hn : 45 < n) (k : Nat) (hk : k < 256) : (C49.tab n).p 10 [.int .u8 (k : Int)] = some (.str (nameOf k)) := by
  rw [p10 hn, runP_eq, runH_eq]
  unfold nameOf names
  rcases (by omega : k % 6 = 0 ∨ k % 6 = 1 ∨ k % 6 = 2 ∨ k % 6 = 3 ∨ k % 6 = 4 ∨ k % 6 = 5) with h | h | h | h | h | h
  all_goals
    rw [h]
  · have h' : (k : Int).tmod 6 = 0 := show ((k % 6 : Nat) : Int) = 0 by omega
    simp -implicitDefEqProofs (disch := omega) [wrap_of, ilt_t, ilt_f, ile_t, ile_f, nlt_t, nlt_f, nle_t, nle_f, ieq_t, ieq_f, imin_l, imin_r, imax_l, imax_r, take_app1, take_map_all, c10, h']
  · have h' : (k : Int).tmod 6 = 1 := show ((k % 6 : Nat) : Int) = 1 by omega
    simp -implicitDefEqProofs (disch := omega) [wrap_of, ilt_t, ilt_f, ile_t, ile_f, nlt_t, nlt_f, nle_t, nle_f, ieq_t, ieq_f, imin_l, imin_r, imax_l, imax_r, take_app1, take_map_all, c10, h']
  · have h' : (k : Int).tmod 6 = 2 := show ((k % 6 : Nat) : Int) = 2 by omega
    simp -implicitDefEqProofs (disch := omega) [wrap_of, ilt_t, ilt_f, ile_t, ile_f, nlt_t, nlt_f, nle_t, nle_f, ieq_t, ieq_f, imin_l, imin_r, imax_l, imax_r, take_app1, take_map_all, c10, h']
  · have h' : (k : Int).tmod 6 = 3 := show ((k % 6 : Nat) : Int) = 3 by omega
    simp -implicitDefEqProofs (disch := omega) [wrap_of, ilt_t, ilt_f, ile_t, ile_f, nlt_t, nlt_f, nle_t, nle_f, ieq_t, ieq_f, imin_l, imin_r, imax_l, imax_r, take_app1, take_map_all, c10, h']
  · have h' : (k : Int).tmod 6 = 4 := show ((k % 6 : Nat) : Int) = 4 by omega
    simp -implicitDefEqProofs (disch := omega) [wrap_of, ilt_t, ilt_f, ile_t, ile_f, nlt_t, nlt_f, nle_t, nle_f, ieq_t, ieq_f, imin_l, imin_r, imax_l, imax_r, take_app1, take_map_all, c10, h']
  · have h' : (k : Int).tmod 6 = 5 := show ((k % 6 : Nat) : Int) = 5 by omega
    simp -implicitDefEqProofs (disch := omega) [wrap_of, ilt_t, ilt_f, ile_t, ile_f, nlt_t, nlt_f, nle_t, nle_f, ieq_t, ieq_f, imin_l, imin_r, imax_l, imax_r, take_app1, take_map_all, c10, h']
theorem s24 {n : Nat} (hn : 44 < n) (t : Tr.Tree) (hb : Bt t) (k : Nat) (hk : k < 256) : (C49.tab n).p 24 [Tv t, .int .u8 (k : Int)] = some (I (nodeAt t k)) := by
  rw [p24 hn, runP_eq, runH_eq]
  have hl := hb.len
  unfold nodeAt
  obtain ⟨j, hj⟩ : ∃ j, j = k % (t.nodes.length + 1) := ⟨_, rfl⟩
  have hjl : j < t.nodes.length + 1 := by rw [hj]; exact Nat.mod_lt _ (by omega)
  have hj' : (k : Int).tmod ((t.nodes.length : Int) + 1) = (j : Int) := by rw [hj]; rfl
  rw [← hj]
  by_cases c : j < t.nodes.length
  · rw [List.getElem?_eq_getElem c]
    obtain ⟨q, hq⟩ : ∃ q, q = t.nodes[j] := ⟨_, rfl⟩
    rw [← hq]
    simp -implicitDefEqProofs (disch := omega) [wrap_of, ilt_t, ilt_f, ile_t, ile_f, nlt_t, nlt_f, nle_t, nle_f, ieq_t, ieq_f, imin_l, imin_r, imax_l, imax_r, take_app1, take_map_all, c24, hj', c, ← hq]
  · rw [List.getElem?_eq_none (by omega)]
    simp -implicitDefEqProofs (disch := omega) [wrap_of, ilt_t, ilt_f, ile_t, ile_f, nlt_t, nlt_f, nle_t, nle_f, ieq_t, ieq_f, imin_l, imin_r, imax_l, imax_r, take_app1, take_map_all, c24, hj', c]
/-- A step as it is read. -/
structure Sd where
  k : UInt8
  a : UInt8
  b : UInt8
  n : UInt8
  m : UInt8
  f : Bool
  data : List UInt8
def Sd.st (s : Sd) : Step := ⟨s.k.toNat, s.a.toNat, s.b.toNat, s.n.toNat, s.m.toNat, s.data⟩
@[simp] def Sv (s : Sd) : AV := .agg [.int .u8 s.k.toNat, .int .u8 s.a.toNat, .int .u8 s.b.toNat, .int .u8 s.n.toNat, .int .u8 s.m.toNat, .lst s.f (s.data.map B)]
@[simp] theorem szSv (l : List Sd) : szOk 6 (l.map Sv) = true := by simp [szOk]
theorem mv_prem {t : Tr.Tree} (w : WFt t) (fr : Int) (s : List UInt8) (to : Int) (nm : List UInt8) : Bm t fr s to nm (Tr.look okN t fr s).1 (Tr.onto t to nm) ∧ (if Tr.onto t to nm ≠ 0 then unnamed (left (left t fr s) to nm) (Tr.onto t to nm) else left t fr s).cookie < 4398046511104 := by
  have h0 := w.bg
  have h1 := h0.left fr s
  have h2 := h1.left to nm
  have h3 := h2.unnamed (Tr.onto t to nm)
  have h4 : Bg 3 (if Tr.onto t to nm ≠ 0 then unnamed (left (left t fr s) to nm) (Tr.onto t to nm) else left t fr s) := by
    split
    · exact h3
    · exact h1.mono (by omega)
  refine ⟨⟨fun e he => ?_, bt_of h1 (by omega), fun _ => bt_of h2 (by omega), fun _ q hq => ?_, bt_of h4 (by omega), ?_⟩, by have := h4.ck; omega⟩
  · unfold dirN at he
    cases hf : find t.nodes to with
    | none => rw [hf] at he; cases he
    | some p =>
      rw [hf] at he
      simp only at he
      split at he
      · rename_i hd
        have := (w.wf.dir _ _ hf hd).2.to e he
        obtain ⟨q, hq⟩ := Option.isSome_iff_exists.1 this
        have := (w.wf.pos _ _ hq).1
        omega
      · cases he
  · have := h2.lk q (find_mem hq).1
    omega
  · split
    · refine bt_of (h4.withN ?_ ?_) (by omega)
      · have := (h0.getZ (Tr.look okN t fr s).1).1
        show (getZ t (Tr.look okN t fr s).1).ents.length ≤ _
        omega
      · have := (h0.getZ (Tr.look okN t fr s).1).2
        show _ ≤ (getZ t (Tr.look okN t fr s).1).links ∧ (getZ t (Tr.look okN t fr s).1).links ≤ _
        omega
    · exact bt_of h4 (by omega)
theorem un_prem {t : Tr.Tree} (w : WFt t) (i : Int) (s : List UInt8) : ((Tr.look okN t i s).2 = 0 → Bt (left t i s)) ∧ ∀ q, find (left t i s).nodes (Tr.look okN t i s).1 = some q → -4398046511104 ≤ q.links ∧ q.links ≤ 4398046511104 := by
  have h1 := w.bg.left i s
  refine ⟨fun _ => bt_of h1 (by omega), fun q hq => ?_⟩
  have := h1.lk q (find_mem hq).1
  omega
theorem u8lt (b : UInt8) : b.toNat < 256 := b.toNat_lt
theorem s22 {n : Nat} (hn : 56 < n) (t : Tr.Tree) (w : WFt t) (s : Sd) (hd : s.data.length ≤ 9223372036854775807) : ∃ x e : Int, (C49.tab n).p 22 [Tv t, Sv s] = some (.tup [Tv (Tr.step okN sLess t s.st), I x, I e]) := by
  have hb := bt_of w.bg (by omega)
  have hck := w.bg.ck
  rw [p22 hn, runP_eq, runH_eq]
  obtain ⟨k, a, b, c, m, f, d⟩ := s
  have hNa := s24 (n := 56) (by decide) t hb a.toNat (u8lt a)
  have hNb := s24 (n := 56) (by decide) t hb b.toNat (u8lt b)
  have hMc := s10 (n := 56) (by decide) c.toNat (u8lt c)
  have hMm := s10 (n := 56) (by decide) m.toNat (u8lt m)
  have hm2 : (m.toNat : Int).tmod 2 = ((m.toNat % 2 : Nat) : Int) := rfl
  have hkk : (k.toNat : Int).tmod 8 = ((k.toNat % 8 : Nat) : Int) := rfl
  have hk8 : k.toNat % 8 < 8 := Nat.mod_lt _ (by omega)
  have hm8 : m.toNat % 2 < 2 := Nat.mod_lt _ (by omega)
  have hkl := u8lt k
  have hml := u8lt m
  have hA := s37 (n := 56) (by decide) t hb (nodeAt t a.toNat) (nameOf c.toNat) (nameOf_len _) (m.toNat % 2 + 1 : Nat) (by omega) (fun _ _ => bt_of (w.bg.moreT _ _) (by omega))
  have hL := s38 (n := 56) (by decide) t hb (nodeAt t b.toNat) (nodeAt t a.toNat) (nameOf c.toNat) (nameOf_len _) (by omega)
    (fun q hq => bt_of (w.bg.withN (by show q.ents.length ≤ _; have := w.bg.ents q (find_mem hq).1; omega) (by show _ ≤ q.links + 1 ∧ q.links + 1 ≤ _; have := w.bg.lk q (find_mem hq).1; omega)) (by omega))
    (fun q hq => by have := w.bg.lk q (find_mem hq).1; omega)
  have hU := s45 (n := 56) (by decide) t hb (nodeAt t a.toNat) (nameOf c.toNat) (nameOf_len _) (un_prem w _ _).1 (un_prem w _ _).2
  have hM := s46 (n := 56) (by decide) t hb (nodeAt t a.toNat) (nodeAt t b.toNat) (nameOf c.toNat) (nameOf m.toNat) (nameOf_len _) (nameOf_len _) (by omega) (mv_prem w _ _ _ _).1 (mv_prem w _ _ _ _).2
  have hP := s39 (n := 56) (by decide) t hb (nodeAt t a.toNat) f d hd
  have hF := s47 (n := 56) (by decide) t hb (nodeAt t a.toNat)
  unfold Tr.step Sd.st
  simp only
  have hc1 : ∀ x : Nat, ((x + 1 : Nat) : Int) = (x : Int) + 1 := fun _ => rfl
  simp only [hc1] at hA ⊢
  generalize nodeAt t a.toNat = na at *
  generalize nodeAt t b.toNat = nb at *
  generalize nameOf c.toNat = nc at *
  generalize nameOf m.toNat = nm at *
  generalize hkj : k.toNat % 8 = j at *
  generalize hmj : m.toNat % 2 = mj at *
  simp only [Tv] at hNa hNb hA hL hU hM hP hF
  rcases (by omega : j = 0 ∨ j = 1 ∨ j = 2 ∨ j = 3 ∨ j = 4 ∨ j = 5 ∨ j = 6 ∨ j = 7) with h | h | h | h | h | h | h | h
  · subst h
    refine ⟨(Tr.add okN sLess t na nc ((mj : Int) + 1)).2.1, (Tr.add okN sLess t na nc ((mj : Int) + 1)).2.2, ?_⟩
    simp -implicitDefEqProofs (disch := omega) [wrap_of, ilt_t, ilt_f, ile_t, ile_f, nlt_t, nlt_f, nle_t, nle_f, ieq_t, ieq_f, imin_l, imin_r, imax_l, imax_r, take_app1, take_map_all, c22, a24, hNa, hNb, a10, hMc, hMm, hkk, hm2, a37, hA]
  · subst h
    refine ⟨(Tr.add okN sLess t na nc ((mj : Int) + 1)).2.1, (Tr.add okN sLess t na nc ((mj : Int) + 1)).2.2, ?_⟩
    simp -implicitDefEqProofs (disch := omega) [wrap_of, ilt_t, ilt_f, ile_t, ile_f, nlt_t, nlt_f, nle_t, nle_f, ieq_t, ieq_f, imin_l, imin_r, imax_l, imax_r, take_app1, take_map_all, c22, a24, hNa, hNb, a10, hMc, hMm, hkk, hm2, a37, hA]
  · subst h
    refine ⟨0, (Tr.ln okN sLess t nb na nc).2, ?_⟩
    simp -implicitDefEqProofs (disch := omega) [wrap_of, ilt_t, ilt_f, ile_t, ile_f, nlt_t, nlt_f, nle_t, nle_f, ieq_t, ieq_f, imin_l, imin_r, imax_l, imax_r, take_app1, take_map_all, c22, a24, hNa, hNb, a10, hMc, hMm, hkk, hm2, a38, hL]
  · subst h
    refine ⟨(Tr.un okN t na nc).2.1, (Tr.un okN t na nc).2.2, ?_⟩
    simp -implicitDefEqProofs (disch := omega) [wrap_of, ilt_t, ilt_f, ile_t, ile_f, nlt_t, nlt_f, nle_t, nle_f, ieq_t, ieq_f, imin_l, imin_r, imax_l, imax_r, take_app1, take_map_all, c22, a24, hNa, hNb, a10, hMc, hMm, hkk, hm2, a45, hU]
  · subst h
    refine ⟨(Tr.mv okN sLess t na nc nb nm).2.1, (Tr.mv okN sLess t na nc nb nm).2.2, ?_⟩
    simp -implicitDefEqProofs (disch := omega) [wrap_of, ilt_t, ilt_f, ile_t, ile_f, nlt_t, nlt_f, nle_t, nle_f, ieq_t, ieq_f, imin_l, imin_r, imax_l, imax_r, take_app1, take_map_all, c22, a24, hNa, hNb, a10, hMc, hMm, hkk, hm2, a46, hM]
  · subst h
    refine ⟨(Tr.mv okN sLess t na nc nb nm).2.1, (Tr.mv okN sLess t na nc nb nm).2.2, ?_⟩
    simp -implicitDefEqProofs (disch := omega) [wrap_of, ilt_t, ilt_f, ile_t, ile_f, nlt_t, nlt_f, nle_t, nle_f, ieq_t, ieq_f, imin_l, imin_r, imax_l, imax_r, take_app1, take_map_all, c22, a24, hNa, hNb, a10, hMc, hMm, hkk, hm2, a46, hM]
  · subst h
    refine ⟨0, (put t na d).2, ?_⟩
    simp -implicitDefEqProofs (disch := omega) [wrap_of, ilt_t, ilt_f, ile_t, ile_f, nlt_t, nlt_f, nle_t, nle_f, ieq_t, ieq_f, imin_l, imin_r, imax_l, imax_r, take_app1, take_map_all, c22, a24, hNa, hNb, a10, hMc, hMm, hkk, hm2, a39, hP]
  · subst h
    refine ⟨0, (free t na).2, ?_⟩
    simp -implicitDefEqProofs (disch := omega) [wrap_of, ilt_t, ilt_f, ile_t, ile_f, nlt_t, nlt_f, nle_t, nle_f, ieq_t, ieq_f, imin_l, imin_r, imax_l, imax_r, take_app1, take_map_all, c22, a24, hNa, hNb, a10, hMc, hMm, hkk, hm2, a47, hF]
theorem l6 {n : Nat} (hn : 56 < n) (l : List Sd) (hl : l.length ≤ 1000000) (hd : ∀ s ∈ l, s.data.length ≤ 9223372036854775807) (f : Bool) (e0 : Env) (h0 : e0 0 = .lst f (l.map Sv)) (h3 : e0 3 = .ptr 1 0 0 0) (t : Tr.Tree) (w : WFt t) :
    iter (round (C49.tab n) [4] [(.exit 0, [])] c6_1 e0 2 []) ([.int .i64 0], [.var [.lst true [], .int .i64 0, .int .i64 0], .var [.lst t.fn (t.nodes.map Nd), .int .i64 t.next, .int .i64 t.cookie]]) =
      some (.exit 0, [], [.var [.lst true [], .int .i64 0, .int .i64 0], .var [.lst ((l.map Sd.st).foldl (Tr.step okN sLess) t).fn (((l.map Sd.st).foldl (Tr.step okN sLess) t).nodes.map Nd), .int .i64 ((l.map Sd.st).foldl (Tr.step okN sLess) t).next, .int .i64 ((l.map Sd.st).foldl (Tr.step okN sLess) t).cookie]]) := by
  have := for_list (f := round (C49.tab n) [4] [(.exit 0, [])] c6_1 e0 2 []) (fun i (t : Tr.Tree) => ([.int .i64 (i : Int)], [.var [.lst true [], .int .i64 0, .int .i64 0], .var [.lst t.fn (t.nodes.map Nd), .int .i64 t.next, .int .i64 t.cookie]])) l (fun t s => Tr.step okN sLess t s.st)
    (fun t => (.exit 0, [], [.var [.lst true [], .int .i64 0, .int .i64 0], .var [.lst t.fn (t.nodes.map Nd), .int .i64 t.next, .int .i64 t.cookie]])) (fun _ t => WFt t)
    (fun i hi t w => by
      refine ⟨w.step ord_sLess _, ?_⟩
      obtain ⟨s, hs⟩ : ∃ s, s = l[i] := ⟨_, rfl⟩
      obtain ⟨x, e, h⟩ := s22 (n := n) hn t w s (by rw [hs]; exact hd _ (List.getElem_mem hi))
      rw [← hs]
      generalize Tr.step okN sLess t s.st = u at *
      simp only [Tv, Sv] at h
      simp -implicitDefEqProofs (disch := omega) [wrap_of, ilt_t, ilt_f, ile_t, ile_f, nlt_t, nlt_f, nle_t, nle_f, ieq_t, ieq_f, imin_l, imin_r, imax_l, imax_r, take_app1, take_map_all, round_eq, b6_1, h0, h3, hi, ← hs, h])
    (fun t w => by simp -implicitDefEqProofs (disch := omega) [wrap_of, ilt_t, ilt_f, ile_t, ile_f, nlt_t, nlt_f, nle_t, nle_f, ieq_t, ieq_f, imin_l, imin_r, imax_l, imax_r, take_app1, take_map_all, round_eq, b6_1, h0, h3]) t w
  rw [List.foldl_map]
  simpa using this
theorem s6 {n : Nat} (hn : 57 < n) (l : List Sd) (hl : l.length ≤ 1000000) (hd : ∀ s ∈ l, s.data.length ≤ 9223372036854775807) (f : Bool) : (C49.tab n).p 6 [.lst f (l.map Sv)] = some (Tv (Tr.made okN sLess (l.map Sd.st))) := by
  rw [p6 hn, runP_eq, runH_eq]
  have hN := s21 (n := 57) (by decide)
  have h := fun e0 h0 h3 => l6 (n := 57) (by decide) l hl hd f e0 h0 h3 newT WF.new
  unfold Tr.made
  generalize (l.map Sd.st).foldl (Tr.step okN sLess) newT = u at *
  generalize newT = t at *
  simp only [Tv] at hN
  simp -implicitDefEqProofs (disch := omega) [wrap_of, ilt_t, ilt_f, ile_t, ile_f, nlt_t, nlt_f, nle_t, nle_f, ieq_t, ieq_f, imin_l, imin_r, imax_l, imax_r, take_app1, take_map_all, c6, a21, hN]
  rw [h _ (by simp -implicitDefEqProofs (disch := omega) [wrap_of, ilt_t, ilt_f, ile_t, ile_f, nlt_t, nlt_f, nle_t, nle_f, ieq_t, ieq_f, imin_l, imin_r, imax_l, imax_r, take_app1, take_map_all, ]) (by simp -implicitDefEqProofs (disch := omega) [wrap_of, ilt_t, ilt_f, ile_t, ile_f, nlt_t, nlt_f, nle_t, nle_f, ieq_t, ieq_f, imin_l, imin_r, imax_l, imax_r, take_app1, take_map_all, ])]
  simp -implicitDefEqProofs (disch := omega) [wrap_of, ilt_t, ilt_f, ile_t, ile_f, nlt_t, nlt_f, nle_t, nle_f, ieq_t, ieq_f, imin_l, imin_r, imax_l, imax_r, take_app1, take_map_all, ]
def greatT (l : List Sd) : Bool := decide (60 < l.length) || l.any fun s => decide (5000 < s.data.length)
theorem l5 {Γ : Tab} (l : List Sd) (hl : l.length ≤ 60) (hd : ∀ s ∈ l, s.data.length ≤ 9223372036854775807) (f : Bool) (e0 : Env) (h0 : e0 0 = .lst f (l.map Sv)) :
    iter (round Γ [3] [(.exit 0, []), (.ret, [2])] c5_1 e0 0 []) ([.int .i64 0], []) = some (if (l.all fun s => !decide (5000 < s.data.length)) = true then (.exit 0, [], []) else (.ret, [.bool true], [])) :=
  for_all (f := round Γ [3] [(.exit 0, []), (.ret, [2])] c5_1 e0 0 []) (fun i => ([.int .i64 (i : Int)], [])) l _ _ _ (fun i hi => by
      obtain ⟨s, hs⟩ : ∃ s, s = l[i] := ⟨_, rfl⟩
      have hsl : s.data.length ≤ 9223372036854775807 := by rw [hs]; exact hd _ (List.getElem_mem hi)
      rw [← hs]
      by_cases c1 : 5000 < s.data.length
      · simp -implicitDefEqProofs (disch := omega) [wrap_of, ilt_t, ilt_f, ile_t, ile_f, nlt_t, nlt_f, nle_t, nle_f, ieq_t, ieq_f, imin_l, imin_r, imax_l, imax_r, take_app1, take_map_all, round_eq, b5_1, h0, hi, ← hs, c1]
      · simp -implicitDefEqProofs (disch := omega) [wrap_of, ilt_t, ilt_f, ile_t, ile_f, nlt_t, nlt_f, nle_t, nle_f, ieq_t, ieq_f, imin_l, imin_r, imax_l, imax_r, take_app1, take_map_all, round_eq, b5_1, h0, hi, ← hs, c1])
    (by simp -implicitDefEqProofs (disch := omega) [wrap_of, ilt_t, ilt_f, ile_t, ile_f, nlt_t, nlt_f, nle_t, nle_f, ieq_t, ieq_f, imin_l, imin_r, imax_l, imax_r, take_app1, take_map_all, round_eq, b5_1, h0])
theorem s5 {n : Nat} (hn : 43 < n) (l : List Sd) (hl : l.length ≤ 9223372036854775807) (hd : ∀ s ∈ l, s.data.length ≤ 9223372036854775807) (f : Bool) : (C49.tab n).p 5 [.lst f (l.map Sv)] = some (.bool (greatT l)) := by
  rw [p5 hn, runP_eq, runH_eq]
  unfold greatT
  by_cases c1 : 60 < l.length
  · simp -implicitDefEqProofs (disch := omega) [wrap_of, ilt_t, ilt_f, ile_t, ile_f, nlt_t, nlt_f, nle_t, nle_f, ieq_t, ieq_f, imin_l, imin_r, imax_l, imax_r, take_app1, take_map_all, c5, c1]
  · have h := l5 (Γ := C49.tab 43) l (by omega) hd f
    have ha : (l.all fun s => !decide (5000 < s.data.length)) = !(l.any fun s => decide (5000 < s.data.length)) := by rw [List.all_eq_not_any_not]; simp
    rw [ha] at h
    generalize (l.any fun s => decide (5000 < s.data.length)) = q at *
    simp -implicitDefEqProofs (disch := omega) [wrap_of, ilt_t, ilt_f, ile_t, ile_f, nlt_t, nlt_f, nle_t, nle_f, ieq_t, ieq_f, imin_l, imin_r, imax_l, imax_r, take_app1, take_map_all, c5, c1]
    rw [h _ (by simp -implicitDefEqProofs (disch := omega) [wrap_of, ilt_t, ilt_f, ile_t, ile_f, nlt_t, nlt_f, nle_t, nle_f, ieq_t, ieq_f, imin_l, imin_r, imax_l, imax_r, take_app1, take_map_all, ])]
    cases q with
    | true => simp -implicitDefEqProofs (disch := omega) [wrap_of, ilt_t, ilt_f, ile_t, ile_f, nlt_t, nlt_f, nle_t, nle_f, ieq_t, ieq_f, imin_l, imin_r, imax_l, imax_r, take_app1, take_map_all, ]
    | false => simp -implicitDefEqProofs (disch := omega) [wrap_of, ilt_t, ilt_f, ile_t, ile_f, nlt_t, nlt_f, nle_t, nle_f, ieq_t, ieq_f, imin_l, imin_r, imax_l, imax_r, take_app1, take_map_all, ]
end Go.Proofs.YtfdenmkoampgnaaGreat

namespace Go.Proofs.YtfdenmkoampgnaaGreat
open Go.Am Go.Tr

theorem s92 {n : Nat} (hn : 0 < n) (x : Int) : (C49.tab n).p 92 [I x] = some (.bool false) := by
  rw [p92 hn, runP_eq, runH_eq]
  simp -implicitDefEqProofs (disch := omega) [wrap_of, ilt_t, ilt_f, ile_t, ile_f, nlt_t, nlt_f, nle_t, nle_f, ieq_t, ieq_f, imin_l, imin_r, imax_l, imax_r, take_app1, take_map_all, c92]
def cmpI (x y : Int) : Int := if x < y then -1 else if y < x then 1 else 0
theorem s62 {n : Nat} (hn : 1 < n) (x y : Int) : (C49.tab n).p 62 [I x, I y] = some (I (cmpI x y)) := by
  rw [p62 hn, runP_eq, runH_eq]
  have h1 := s92 (n := 1) (by decide) x
  have h2 := s92 (n := 1) (by decide) y
  unfold cmpI
  by_cases c1 : x < y
  · simp -implicitDefEqProofs (disch := omega) [wrap_of, ilt_t, ilt_f, ile_t, ile_f, nlt_t, nlt_f, nle_t, nle_f, ieq_t, ieq_f, imin_l, imin_r, imax_l, imax_r, take_app1, take_map_all, c62, a92, h1, h2, c1]
  · by_cases c2 : y < x
    · simp -implicitDefEqProofs (disch := omega) [wrap_of, ilt_t, ilt_f, ile_t, ile_f, nlt_t, nlt_f, nle_t, nle_f, ieq_t, ieq_f, imin_l, imin_r, imax_l, imax_r, take_app1, take_map_all, c62, a92, h1, h2, c1, c2]
    · simp -implicitDefEqProofs (disch := omega) [wrap_of, ilt_t, ilt_f, ile_t, ile_f, nlt_t, nlt_f, nle_t, nle_f, ieq_t, ieq_f, imin_l, imin_r, imax_l, imax_r, take_app1, take_map_all, c62, a92, h1, h2, c1, c2]
theorem s87 {n : Nat} (hn : 3 < n) (q : Tr.Node) (i : Int) : (C49.tab n).p 87 [Nd q, I i] = some (I (cmpI q.ino i)) := by
  rw [p87 hn, runP_eq, runH_eq]
  have h := s62 (n := 3) (by decide) q.ino i
  simp -implicitDefEqProofs (disch := omega) [wrap_of, ilt_t, ilt_f, ile_t, ile_f, nlt_t, nlt_f, nle_t, nle_f, ieq_t, ieq_f, imin_l, imin_r, imax_l, imax_r, take_app1, take_map_all, c87, a62, h]
theorem cmpI_lt (x y : Int) : cmpI x y < 0 ↔ x < y := by
  unfold cmpI
  split
  · simp_all
  · split <;> simp_all
theorem cmpI_eq (x y : Int) : cmpI x y = 0 ↔ x = y := by
  unfold cmpI
  split
  · constructor <;> intro h <;> omega
  · split
    · constructor <;> intro h <;> omega
    · constructor <;> intro h <;> omega
theorem l86 {n : Nat} (hn : 3 < n) (t : Tr.Tree) (hs : Srt t.nodes) (hl : t.nodes.length ≤ 1000) (i : Int) (e0 : Env) (h0 : e0 0 = .lst t.fn (t.nodes.map Nd)) (h1 : e0 1 = I i) (h2 : e0 2 = .fn (.func 87) [] []) (X : AH) (hX : X.all plainB = true) :
    iter (round (C49.tab n) [9, 10] [(.exit 0, [9])] c86_1 e0 X.length []) ([.int .i64 0, .int .i64 t.nodes.length], X) = some (.exit 0, [.int .i64 (cutN t.nodes i : Nat)], X) :=
  for_half (f := round (C49.tab n) [9, 10] [(.exit 0, [9])] c86_1 e0 X.length []) (fun i j => ([.int .i64 (i : Int), .int .i64 (j : Int)], X)) t.nodes.length (cutN t.nodes i) (cutP_le _ _) (fun c => (.exit 0, [.int .i64 (c : Int)], X))
    (fun a j haj hj => by
      have hh := half2 (i := a) (j := j)
      obtain ⟨m, hmm⟩ : ∃ m, m = (a + j) / 2 := ⟨_, rfl⟩
      rw [← hmm] at hh ⊢
      have hm : m < t.nodes.length := by omega
      have hlt := cutN_iff hs i hm
      obtain ⟨x, hx⟩ : ∃ x, x = t.nodes[m] := ⟨_, rfl⟩
      rw [← hx] at hlt
      have hc := s87 (n := n) hn x i
      have hci := cmpI_lt x.ino i
      simp only [Nd] at hc
      generalize cmpI x.ino i = ci at *
      by_cases h : m < cutN t.nodes i
      · have hc' : ci < 0 := hci.2 (hlt.1 h)
        simp -implicitDefEqProofs (disch := omega) [wrap_of, ilt_t, ilt_f, ile_t, ile_f, nlt_t, nlt_f, nle_t, nle_f, ieq_t, ieq_f, imin_l, imin_r, imax_l, imax_r, take_app1, take_map_all, round_eq, b86_1, h0, h1, h2, wrap_u64, hh, hm, ← hx, a87, hc, h, hc', normH_plain _ _ X _ hX]
      · have hc' : ¬ ci < 0 := fun h' => h (hlt.2 (hci.1 h'))
        simp -implicitDefEqProofs (disch := omega) [wrap_of, ilt_t, ilt_f, ile_t, ile_f, nlt_t, nlt_f, nle_t, nle_f, ieq_t, ieq_f, imin_l, imin_r, imax_l, imax_r, take_app1, take_map_all, round_eq, b86_1, h0, h1, h2, wrap_u64, hh, hm, ← hx, a87, hc, h, hc', normH_plain _ _ X _ hX])
    (fun a ha => by simp -implicitDefEqProofs (disch := omega) [wrap_of, ilt_t, ilt_f, ile_t, ile_f, nlt_t, nlt_f, nle_t, nle_f, ieq_t, ieq_f, imin_l, imin_r, imax_l, imax_r, take_app1, take_map_all, round_eq, b86_1, h0, normH_plain _ _ X _ hX]) _ 0 t.nodes.length rfl (Nat.zero_le _) (cutP_le _ _) (Nat.le_refl _)
theorem s86 {n : Nat} (hn : 10 < n) (t : Tr.Tree) (hs : Srt t.nodes) (hl : t.nodes.length ≤ 1000) (i : Int) (X : AH) (hX : X.all plainB = true) :
    callA (C49.tab n) 86 [.lst t.fn (t.nodes.map Nd), I i, .fn (.func 87) [] []] X = some (.tup [I (cutN t.nodes i : Nat), .bool (find t.nodes i).isSome], X) := by
  rw [p86 hn, runH_eq]
  have h1 := fun e0 h0 h1 h2 => l86 (n := 10) (by decide) t hs hl i e0 h0 h1 h2 X hX
  have hf := cutN_find hs i
  simp -implicitDefEqProofs (disch := omega) [wrap_of, ilt_t, ilt_f, ile_t, ile_f, nlt_t, nlt_f, nle_t, nle_f, ieq_t, ieq_f, imin_l, imin_r, imax_l, imax_r, take_app1, take_map_all, c86, normH_plain _ _ X _ hX]
  rw [h1 _ (by simp -implicitDefEqProofs (disch := omega) [wrap_of, ilt_t, ilt_f, ile_t, ile_f, nlt_t, nlt_f, nle_t, nle_f, ieq_t, ieq_f, imin_l, imin_r, imax_l, imax_r, take_app1, take_map_all, ]) (by simp -implicitDefEqProofs (disch := omega) [wrap_of, ilt_t, ilt_f, ile_t, ile_f, nlt_t, nlt_f, nle_t, nle_f, ieq_t, ieq_f, imin_l, imin_r, imax_l, imax_r, take_app1, take_map_all, ]) (by simp -implicitDefEqProofs (disch := omega) [wrap_of, ilt_t, ilt_f, ile_t, ile_f, nlt_t, nlt_f, nle_t, nle_f, ieq_t, ieq_f, imin_l, imin_r, imax_l, imax_r, take_app1, take_map_all, ])]
  generalize cutN t.nodes i = c at *
  rcases hf with ⟨hc, hi, hf⟩ | ⟨hf, hi⟩
  · rw [hf]
    obtain ⟨x, hx⟩ : ∃ x, x = t.nodes[c] := ⟨_, rfl⟩
    have hg := s87 (n := 10) (by decide) x i
    have hci := (cmpI_eq x.ino i).2 (by rw [hx]; exact hi)
    rw [hci] at hg
    simp only [Nd] at hg
    simp -implicitDefEqProofs (disch := omega) [wrap_of, ilt_t, ilt_f, ile_t, ile_f, nlt_t, nlt_f, nle_t, nle_f, ieq_t, ieq_f, imin_l, imin_r, imax_l, imax_r, take_app1, take_map_all, hc, ← hx, a87, hg]
  · rw [hf]
    by_cases hc : c < t.nodes.length
    · obtain ⟨x, hx⟩ : ∃ x, x = t.nodes[c] := ⟨_, rfl⟩
      have hg := s87 (n := 10) (by decide) x i
      have hci : ¬ cmpI x.ino i = 0 := fun h => hi hc (by rw [← hx]; exact (cmpI_eq x.ino i).1 h)
      generalize cmpI x.ino i = ci at *
      simp only [Nd] at hg
      simp -implicitDefEqProofs (disch := omega) [wrap_of, ilt_t, ilt_f, ile_t, ile_f, nlt_t, nlt_f, nle_t, nle_f, ieq_t, ieq_f, imin_l, imin_r, imax_l, imax_r, take_app1, take_map_all, hc, ← hx, a87, hg, hci]
    · simp -implicitDefEqProofs (disch := omega) [wrap_of, ilt_t, ilt_f, ile_t, ile_f, nlt_t, nlt_f, nle_t, nle_f, ieq_t, ieq_f, imin_l, imin_r, imax_l, imax_r, take_app1, take_map_all, hc]
theorem s55 {n : Nat} (hn : 11 < n) (t : Tr.Tree) (hs : Srt t.nodes) (hl : t.nodes.length ≤ 1000) (i : Int) (X : AH) (hX : X.all plainB = true) (k : Nat) (hk : X[k]? = some (.var [.lst t.fn (t.nodes.map Nd), .int .i64 t.next, .int .i64 t.cookie])) :
    callA (C49.tab n) 55 [.ptr k 0 0 0, I i] X = some (.tup [I (cutN t.nodes i : Nat), .bool (find t.nodes i).isSome], X) := by
  rw [p55 hn, runH_eq]
  have hb := s86 (n := 11) (by decide) t hs hl i X hX
  simp -implicitDefEqProofs (disch := omega) [wrap_of, ilt_t, ilt_f, ile_t, ile_f, nlt_t, nlt_f, nle_t, nle_f, ieq_t, ieq_f, imin_l, imin_r, imax_l, imax_r, take_app1, take_map_all, c55, hk, hb]
theorem at_get {t : Tr.Tree} (hs : Srt t.nodes) (i : Int) : (∃ q, find t.nodes i = some q ∧ cutN t.nodes i < t.nodes.length ∧ t.nodes[cutN t.nodes i]? = some q) ∨ find t.nodes i = none := by
  rcases cutN_find hs i with ⟨h, _, hf⟩ | ⟨hf, _⟩
  · exact .inl ⟨_, hf, h, List.getElem?_eq_getElem h⟩
  · exact .inr hf
theorem s28 {n : Nat} (hn : 13 < n) (t : Tr.Tree) (hs : Srt t.nodes) (hl : t.nodes.length ≤ 1000) (i : Int) : (C49.tab n).p 28 [Tv t, I i] = some (getV (find t.nodes i)) := by
  rw [p28 hn, runP_eq, runH_eq]
  have hA := s55 (n := 12) (by decide) t hs hl i [.var [.int .i64 0, .int .i64 0, .int .i64 0, .lst true [], .lst true [], .int .i64 0], .var [.lst t.fn (t.nodes.map Nd), .int .i64 t.next, .int .i64 t.cookie], .var [.int .i64 0, .int .i64 0, .int .i64 0, .lst true [], .lst true [], .int .i64 0]] rfl 1 rfl
  have hb := p33 (n := 13) (by decide)
  unfold getV
  rcases at_get hs i with ⟨q, hf, hc, hq⟩ | hf
  · rw [hf] at hA ⊢
    generalize cutN t.nodes i = c at *
    have hq' : q = t.nodes[c] := by rw [List.getElem?_eq_getElem hc] at hq; exact (Option.some.inj hq).symm
    simp -implicitDefEqProofs (disch := omega) [wrap_of, ilt_t, ilt_f, ile_t, ile_f, nlt_t, nlt_f, nle_t, nle_f, ieq_t, ieq_f, imin_l, imin_r, imax_l, imax_r, take_app1, take_map_all, c28, hb, runH_eq, c33, hA, hc, ← hq']
  · rw [hf] at hA ⊢
    generalize cutN t.nodes i = c at *
    simp -implicitDefEqProofs (disch := omega) [wrap_of, ilt_t, ilt_f, ile_t, ile_f, nlt_t, nlt_f, nle_t, nle_f, ieq_t, ieq_f, imin_l, imin_r, imax_l, imax_r, take_app1, take_map_all, c28, hb, runH_eq, c33, hA, nodeZ]
end Go.Proofs.YtfdenmkoampgnaaGreat
