import Derived.Test.YtdnoopjpkcmpjaaT08GP
import Derived.Test.YtdnoopjpkcmpjaaHoG
set_option linter.unusedSimpArgs false
set_option linter.unusedVariables false
namespace Go.Proofs.Ytdnoopjpkcmpjaa
open Go.Am Go.Tr

@[simp] def Hv (x : Ho) : AV := .agg [.int .i64 x.c, .int .i64 x.h, .int .i64 x.ino]
@[simp] theorem szHv (l : List Ho) : szOk 3 (l.map Hv) = true := by simp [szOk]
theorem s57 {n : Nat} (hn : 1 < n) (x : Ho) : (C08.tab n).p 57 [Hv x] = some (.agg [I x.c, I x.h]) := by
  rw [p57 hn, runP_eq, runH_eq]
  simp -implicitDefEqProofs (disch := omega) [wrap_of, ilt_t, ilt_f, ile_t, ile_f, nlt_t, nlt_f, nle_t, nle_f, ieq_t, ieq_f, imin_l, imin_r, imax_l, imax_r, take_app1, take_map_all, c57]
theorem s38 {n : Nat} (hn : 0 < n) (c h : Int) : (C08.tab n).p 38 [.agg [I c, I h]] = some (.bool (okK c h)) := by
  rw [p38 hn, runP_eq, runH_eq]
  unfold okK
  by_cases c1 : 0 ≤ c
  · by_cases c2 : c < 16
    · by_cases c3 : 0 ≤ h
      · by_cases c4 : h < 100
        · have c5 : h ≤ 99 := by omega
          simp -implicitDefEqProofs (disch := omega) [wrap_of, ilt_t, ilt_f, ile_t, ile_f, nlt_t, nlt_f, nle_t, nle_f, ieq_t, ieq_f, imin_l, imin_r, imax_l, imax_r, take_app1, take_map_all, c38, c1, c2, c3, c4, c5]
        · have c5 : ¬ h ≤ 99 := by omega
          simp -implicitDefEqProofs (disch := omega) [wrap_of, ilt_t, ilt_f, ile_t, ile_f, nlt_t, nlt_f, nle_t, nle_f, ieq_t, ieq_f, imin_l, imin_r, imax_l, imax_r, take_app1, take_map_all, c38, c1, c2, c3, c4, c5]
      · simp -implicitDefEqProofs (disch := omega) [wrap_of, ilt_t, ilt_f, ile_t, ile_f, nlt_t, nlt_f, nle_t, nle_f, ieq_t, ieq_f, imin_l, imin_r, imax_l, imax_r, take_app1, take_map_all, c38, c1, c2, c3]
    · simp -implicitDefEqProofs (disch := omega) [wrap_of, ilt_t, ilt_f, ile_t, ile_f, nlt_t, nlt_f, nle_t, nle_f, ieq_t, ieq_f, imin_l, imin_r, imax_l, imax_r, take_app1, take_map_all, c38, c1, c2]
  · simp -implicitDefEqProofs (disch := omega) [wrap_of, ilt_t, ilt_f, ile_t, ile_f, nlt_t, nlt_f, nle_t, nle_f, ieq_t, ieq_f, imin_l, imin_r, imax_l, imax_r, take_app1, take_map_all, c38, c1]
theorem l73 {Γ : Tab} (a b : Int) (f : Bool) (e0 : Env) (h3 : e0 3 = .int .i64 0) (h6 : e0 6 = .lst f [I a, I b]) (h7 : e0 7 = .int .i64 2) :
    iter (round Γ [8] [(.exit 0, []), (.ret, [2])] c73_1 e0 0 []) ([.int .i64 0], []) = some (if a = 0 then (if b = 0 then (.exit 0, [], []) else (.ret, [I b], [])) else (.ret, [I a], [])) := by
  rw [iter_eq]
  by_cases c1 : a = 0
  · by_cases c2 : b = 0
    · subst c1; subst c2
      simp -implicitDefEqProofs (disch := omega) [wrap_of, ilt_t, ilt_f, ile_t, ile_f, nlt_t, nlt_f, nle_t, nle_f, ieq_t, ieq_f, imin_l, imin_r, imax_l, imax_r, take_app1, take_map_all, round_eq, b73_1, h3, h6, h7]
      rw [iter_eq]
      simp -implicitDefEqProofs (disch := omega) [wrap_of, ilt_t, ilt_f, ile_t, ile_f, nlt_t, nlt_f, nle_t, nle_f, ieq_t, ieq_f, imin_l, imin_r, imax_l, imax_r, take_app1, take_map_all, round_eq, b73_1, h3, h6, h7]
      rw [iter_eq]
      simp -implicitDefEqProofs (disch := omega) [wrap_of, ilt_t, ilt_f, ile_t, ile_f, nlt_t, nlt_f, nle_t, nle_f, ieq_t, ieq_f, imin_l, imin_r, imax_l, imax_r, take_app1, take_map_all, round_eq, b73_1, h3, h6, h7]
    · subst c1
      simp -implicitDefEqProofs (disch := omega) [wrap_of, ilt_t, ilt_f, ile_t, ile_f, nlt_t, nlt_f, nle_t, nle_f, ieq_t, ieq_f, imin_l, imin_r, imax_l, imax_r, take_app1, take_map_all, round_eq, b73_1, h3, h6, h7, c2]
      rw [iter_eq]
      simp -implicitDefEqProofs (disch := omega) [wrap_of, ilt_t, ilt_f, ile_t, ile_f, nlt_t, nlt_f, nle_t, nle_f, ieq_t, ieq_f, imin_l, imin_r, imax_l, imax_r, take_app1, take_map_all, round_eq, b73_1, h3, h6, h7, c2]
  · simp -implicitDefEqProofs (disch := omega) [wrap_of, ilt_t, ilt_f, ile_t, ile_f, nlt_t, nlt_f, nle_t, nle_f, ieq_t, ieq_f, imin_l, imin_r, imax_l, imax_r, take_app1, take_map_all, round_eq, b73_1, h3, h6, h7, c1]
theorem s73 {n : Nat} (hn : 2 < n) (a b : Int) (f : Bool) : (C08.tab n).p 73 [.lst f [I a, I b]] = some (I (if a ≠ 0 then a else b)) := by
  rw [p73 hn, runP_eq, runH_eq]
  have h := l73 (Γ := C08.tab 2) a b f
  simp -implicitDefEqProofs (disch := omega) [wrap_of, ilt_t, ilt_f, ile_t, ile_f, nlt_t, nlt_f, nle_t, nle_f, ieq_t, ieq_f, imin_l, imin_r, imax_l, imax_r, take_app1, take_map_all, c73]
  rw [h _ (by simp -implicitDefEqProofs (disch := omega) [wrap_of, ilt_t, ilt_f, ile_t, ile_f, nlt_t, nlt_f, nle_t, nle_f, ieq_t, ieq_f, imin_l, imin_r, imax_l, imax_r, take_app1, take_map_all, ]) (by simp -implicitDefEqProofs (disch := omega) [wrap_of, ilt_t, ilt_f, ile_t, ile_f, nlt_t, nlt_f, nle_t, nle_f, ieq_t, ieq_f, imin_l, imin_r, imax_l, imax_r, take_app1, take_map_all, ]) (by simp -implicitDefEqProofs (disch := omega) [wrap_of, ilt_t, ilt_f, ile_t, ile_f, nlt_t, nlt_f, nle_t, nle_f, ieq_t, ieq_f, imin_l, imin_r, imax_l, imax_r, take_app1, take_map_all, ])]
  by_cases c1 : a = 0
  · by_cases c2 : b = 0
    · simp -implicitDefEqProofs (disch := omega) [wrap_of, ilt_t, ilt_f, ile_t, ile_f, nlt_t, nlt_f, nle_t, nle_f, ieq_t, ieq_f, imin_l, imin_r, imax_l, imax_r, take_app1, take_map_all, c1, c2]
    · simp -implicitDefEqProofs (disch := omega) [wrap_of, ilt_t, ilt_f, ile_t, ile_f, nlt_t, nlt_f, nle_t, nle_f, ieq_t, ieq_f, imin_l, imin_r, imax_l, imax_r, take_app1, take_map_all, c1, c2]
  · simp -implicitDefEqProofs (disch := omega) [wrap_of, ilt_t, ilt_f, ile_t, ile_f, nlt_t, nlt_f, nle_t, nle_f, ieq_t, ieq_f, imin_l, imin_r, imax_l, imax_r, take_app1, take_map_all, c1]
def cmpK (c h : Int) (x : Ho) : Int := if cmpI x.c c ≠ 0 then cmpI x.c c else cmpI x.h h
theorem cmpK_lt (c h : Int) (x : Ho) : cmpK c h x < 0 ↔ lessK c h x = true := by
  unfold cmpK lessK
  rw [decide_eq_true_eq]
  by_cases h1 : x.c = c
  · rw [if_neg (by simpa using (cmpI_eq x.c c).2 h1), cmpI_lt]
    omega
  · rw [if_pos (fun h => h1 ((cmpI_eq x.c c).1 h)), cmpI_lt]
    omega
theorem cmpK_eq (c h : Int) (x : Ho) : cmpK c h x = 0 ↔ isK c h x = true := by
  unfold cmpK isK
  rw [decide_eq_true_eq]
  by_cases h1 : x.c = c
  · rw [if_neg (by simpa using (cmpI_eq x.c c).2 h1), cmpI_eq]
    omega
  · rw [if_pos (fun h => h1 ((cmpI_eq x.c c).1 h)), cmpI_eq]
    omega
theorem s41 {n : Nat} (hn : 5 < n) (c h : Int) (x : Ho) (a b : Int) : (C08.tab n).p 41 [.agg [I c, I h], Hv x, .agg [I a, I b]] = some (I (cmpK c h x)) := by
  rw [p41 hn, runP_eq, runH_eq]
  have h1 := s74 (n := 5) (by decide) x.c c
  have h2 := s74 (n := 5) (by decide) x.h h
  have h3 := fun f => s73 (n := 5) (by decide) (cmpI x.c c) (cmpI x.h h) f
  have h4 := s57 (n := 5) (by decide) x
  unfold cmpK
  generalize cmpI x.c c = u at *
  generalize cmpI x.h h = v at *
  simp only [Hv] at h4
  simp -implicitDefEqProofs (disch := omega) [wrap_of, ilt_t, ilt_f, ile_t, ile_f, nlt_t, nlt_f, nle_t, nle_f, ieq_t, ieq_f, imin_l, imin_r, imax_l, imax_r, take_app1, take_map_all, c41, a57, h4, h1, h2, h3]
theorem s46 {n : Nat} (hn : 6 < n) (c h : Int) (x : Ho) : (C08.tab n).p 46 [.agg [I c, I h], Hv x] = some (.bool (isK c h x)) := by
  rw [p46 hn, runP_eq, runH_eq]
  have h4 := s57 (n := 6) (by decide) x
  simp only [Hv] at h4
  unfold isK
  obtain ⟨x1, x2, x3⟩ := x
  simp only at h4
  by_cases c1 : x1 = c
  · subst c1
    by_cases c2 : x2 = h
    · subst c2
      simp -implicitDefEqProofs (disch := omega) [wrap_of, ilt_t, ilt_f, ile_t, ile_f, nlt_t, nlt_f, nle_t, nle_f, ieq_t, ieq_f, imin_l, imin_r, imax_l, imax_r, take_app1, take_map_all, c46, h4, cellsEq]
    · simp -implicitDefEqProofs (disch := omega) [wrap_of, ilt_t, ilt_f, ile_t, ile_f, nlt_t, nlt_f, nle_t, nle_f, ieq_t, ieq_f, imin_l, imin_r, imax_l, imax_r, take_app1, take_map_all, c46, h4, cellsEq, c2]
  · simp -implicitDefEqProofs (disch := omega) [wrap_of, ilt_t, ilt_f, ile_t, ile_f, nlt_t, nlt_f, nle_t, nle_f, ieq_t, ieq_f, imin_l, imin_r, imax_l, imax_r, take_app1, take_map_all, c46, h4, cellsEq, c1]
theorem l40 {n : Nat} (hn : 5 < n) (l : List Ho) (hs : SrtH l) (hl : l.length ≤ 1000) (f : Bool) (c h : Int) (e0 : Env) (h0 : e0 0 = .lst f (l.map Hv)) (h4 : e0 4 = .rptr [I c, I h]) (h2 : e0 2 = .fn (.func 41) [.agg [I c, I h]] []) (X : AH) (hX : X.all plainB = true) :
    iter (round (C08.tab n) [9, 10] [(.exit 0, [9])] c40_1 e0 X.length []) ([.int .i64 0, .int .i64 l.length], X) = some (.exit 0, [.int .i64 (cutP (lessK c h) l : Nat)], X) :=
  for_half (f := round (C08.tab n) [9, 10] [(.exit 0, [9])] c40_1 e0 X.length []) (fun i j => ([.int .i64 (i : Int), .int .i64 (j : Int)], X)) l.length (cutP (lessK c h) l) (cutP_le _ _) (fun c => (.exit 0, [.int .i64 (c : Int)], X))
    (fun a j haj hj => by
      have hh := half2 (i := a) (j := j)
      obtain ⟨m, hmm⟩ : ∃ m, m = (a + j) / 2 := ⟨_, rfl⟩
      rw [← hmm] at hh ⊢
      have hm : m < l.length := by omega
      have hlt := cutH_iff hs c h hm
      obtain ⟨x, hx⟩ : ∃ x, x = l[m] := ⟨_, rfl⟩
      rw [← hx] at hlt
      have hc := s41 (n := n) hn c h x c h
      have hci := cmpK_lt c h x
      simp only [Hv] at hc
      generalize cmpK c h x = ci at *
      by_cases h : m < cutP (lessK c h) l
      · have hc' : ci < 0 := hci.2 (hlt.1 h)
        simp -implicitDefEqProofs (disch := omega) [wrap_of, ilt_t, ilt_f, ile_t, ile_f, nlt_t, nlt_f, nle_t, nle_f, ieq_t, ieq_f, imin_l, imin_r, imax_l, imax_r, take_app1, take_map_all, round_eq, b40_1, h0, h4, h2, wrap_u64, hh, hm, ← hx, a41, hc, h, hc', normH_plain _ _ X _ hX]
      · have hc' : ¬ ci < 0 := fun h' => h (hlt.2 (hci.1 h'))
        simp -implicitDefEqProofs (disch := omega) [wrap_of, ilt_t, ilt_f, ile_t, ile_f, nlt_t, nlt_f, nle_t, nle_f, ieq_t, ieq_f, imin_l, imin_r, imax_l, imax_r, take_app1, take_map_all, round_eq, b40_1, h0, h4, h2, wrap_u64, hh, hm, ← hx, a41, hc, h, hc', normH_plain _ _ X _ hX])
    (fun a ha => by simp -implicitDefEqProofs (disch := omega) [wrap_of, ilt_t, ilt_f, ile_t, ile_f, nlt_t, nlt_f, nle_t, nle_f, ieq_t, ieq_f, imin_l, imin_r, imax_l, imax_r, take_app1, take_map_all, round_eq, b40_1, h0, normH_plain _ _ X _ hX]) _ 0 l.length rfl (Nat.zero_le _) (cutP_le _ _) (Nat.le_refl _)
theorem s40 {n : Nat} (hn : 17 < n) (l : List Ho) (hs : SrtH l) (hl : l.length ≤ 1000) (f : Bool) (c h : Int) (X : AH) (hX : X.all plainB = true) :
    callA (C08.tab n) 40 [.lst f (l.map Hv), .agg [I c, I h], .fn (.func 41) [.agg [I c, I h]] []] X = some (.tup [I (cutP (lessK c h) l : Nat), .bool (l.any (isK c h))], X) := by
  rw [p40 hn, runH_eq]
  have h1 := fun e0 h0 h1 h2 => l40 (n := 17) (by decide) l hs hl f c h e0 h0 h1 h2 X hX
  have hf := cutH_find hs c h
  simp -implicitDefEqProofs (disch := omega) [wrap_of, ilt_t, ilt_f, ile_t, ile_f, nlt_t, nlt_f, nle_t, nle_f, ieq_t, ieq_f, imin_l, imin_r, imax_l, imax_r, take_app1, take_map_all, c40, normH_plain _ _ X _ hX]
  rw [h1 _ (by simp -implicitDefEqProofs (disch := omega) [wrap_of, ilt_t, ilt_f, ile_t, ile_f, nlt_t, nlt_f, nle_t, nle_f, ieq_t, ieq_f, imin_l, imin_r, imax_l, imax_r, take_app1, take_map_all, ]) (by simp -implicitDefEqProofs (disch := omega) [wrap_of, ilt_t, ilt_f, ile_t, ile_f, nlt_t, nlt_f, nle_t, nle_f, ieq_t, ieq_f, imin_l, imin_r, imax_l, imax_r, take_app1, take_map_all, ]) (by simp -implicitDefEqProofs (disch := omega) [wrap_of, ilt_t, ilt_f, ile_t, ile_f, nlt_t, nlt_f, nle_t, nle_f, ieq_t, ieq_f, imin_l, imin_r, imax_l, imax_r, take_app1, take_map_all, ])]
  generalize cutP (lessK c h) l = k at *
  rcases hf with ⟨hk, hi, hf⟩ | ⟨hf, hi⟩
  · rw [hf]
    obtain ⟨x, hx⟩ : ∃ x, x = l[k] := ⟨_, rfl⟩
    have hg := s41 (n := 17) (by decide) c h x c h
    have hci := (cmpK_eq c h x).2 (by rw [hx]; exact hi)
    rw [hci] at hg
    simp only [Hv] at hg
    simp -implicitDefEqProofs (disch := omega) [wrap_of, ilt_t, ilt_f, ile_t, ile_f, nlt_t, nlt_f, nle_t, nle_f, ieq_t, ieq_f, imin_l, imin_r, imax_l, imax_r, take_app1, take_map_all, hk, ← hx, a41, hg]
  · rw [hf]
    by_cases hk : k < l.length
    · obtain ⟨x, hx⟩ : ∃ x, x = l[k] := ⟨_, rfl⟩
      have hg := s41 (n := 17) (by decide) c h x c h
      have hci : ¬ cmpK c h x = 0 := fun h' => by
        have h1 := (cmpK_eq c h x).1 h'
        have h2 := hi hk
        rw [hx] at h1
        rw [h1] at h2
        cases h2
      generalize cmpK c h x = ci at *
      simp only [Hv] at hg
      simp -implicitDefEqProofs (disch := omega) [wrap_of, ilt_t, ilt_f, ile_t, ile_f, nlt_t, nlt_f, nle_t, nle_f, ieq_t, ieq_f, imin_l, imin_r, imax_l, imax_r, take_app1, take_map_all, hk, ← hx, a41, hg, hci]
    · simp -implicitDefEqProofs (disch := omega) [wrap_of, ilt_t, ilt_f, ile_t, ile_f, nlt_t, nlt_f, nle_t, nle_f, ieq_t, ieq_f, imin_l, imin_r, imax_l, imax_r, take_app1, take_map_all, hk]
end Go.Proofs.Ytdnoopjpkcmpjaa

namespace Go.Proofs.Ytdnoopjpkcmpjaa
open Go.Am Go.Tr

def ixH (l : List Ho) (q : Ho → Bool) : Int := (l.find? q).elim (-1) fun _ => ((l.findIdx q : Nat) : Int)
theorem l45 {Γ : Tab} (l : List Ho) (hl : l.length ≤ 1000) (f : Bool) (g : FuncId) (first cap : List AV) (q : Ho → Bool) (X : AH) (hX : X.all plainB = true) (hg : ∀ x ∈ l, callA Γ g (first ++ Hv x :: cap) X = some (.bool (q x), X)) (e0 : Env) (h0 : e0 0 = .lst f (l.map Hv)) (h7 : e0 7 = .int .i64 l.length) (h1 : e0 1 = .fn (.func g) first cap) :
    iter (round Γ [8] [(.exit 0, []), (.ret, [4])] c45_1 e0 X.length []) ([.int .i64 0], X) = some ((l.find? q).elim (.exit 0, [], X) fun _ => (.ret, [.int .i64 (l.findIdx q : Nat)], X)) :=
  for_idx (f := round Γ [8] [(.exit 0, []), (.ret, [4])] c45_1 e0 X.length []) (fun i => ([.int .i64 (i : Int)], X)) l q (fun k _ => (.ret, [.int .i64 (k : Int)], X)) (.exit 0, [], X)
    (fun k hk => by
      have h := hg _ (List.getElem_mem hk)
      obtain ⟨y, hy⟩ : ∃ y, y = l[k] := ⟨_, rfl⟩
      rw [← hy] at h ⊢
      simp only [Hv] at h
      cases hq : q y with
      | true =>
        rw [hq] at h
        simp -implicitDefEqProofs (disch := omega) [wrap_of, ilt_t, ilt_f, ile_t, ile_f, nlt_t, nlt_f, nle_t, nle_f, ieq_t, ieq_f, imin_l, imin_r, imax_l, imax_r, take_app1, take_map_all, round_eq, b45_1, h0, h7, h1, hk, ← hy, h, normH_plain _ _ X _ hX]
      | false =>
        rw [hq] at h
        simp -implicitDefEqProofs (disch := omega) [wrap_of, ilt_t, ilt_f, ile_t, ile_f, nlt_t, nlt_f, nle_t, nle_f, ieq_t, ieq_f, imin_l, imin_r, imax_l, imax_r, take_app1, take_map_all, round_eq, b45_1, h0, h7, h1, hk, ← hy, h, normH_plain _ _ X _ hX])
    (by simp -implicitDefEqProofs (disch := omega) [wrap_of, ilt_t, ilt_f, ile_t, ile_f, nlt_t, nlt_f, nle_t, nle_f, ieq_t, ieq_f, imin_l, imin_r, imax_l, imax_r, take_app1, take_map_all, round_eq, b45_1, h0, h7, h1, normH_plain _ _ X _ hX])
theorem s45 {n : Nat} (hn : 9 < n) (l : List Ho) (hl : l.length ≤ 1000) (f : Bool) (g : FuncId) (first cap : List AV) (q : Ho → Bool) (X : AH) (hX : X.all plainB = true) (hg : ∀ x ∈ l, callA (C08.tab 9) g (first ++ Hv x :: cap) X = some (.bool (q x), X)) :
    callA (C08.tab n) 45 [.lst f (l.map Hv), .fn (.func g) first cap] X = some (I (ixH l q), X) := by
  rw [p45 hn, runH_eq]
  have h := l45 (Γ := C08.tab 9) l hl f g first cap q X hX hg
  unfold ixH
  simp -implicitDefEqProofs (disch := omega) [wrap_of, ilt_t, ilt_f, ile_t, ile_f, nlt_t, nlt_f, nle_t, nle_f, ieq_t, ieq_f, imin_l, imin_r, imax_l, imax_r, take_app1, take_map_all, c45, normH_plain _ _ X _ hX]
  rw [h _ (by simp -implicitDefEqProofs (disch := omega) [wrap_of, ilt_t, ilt_f, ile_t, ile_f, nlt_t, nlt_f, nle_t, nle_f, ieq_t, ieq_f, imin_l, imin_r, imax_l, imax_r, take_app1, take_map_all, ]) (by simp -implicitDefEqProofs (disch := omega) [wrap_of, ilt_t, ilt_f, ile_t, ile_f, nlt_t, nlt_f, nle_t, nle_f, ieq_t, ieq_f, imin_l, imin_r, imax_l, imax_r, take_app1, take_map_all, ]) (by simp -implicitDefEqProofs (disch := omega) [wrap_of, ilt_t, ilt_f, ile_t, ile_f, nlt_t, nlt_f, nle_t, nle_f, ieq_t, ieq_f, imin_l, imin_r, imax_l, imax_r, take_app1, take_map_all, ])]
  cases l.find? q with
  | none => simp -implicitDefEqProofs (disch := omega) [wrap_of, ilt_t, ilt_f, ile_t, ile_f, nlt_t, nlt_f, nle_t, nle_f, ieq_t, ieq_f, imin_l, imin_r, imax_l, imax_r, take_app1, take_map_all, ]
  | some y => simp -implicitDefEqProofs (disch := omega) [wrap_of, ilt_t, ilt_f, ile_t, ile_f, nlt_t, nlt_f, nle_t, nle_f, ieq_t, ieq_f, imin_l, imin_r, imax_l, imax_r, take_app1, take_map_all, ]
theorem s77 {n : Nat} (hn : 10 < n) (l : List Ho) (hl : l.length ≤ 1000) (f : Bool) (g : FuncId) (first cap : List AV) (q : Ho → Bool) (X : AH) (hX : X.all plainB = true) (hg : ∀ x ∈ l, callA (C08.tab 9) g (first ++ Hv x :: cap) X = some (.bool (q x), X)) :
    callA (C08.tab n) 77 [.lst f (l.map Hv), .fn (.func g) first cap] X = some (.bool (l.any q), X) := by
  rw [p77 hn, runH_eq]
  have h := s45 (n := 10) (by decide) l hl f g first cap q X hX hg
  unfold ixH at h
  cases hf : l.find? q with
  | none =>
    rw [hf] at h
    have ha : l.any q = false := by
      rw [← Bool.not_eq_true, List.any_eq_true]
      rintro ⟨x, hx, hq⟩
      exact (List.find?_eq_none.1 hf x hx) hq
    simp -implicitDefEqProofs (disch := omega) [wrap_of, ilt_t, ilt_f, ile_t, ile_f, nlt_t, nlt_f, nle_t, nle_f, ieq_t, ieq_f, imin_l, imin_r, imax_l, imax_r, take_app1, take_map_all, c77, h, ha]
  | some y =>
    rw [hf] at h
    have ha : l.any q = true := List.any_eq_true.2 ⟨y, List.mem_of_find?_eq_some hf, List.find?_some hf⟩
    simp -implicitDefEqProofs (disch := omega) [wrap_of, ilt_t, ilt_f, ile_t, ile_f, nlt_t, nlt_f, nle_t, nle_f, ieq_t, ieq_f, imin_l, imin_r, imax_l, imax_r, take_app1, take_map_all, c77, h, ha]
theorem s78 {n : Nat} (hn : 7 < n) (x : Ho) (i : Int) (X : AH) (k : Nat) (hk : X[k]? = some (.var [I i])) : callA (C08.tab n) 78 [Hv x, .ptr k 0 0 0] X = some (.bool (decide (x.ino = i)), X) := by
  rw [p78 hn, runH_eq]
  simp -implicitDefEqProofs (disch := omega) [wrap_of, ilt_t, ilt_f, ile_t, ile_f, nlt_t, nlt_f, nle_t, nle_f, ieq_t, ieq_f, imin_l, imin_r, imax_l, imax_r, take_app1, take_map_all, c78, hk]
theorem s48 {n : Nat} (hn : 11 < n) (l : List Ho) (hl : l.length ≤ 1000) (f : Bool) (i : Int) : (C08.tab n).p 48 [.lst f (l.map Hv), I i] = some (.bool (hld l i)) := by
  rw [p48 hn, runP_eq, runH_eq]
  have h := s77 (n := 11) (by decide) l hl f 78 [] [.ptr 0 0 0 0] (fun x => decide (x.ino = i)) [.var [I i]] rfl (fun x _ => s78 (n := 9) (by decide) x i _ 0 rfl)
  unfold hld
  simp -implicitDefEqProofs (disch := omega) [wrap_of, ilt_t, ilt_f, ile_t, ile_f, nlt_t, nlt_f, nle_t, nle_f, ieq_t, ieq_f, imin_l, imin_r, imax_l, imax_r, take_app1, take_map_all, c48, h]
theorem s42 {n : Nat} (hn : 18 < n) (q : Tr.Node) : (C08.tab n).p 42 [Nd q] = some (.bool (orph q)) := by
  rw [p42 hn, runP_eq, runH_eq]
  unfold orph
  by_cases c1 : q.kind = 1
  · by_cases c2 : q.links = 0
    · simp -implicitDefEqProofs (disch := omega) [wrap_of, ilt_t, ilt_f, ile_t, ile_f, nlt_t, nlt_f, nle_t, nle_f, ieq_t, ieq_f, imin_l, imin_r, imax_l, imax_r, take_app1, take_map_all, c42, c1, c2]
    · simp -implicitDefEqProofs (disch := omega) [wrap_of, ilt_t, ilt_f, ile_t, ile_f, nlt_t, nlt_f, nle_t, nle_f, ieq_t, ieq_f, imin_l, imin_r, imax_l, imax_r, take_app1, take_map_all, c42, c1, c2]
  · simp -implicitDefEqProofs (disch := omega) [wrap_of, ilt_t, ilt_f, ile_t, ile_f, nlt_t, nlt_f, nle_t, nle_f, ieq_t, ieq_f, imin_l, imin_r, imax_l, imax_r, take_app1, take_map_all, c42, c1]
theorem s45k {n : Nat} (hn : 9 < n) (l : List Ho) (hl : l.length ≤ 1000) (f : Bool) (c h : Int) (X : AH) (hX : X.all plainB = true) :
    callA (C08.tab n) 45 [.lst f (l.map Hv), .fn (.func 46) [.agg [I c, I h]] []] X = some (I (ixH l (isK c h)), X) :=
  s45 hn l hl f 46 [.agg [I c, I h]] [] (isK c h) X hX (fun x _ => by
    have h4 := s46 (n := 9) (by decide) c h x
    simp only [Hv] at h4
    simp -implicitDefEqProofs (disch := omega) [wrap_of, ilt_t, ilt_f, ile_t, ile_f, nlt_t, nlt_f, nle_t, nle_f, ieq_t, ieq_f, imin_l, imin_r, imax_l, imax_r, take_app1, take_map_all, a46, h4])
theorem ixH_some {l : List Ho} {q : Ho → Bool} {y : Ho} (hf : l.find? q = some y) : ∃ k : Nat, ixH l q = k ∧ l.findIdx q = k ∧ k < l.length ∧ l[k]? = some y := by
  have hlt : l.findIdx q < l.length := List.findIdx_lt_length_of_exists ⟨y, List.mem_of_find?_eq_some hf, List.find?_some hf⟩
  refine ⟨l.findIdx q, by unfold ixH; rw [hf]; rfl, rfl, hlt, ?_⟩
  rw [getElem?_findIdx]
  exact hf
theorem s17 {n : Nat} (hn : 23 < n) (l : List Ho) (hl : l.length ≤ 1000) (f : Bool) (c h : Int) : (C08.tab n).p 17 [.lst f (l.map Hv), I c, I h] = some (.tup [I (inoP l c h).1, I (inoP l c h).2]) := by
  rw [p17 hn, runP_eq, runH_eq]
  have hi := s45k (n := 23) (by decide) l hl f c h [] rfl
  unfold inoP
  cases hf : l.find? (isK c h) with
  | none =>
    have e : ixH l (isK c h) = -1 := by unfold ixH; rw [hf]; rfl
    rw [e] at hi
    simp -implicitDefEqProofs (disch := omega) [wrap_of, ilt_t, ilt_f, ile_t, ile_f, nlt_t, nlt_f, nle_t, nle_f, ieq_t, ieq_f, imin_l, imin_r, imax_l, imax_r, take_app1, take_map_all, c17, hi]
  | some y =>
    obtain ⟨k, e, _, hk, hy⟩ := ixH_some hf
    have hy' : y = l[k] := by rw [List.getElem?_eq_getElem hk] at hy; exact (Option.some.inj hy).symm
    rw [e] at hi
    simp -implicitDefEqProofs (disch := omega) [wrap_of, ilt_t, ilt_f, ile_t, ile_f, nlt_t, nlt_f, nle_t, nle_f, ieq_t, ieq_f, imin_l, imin_r, imax_l, imax_r, take_app1, take_map_all, c17, hi, hk, ← hy']
theorem s13 {n : Nat} (hn : 21 < n) (t : Tr.Tree) (ht : Srt t.nodes) (htl : t.nodes.length ≤ 1000) (l : List Ho) (hs : SrtH l) (hl : l.length ≤ 1000) (f : Bool) (c h i : Int) :
    (C08.tab n).p 13 [Tv t, .lst f (l.map Hv), I c, I h, I i] = some (.tup [.lst (f && !decide ((openP t l c h i).2 = 0)) ((openP t l c h i).1.map Hv), I (openP t l c h i).2]) := by
  rw [p13 hn, runP_eq, runH_eq]
  have h38 := s38 (n := 21) (by decide) c h
  have h39 := s39 (n := 21) (by decide) t ht htl i
  have h44 := p44 (n := 21) (by decide)
  have h43 := p43 (n := 21) (by decide)
  have hcl := cutP_le (lessK c h) l
  unfold openP
  cases hk : okK c h with
  | false =>
    rw [hk] at h38
    simp -implicitDefEqProofs (disch := omega) [wrap_of, ilt_t, ilt_f, ile_t, ile_f, nlt_t, nlt_f, nle_t, nle_f, ieq_t, ieq_f, imin_l, imin_r, imax_l, imax_r, take_app1, take_map_all, c13, a38, h38]
  | true =>
    rw [hk] at h38
    unfold getV at h39
    have h40 := fun X hX => s40 (n := 21) (by decide) l hs hl f c h X hX
    generalize l.any (isK c h) = u at *
    cases hf : find t.nodes i with
    | none =>
      have h40' := h40 [.var [I c, I h], .var [.int .i64 0, .int .i64 0, .int .i64 0, .lst true [], .lst true [], .int .i64 0]] rfl
      rw [hf] at h39
      simp only [Option.elim_none, Tv, Nd, nodeZ, List.map_nil] at h39
      generalize cutP (lessK c h) l = k at *
      simp -implicitDefEqProofs (disch := omega) [wrap_of, ilt_t, ilt_f, ile_t, ile_f, nlt_t, nlt_f, nle_t, nle_f, ieq_t, ieq_f, imin_l, imin_r, imax_l, imax_r, take_app1, take_map_all, c13, a38, h38, a39, h39, h40']
    | some q =>
      have h40' := h40 [.var [I c, I h], .var [.int .i64 q.ino, .int .i64 q.kind, .int .i64 q.links, .lst q.fd (q.data.map B), .lst q.fe (q.ents.map En), .int .i64 q.up]] rfl
      have h42 := s42 (n := 21) (by decide) q
      rw [hf] at h39
      simp only [Option.elim_some, Tv, Nd] at h39 h42
      show _ = some (AV.tup [.lst (f && !decide ((if orph q = true then (l, (70 : Int)) else if q.kind = 2 then (l, 72) else if u = true then (l, 71) else if 64 ≤ l.length then (l, 76) else (insH l ⟨c, h, i⟩, 0)).2 = 0)) ((if orph q = true then (l, (70 : Int)) else if q.kind = 2 then (l, 72) else if u = true then (l, 71) else if 64 ≤ l.length then (l, 76) else (insH l ⟨c, h, i⟩, 0)).1.map Hv), I (if orph q = true then (l, (70 : Int)) else if q.kind = 2 then (l, 72) else if u = true then (l, 71) else if 64 ≤ l.length then (l, 76) else (insH l ⟨c, h, i⟩, 0)).2])
      generalize orph q = o at *
      cases o with
      | true =>
        generalize cutP (lessK c h) l = k at *
        simp -implicitDefEqProofs (disch := omega) [wrap_of, ilt_t, ilt_f, ile_t, ile_f, nlt_t, nlt_f, nle_t, nle_f, ieq_t, ieq_f, imin_l, imin_r, imax_l, imax_r, take_app1, take_map_all, c13, a38, h38, a39, h39, h40', a42, h42]
      | false =>
        by_cases c1 : q.kind = 2
        · rw [c1] at h39 h40' h42
          generalize cutP (lessK c h) l = k at *
          simp -implicitDefEqProofs (disch := omega) [wrap_of, ilt_t, ilt_f, ile_t, ile_f, nlt_t, nlt_f, nle_t, nle_f, ieq_t, ieq_f, imin_l, imin_r, imax_l, imax_r, take_app1, take_map_all, c13, a38, h38, a39, h39, h40', a42, h42, c1]
        · cases u with
          | true =>
            generalize cutP (lessK c h) l = k at *
            simp -implicitDefEqProofs (disch := omega) [wrap_of, ilt_t, ilt_f, ile_t, ile_f, nlt_t, nlt_f, nle_t, nle_f, ieq_t, ieq_f, imin_l, imin_r, imax_l, imax_r, take_app1, take_map_all, c13, a38, h38, a39, h39, h40', a42, h42, c1]
          | false =>
            by_cases c2 : 64 ≤ l.length
            · generalize cutP (lessK c h) l = k at *
              simp -implicitDefEqProofs (disch := omega) [wrap_of, ilt_t, ilt_f, ile_t, ile_f, nlt_t, nlt_f, nle_t, nle_f, ieq_t, ieq_f, imin_l, imin_r, imax_l, imax_r, take_app1, take_map_all, c13, a38, h38, a39, h39, h40', a42, h42, c1, c2]
            · unfold insH
              simp only
              generalize cutP (lessK c h) l = k at *
              simp -implicitDefEqProofs (disch := omega) [wrap_of, ilt_t, ilt_f, ile_t, ile_f, nlt_t, nlt_f, nle_t, nle_f, ieq_t, ieq_f, imin_l, imin_r, imax_l, imax_r, take_app1, take_map_all, c13, a38, h38, a39, h39, h40', a42, h42, c1, c2, h44, h43, cloneH, insertH, hcl]
              rw [List.take_of_length_le (by simp; omega)]
end Go.Proofs.Ytdnoopjpkcmpjaa

namespace Go.Proofs.Ytdnoopjpkcmpjaa
open Go.Am Go.Tr

theorem remH_map (l : List Ho) (c h : Int) (k : Nat) (hk : l.findIdx (isK c h) = k) : (remH l c h).map Hv = (l.map Hv).take k ++ (l.map Hv).drop (k + 1) := by
  unfold remH
  rw [hk]
  simp
theorem take_rem (l : List Ho) {k : Nat} (hk : k < l.length) : ((l.map Hv).take k ++ (l.map Hv).drop (k + 1)).take (k + (l.length - (k + 1))) = (l.map Hv).take k ++ (l.map Hv).drop (k + 1) := by
  rw [List.take_of_length_le]
  simp
  omega
theorem s18 {n : Nat} (hn : 29 < n) (t : Tr.Tree) (ht : Srt t.nodes) (htl : t.nodes.length ≤ 1000) (l : List Ho) (hl : l.length ≤ 1000) (f : Bool) (c h : Int) :
    (C08.tab n).p 18 [Tv t, .lst f (l.map Hv), I c, I h] = some (.tup [Tv (closeP t l c h).1, .lst (f && !decide ((closeP t l c h).2.2 = 0)) ((closeP t l c h).2.1.map Hv), I (closeP t l c h).2.2]) := by
  rw [p18 hn, runP_eq, runH_eq]
  have hi := s45k (n := 29) (by decide) l hl f c h [.var [.lst t.fn (t.nodes.map Nd), .int .i64 t.next, .int .i64 t.cookie], .var [.lst true [], .int .i64 0, .int .i64 0]] rfl
  have h44 := p44 (n := 29) (by decide)
  have h47 := p47 (n := 29) (by decide)
  unfold closeP
  cases hf : l.find? (isK c h) with
  | none =>
    have e : ixH l (isK c h) = -1 := by unfold ixH; rw [hf]; rfl
    rw [e] at hi
    simp -implicitDefEqProofs (disch := omega) [wrap_of, ilt_t, ilt_f, ile_t, ile_f, nlt_t, nlt_f, nle_t, nle_f, ieq_t, ieq_f, imin_l, imin_r, imax_l, imax_r, take_app1, take_map_all, c18, hi]
  | some y =>
    obtain ⟨k, e, ek, hk, hy⟩ := ixH_some hf
    have hy' : y = l[k] := by rw [List.getElem?_eq_getElem hk] at hy; exact (Option.some.inj hy).symm
    have hrm := remH_map l c h k ek
    have htk := take_rem l hk
    have hrl : (remH l c h).length ≤ 1000 := by
      have := congrArg List.length hrm
      simp at this
      omega
    rw [e] at hi
    have h39 := s39 (n := 29) (by decide) t ht htl y.ino
    have h48 := s48 (n := 29) (by decide) (remH l c h) hrl false y.ino
    have h49 := s49 (n := 29) (by decide) t ht htl y.ino
    rw [hrm] at h48
    show _ = some (AV.tup [Tv (if isO t y.ino = true ∧ hld (remH l c h) y.ino = false then (free t y.ino).1 else t), .lst (f && !decide ((0 : Int) = 0)) ((remH l c h).map Hv), I 0])
    rw [hrm]
    generalize hld (remH l c h) y.ino = hb at *
    clear hrm hrl
    have hio : isO t y.ino = (find t.nodes y.ino).elim false orph := rfl
    generalize isO t y.ino = o at *
    unfold getV at h39
    cases hq : find t.nodes y.ino with
    | none =>
      rw [hq] at h39 hio
      have hio : o = false := hio
      subst hio
      simp only [Option.elim_none, Tv, Nd, nodeZ, List.map_nil] at h39
      simp -implicitDefEqProofs (disch := omega) [wrap_of, ilt_t, ilt_f, ile_t, ile_f, nlt_t, nlt_f, nle_t, nle_f, ieq_t, ieq_f, imin_l, imin_r, imax_l, imax_r, take_app1, take_map_all, c18, hi, hk, ← hy', h44, h47, cloneH, deleteH, htk, a39, h39]
    | some q =>
      have h42 := s42 (n := 29) (by decide) q
      rw [hq] at h39 hio
      have hio : o = orph q := hio
      rw [← hio] at h42
      clear hio
      simp only [Option.elim_some, Tv, Nd] at h39 h42 h49 ⊢
      cases o with
      | false => simp -implicitDefEqProofs (disch := omega) [wrap_of, ilt_t, ilt_f, ile_t, ile_f, nlt_t, nlt_f, nle_t, nle_f, ieq_t, ieq_f, imin_l, imin_r, imax_l, imax_r, take_app1, take_map_all, c18, hi, hk, ← hy', h44, h47, cloneH, deleteH, htk, a39, h39, a42, h42]
      | true =>
        cases hb with
        | true => simp -implicitDefEqProofs (disch := omega) [wrap_of, ilt_t, ilt_f, ile_t, ile_f, nlt_t, nlt_f, nle_t, nle_f, ieq_t, ieq_f, imin_l, imin_r, imax_l, imax_r, take_app1, take_map_all, c18, hi, hk, ← hy', h44, h47, cloneH, deleteH, htk, a39, h39, a42, h42, a48, h48]
        | false => simp -implicitDefEqProofs (disch := omega) [wrap_of, ilt_t, ilt_f, ile_t, ile_f, nlt_t, nlt_f, nle_t, nle_f, ieq_t, ieq_f, imin_l, imin_r, imax_l, imax_r, take_app1, take_map_all, c18, hi, hk, ← hy', h44, h47, cloneH, deleteH, htk, a39, h39, a42, h42, a48, h48, a49, h49]
theorem l56 {Γ : Tab} (l : List Ho) (hl : l.length ≤ 1000) (f : Bool) (c h : Int) (e0 : Env) (h0 : e0 0 = .lst f (l.map Hv)) (h1 : e0 1 = I c) (h2 : e0 2 = I h) :
    iter (round Γ [7] [(.exit 0, []), (.ret, [6])] c56_1 e0 0 []) ([.int .i64 0], []) = some ((l.find? (isK c h)).elim (.exit 0, [], []) fun _ => (.ret, [.int .i64 (l.findIdx (isK c h) : Nat)], [])) :=
  for_idx (f := round Γ [7] [(.exit 0, []), (.ret, [6])] c56_1 e0 0 []) (fun i => ([.int .i64 (i : Int)], [])) l (isK c h) (fun k _ => (.ret, [.int .i64 (k : Int)], [])) (.exit 0, [], [])
    (fun k hk => by
      obtain ⟨y, hy⟩ : ∃ y, y = l[k] := ⟨_, rfl⟩
      rw [← hy]
      unfold isK
      by_cases c1 : y.c = c
      · by_cases c2 : y.h = h
        · simp -implicitDefEqProofs (disch := omega) [wrap_of, ilt_t, ilt_f, ile_t, ile_f, nlt_t, nlt_f, nle_t, nle_f, ieq_t, ieq_f, imin_l, imin_r, imax_l, imax_r, take_app1, take_map_all, round_eq, b56_1, h0, h1, h2, hk, ← hy, c1, c2]
        · simp -implicitDefEqProofs (disch := omega) [wrap_of, ilt_t, ilt_f, ile_t, ile_f, nlt_t, nlt_f, nle_t, nle_f, ieq_t, ieq_f, imin_l, imin_r, imax_l, imax_r, take_app1, take_map_all, round_eq, b56_1, h0, h1, h2, hk, ← hy, c1, c2]
      · simp -implicitDefEqProofs (disch := omega) [wrap_of, ilt_t, ilt_f, ile_t, ile_f, nlt_t, nlt_f, nle_t, nle_f, ieq_t, ieq_f, imin_l, imin_r, imax_l, imax_r, take_app1, take_map_all, round_eq, b56_1, h0, h1, h2, hk, ← hy, c1])
    (by simp -implicitDefEqProofs (disch := omega) [wrap_of, ilt_t, ilt_f, ile_t, ile_f, nlt_t, nlt_f, nle_t, nle_f, ieq_t, ieq_f, imin_l, imin_r, imax_l, imax_r, take_app1, take_map_all, round_eq, b56_1, h0])
theorem s56 {n : Nat} (hn : 72 < n) (l : List Ho) (hl : l.length ≤ 1000) (f : Bool) (c h : Int) : (C08.tab n).p 56 [.lst f (l.map Hv), I c, I h] = some (I (ixH l (isK c h))) := by
  rw [p56 hn, runP_eq, runH_eq]
  have h1 := l56 (Γ := C08.tab 72) l hl f c h
  unfold ixH
  simp -implicitDefEqProofs (disch := omega) [wrap_of, ilt_t, ilt_f, ile_t, ile_f, nlt_t, nlt_f, nle_t, nle_f, ieq_t, ieq_f, imin_l, imin_r, imax_l, imax_r, take_app1, take_map_all, c56]
  rw [h1 _ (by simp -implicitDefEqProofs (disch := omega) [wrap_of, ilt_t, ilt_f, ile_t, ile_f, nlt_t, nlt_f, nle_t, nle_f, ieq_t, ieq_f, imin_l, imin_r, imax_l, imax_r, take_app1, take_map_all, ]) (by simp -implicitDefEqProofs (disch := omega) [wrap_of, ilt_t, ilt_f, ile_t, ile_f, nlt_t, nlt_f, nle_t, nle_f, ieq_t, ieq_f, imin_l, imin_r, imax_l, imax_r, take_app1, take_map_all, ]) (by simp -implicitDefEqProofs (disch := omega) [wrap_of, ilt_t, ilt_f, ile_t, ile_f, nlt_t, nlt_f, nle_t, nle_f, ieq_t, ieq_f, imin_l, imin_r, imax_l, imax_r, take_app1, take_map_all, ])]
  cases l.find? (isK c h) with
  | none => simp -implicitDefEqProofs (disch := omega) [wrap_of, ilt_t, ilt_f, ile_t, ile_f, nlt_t, nlt_f, nle_t, nle_f, ieq_t, ieq_f, imin_l, imin_r, imax_l, imax_r, take_app1, take_map_all, ]
  | some y => simp -implicitDefEqProofs (disch := omega) [wrap_of, ilt_t, ilt_f, ile_t, ile_f, nlt_t, nlt_f, nle_t, nle_f, ieq_t, ieq_f, imin_l, imin_r, imax_l, imax_r, take_app1, take_map_all, ]
def cntH (l : List Ho) (i : Int) : Nat := (l.filter fun x => decide (x.ino = i)).length
theorem cntH_hld (l : List Ho) (i : Int) : ((cntH l i : Nat) : Int) = 0 ↔ hld l i = false := by
  unfold cntH hld
  rw [← Bool.not_eq_true, List.any_eq_true]
  constructor
  · rintro h ⟨x, hx, hi⟩
    have h0 : (l.filter fun x => decide (x.ino = i)).length = 0 := by omega
    have := List.mem_filter (p := fun x : Ho => decide (x.ino = i)) |>.2 ⟨hx, hi⟩
    rw [List.length_eq_zero_iff] at h0
    rw [h0] at this
    cases this
  · intro h
    have : (l.filter fun x => decide (x.ino = i)) = [] := by
      rw [List.filter_eq_nil_iff]
      exact fun x hx hi => h ⟨x, hx, hi⟩
    rw [this]
    rfl
theorem l30 {Γ : Tab} (l : List Ho) (hl : l.length ≤ 1000) (f : Bool) (i : Int) (e0 : Env) (h0 : e0 0 = .lst f (l.map Hv)) (h1 : e0 1 = I i) :
    iter (round Γ [5, 6] [(.exit 0, [5])] c30_1 e0 0 []) ([.int .i64 0, .int .i64 0], []) = some (.exit 0, [.int .i64 (cntH l i : Nat)], []) := by
  have := for_list (f := round Γ [5, 6] [(.exit 0, [5])] c30_1 e0 0 []) (fun k (m : Nat) => ([.int .i64 (m : Int), .int .i64 (k : Int)], [])) l (fun m x => if x.ino = i then m + 1 else m) (fun m => (.exit 0, [.int .i64 (m : Int)], [])) (fun k m => m ≤ k)
    (fun k hk m hm => by
      obtain ⟨y, hy⟩ : ∃ y, y = l[k] := ⟨_, rfl⟩
      rw [← hy]
      by_cases c1 : y.ino = i
      · refine ⟨by simp [c1]; omega, ?_⟩
        simp -implicitDefEqProofs (disch := omega) [wrap_of, ilt_t, ilt_f, ile_t, ile_f, nlt_t, nlt_f, nle_t, nle_f, ieq_t, ieq_f, imin_l, imin_r, imax_l, imax_r, take_app1, take_map_all, round_eq, b30_1, h0, h1, hk, ← hy, c1]
      · refine ⟨by simp [c1]; omega, ?_⟩
        simp -implicitDefEqProofs (disch := omega) [wrap_of, ilt_t, ilt_f, ile_t, ile_f, nlt_t, nlt_f, nle_t, nle_f, ieq_t, ieq_f, imin_l, imin_r, imax_l, imax_r, take_app1, take_map_all, round_eq, b30_1, h0, h1, hk, ← hy, c1])
    (fun m hm => by simp -implicitDefEqProofs (disch := omega) [wrap_of, ilt_t, ilt_f, ile_t, ile_f, nlt_t, nlt_f, nle_t, nle_f, ieq_t, ieq_f, imin_l, imin_r, imax_l, imax_r, take_app1, take_map_all, round_eq, b30_1, h0]) 0 (Nat.le_refl _)
  have key : ∀ (l : List Ho) (m : Nat), l.foldl (fun m x => if x.ino = i then m + 1 else m) m = m + cntH l i := by
    intro l
    induction l with
    | nil => intro m; rfl
    | cons x l ih =>
      intro m
      rw [List.foldl_cons, ih]
      unfold cntH
      rw [List.filter_cons]
      by_cases c1 : x.ino = i
      · simp [c1]; omega
      · simp [c1]
  rw [key, Nat.zero_add] at this
  simpa using this
theorem s30 {n : Nat} (hn : 55 < n) (l : List Ho) (hl : l.length ≤ 1000) (f : Bool) (i : Int) : (C08.tab n).p 30 [.lst f (l.map Hv), I i] = some (I (cntH l i : Nat)) := by
  rw [p30 hn, runP_eq, runH_eq]
  have h := l30 (Γ := C08.tab 55) l hl f i
  simp -implicitDefEqProofs (disch := omega) [wrap_of, ilt_t, ilt_f, ile_t, ile_f, nlt_t, nlt_f, nle_t, nle_f, ieq_t, ieq_f, imin_l, imin_r, imax_l, imax_r, take_app1, take_map_all, c30]
  rw [h _ (by simp -implicitDefEqProofs (disch := omega) [wrap_of, ilt_t, ilt_f, ile_t, ile_f, nlt_t, nlt_f, nle_t, nle_f, ieq_t, ieq_f, imin_l, imin_r, imax_l, imax_r, take_app1, take_map_all, ]) (by simp -implicitDefEqProofs (disch := omega) [wrap_of, ilt_t, ilt_f, ile_t, ile_f, nlt_t, nlt_f, nle_t, nle_f, ieq_t, ieq_f, imin_l, imin_r, imax_l, imax_r, take_app1, take_map_all, ])]
  simp -implicitDefEqProofs (disch := omega) [wrap_of, ilt_t, ilt_f, ile_t, ile_f, nlt_t, nlt_f, nle_t, nle_f, ieq_t, ieq_f, imin_l, imin_r, imax_l, imax_r, take_app1, take_map_all, ]
theorem s82 {n : Nat} (hn : 73 < n) (t : Tr.Tree) (hb : Bt t) (i : Int) : (C08.tab n).p 82 [Tv t, I i] = some (.bool (isO t i)) := by
  rw [p82 hn, runP_eq, runH_eq]
  have hG := s29 (n := 73) (by decide) t hb i
  unfold isO orph
  unfold getV at hG
  cases hf : find t.nodes i with
  | none =>
    rw [hf] at hG
    simp only [Option.elim_none, Tv, Nd] at hG
    simp -implicitDefEqProofs (disch := omega) [wrap_of, ilt_t, ilt_f, ile_t, ile_f, nlt_t, nlt_f, nle_t, nle_f, ieq_t, ieq_f, imin_l, imin_r, imax_l, imax_r, take_app1, take_map_all, c82, a29, hG]
  | some q =>
    rw [hf] at hG
    simp only [Option.elim_some, Tv, Nd] at hG
    by_cases c1 : q.kind = 1
    · by_cases c2 : q.links = 0
      · simp -implicitDefEqProofs (disch := omega) [wrap_of, ilt_t, ilt_f, ile_t, ile_f, nlt_t, nlt_f, nle_t, nle_f, ieq_t, ieq_f, imin_l, imin_r, imax_l, imax_r, take_app1, take_map_all, c82, a29, hG, c1, c2]
      · simp -implicitDefEqProofs (disch := omega) [wrap_of, ilt_t, ilt_f, ile_t, ile_f, nlt_t, nlt_f, nle_t, nle_f, ieq_t, ieq_f, imin_l, imin_r, imax_l, imax_r, take_app1, take_map_all, c82, a29, hG, c1, c2]
    · simp -implicitDefEqProofs (disch := omega) [wrap_of, ilt_t, ilt_f, ile_t, ile_f, nlt_t, nlt_f, nle_t, nle_f, ieq_t, ieq_f, imin_l, imin_r, imax_l, imax_r, take_app1, take_map_all, c82, a29, hG, c1]
end Go.Proofs.Ytdnoopjpkcmpjaa

namespace Go.Proofs.Ytdnoopjpkcmpjaa
open Go.Am Go.Tr

theorem l55 {Γ : Tab} (l : List Ho) (hl : l.length ≤ 1000) (f : Bool) (c h : Int) (z : Tr.Node) (e0 : Env) (h1 : e0 1 = .lst f (l.map Hv)) (h2 : e0 2 = I c) (h3 : e0 3 = I h) (X : AH) (hX : X.all plainB = true) (L : Nat) (hL : X.length = L) :
    iter (round Γ [14] [(.exit 0, [14])] c55_1 e0 L []) ([.int .i64 0], X) = some (.exit 0, [.int .i64 (cutP (lessK c h) l : Nat)], X) := by
  subst hL
  exact for_upto (f := round Γ [14] [(.exit 0, [14])] c55_1 e0 X.length []) (fun i => ([.int .i64 (i : Int)], X)) l (fun x => !lessK c h x) (fun k => (.exit 0, [.int .i64 (k : Int)], X))
    (fun k hk => by
      obtain ⟨y, hy⟩ : ∃ y, y = l[k] := ⟨_, rfl⟩
      rw [← hy]
      unfold lessK
      by_cases c1 : y.c < c
      · simp -implicitDefEqProofs (disch := omega) [wrap_of, ilt_t, ilt_f, ile_t, ile_f, nlt_t, nlt_f, nle_t, nle_f, ieq_t, ieq_f, imin_l, imin_r, imax_l, imax_r, take_app1, take_map_all, round_eq, b55_1, h1, h2, h3, hk, ← hy, c1, normH_plain _ _ X _ hX]
      · by_cases c2 : y.c = c
        · by_cases c3 : y.h < h
          · simp -implicitDefEqProofs (disch := omega) [wrap_of, ilt_t, ilt_f, ile_t, ile_f, nlt_t, nlt_f, nle_t, nle_f, ieq_t, ieq_f, imin_l, imin_r, imax_l, imax_r, take_app1, take_map_all, round_eq, b55_1, h1, h2, h3, hk, ← hy, c1, c2, c3, normH_plain _ _ X _ hX]
          · simp -implicitDefEqProofs (disch := omega) [wrap_of, ilt_t, ilt_f, ile_t, ile_f, nlt_t, nlt_f, nle_t, nle_f, ieq_t, ieq_f, imin_l, imin_r, imax_l, imax_r, take_app1, take_map_all, round_eq, b55_1, h1, h2, h3, hk, ← hy, c1, c2, c3, normH_plain _ _ X _ hX]
        · simp -implicitDefEqProofs (disch := omega) [wrap_of, ilt_t, ilt_f, ile_t, ile_f, nlt_t, nlt_f, nle_t, nle_f, ieq_t, ieq_f, imin_l, imin_r, imax_l, imax_r, take_app1, take_map_all, round_eq, b55_1, h1, h2, h3, hk, ← hy, c1, c2, normH_plain _ _ X _ hX])
    (by simp -implicitDefEqProofs (disch := omega) [wrap_of, ilt_t, ilt_f, ile_t, ile_f, nlt_t, nlt_f, nle_t, nle_f, ieq_t, ieq_f, imin_l, imin_r, imax_l, imax_r, take_app1, take_map_all, round_eq, b55_1, h1, normH_plain _ _ X _ hX])
theorem ixH_any (l : List Ho) (q : Ho → Bool) : 0 ≤ ixH l q ↔ l.any q = true := by
  unfold ixH
  cases hf : l.find? q with
  | none =>
    have ha : l.any q = false := by
      rw [← Bool.not_eq_true, List.any_eq_true]
      rintro ⟨x, hx, hq⟩
      exact (List.find?_eq_none.1 hf x hx) hq
    rw [ha]
    simp
  | some y =>
    have ha : l.any q = true := List.any_eq_true.2 ⟨y, List.mem_of_find?_eq_some hf, List.find?_some hf⟩
    rw [ha]
    simp
theorem s55 {n : Nat} (hn : 76 < n) (t : Tr.Tree) (hb : Bt t) (l : List Ho) (hl : l.length ≤ 1000) (f : Bool) (c h i : Int) :
    (C08.tab n).p 55 [Tv t, .lst f (l.map Hv), I c, I h, I i] = some (.tup [.lst (f && !decide ((openP t l c h i).2 = 0)) ((openP t l c h i).1.map Hv), I (openP t l c h i).2]) := by
  rw [p55 hn, runP_eq, runH_eq]
  have hG := s29 (n := 76) (by decide) t hb i
  have h82 := s82 (n := 76) (by decide) t hb i
  have h56 := s56 (n := 76) (by decide) l hl f c h
  have hany := ixH_any l (isK c h)
  have hcl := cutP_le (lessK c h) l
  unfold openP
  unfold isO at h82
  unfold getV at hG
  have hkk : okK c h = decide (0 ≤ c ∧ c < 16 ∧ 0 ≤ h ∧ h ≤ 99) := rfl
  cases hf : find t.nodes i with
  | none =>
    rw [hf] at hG h82
    simp only [Option.elim_none, Tv, Nd] at hG h82
    cases hk : okK c h with
    | false =>
      rw [hk] at hkk
      by_cases k1 : c < 0
      · simp -implicitDefEqProofs (disch := omega) [wrap_of, ilt_t, ilt_f, ile_t, ile_f, nlt_t, nlt_f, nle_t, nle_f, ieq_t, ieq_f, imin_l, imin_r, imax_l, imax_r, take_app1, take_map_all, c55, a29, hG, k1]
      · by_cases k2 : 16 ≤ c
        · simp -implicitDefEqProofs (disch := omega) [wrap_of, ilt_t, ilt_f, ile_t, ile_f, nlt_t, nlt_f, nle_t, nle_f, ieq_t, ieq_f, imin_l, imin_r, imax_l, imax_r, take_app1, take_map_all, c55, a29, hG, k1, k2]
        · by_cases k3 : h < 0
          · simp -implicitDefEqProofs (disch := omega) [wrap_of, ilt_t, ilt_f, ile_t, ile_f, nlt_t, nlt_f, nle_t, nle_f, ieq_t, ieq_f, imin_l, imin_r, imax_l, imax_r, take_app1, take_map_all, c55, a29, hG, k1, k2, k3]
          · have k4 : 99 < h := by
              rcases Int.lt_or_le 99 h with h' | h'
              · exact h'
              · have := of_decide_eq_false hkk.symm
                exact absurd ⟨by omega, by omega, by omega, h'⟩ this
            simp -implicitDefEqProofs (disch := omega) [wrap_of, ilt_t, ilt_f, ile_t, ile_f, nlt_t, nlt_f, nle_t, nle_f, ieq_t, ieq_f, imin_l, imin_r, imax_l, imax_r, take_app1, take_map_all, c55, a29, hG, k1, k2, k3, k4]
    | true =>
      rw [hk] at hkk
      obtain ⟨k1, k2, k3, k4⟩ := of_decide_eq_true hkk.symm
      simp -implicitDefEqProofs (disch := omega) [wrap_of, ilt_t, ilt_f, ile_t, ile_f, nlt_t, nlt_f, nle_t, nle_f, ieq_t, ieq_f, imin_l, imin_r, imax_l, imax_r, take_app1, take_map_all, c55, a29, hG, k1, k2, k3, k4]
  | some q =>
    rw [hf] at hG h82
    simp only [Option.elim_some, Tv, Nd] at hG h82
    have h55 := fun e0 h1 h2 h3 => l55 (Γ := C08.tab 76) l hl f c h q e0 h1 h2 h3 [.var [.int .i64 q.ino, .int .i64 q.kind, .int .i64 q.links, .lst q.fd (q.data.map B), .lst q.fe (q.ents.map En), .int .i64 q.up]] rfl 1 rfl
    show _ = some (AV.tup [.lst (f && !decide ((if okK c h = false then (l, (1 : Int)) else if orph q = true then (l, 70) else if q.kind = 2 then (l, 72) else if l.any (isK c h) = true then (l, 71) else if 64 ≤ l.length then (l, 76) else (insH l ⟨c, h, i⟩, 0)).2 = 0)) ((if okK c h = false then (l, (1 : Int)) else if orph q = true then (l, 70) else if q.kind = 2 then (l, 72) else if l.any (isK c h) = true then (l, 71) else if 64 ≤ l.length then (l, 76) else (insH l ⟨c, h, i⟩, 0)).1.map Hv), I (if okK c h = false then (l, (1 : Int)) else if orph q = true then (l, 70) else if q.kind = 2 then (l, 72) else if l.any (isK c h) = true then (l, 71) else if 64 ≤ l.length then (l, 76) else (insH l ⟨c, h, i⟩, 0)).2])
    have hih : insH l ⟨c, h, i⟩ = l.take (cutP (lessK c h) l) ++ ⟨c, h, i⟩ :: l.drop (cutP (lessK c h) l) := rfl
    rw [hih]
    generalize l.any (isK c h) = u at *
    generalize ixH l (isK c h) = ix at *
    generalize orph q = o at *
    generalize cutP (lessK c h) l = k at *
    cases hk : okK c h with
    | false =>
      rw [hk] at hkk
      by_cases k1 : c < 0
      · simp -implicitDefEqProofs (disch := omega) [wrap_of, ilt_t, ilt_f, ile_t, ile_f, nlt_t, nlt_f, nle_t, nle_f, ieq_t, ieq_f, imin_l, imin_r, imax_l, imax_r, take_app1, take_map_all, c55, a29, hG, k1]
      · by_cases k2 : 16 ≤ c
        · simp -implicitDefEqProofs (disch := omega) [wrap_of, ilt_t, ilt_f, ile_t, ile_f, nlt_t, nlt_f, nle_t, nle_f, ieq_t, ieq_f, imin_l, imin_r, imax_l, imax_r, take_app1, take_map_all, c55, a29, hG, k1, k2]
        · by_cases k3 : h < 0
          · simp -implicitDefEqProofs (disch := omega) [wrap_of, ilt_t, ilt_f, ile_t, ile_f, nlt_t, nlt_f, nle_t, nle_f, ieq_t, ieq_f, imin_l, imin_r, imax_l, imax_r, take_app1, take_map_all, c55, a29, hG, k1, k2, k3]
          · have k4 : 99 < h := by
              rcases Int.lt_or_le 99 h with h' | h'
              · exact h'
              · have := of_decide_eq_false hkk.symm
                exact absurd ⟨by omega, by omega, by omega, h'⟩ this
            simp -implicitDefEqProofs (disch := omega) [wrap_of, ilt_t, ilt_f, ile_t, ile_f, nlt_t, nlt_f, nle_t, nle_f, ieq_t, ieq_f, imin_l, imin_r, imax_l, imax_r, take_app1, take_map_all, c55, a29, hG, k1, k2, k3, k4]
    | true =>
      rw [hk] at hkk
      obtain ⟨k1, k2, k3, k4⟩ := of_decide_eq_true hkk.symm
      clear hkk hk
      cases o with
      | true => simp -implicitDefEqProofs (disch := omega) [wrap_of, ilt_t, ilt_f, ile_t, ile_f, nlt_t, nlt_f, nle_t, nle_f, ieq_t, ieq_f, imin_l, imin_r, imax_l, imax_r, take_app1, take_map_all, c55, a29, hG, k1, k2, k3, k4, a82, h82]
      | false =>
        by_cases c1 : q.kind = 2
        · simp -implicitDefEqProofs (disch := omega) [wrap_of, ilt_t, ilt_f, ile_t, ile_f, nlt_t, nlt_f, nle_t, nle_f, ieq_t, ieq_f, imin_l, imin_r, imax_l, imax_r, take_app1, take_map_all, c55, a29, hG, k1, k2, k3, k4, a82, h82, c1]
        · cases u with
          | true =>
            have hix : 0 ≤ ix := hany.2 rfl
            simp -implicitDefEqProofs (disch := omega) [wrap_of, ilt_t, ilt_f, ile_t, ile_f, nlt_t, nlt_f, nle_t, nle_f, ieq_t, ieq_f, imin_l, imin_r, imax_l, imax_r, take_app1, take_map_all, c55, a29, hG, k1, k2, k3, k4, a82, h82, c1, a56, h56, hix]
          | false =>
            have hix : ¬ 0 ≤ ix := fun h => by cases hany.1 h
            by_cases c2 : 64 ≤ l.length
            · simp -implicitDefEqProofs (disch := omega) [wrap_of, ilt_t, ilt_f, ile_t, ile_f, nlt_t, nlt_f, nle_t, nle_f, ieq_t, ieq_f, imin_l, imin_r, imax_l, imax_r, take_app1, take_map_all, c55, a29, hG, k1, k2, k3, k4, a82, h82, c1, a56, h56, hix, c2]
            · simp -implicitDefEqProofs (disch := omega) [wrap_of, ilt_t, ilt_f, ile_t, ile_f, nlt_t, nlt_f, nle_t, nle_f, ieq_t, ieq_f, imin_l, imin_r, imax_l, imax_r, take_app1, take_map_all, c55, a29, hG, k1, k2, k3, k4, a82, h82, c1, a56, h56, hix, c2]
              rw [h55 _ (by simp -implicitDefEqProofs (disch := omega) [wrap_of, ilt_t, ilt_f, ile_t, ile_f, nlt_t, nlt_f, nle_t, nle_f, ieq_t, ieq_f, imin_l, imin_r, imax_l, imax_r, take_app1, take_map_all, ]) (by simp -implicitDefEqProofs (disch := omega) [wrap_of, ilt_t, ilt_f, ile_t, ile_f, nlt_t, nlt_f, nle_t, nle_f, ieq_t, ieq_f, imin_l, imin_r, imax_l, imax_r, take_app1, take_map_all, ]) (by simp -implicitDefEqProofs (disch := omega) [wrap_of, ilt_t, ilt_f, ile_t, ile_f, nlt_t, nlt_f, nle_t, nle_f, ieq_t, ieq_f, imin_l, imin_r, imax_l, imax_r, take_app1, take_map_all, ])]
              simp -implicitDefEqProofs (disch := omega) [wrap_of, ilt_t, ilt_f, ile_t, ile_f, nlt_t, nlt_f, nle_t, nle_f, ieq_t, ieq_f, imin_l, imin_r, imax_l, imax_r, take_app1, take_map_all, hcl]
              have e1 : (List.take k (l.map Hv)).length = k := by rw [List.length_take, List.length_map]; omega
              have e2 : (List.drop k (l.map Hv)).length = l.length - k := by rw [List.length_drop, List.length_map]
              refine ⟨by rw [← List.map_take]; exact szHv _, by rw [← List.map_drop]; exact szHv _, ?_⟩
              rw [List.take_take, Nat.min_self]
              rw [List.take_of_length_le (l := List.take k (l.map Hv) ++ [_]) (by rw [List.length_append, e1]; simp)]
              rw [List.take_of_length_le (by rw [List.length_append, List.length_append, e1, e2]; simp)]
              rw [List.append_assoc]
              rfl
theorem s53 {n : Nat} (hn : 74 < n) (t : Tr.Tree) (hb : Bt t) (l : List Ho) (hl : l.length ≤ 1000) (f : Bool) (c h : Int) :
    (C08.tab n).p 53 [Tv t, .lst f (l.map Hv), I c, I h] = some (.tup [Tv (closeP t l c h).1, .lst (f && !decide ((closeP t l c h).2.2 = 0)) ((closeP t l c h).2.1.map Hv), I (closeP t l c h).2.2]) := by
  rw [p53 hn, runP_eq, runH_eq]
  have h56 := s56 (n := 74) (by decide) l hl f c h
  unfold closeP
  cases hf : l.find? (isK c h) with
  | none =>
    have e : ixH l (isK c h) = -1 := by unfold ixH; rw [hf]; rfl
    rw [e] at h56
    simp -implicitDefEqProofs (disch := omega) [wrap_of, ilt_t, ilt_f, ile_t, ile_f, nlt_t, nlt_f, nle_t, nle_f, ieq_t, ieq_f, imin_l, imin_r, imax_l, imax_r, take_app1, take_map_all, c53, a56, h56]
  | some y =>
    obtain ⟨k, e, ek, hk, hy⟩ := ixH_some hf
    have hy' : y = l[k] := by rw [List.getElem?_eq_getElem hk] at hy; exact (Option.some.inj hy).symm
    have hrm := remH_map l c h k ek
    have hrl : (remH l c h).length ≤ 1000 := by
      have := congrArg List.length hrm
      simp at this
      omega
    rw [e] at h56
    have h82 := s82 (n := 74) (by decide) t hb y.ino
    have h30 := s30 (n := 74) (by decide) (remH l c h) hrl false y.ino
    have h65 := s65 (n := 74) (by decide) t hb y.ino
    have hcz := cntH_hld (remH l c h) y.ino
    rw [hrm] at h30
    show _ = some (AV.tup [Tv (if isO t y.ino = true ∧ hld (remH l c h) y.ino = false then (free t y.ino).1 else t), .lst (f && !decide ((0 : Int) = 0)) ((remH l c h).map Hv), I 0])
    rw [hrm]
    generalize hld (remH l c h) y.ino = hb2 at *
    generalize ((cntH (remH l c h) y.ino : Nat) : Int) = cz at *
    generalize isO t y.ino = o at *
    clear hrm hrl
    have e1 : (List.take k (l.map Hv)).length = k := by rw [List.length_take, List.length_map]; omega
    have e2 : (List.drop (k + 1) (l.map Hv)).length = l.length - (k + 1) := by rw [List.length_drop, List.length_map]
    have e3 : szOk 3 (List.take k (l.map Hv)) = true := by rw [← List.map_take]; exact szHv _
    have e4 : szOk 3 (List.drop (k + 1) (l.map Hv)) = true := by rw [← List.map_drop]; exact szHv _
    have e5 : List.take k (List.take k (l.map Hv)) = List.take k (l.map Hv) := by rw [List.take_take, Nat.min_self]
    have htk := take_rem l hk
    simp only [Tv, Nd] at h82 h65 ⊢
    cases o with
    | false => simp -implicitDefEqProofs (disch := omega) [wrap_of, ilt_t, ilt_f, ile_t, ile_f, nlt_t, nlt_f, nle_t, nle_f, ieq_t, ieq_f, imin_l, imin_r, imax_l, imax_r, take_app1, take_map_all, c53, a56, h56, hk, ← hy', e3, e4, e5, htk, a82, h82]
    | true =>
      cases hb2 with
      | true =>
        have hz : ¬ cz = 0 := fun h => by cases hcz.1 h
        simp -implicitDefEqProofs (disch := omega) [wrap_of, ilt_t, ilt_f, ile_t, ile_f, nlt_t, nlt_f, nle_t, nle_f, ieq_t, ieq_f, imin_l, imin_r, imax_l, imax_r, take_app1, take_map_all, c53, a56, h56, hk, ← hy', e3, e4, e5, htk, a82, h82, a30, h30, hz]
      | false =>
        have hz : cz = 0 := hcz.2 rfl
        simp -implicitDefEqProofs (disch := omega) [wrap_of, ilt_t, ilt_f, ile_t, ile_f, nlt_t, nlt_f, nle_t, nle_f, ieq_t, ieq_f, imin_l, imin_r, imax_l, imax_r, take_app1, take_map_all, c53, a56, h56, hk, ← hy', e3, e4, e5, htk, a82, h82, a30, h30, hz, a65, h65]
theorem s23 {n : Nat} (hn : 86 < n) (l : List Ho) (hl : l.length ≤ 1000) (f : Bool) (c h : Int) : (C08.tab n).p 23 [.lst f (l.map Hv), I c, I h] = some (.tup [I (inoP l c h).1, I (inoP l c h).2]) := by
  rw [p23 hn, runP_eq, runH_eq]
  have hi := s56 (n := 86) (by decide) l hl f c h
  unfold inoP
  cases hf : l.find? (isK c h) with
  | none =>
    have e : ixH l (isK c h) = -1 := by unfold ixH; rw [hf]; rfl
    rw [e] at hi
    simp -implicitDefEqProofs (disch := omega) [wrap_of, ilt_t, ilt_f, ile_t, ile_f, nlt_t, nlt_f, nle_t, nle_f, ieq_t, ieq_f, imin_l, imin_r, imax_l, imax_r, take_app1, take_map_all, c23, a56, hi]
  | some y =>
    obtain ⟨k, e, _, hk, hy⟩ := ixH_some hf
    have hy' : y = l[k] := by rw [List.getElem?_eq_getElem hk] at hy; exact (Option.some.inj hy).symm
    rw [e] at hi
    simp -implicitDefEqProofs (disch := omega) [wrap_of, ilt_t, ilt_f, ile_t, ile_f, nlt_t, nlt_f, nle_t, nle_f, ieq_t, ieq_f, imin_l, imin_r, imax_l, imax_r, take_app1, take_map_all, c23, a56, hi, hk, ← hy']
theorem l16 {Γ : Tab} (a b : List Ho) (hl : a.length = b.length) (ha : a.length ≤ 1000) (f g : Bool) (e0 : Env) (h0 : e0 0 = .lst f (a.map Hv)) (h1 : e0 1 = .lst g (b.map Hv)) :
    iter (round Γ [5] [(.exit 0, []), (.ret, [4])] c16_1 e0 0 []) ([.int .i64 0], []) = some (if (a.zip b).all (fun x => decide (x.1 = x.2)) = true then (.exit 0, [], []) else (.ret, [.bool false], [])) :=
  for_cmp (f := round Γ [5] [(.exit 0, []), (.ret, [4])] c16_1 e0 0 []) (fun i => ([.int .i64 i], [])) a b hl (fun x y => decide (x = y)) _ _
    (fun i hi hi' => by
      obtain ⟨x, hx⟩ : ∃ x, x = a[i] := ⟨_, rfl⟩
      obtain ⟨y, hy⟩ : ∃ y, y = b[i] := ⟨_, rfl⟩
      rw [← hx, ← hy]
      obtain ⟨x1, x2, x3⟩ := x
      obtain ⟨y1, y2, y3⟩ := y
      by_cases c1 : x1 = y1
      · by_cases c2 : x2 = y2
        · by_cases c3 : x3 = y3
          · simp -implicitDefEqProofs (disch := omega) [wrap_of, ilt_t, ilt_f, ile_t, ile_f, nlt_t, nlt_f, nle_t, nle_f, ieq_t, ieq_f, imin_l, imin_r, imax_l, imax_r, take_app1, take_map_all, round_eq, b16_1, h0, h1, hi, hi', ← hx, ← hy, cellsEq, c1, c2, c3]
          · simp -implicitDefEqProofs (disch := omega) [wrap_of, ilt_t, ilt_f, ile_t, ile_f, nlt_t, nlt_f, nle_t, nle_f, ieq_t, ieq_f, imin_l, imin_r, imax_l, imax_r, take_app1, take_map_all, round_eq, b16_1, h0, h1, hi, hi', ← hx, ← hy, cellsEq, c1, c2, c3]
        · simp -implicitDefEqProofs (disch := omega) [wrap_of, ilt_t, ilt_f, ile_t, ile_f, nlt_t, nlt_f, nle_t, nle_f, ieq_t, ieq_f, imin_l, imin_r, imax_l, imax_r, take_app1, take_map_all, round_eq, b16_1, h0, h1, hi, hi', ← hx, ← hy, cellsEq, c1, c2]
      · simp -implicitDefEqProofs (disch := omega) [wrap_of, ilt_t, ilt_f, ile_t, ile_f, nlt_t, nlt_f, nle_t, nle_f, ieq_t, ieq_f, imin_l, imin_r, imax_l, imax_r, take_app1, take_map_all, round_eq, b16_1, h0, h1, hi, hi', ← hx, ← hy, cellsEq, c1])
    (by simp -implicitDefEqProofs (disch := omega) [wrap_of, ilt_t, ilt_f, ile_t, ile_f, nlt_t, nlt_f, nle_t, nle_f, ieq_t, ieq_f, imin_l, imin_r, imax_l, imax_r, take_app1, take_map_all, round_eq, b16_1, h0, h1])
theorem s16 {n : Nat} (hn : 22 < n) (a b : List Ho) (f g : Bool) (ha : a.length ≤ 1000) (hb : b.length ≤ 1000) :
    (C08.tab n).p 16 [.lst f (a.map Hv), .lst g (b.map Hv)] = some (.bool (decide (a = b))) := by
  rw [p16 hn, runP_eq, runH_eq]
  by_cases hl : a.length = b.length
  · have hz := zip_eqT hl
    simp -implicitDefEqProofs (disch := omega) [wrap_of, ilt_t, ilt_f, ile_t, ile_f, nlt_t, nlt_f, nle_t, nle_f, ieq_t, ieq_f, imin_l, imin_r, imax_l, imax_r, take_app1, take_map_all, c16, hl]
    rw [l16 a b hl (by omega) f g _ (by simp -implicitDefEqProofs (disch := omega) [wrap_of, ilt_t, ilt_f, ile_t, ile_f, nlt_t, nlt_f, nle_t, nle_f, ieq_t, ieq_f, imin_l, imin_r, imax_l, imax_r, take_app1, take_map_all, ]) (by simp -implicitDefEqProofs (disch := omega) [wrap_of, ilt_t, ilt_f, ile_t, ile_f, nlt_t, nlt_f, nle_t, nle_f, ieq_t, ieq_f, imin_l, imin_r, imax_l, imax_r, take_app1, take_map_all, ])]
    by_cases hab : a = b
    · rw [if_pos (hz.2 hab)]
      simp -implicitDefEqProofs (disch := omega) [wrap_of, ilt_t, ilt_f, ile_t, ile_f, nlt_t, nlt_f, nle_t, nle_f, ieq_t, ieq_f, imin_l, imin_r, imax_l, imax_r, take_app1, take_map_all, hab]
    · rw [if_neg (fun h => hab (hz.1 h))]
      simp -implicitDefEqProofs (disch := omega) [wrap_of, ilt_t, ilt_f, ile_t, ile_f, nlt_t, nlt_f, nle_t, nle_f, ieq_t, ieq_f, imin_l, imin_r, imax_l, imax_r, take_app1, take_map_all, hab]
  · have hab : a ≠ b := fun h => hl (by rw [h])
    simp -implicitDefEqProofs (disch := omega) [wrap_of, ilt_t, ilt_f, ile_t, ile_f, nlt_t, nlt_f, nle_t, nle_f, ieq_t, ieq_f, imin_l, imin_r, imax_l, imax_r, take_app1, take_map_all, c16, hl, hab]
end Go.Proofs.Ytdnoopjpkcmpjaa

namespace Go.Proofs.Ytdnoopjpkcmpjaa
open Go.Am Go.Tr

def og (a : List Int) (q : Tr.Node) : List Int := if orph q = true then a ++ [q.ino] else a
theorem og_fold (l : List Tr.Node) : ∀ a : List Int, l.foldl og a = a ++ (l.filter orph).map Tr.Node.ino := by
  induction l with
  | nil => intro a; simp
  | cons q l ih =>
    intro a
    rw [List.foldl_cons, ih, List.filter_cons]
    unfold og
    cases orph q <;> simp
theorem orphs_len (t : Tr.Tree) : (orphs t).length ≤ t.nodes.length := by
  unfold orphs
  rw [List.length_map]
  exact List.length_filter_le ..
theorem l24 {n : Nat} (hn : 18 < n) (t : Tr.Tree) (hl : t.nodes.length ≤ 1000) (e0 : Env) (h7 : e0 7 = .lst t.fn (t.nodes.map Nd)) (h8 : e0 8 = .int .i64 t.nodes.length) :
    iter (round (C08.tab n) [3, 9] [(.exit 0, [3])] c24_1 e0 1 [0]) ([.own 0 0 0 0, .int .i64 0], [.row 0 1 []]) = some (.exit 0, [.own 0 0 0 (orphs t).length], [.row 0 1 ((orphs t).map I)]) := by
  have := for_list (f := round (C08.tab n) [3, 9] [(.exit 0, [3])] c24_1 e0 1 [0]) (fun i (a : List Int) => ([.own 0 0 0 a.length, .int .i64 (i : Int)], [.row 0 1 (a.map I)])) t.nodes og (fun a => (.exit 0, [.own 0 0 0 a.length], [.row 0 1 (a.map I)])) (fun i a => a.length ≤ i)
    (fun i hi a ha => by
      obtain ⟨q, hq⟩ : ∃ q, q = t.nodes[i] := ⟨_, rfl⟩
      rw [← hq]
      have h42 := s42 (n := n) hn q
      simp only [Nd] at h42
      unfold og
      generalize orph q = o at *
      cases o with
      | true =>
        refine ⟨by simp; omega, ?_⟩
        simp -implicitDefEqProofs (disch := omega) [wrap_of, ilt_t, ilt_f, ile_t, ile_f, nlt_t, nlt_f, nle_t, nle_f, ieq_t, ieq_f, imin_l, imin_r, imax_l, imax_r, take_app1, take_map_all, round_eq, b24_1, h7, h8, hi, ← hq, a42, h42]
      | false =>
        refine ⟨by simp; omega, ?_⟩
        simp -implicitDefEqProofs (disch := omega) [wrap_of, ilt_t, ilt_f, ile_t, ile_f, nlt_t, nlt_f, nle_t, nle_f, ieq_t, ieq_f, imin_l, imin_r, imax_l, imax_r, take_app1, take_map_all, round_eq, b24_1, h7, h8, hi, ← hq, a42, h42])
    (fun a ha => by simp -implicitDefEqProofs (disch := omega) [wrap_of, ilt_t, ilt_f, ile_t, ile_f, nlt_t, nlt_f, nle_t, nle_f, ieq_t, ieq_f, imin_l, imin_r, imax_l, imax_r, take_app1, take_map_all, round_eq, b24_1, h7, h8]) [] (by simp)
  rw [og_fold, List.nil_append] at this
  simpa [orphs] using this
theorem s24 {n : Nat} (hn : 30 < n) (t : Tr.Tree) (hl : t.nodes.length ≤ 1000) : (C08.tab n).p 24 [Tv t] = some (.lst false ((orphs t).map I)) := by
  rw [p24 hn, runP_eq, runH_eq]
  have h := l24 (n := 30) (by decide) t hl
  generalize orphs t = o at *
  simp -implicitDefEqProofs (disch := omega) [wrap_of, ilt_t, ilt_f, ile_t, ile_f, nlt_t, nlt_f, nle_t, nle_f, ieq_t, ieq_f, imin_l, imin_r, imax_l, imax_r, take_app1, take_map_all, c24]
  rw [h _ (by simp -implicitDefEqProofs (disch := omega) [wrap_of, ilt_t, ilt_f, ile_t, ile_f, nlt_t, nlt_f, nle_t, nle_f, ieq_t, ieq_f, imin_l, imin_r, imax_l, imax_r, take_app1, take_map_all, ]) (by simp -implicitDefEqProofs (disch := omega) [wrap_of, ilt_t, ilt_f, ile_t, ile_f, nlt_t, nlt_f, nle_t, nle_f, ieq_t, ieq_f, imin_l, imin_r, imax_l, imax_r, take_app1, take_map_all, ])]
  simp -implicitDefEqProofs (disch := omega) [wrap_of, ilt_t, ilt_f, ile_t, ile_f, nlt_t, nlt_f, nle_t, nle_f, ieq_t, ieq_f, imin_l, imin_r, imax_l, imax_r, take_app1, take_map_all, ]
theorem l25 {Γ : Tab} (t : Tr.Tree) (hl : t.nodes.length ≤ 1000) (e0 : Env) (h1 : e0 1 = .rptr [.lst t.fn (t.nodes.map Nd), .int .i64 t.next, .int .i64 t.cookie]) :
    iter (round Γ [3, 4] [(.exit 0, [3])] c25_1 e0 1 [0]) ([.own 0 0 0 0, .int .i64 0], [.row 0 1 []]) = some (.exit 0, [.own 0 0 0 (orphs t).length], [.row 0 1 ((orphs t).map I)]) := by
  have := for_list (f := round Γ [3, 4] [(.exit 0, [3])] c25_1 e0 1 [0]) (fun i (a : List Int) => ([.own 0 0 0 a.length, .int .i64 (i : Int)], [.row 0 1 (a.map I)])) t.nodes og (fun a => (.exit 0, [.own 0 0 0 a.length], [.row 0 1 (a.map I)])) (fun i a => a.length ≤ i)
    (fun i hi a ha => by
      obtain ⟨q, hq⟩ : ∃ q, q = t.nodes[i] := ⟨_, rfl⟩
      rw [← hq]
      unfold og orph
      by_cases c1 : q.kind = 1
      · by_cases c2 : q.links = 0
        · refine ⟨by simp [c1, c2]; omega, ?_⟩
          simp -implicitDefEqProofs (disch := omega) [wrap_of, ilt_t, ilt_f, ile_t, ile_f, nlt_t, nlt_f, nle_t, nle_f, ieq_t, ieq_f, imin_l, imin_r, imax_l, imax_r, take_app1, take_map_all, round_eq, b25_1, h1, hi, ← hq, c1, c2]
        · refine ⟨by simp [c1, c2]; omega, ?_⟩
          simp -implicitDefEqProofs (disch := omega) [wrap_of, ilt_t, ilt_f, ile_t, ile_f, nlt_t, nlt_f, nle_t, nle_f, ieq_t, ieq_f, imin_l, imin_r, imax_l, imax_r, take_app1, take_map_all, round_eq, b25_1, h1, hi, ← hq, c1, c2]
      · refine ⟨by simp [c1]; omega, ?_⟩
        simp -implicitDefEqProofs (disch := omega) [wrap_of, ilt_t, ilt_f, ile_t, ile_f, nlt_t, nlt_f, nle_t, nle_f, ieq_t, ieq_f, imin_l, imin_r, imax_l, imax_r, take_app1, take_map_all, round_eq, b25_1, h1, hi, ← hq, c1])
    (fun a ha => by simp -implicitDefEqProofs (disch := omega) [wrap_of, ilt_t, ilt_f, ile_t, ile_f, nlt_t, nlt_f, nle_t, nle_f, ieq_t, ieq_f, imin_l, imin_r, imax_l, imax_r, take_app1, take_map_all, round_eq, b25_1, h1]) [] (by simp)
  rw [og_fold, List.nil_append] at this
  simpa [orphs] using this
theorem s25 {n : Nat} (hn : 54 < n) (t : Tr.Tree) (hl : t.nodes.length ≤ 1000) : (C08.tab n).p 25 [Tv t] = some (.lst false ((orphs t).map I)) := by
  rw [p25 hn, runP_eq, runH_eq]
  have h := l25 (Γ := C08.tab 54) t hl
  generalize orphs t = o at *
  simp -implicitDefEqProofs (disch := omega) [wrap_of, ilt_t, ilt_f, ile_t, ile_f, nlt_t, nlt_f, nle_t, nle_f, ieq_t, ieq_f, imin_l, imin_r, imax_l, imax_r, take_app1, take_map_all, c25]
  rw [h _ (by simp -implicitDefEqProofs (disch := omega) [wrap_of, ilt_t, ilt_f, ile_t, ile_f, nlt_t, nlt_f, nle_t, nle_f, ieq_t, ieq_f, imin_l, imin_r, imax_l, imax_r, take_app1, take_map_all, ])]
  simp -implicitDefEqProofs (disch := omega) [wrap_of, ilt_t, ilt_f, ile_t, ile_f, nlt_t, nlt_f, nle_t, nle_f, ieq_t, ieq_f, imin_l, imin_r, imax_l, imax_r, take_app1, take_map_all, ]
def sw (l : List Ho) (t : Tr.Tree) (i : Int) : Tr.Tree := if hld l i = false then (free t i).1 else t
theorem free_bt {t : Tr.Tree} (hb : Bt t) (i : Int) : Bt (free t i).1 := by
  unfold free
  split
  · exact hb
  · split
    · exact hb
    · split
      · exact hb
      · exact ⟨Nat.le_trans (List.length_filter_le ..) hb.len, fun n hn => hb.ents n (List.mem_filter.1 hn).1, hb.ck0, hb.ck, hb.nx0, hb.nx⟩
theorem sw_bt {t : Tr.Tree} (l : List Ho) (hb : Bt t) (i : Int) : Bt (sw l t i) := by
  unfold sw
  split
  · exact free_bt hb i
  · exact hb
theorem l33 {n : Nat} (hn : 56 < n) (l : List Ho) (hl : l.length ≤ 1000) (f : Bool) (o : List Int) (ho : o.length ≤ 1000) (t : Tr.Tree) (hb : Bt t) (e0 : Env) (h1 : e0 1 = .lst f (l.map Hv)) (h5 : e0 5 = .lst false (o.map I)) (h2 : e0 2 = .ptr 0 0 0 0) :
    iter (round (C08.tab n) [6] [(.exit 0, [])] c33_1 e0 2 []) ([.int .i64 0], [.var [.lst t.fn (t.nodes.map Nd), .int .i64 t.next, .int .i64 t.cookie], .var [.lst true [], .int .i64 0, .int .i64 0]]) =
      some (.exit 0, [], [.var [.lst (o.foldl (sw l) t).fn ((o.foldl (sw l) t).nodes.map Nd), .int .i64 (o.foldl (sw l) t).next, .int .i64 (o.foldl (sw l) t).cookie], .var [.lst true [], .int .i64 0, .int .i64 0]]) := by
  have := for_list (f := round (C08.tab n) [6] [(.exit 0, [])] c33_1 e0 2 []) (fun i (t : Tr.Tree) => ([.int .i64 (i : Int)], [.var [.lst t.fn (t.nodes.map Nd), .int .i64 t.next, .int .i64 t.cookie], .var [.lst true [], .int .i64 0, .int .i64 0]])) o (sw l)
    (fun t => (.exit 0, [], [.var [.lst t.fn (t.nodes.map Nd), .int .i64 t.next, .int .i64 t.cookie], .var [.lst true [], .int .i64 0, .int .i64 0]])) (fun _ t => Bt t)
    (fun i hi t hb => by
      refine ⟨sw_bt l hb _, ?_⟩
      obtain ⟨x, hx⟩ : ∃ x, x = o[i] := ⟨_, rfl⟩
      rw [← hx]
      have h30 := s30 (n := n) (by omega) l hl f x
      have h65 := s65 (n := n) (by omega) t hb x
      have hz := cntH_hld l x
      unfold sw
      generalize ((cntH l x : Nat) : Int) = cz at *
      generalize hld l x = u at *
      simp only [Tv] at h65
      cases u with
      | true =>
        have hz' : ¬ cz = 0 := fun h => by cases hz.1 h
        simp -implicitDefEqProofs (disch := omega) [wrap_of, ilt_t, ilt_f, ile_t, ile_f, nlt_t, nlt_f, nle_t, nle_f, ieq_t, ieq_f, imin_l, imin_r, imax_l, imax_r, take_app1, take_map_all, round_eq, b33_1, h1, h5, h2, hi, ← hx, a30, h30, hz']
      | false =>
        have hz' : cz = 0 := hz.2 rfl
        simp -implicitDefEqProofs (disch := omega) [wrap_of, ilt_t, ilt_f, ile_t, ile_f, nlt_t, nlt_f, nle_t, nle_f, ieq_t, ieq_f, imin_l, imin_r, imax_l, imax_r, take_app1, take_map_all, round_eq, b33_1, h1, h5, h2, hi, ← hx, a30, h30, hz', h65])
    (fun t hb => by simp -implicitDefEqProofs (disch := omega) [wrap_of, ilt_t, ilt_f, ile_t, ile_f, nlt_t, nlt_f, nle_t, nle_f, ieq_t, ieq_f, imin_l, imin_r, imax_l, imax_r, take_app1, take_map_all, round_eq, b33_1, h5]) t hb
  simpa using this
theorem s33 {n : Nat} (hn : 57 < n) (t : Tr.Tree) (hb : Bt t) (l : List Ho) (hl : l.length ≤ 1000) (f : Bool) : (C08.tab n).p 33 [Tv t, .lst f (l.map Hv)] = some (Tv (swept t l)) := by
  rw [p33 hn, runP_eq, runH_eq]
  have h25 := s25 (n := 57) (by decide) t hb.len
  have hol : (orphs t).length ≤ 1000 := Nat.le_trans (orphs_len t) hb.len
  have h := l33 (n := 57) (by decide) l hl f (orphs t) hol t hb
  have e : swept t l = (orphs t).foldl (sw l) t := rfl
  rw [e]
  generalize (orphs t).foldl (sw l) t = u at *
  generalize orphs t = o at *
  simp only [Tv] at h25
  simp -implicitDefEqProofs (disch := omega) [wrap_of, ilt_t, ilt_f, ile_t, ile_f, nlt_t, nlt_f, nle_t, nle_f, ieq_t, ieq_f, imin_l, imin_r, imax_l, imax_r, take_app1, take_map_all, c33, a25, h25]
  rw [h _ (by simp -implicitDefEqProofs (disch := omega) [wrap_of, ilt_t, ilt_f, ile_t, ile_f, nlt_t, nlt_f, nle_t, nle_f, ieq_t, ieq_f, imin_l, imin_r, imax_l, imax_r, take_app1, take_map_all, ]) (by simp -implicitDefEqProofs (disch := omega) [wrap_of, ilt_t, ilt_f, ile_t, ile_f, nlt_t, nlt_f, nle_t, nle_f, ieq_t, ieq_f, imin_l, imin_r, imax_l, imax_r, take_app1, take_map_all, ]) (by simp -implicitDefEqProofs (disch := omega) [wrap_of, ilt_t, ilt_f, ile_t, ile_f, nlt_t, nlt_f, nle_t, nle_f, ieq_t, ieq_f, imin_l, imin_r, imax_l, imax_r, take_app1, take_map_all, ])]
  simp -implicitDefEqProofs (disch := omega) [wrap_of, ilt_t, ilt_f, ile_t, ile_f, nlt_t, nlt_f, nle_t, nle_f, ieq_t, ieq_f, imin_l, imin_r, imax_l, imax_r, take_app1, take_map_all, ]
end Go.Proofs.Ytdnoopjpkcmpjaa
