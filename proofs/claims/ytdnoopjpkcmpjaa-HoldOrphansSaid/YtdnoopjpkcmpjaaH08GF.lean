import Derived.Test.YtdnoopjpkcmpjaaH08GA
import Derived.Test.YtdnoopjpkcmpjaaHoG
set_option linter.unusedSimpArgs false
set_option linter.unusedVariables false
namespace Go.Proofs.Ytdnoopjpkcmpjaa
open Go.Am Go.Tr

/-- A step of closing, with the list's flag. -/
def gf (c : Int) (s : Tr.Tree × List Ho × Bool) (h : Int) : Tr.Tree × List Ho × Bool := ((closeP s.1 s.2.1 c h).1, (closeP s.1 s.2.1 c h).2.1, s.2.2 && !decide ((closeP s.1 s.2.1 c h).2.2 = 0))
theorem gf_fold (c : Int) (ks : List Int) : ∀ s : Tr.Tree × List Ho × Bool, ((ks.foldl (gf c) s).1, (ks.foldl (gf c) s).2.1) = goneL c ks s.1 s.2.1 := by
  induction ks with
  | nil => intro s; rfl
  | cons k ks ih =>
    intro s
    rw [List.foldl_cons, ih]
    rfl
theorem remH_len (l : List Ho) (c h : Int) : (remH l c h).length ≤ l.length := by
  unfold remH
  rw [List.length_append, List.length_take, List.length_drop]
  omega
theorem closeP_len (t : Tr.Tree) (l : List Ho) (c h : Int) : (closeP t l c h).2.1.length ≤ l.length := by
  unfold closeP
  split
  · exact Nat.le_refl _
  · exact remH_len l c h
theorem free_srt {t : Tr.Tree} (hs : Srt t.nodes) (i : Int) : Srt (free t i).1.nodes := by
  unfold free
  split
  · exact hs
  · split
    · exact hs
    · split
      · exact hs
      · exact hs.filter _
theorem closeP_srt {t : Tr.Tree} (hs : Srt t.nodes) (l : List Ho) (c h : Int) : Srt (closeP t l c h).1.nodes := by
  unfold closeP
  split
  · exact hs
  · simp only
    split
    · exact free_srt hs _
    · exact hs
theorem closeP_bt {t : Tr.Tree} (hb : Bt t) (l : List Ho) (c h : Int) : Bt (closeP t l c h).1 := by
  unfold closeP
  split
  · exact hb
  · simp only
    split
    · exact free_bt hb _
    · exact hb
def gi (c : Int) (s : Tr.Tree × List Ho × Bool) (x : Ho) : Tr.Tree × List Ho × Bool := if x.c = c then gf c s x.h else s
theorem gi_fold (c : Int) (l : List Ho) : ∀ s : Tr.Tree × List Ho × Bool, l.foldl (gi c) s = (own_ l c).foldl (gf c) s := by
  induction l with
  | nil => intro s; rfl
  | cons x l ih =>
    intro s
    rw [List.foldl_cons, ih]
    unfold own_ gi
    rw [List.filter_cons]
    by_cases h : x.c = c <;> simp [h]
theorem l32 {n : Nat} (hn : 29 < n) (l : List Ho) (hl : l.length ≤ 1000) (f : Bool) (c : Int) (s : Tr.Tree × List Ho × Bool) (hs : Srt s.1.nodes) (hb : Bt s.1) (hsl : s.2.1.length ≤ 1000) (e0 : Env) (h10 : e0 10 = .lst f (l.map Hv)) (h11 : e0 11 = .int .i64 l.length) (h2 : e0 2 = I c) (h3 : e0 3 = .ptr 0 0 0 0) :
    iter (round (C08.tab n) [1, 12] [(.exit 0, [1])] c32_1 e0 2 []) ([.lst s.2.2 (s.2.1.map Hv), .int .i64 0], [.var [.lst s.1.fn (s.1.nodes.map Nd), .int .i64 s.1.next, .int .i64 s.1.cookie], .var [.lst true [], .int .i64 0, .int .i64 0]]) =
      some (.exit 0, [.lst (l.foldl (gi c) s).2.2 ((l.foldl (gi c) s).2.1.map Hv)], [.var [.lst (l.foldl (gi c) s).1.fn ((l.foldl (gi c) s).1.nodes.map Nd), .int .i64 (l.foldl (gi c) s).1.next, .int .i64 (l.foldl (gi c) s).1.cookie], .var [.lst true [], .int .i64 0, .int .i64 0]]) := by
  have := for_list (f := round (C08.tab n) [1, 12] [(.exit 0, [1])] c32_1 e0 2 []) (fun i (s : Tr.Tree × List Ho × Bool) => ([.lst s.2.2 (s.2.1.map Hv), .int .i64 (i : Int)], [.var [.lst s.1.fn (s.1.nodes.map Nd), .int .i64 s.1.next, .int .i64 s.1.cookie], .var [.lst true [], .int .i64 0, .int .i64 0]])) l (gi c)
    (fun s => (.exit 0, [.lst s.2.2 (s.2.1.map Hv)], [.var [.lst s.1.fn (s.1.nodes.map Nd), .int .i64 s.1.next, .int .i64 s.1.cookie], .var [.lst true [], .int .i64 0, .int .i64 0]])) (fun _ s => Srt s.1.nodes ∧ Bt s.1 ∧ s.2.1.length ≤ 1000)
    (fun i hi s hs => by
      obtain ⟨hs, hb, hsl⟩ := hs
      obtain ⟨t, m, g⟩ := s
      obtain ⟨x, hx⟩ : ∃ x, x = l[i] := ⟨_, rfl⟩
      rw [← hx]
      simp only at hs hb hsl
      have h18 := s18 (n := n) (by omega) t hs hb.len m hsl g c x.h
      unfold gi gf
      by_cases c1 : x.c = c
      · refine ⟨by rw [if_pos c1]; exact ⟨closeP_srt hs _ _ _, closeP_bt hb _ _ _, Nat.le_trans (closeP_len _ _ _ _) hsl⟩, ?_⟩
        rw [if_pos c1]
        generalize closeP t m c x.h = r at *
        obtain ⟨u, o, e⟩ := r
        simp only [Tv] at h18 ⊢
        simp -implicitDefEqProofs (disch := omega) [wrap_of, ilt_t, ilt_f, ile_t, ile_f, nlt_t, nlt_f, nle_t, nle_f, ieq_t, ieq_f, imin_l, imin_r, imax_l, imax_r, take_app1, take_map_all, round_eq, b32_1, h10, h11, h2, h3, hi, ← hx, c1, a18, h18]
      · refine ⟨by rw [if_neg c1]; exact ⟨hs, hb, hsl⟩, ?_⟩
        rw [if_neg c1]
        simp -implicitDefEqProofs (disch := omega) [wrap_of, ilt_t, ilt_f, ile_t, ile_f, nlt_t, nlt_f, nle_t, nle_f, ieq_t, ieq_f, imin_l, imin_r, imax_l, imax_r, take_app1, take_map_all, round_eq, b32_1, h10, h11, h2, h3, hi, ← hx, c1])
    (fun s hs => by simp -implicitDefEqProofs (disch := omega) [wrap_of, ilt_t, ilt_f, ile_t, ile_f, nlt_t, nlt_f, nle_t, nle_f, ieq_t, ieq_f, imin_l, imin_r, imax_l, imax_r, take_app1, take_map_all, round_eq, b32_1, h10, h11]) s ⟨hs, hb, hsl⟩
  simpa using this
theorem s32x {n : Nat} (hn : 84 < n) (t : Tr.Tree) (hs : Srt t.nodes) (hb : Bt t) (l : List Ho) (hl : l.length ≤ 1000) (f : Bool) (c : Int) :
    (C08.tab n).p 32 [Tv t, .lst f (l.map Hv), I c] = some (.tup [Tv ((own_ l c).foldl (gf c) (t, l, f)).1, .lst ((own_ l c).foldl (gf c) (t, l, f)).2.2 (((own_ l c).foldl (gf c) (t, l, f)).2.1.map Hv)]) := by
  rw [p32 hn, runP_eq, runH_eq]
  have h := l32 (n := 84) (by decide) l hl f c (t, l, f) hs hb hl
  rw [gi_fold] at h
  generalize (own_ l c).foldl (gf c) (t, l, f) = r at *
  obtain ⟨u, o, g⟩ := r
  simp only at h ⊢
  simp -implicitDefEqProofs (disch := omega) [wrap_of, ilt_t, ilt_f, ile_t, ile_f, nlt_t, nlt_f, nle_t, nle_f, ieq_t, ieq_f, imin_l, imin_r, imax_l, imax_r, take_app1, take_map_all, c32]
  rw [h _ (by simp -implicitDefEqProofs (disch := omega) [wrap_of, ilt_t, ilt_f, ile_t, ile_f, nlt_t, nlt_f, nle_t, nle_f, ieq_t, ieq_f, imin_l, imin_r, imax_l, imax_r, take_app1, take_map_all, ]) (by simp -implicitDefEqProofs (disch := omega) [wrap_of, ilt_t, ilt_f, ile_t, ile_f, nlt_t, nlt_f, nle_t, nle_f, ieq_t, ieq_f, imin_l, imin_r, imax_l, imax_r, take_app1, take_map_all, ]) (by simp -implicitDefEqProofs (disch := omega) [wrap_of, ilt_t, ilt_f, ile_t, ile_f, nlt_t, nlt_f, nle_t, nle_f, ieq_t, ieq_f, imin_l, imin_r, imax_l, imax_r, take_app1, take_map_all, ]) (by simp -implicitDefEqProofs (disch := omega) [wrap_of, ilt_t, ilt_f, ile_t, ile_f, nlt_t, nlt_f, nle_t, nle_f, ieq_t, ieq_f, imin_l, imin_r, imax_l, imax_r, take_app1, take_map_all, ])]
  simp -implicitDefEqProofs (disch := omega) [wrap_of, ilt_t, ilt_f, ile_t, ile_f, nlt_t, nlt_f, nle_t, nle_f, ieq_t, ieq_f, imin_l, imin_r, imax_l, imax_r, take_app1, take_map_all, ]
theorem s32 {n : Nat} (hn : 84 < n) (t : Tr.Tree) (hs : Srt t.nodes) (hb : Bt t) (l : List Ho) (hl : l.length ≤ 1000) (f : Bool) (c : Int) :
    ∃ g, (C08.tab n).p 32 [Tv t, .lst f (l.map Hv), I c] = some (.tup [Tv (goneL c (own_ l c) t l).1, .lst g ((goneL c (own_ l c) t l).2.map Hv)]) := by
  refine ⟨((own_ l c).foldl (gf c) (t, l, f)).2.2, (s32x hn t hs hb l hl f c).trans ?_⟩
  have e := gf_fold c (own_ l c) (t, l, f)
  simp only at e
  rw [← e]
theorem l54 {n : Nat} (hn : 74 < n) (c : Int) (s : Tr.Tree × List Ho × Bool) (hb : Bt s.1) (hsl : s.2.1.length ≤ 1000) (e0 : Env) (h2 : e0 2 = I c) (h3 : e0 3 = .ptr 0 0 0 0) :
    iter (round (C08.tab n) [1, 8] [(.exit 0, [1])] c54_1 e0 2 []) ([.lst s.2.2 (s.2.1.map Hv), .int .i64 0], [.var [.lst s.1.fn (s.1.nodes.map Nd), .int .i64 s.1.next, .int .i64 s.1.cookie], .var [.lst true [], .int .i64 0, .int .i64 0]]) =
      some (.exit 0, [.lst (all_.foldl (gf c) s).2.2 ((all_.foldl (gf c) s).2.1.map Hv)], [.var [.lst (all_.foldl (gf c) s).1.fn ((all_.foldl (gf c) s).1.nodes.map Nd), .int .i64 (all_.foldl (gf c) s).1.next, .int .i64 (all_.foldl (gf c) s).1.cookie], .var [.lst true [], .int .i64 0, .int .i64 0]]) := by
  have := for_list (f := round (C08.tab n) [1, 8] [(.exit 0, [1])] c54_1 e0 2 []) (fun i (s : Tr.Tree × List Ho × Bool) => ([.lst s.2.2 (s.2.1.map Hv), .int .i64 (i : Int)], [.var [.lst s.1.fn (s.1.nodes.map Nd), .int .i64 s.1.next, .int .i64 s.1.cookie], .var [.lst true [], .int .i64 0, .int .i64 0]])) (List.range 100) (fun s k => gf c s (k : Int))
    (fun s => (.exit 0, [.lst s.2.2 (s.2.1.map Hv)], [.var [.lst s.1.fn (s.1.nodes.map Nd), .int .i64 s.1.next, .int .i64 s.1.cookie], .var [.lst true [], .int .i64 0, .int .i64 0]])) (fun _ s => Bt s.1 ∧ s.2.1.length ≤ 1000)
    (fun i hi s hs => by
      obtain ⟨hb, hsl⟩ := hs
      obtain ⟨t, m, g⟩ := s
      rw [List.getElem_range]
      have hi : i < 100 := by simpa using hi
      simp only at hb hsl
      have h53 := s53 (n := n) (by omega) t hb m hsl g c (i : Int)
      unfold gf
      refine ⟨⟨closeP_bt hb _ _ _, Nat.le_trans (closeP_len _ _ _ _) hsl⟩, ?_⟩
      generalize closeP t m c (i : Int) = r at *
      obtain ⟨u, o, e⟩ := r
      simp only [Tv] at h53 ⊢
      simp -implicitDefEqProofs (disch := omega) [wrap_of, ilt_t, ilt_f, ile_t, ile_f, nlt_t, nlt_f, nle_t, nle_f, ieq_t, ieq_f, imin_l, imin_r, imax_l, imax_r, take_app1, take_map_all, round_eq, b54_1, h2, h3, hi, a53, h53])
    (fun s hs => by
      obtain ⟨t, m, g⟩ := s
      simp -implicitDefEqProofs (disch := omega) [wrap_of, ilt_t, ilt_f, ile_t, ile_f, nlt_t, nlt_f, nle_t, nle_f, ieq_t, ieq_f, imin_l, imin_r, imax_l, imax_r, take_app1, take_map_all, round_eq, b54_1]) s ⟨hb, hsl⟩
  unfold all_
  rw [List.foldl_map]
  simpa using this
theorem s54x {n : Nat} (hn : 75 < n) (t : Tr.Tree) (hb : Bt t) (l : List Ho) (hl : l.length ≤ 1000) (f : Bool) (c : Int) :
    (C08.tab n).p 54 [Tv t, .lst f (l.map Hv), I c] = some (.tup [Tv (all_.foldl (gf c) (t, l, f)).1, .lst (all_.foldl (gf c) (t, l, f)).2.2 ((all_.foldl (gf c) (t, l, f)).2.1.map Hv)]) := by
  rw [p54 hn, runP_eq, runH_eq]
  have h := l54 (n := 75) (by decide) c (t, l, f) hb hl
  generalize all_.foldl (gf c) (t, l, f) = r at *
  obtain ⟨u, o, g⟩ := r
  simp only at h ⊢
  simp -implicitDefEqProofs (disch := omega) [wrap_of, ilt_t, ilt_f, ile_t, ile_f, nlt_t, nlt_f, nle_t, nle_f, ieq_t, ieq_f, imin_l, imin_r, imax_l, imax_r, take_app1, take_map_all, c54]
  rw [h _ (by simp -implicitDefEqProofs (disch := omega) [wrap_of, ilt_t, ilt_f, ile_t, ile_f, nlt_t, nlt_f, nle_t, nle_f, ieq_t, ieq_f, imin_l, imin_r, imax_l, imax_r, take_app1, take_map_all, ]) (by simp -implicitDefEqProofs (disch := omega) [wrap_of, ilt_t, ilt_f, ile_t, ile_f, nlt_t, nlt_f, nle_t, nle_f, ieq_t, ieq_f, imin_l, imin_r, imax_l, imax_r, take_app1, take_map_all, ])]
  simp -implicitDefEqProofs (disch := omega) [wrap_of, ilt_t, ilt_f, ile_t, ile_f, nlt_t, nlt_f, nle_t, nle_f, ieq_t, ieq_f, imin_l, imin_r, imax_l, imax_r, take_app1, take_map_all, ]
end Go.Proofs.Ytdnoopjpkcmpjaa

namespace Go.Proofs.Ytdnoopjpkcmpjaa
open Go.Am Go.Tr

theorem s59 {n : Nat} (hn : 12 < n) (l : List Ho) (hl : l.length ≤ 1000) (f : Bool) (i : Int) (X : AH) (k : Nat) (hk : X[k]? = some (.var [.lst f (l.map Hv)])) : callA (C08.tab n) 59 [I i, .ptr k 0 0 0] X = some (.bool (!hld l i), X) := by
  rw [p59 hn, runH_eq]
  have h48 := s48 (n := 12) (by decide) l hl f i
  simp -implicitDefEqProofs (disch := omega) [wrap_of, ilt_t, ilt_f, ile_t, ile_f, nlt_t, nlt_f, nle_t, nle_f, ieq_t, ieq_f, imin_l, imin_r, imax_l, imax_r, take_app1, take_map_all, c59, hk, a48, h48]
theorem l83 {Γ : Tab} (l : List Int) (hl : l.length ≤ 1000) (f : Bool) (g : FuncId) (first cap : List AV) (q : Int → Bool) (X : AH) (hX : X.all plainB = true) (hg : ∀ x ∈ l, callA Γ g (first ++ I x :: cap) X = some (.bool (q x), X)) (e0 : Env) (h0 : e0 0 = .lst f (l.map I)) (h7 : e0 7 = .int .i64 l.length) (h1 : e0 1 = .fn (.func g) first cap) :
    iter (round Γ [8] [(.exit 0, []), (.ret, [4])] c83_1 e0 X.length []) ([.int .i64 0], X) = some ((l.find? q).elim (.exit 0, [], X) fun _ => (.ret, [.int .i64 (l.findIdx q : Nat)], X)) :=
  for_idx (f := round Γ [8] [(.exit 0, []), (.ret, [4])] c83_1 e0 X.length []) (fun i => ([.int .i64 (i : Int)], X)) l q (fun k _ => (.ret, [.int .i64 (k : Int)], X)) (.exit 0, [], X)
    (fun k hk => by
      have h := hg _ (List.getElem_mem hk)
      obtain ⟨y, hy⟩ : ∃ y, y = l[k] := ⟨_, rfl⟩
      rw [← hy] at h ⊢
      cases hq : q y with
      | true =>
        rw [hq] at h
        simp -implicitDefEqProofs (disch := omega) [wrap_of, ilt_t, ilt_f, ile_t, ile_f, nlt_t, nlt_f, nle_t, nle_f, ieq_t, ieq_f, imin_l, imin_r, imax_l, imax_r, take_app1, take_map_all, round_eq, b83_1, h0, h7, h1, hk, ← hy, h, normH_plain _ _ X _ hX]
      | false =>
        rw [hq] at h
        simp -implicitDefEqProofs (disch := omega) [wrap_of, ilt_t, ilt_f, ile_t, ile_f, nlt_t, nlt_f, nle_t, nle_f, ieq_t, ieq_f, imin_l, imin_r, imax_l, imax_r, take_app1, take_map_all, round_eq, b83_1, h0, h7, h1, hk, ← hy, h, normH_plain _ _ X _ hX])
    (by simp -implicitDefEqProofs (disch := omega) [wrap_of, ilt_t, ilt_f, ile_t, ile_f, nlt_t, nlt_f, nle_t, nle_f, ieq_t, ieq_f, imin_l, imin_r, imax_l, imax_r, take_app1, take_map_all, round_eq, b83_1, h0, h7, h1, normH_plain _ _ X _ hX])
theorem s58 {n : Nat} (hn : 32 < n) (l : List Int) (hl : l.length ≤ 1000) (f : Bool) (g : FuncId) (first cap : List AV) (q : Int → Bool) (X : AH) (hX : X.all plainB = true) (hg : ∀ x ∈ l, callA (C08.tab 31) g (first ++ I x :: cap) X = some (.bool (q x), X)) :
    callA (C08.tab n) 58 [.lst f (l.map I), .fn (.func g) first cap] X = some (.bool (l.any q), X) := by
  rw [p58 hn, runH_eq]
  have h := p83 (n := 32) (by decide)
  have h1 := l83 (Γ := C08.tab 31) l hl f g first cap q X hX hg
  simp -implicitDefEqProofs (disch := omega) [wrap_of, ilt_t, ilt_f, ile_t, ile_f, nlt_t, nlt_f, nle_t, nle_f, ieq_t, ieq_f, imin_l, imin_r, imax_l, imax_r, take_app1, take_map_all, c58, h, runH_eq, c83, normH_plain _ _ X _ hX]
  rw [h1 _ (by simp -implicitDefEqProofs (disch := omega) [wrap_of, ilt_t, ilt_f, ile_t, ile_f, nlt_t, nlt_f, nle_t, nle_f, ieq_t, ieq_f, imin_l, imin_r, imax_l, imax_r, take_app1, take_map_all, ]) (by simp -implicitDefEqProofs (disch := omega) [wrap_of, ilt_t, ilt_f, ile_t, ile_f, nlt_t, nlt_f, nle_t, nle_f, ieq_t, ieq_f, imin_l, imin_r, imax_l, imax_r, take_app1, take_map_all, ]) (by simp -implicitDefEqProofs (disch := omega) [wrap_of, ilt_t, ilt_f, ile_t, ile_f, nlt_t, nlt_f, nle_t, nle_f, ieq_t, ieq_f, imin_l, imin_r, imax_l, imax_r, take_app1, take_map_all, ])]
  cases hf : l.find? q with
  | none =>
    have ha : l.any q = false := by
      rw [← Bool.not_eq_true, List.any_eq_true]
      rintro ⟨x, hx, hq⟩
      exact (List.find?_eq_none.1 hf x hx) hq
    generalize l.any q = u at *
    subst ha
    simp -implicitDefEqProofs (disch := omega) [wrap_of, ilt_t, ilt_f, ile_t, ile_f, nlt_t, nlt_f, nle_t, nle_f, ieq_t, ieq_f, imin_l, imin_r, imax_l, imax_r, take_app1, take_map_all, ]
  | some y =>
    have ha : l.any q = true := List.any_eq_true.2 ⟨y, List.mem_of_find?_eq_some hf, List.find?_some hf⟩
    generalize l.any q = u at *
    subst ha
    simp -implicitDefEqProofs (disch := omega) [wrap_of, ilt_t, ilt_f, ile_t, ile_f, nlt_t, nlt_f, nle_t, nle_f, ieq_t, ieq_f, imin_l, imin_r, imax_l, imax_r, take_app1, take_map_all, ]
theorem cmpK_le (y x : Ho) : cmpK y.c y.h x ≤ 0 ↔ lessK x.c x.h y = false := by
  have hc : cmpI x.c y.c = if x.c < y.c then -1 else if y.c < x.c then 1 else 0 := rfl
  have hh : cmpI x.h y.h = if x.h < y.h then -1 else if y.h < x.h then 1 else 0 := rfl
  unfold cmpK lessK
  rw [decide_eq_false_iff_not]
  rcases Int.lt_trichotomy x.c y.c with h | h | h
  · rw [if_pos h] at hc
    rw [hc, if_pos (by omega)]
    omega
  · rw [if_neg (by omega), if_neg (by omega)] at hc
    rw [hc, if_neg (by omega)]
    rcases Int.lt_trichotomy x.h y.h with h2 | h2 | h2
    · rw [if_pos h2] at hh
      rw [hh]
      omega
    · rw [if_neg (by omega), if_neg (by omega)] at hh
      rw [hh]
      omega
    · rw [if_neg (by omega), if_pos h2] at hh
      rw [hh]
      omega
  · rw [if_neg (by omega), if_pos h] at hc
    rw [hc, if_pos (by omega)]
    omega
/-- What a round leaves. -/
def hq (t : Tr.Tree) (x : Ho) : AH := [.var [.int .i64 x.c, .int .i64 x.h, .int .i64 x.ino], .var [.int .i64 (getZ t x.ino).ino, .int .i64 (getZ t x.ino).kind, .int .i64 (getZ t x.ino).links, .lst (getZ t x.ino).fd ((getZ t x.ino).data.map B), .lst (getZ t x.ino).fe ((getZ t x.ino).ents.map En), .int .i64 (getZ t x.ino).up]]
def hqi (t : Tr.Tree) (l : List Ho) (i : Nat) : AH := (l[i]?).elim [] (hq t)
theorem rowH_all (t : Tr.Tree) (l : List Ho) : (((List.range l.length).find? fun k => !rowH t l k) = none ∧ (List.range l.length).all (rowH t l) = true) ∨ ∃ k, ((List.range l.length).find? fun k => !rowH t l k) = some k ∧ (List.range l.length).all (rowH t l) = false := by
  cases hf : (List.range l.length).find? fun k => !rowH t l k with
  | none =>
    refine .inl ⟨rfl, ?_⟩
    rw [List.all_eq_true]
    intro k hk
    have := List.find?_eq_none.1 hf k hk
    simpa using this
  | some k =>
    refine .inr ⟨k, rfl, ?_⟩
    rw [← Bool.not_eq_true, List.all_eq_true]
    intro h
    have h1 := h k (List.mem_of_find?_eq_some hf)
    have h2 := List.find?_some hf
    rw [h1] at h2
    cases h2
theorem l26 {n : Nat} (hn : 16 < n) (t : Tr.Tree) (ht : Srt t.nodes) (htl : t.nodes.length ≤ 1000) (l : List Ho) (hl : l.length ≤ 1000) (f : Bool) (e0 : Env) (h2 : e0 2 = .rptr [.lst t.fn (t.nodes.map Nd), .int .i64 t.next, .int .i64 t.cookie]) (h3 : e0 3 = .ptr 0 0 0 0) (h12 : e0 12 = .lst f (l.map Hv)) (h13 : e0 13 = .int .i64 l.length) :
    iter (round (C08.tab n) [14] [(.exit 0, []), (.ret, [4])] c26_1 e0 1 []) ([.int .i64 0], [.var [.lst f (l.map Hv)]]) = some (((List.range l.length).find? fun k => !rowH t l k).elim (.exit 0, [], [.var [.lst f (l.map Hv)]]) fun k => (.ret, [.bool false], [.var [.lst f (l.map Hv)]] ++ hqi t l k)) := by
  have := for_idx (f := round (C08.tab n) [14] [(.exit 0, []), (.ret, [4])] c26_1 e0 1 []) (fun i => ([.int .i64 (i : Int)], [.var [.lst f (l.map Hv)]])) (List.range l.length) (fun k => !rowH t l k) (fun _ k => (.ret, [.bool false], [.var [.lst f (l.map Hv)]] ++ hqi t l k)) (.exit 0, [], [.var [.lst f (l.map Hv)]]) (fun i hi => by
      have hi : i < l.length := by simpa using hi
      rw [List.getElem_range]
      unfold rowH hqi
      rw [List.getElem?_eq_getElem hi]
      obtain ⟨x, hx⟩ : ∃ x, x = l[i] := ⟨_, rfl⟩
      have h57 := s57 (n := n) (by omega) x
      have h38 := s38 (n := n) (by omega) x.c x.h
      have h39 := s39 (n := n) hn t ht htl x.ino
      rw [← hx]
      show _ = if (!(okK x.c x.h && (((find t.nodes x.ino).elim false fun q => decide (q.kind = 1)) && (decide (i = 0) || (l[i - 1]?).elim false (lessK x.c x.h))))) = true then some (Sum.inr (AX.ret, [AV.bool false], [AB.var [AV.lst f (l.map Hv)]] ++ hq t x)) else some (Sum.inl ([I ((i + 1 : Nat) : Int)], [AB.var [AV.lst f (l.map Hv)]]))
      unfold hq getZ
      generalize okK x.c x.h = k1 at *
      simp only [Hv] at h57
      unfold getV at h39
      cases k1 with
      | false =>
        cases hf : find t.nodes x.ino with
        | none =>
          rw [hf] at h39
          simp only [Option.elim_none, Tv, Nd, nodeZ, List.map_nil] at h39
          simp -implicitDefEqProofs (disch := omega) [wrap_of, ilt_t, ilt_f, ile_t, ile_f, nlt_t, nlt_f, nle_t, nle_f, ieq_t, ieq_f, imin_l, imin_r, imax_l, imax_r, take_app1, take_map_all, round_eq, b26_1, h2, h3, h12, h13, hi, ← hx, a39, h39, a57, h57, a38, h38, nodeZ]
        | some q =>
          rw [hf] at h39
          simp only [Option.elim_some, Tv, Nd] at h39
          simp -implicitDefEqProofs (disch := omega) [wrap_of, ilt_t, ilt_f, ile_t, ile_f, nlt_t, nlt_f, nle_t, nle_f, ieq_t, ieq_f, imin_l, imin_r, imax_l, imax_r, take_app1, take_map_all, round_eq, b26_1, h2, h3, h12, h13, hi, ← hx, a39, h39, a57, h57, a38, h38]
      | true =>
        cases hf : find t.nodes x.ino with
        | none =>
          rw [hf] at h39
          simp only [Option.elim_none, Tv, Nd, nodeZ, List.map_nil] at h39
          simp -implicitDefEqProofs (disch := omega) [wrap_of, ilt_t, ilt_f, ile_t, ile_f, nlt_t, nlt_f, nle_t, nle_f, ieq_t, ieq_f, imin_l, imin_r, imax_l, imax_r, take_app1, take_map_all, round_eq, b26_1, h2, h3, h12, h13, hi, ← hx, a39, h39, a57, h57, a38, h38, nodeZ]
        | some q =>
          rw [hf] at h39
          simp only [Option.elim_some, Tv, Nd] at h39
          by_cases c1 : q.kind = 1
          · rcases Nat.eq_zero_or_pos i with c2 | c2
            · subst c2
              simp -implicitDefEqProofs (disch := omega) [wrap_of, ilt_t, ilt_f, ile_t, ile_f, nlt_t, nlt_f, nle_t, nle_f, ieq_t, ieq_f, imin_l, imin_r, imax_l, imax_r, take_app1, take_map_all, round_eq, b26_1, h2, h3, h12, h13, hi, ← hx, a39, h39, a57, h57, a38, h38, c1]
            · obtain ⟨j, rfl⟩ : ∃ j, i = j + 1 := ⟨i - 1, by omega⟩
              have hj : j < l.length := by omega
              rw [Nat.add_sub_cancel, List.getElem?_eq_getElem hj]
              obtain ⟨y, hy⟩ : ∃ y, y = l[j] := ⟨_, rfl⟩
              have h57y := s57 (n := n) (by omega) y
              have h41 := s41 (n := n) (by omega) y.c y.h x 0 0
              have hle := cmpK_le y x
              rw [← hy]
              simp only [Hv] at h57y h41
              simp only [Option.elim_some]
              generalize cmpK y.c y.h x = ck at *
              by_cases hlk : lessK x.c x.h y = true
              · have hc : ¬ ck ≤ 0 := fun h => by rw [hle.1 h] at hlk; cases hlk
                simp -implicitDefEqProofs (disch := omega) [wrap_of, ilt_t, ilt_f, ile_t, ile_f, nlt_t, nlt_f, nle_t, nle_f, ieq_t, ieq_f, imin_l, imin_r, imax_l, imax_r, take_app1, take_map_all, round_eq, b26_1, h2, h3, h12, h13, hi, ← hx, a39, h39, a57, h57, a38, h38, c1, hj, ← hy, h57y, h41, hc, hlk]
              · have hlk : lessK x.c x.h y = false := by simpa using hlk
                have hc : ck ≤ 0 := hle.2 hlk
                simp -implicitDefEqProofs (disch := omega) [wrap_of, ilt_t, ilt_f, ile_t, ile_f, nlt_t, nlt_f, nle_t, nle_f, ieq_t, ieq_f, imin_l, imin_r, imax_l, imax_r, take_app1, take_map_all, round_eq, b26_1, h2, h3, h12, h13, hi, ← hx, a39, h39, a57, h57, a38, h38, c1, hj, ← hy, h57y, h41, hc, hlk]
          · simp -implicitDefEqProofs (disch := omega) [wrap_of, ilt_t, ilt_f, ile_t, ile_f, nlt_t, nlt_f, nle_t, nle_f, ieq_t, ieq_f, imin_l, imin_r, imax_l, imax_r, take_app1, take_map_all, round_eq, b26_1, h2, h3, h12, h13, hi, ← hx, a39, h39, a57, h57, a38, h38, c1])
    (by simp -implicitDefEqProofs (disch := omega) [wrap_of, ilt_t, ilt_f, ile_t, ile_f, nlt_t, nlt_f, nle_t, nle_f, ieq_t, ieq_f, imin_l, imin_r, imax_l, imax_r, take_app1, take_map_all, round_eq, b26_1, h13])
  simpa using this
theorem s26 {n : Nat} (hn : 33 < n) (t : Tr.Tree) (ht : Srt t.nodes) (htl : t.nodes.length ≤ 1000) (l : List Ho) (hl : l.length ≤ 1000) (f : Bool) : (C08.tab n).p 26 [Tv t, .lst f (l.map Hv)] = some (.bool (rightH t l)) := by
  rw [p26 hn, runP_eq, runH_eq]
  have h := l26 (n := 33) (by decide) t ht htl l hl f
  have h24 := s24 (n := 33) (by decide) t htl
  have h58 := s58 (n := 33) (by decide) (orphs t) (Nat.le_trans (orphs_len t) htl) false 59 [] [.ptr 0 0 0 0] (fun i => !hld l i) [.var [.lst f (l.map Hv)]] rfl (fun x _ => s59 (n := 31) (by decide) l hl f x _ 0 rfl)
  have ha : ((orphs t).any fun i => !hld l i) = !(orphs t).all (hld l) := by rw [List.any_eq_not_all_not]; simp
  rw [ha] at h58
  unfold rightH
  generalize (orphs t).all (hld l) = u at *
  have hv := rowH_all t l
  generalize (List.range l.length).all (rowH t l) = v at *
  simp only [Tv] at h24
  by_cases c1 : 64 < l.length
  · simp -implicitDefEqProofs (disch := omega) [wrap_of, ilt_t, ilt_f, ile_t, ile_f, nlt_t, nlt_f, nle_t, nle_f, ieq_t, ieq_f, imin_l, imin_r, imax_l, imax_r, take_app1, take_map_all, c26, c1]
  · simp -implicitDefEqProofs (disch := omega) [wrap_of, ilt_t, ilt_f, ile_t, ile_f, nlt_t, nlt_f, nle_t, nle_f, ieq_t, ieq_f, imin_l, imin_r, imax_l, imax_r, take_app1, take_map_all, c26, c1]
    rw [h _ (by simp -implicitDefEqProofs (disch := omega) [wrap_of, ilt_t, ilt_f, ile_t, ile_f, nlt_t, nlt_f, nle_t, nle_f, ieq_t, ieq_f, imin_l, imin_r, imax_l, imax_r, take_app1, take_map_all, ]) (by simp -implicitDefEqProofs (disch := omega) [wrap_of, ilt_t, ilt_f, ile_t, ile_f, nlt_t, nlt_f, nle_t, nle_f, ieq_t, ieq_f, imin_l, imin_r, imax_l, imax_r, take_app1, take_map_all, ]) (by simp -implicitDefEqProofs (disch := omega) [wrap_of, ilt_t, ilt_f, ile_t, ile_f, nlt_t, nlt_f, nle_t, nle_f, ieq_t, ieq_f, imin_l, imin_r, imax_l, imax_r, take_app1, take_map_all, ]) (by simp -implicitDefEqProofs (disch := omega) [wrap_of, ilt_t, ilt_f, ile_t, ile_f, nlt_t, nlt_f, nle_t, nle_f, ieq_t, ieq_f, imin_l, imin_r, imax_l, imax_r, take_app1, take_map_all, ])]
    rcases hv with ⟨hv, rfl⟩ | ⟨k, hv, rfl⟩
    · rw [hv]
      simp -implicitDefEqProofs (disch := omega) [wrap_of, ilt_t, ilt_f, ile_t, ile_f, nlt_t, nlt_f, nle_t, nle_f, ieq_t, ieq_f, imin_l, imin_r, imax_l, imax_r, take_app1, take_map_all, a24, h24, h58]
    · rw [hv]
      generalize [AB.var [AV.lst f (l.map Hv)]] ++ hqi t l k = X
      simp -implicitDefEqProofs (disch := omega) [wrap_of, ilt_t, ilt_f, ile_t, ile_f, nlt_t, nlt_f, nle_t, nle_f, ieq_t, ieq_f, imin_l, imin_r, imax_l, imax_r, take_app1, take_map_all, ]
end Go.Proofs.Ytdnoopjpkcmpjaa

namespace Go.Proofs.Ytdnoopjpkcmpjaa
open Go.Am Go.Tr

theorem l27 {n : Nat} (hn : 35 < n) (t : Tr.Tree) (hb : Bt t) (l : List Ho) (hl : l.length ≤ 1000) (f : Bool) (e0 : Env) (h2 : e0 2 = .rptr [.lst t.fn (t.nodes.map Nd), .int .i64 t.next, .int .i64 t.cookie]) (h1 : e0 1 = .lst f (l.map Hv)) :
    iter (round (C08.tab n) [5] [(.exit 0, []), (.ret, [4])] c27_1 e0 0 []) ([.int .i64 0], []) = some (((List.range l.length).find? fun k => !rowH t l k).elim (.exit 0, [], []) fun k => (.ret, [.bool false], hqi t l k)) := by
  have := for_idx (f := round (C08.tab n) [5] [(.exit 0, []), (.ret, [4])] c27_1 e0 0 []) (fun i => ([.int .i64 (i : Int)], [])) (List.range l.length) (fun k => !rowH t l k) (fun _ k => (.ret, [.bool false], hqi t l k)) (.exit 0, [], []) (fun i hi => by
      have hi : i < l.length := by simpa using hi
      rw [List.getElem_range]
      unfold rowH hqi
      rw [List.getElem?_eq_getElem hi]
      obtain ⟨x, hx⟩ : ∃ x, x = l[i] := ⟨_, rfl⟩
      have hG := s29 (n := n) (by omega) t hb x.ino
      rw [← hx]
      show _ = if (!(okK x.c x.h && (((find t.nodes x.ino).elim false fun q => decide (q.kind = 1)) && (decide (i = 0) || (l[i - 1]?).elim false (lessK x.c x.h))))) = true then some (Sum.inr (AX.ret, [AV.bool false], hq t x)) else some (Sum.inl ([I ((i + 1 : Nat) : Int)], ([] : AH)))
      unfold hq getZ okK
      unfold getV at hG
      by_cases k1 : 0 ≤ x.c
      · by_cases k2 : x.c < 16
        · by_cases k3 : 0 ≤ x.h
          · by_cases k4 : x.h ≤ 99
            · cases hf : find t.nodes x.ino with
              | none =>
                rw [hf] at hG
                simp only [Option.elim_none, Tv, Nd, nodeZ, List.map_nil] at hG
                simp -implicitDefEqProofs (disch := omega) [wrap_of, ilt_t, ilt_f, ile_t, ile_f, nlt_t, nlt_f, nle_t, nle_f, ieq_t, ieq_f, imin_l, imin_r, imax_l, imax_r, take_app1, take_map_all, round_eq, b27_1, h2, h1, hi, ← hx, a29, hG, k1, k2, k3, k4, nodeZ]
              | some q =>
                rw [hf] at hG
                simp only [Option.elim_some, Tv, Nd] at hG
                by_cases c1 : q.kind = 1
                · rcases Nat.eq_zero_or_pos i with c2 | c2
                  · subst c2
                    simp -implicitDefEqProofs (disch := omega) [wrap_of, ilt_t, ilt_f, ile_t, ile_f, nlt_t, nlt_f, nle_t, nle_f, ieq_t, ieq_f, imin_l, imin_r, imax_l, imax_r, take_app1, take_map_all, round_eq, b27_1, h2, h1, hi, ← hx, a29, hG, k1, k2, k3, k4, c1]
                  · obtain ⟨j, rfl⟩ : ∃ j, i = j + 1 := ⟨i - 1, by omega⟩
                    have hj : j < l.length := by omega
                    rw [Nat.add_sub_cancel, List.getElem?_eq_getElem hj]
                    obtain ⟨y, hy⟩ : ∃ y, y = l[j] := ⟨_, rfl⟩
                    rw [← hy]
                    unfold lessK
                    simp only [Option.elim_some]
                    by_cases d1 : x.c < y.c
                    · have d2 : ¬ y.c < x.c := by omega
                      have d3 : ¬ y.c = x.c := by omega
                      simp -implicitDefEqProofs (disch := omega) [wrap_of, ilt_t, ilt_f, ile_t, ile_f, nlt_t, nlt_f, nle_t, nle_f, ieq_t, ieq_f, imin_l, imin_r, imax_l, imax_r, take_app1, take_map_all, round_eq, b27_1, h2, h1, hi, ← hx, a29, hG, k1, k2, k3, k4, c1, hj, ← hy, d1, d2, d3]
                    · by_cases d2 : y.c = x.c
                      · by_cases d3 : y.h < x.h
                        · have d4 : ¬ x.h ≤ y.h := by omega
                          simp -implicitDefEqProofs (disch := omega) [wrap_of, ilt_t, ilt_f, ile_t, ile_f, nlt_t, nlt_f, nle_t, nle_f, ieq_t, ieq_f, imin_l, imin_r, imax_l, imax_r, take_app1, take_map_all, round_eq, b27_1, h2, h1, hi, ← hx, a29, hG, k1, k2, k3, k4, c1, hj, ← hy, d1, d2, d3, d4]
                        · have d4 : x.h ≤ y.h := by omega
                          simp -implicitDefEqProofs (disch := omega) [wrap_of, ilt_t, ilt_f, ile_t, ile_f, nlt_t, nlt_f, nle_t, nle_f, ieq_t, ieq_f, imin_l, imin_r, imax_l, imax_r, take_app1, take_map_all, round_eq, b27_1, h2, h1, hi, ← hx, a29, hG, k1, k2, k3, k4, c1, hj, ← hy, d1, d2, d3, d4]
                      · have d3 : y.c < x.c := by omega
                        simp -implicitDefEqProofs (disch := omega) [wrap_of, ilt_t, ilt_f, ile_t, ile_f, nlt_t, nlt_f, nle_t, nle_f, ieq_t, ieq_f, imin_l, imin_r, imax_l, imax_r, take_app1, take_map_all, round_eq, b27_1, h2, h1, hi, ← hx, a29, hG, k1, k2, k3, k4, c1, hj, ← hy, d1, d2, d3]
                · simp -implicitDefEqProofs (disch := omega) [wrap_of, ilt_t, ilt_f, ile_t, ile_f, nlt_t, nlt_f, nle_t, nle_f, ieq_t, ieq_f, imin_l, imin_r, imax_l, imax_r, take_app1, take_map_all, round_eq, b27_1, h2, h1, hi, ← hx, a29, hG, k1, k2, k3, k4, c1]
            · cases hf : find t.nodes x.ino with
              | none =>
                rw [hf] at hG
                simp only [Option.elim_none, Tv, Nd, nodeZ, List.map_nil] at hG
                simp -implicitDefEqProofs (disch := omega) [wrap_of, ilt_t, ilt_f, ile_t, ile_f, nlt_t, nlt_f, nle_t, nle_f, ieq_t, ieq_f, imin_l, imin_r, imax_l, imax_r, take_app1, take_map_all, round_eq, b27_1, h2, h1, hi, ← hx, a29, hG, k1, k2, k3, k4, nodeZ]
              | some q =>
                rw [hf] at hG
                simp only [Option.elim_some, Tv, Nd] at hG
                simp -implicitDefEqProofs (disch := omega) [wrap_of, ilt_t, ilt_f, ile_t, ile_f, nlt_t, nlt_f, nle_t, nle_f, ieq_t, ieq_f, imin_l, imin_r, imax_l, imax_r, take_app1, take_map_all, round_eq, b27_1, h2, h1, hi, ← hx, a29, hG, k1, k2, k3, k4]
          · cases hf : find t.nodes x.ino with
            | none =>
              rw [hf] at hG
              simp only [Option.elim_none, Tv, Nd, nodeZ, List.map_nil] at hG
              simp -implicitDefEqProofs (disch := omega) [wrap_of, ilt_t, ilt_f, ile_t, ile_f, nlt_t, nlt_f, nle_t, nle_f, ieq_t, ieq_f, imin_l, imin_r, imax_l, imax_r, take_app1, take_map_all, round_eq, b27_1, h2, h1, hi, ← hx, a29, hG, k1, k2, k3, nodeZ]
            | some q =>
              rw [hf] at hG
              simp only [Option.elim_some, Tv, Nd] at hG
              simp -implicitDefEqProofs (disch := omega) [wrap_of, ilt_t, ilt_f, ile_t, ile_f, nlt_t, nlt_f, nle_t, nle_f, ieq_t, ieq_f, imin_l, imin_r, imax_l, imax_r, take_app1, take_map_all, round_eq, b27_1, h2, h1, hi, ← hx, a29, hG, k1, k2, k3]
        · cases hf : find t.nodes x.ino with
          | none =>
            rw [hf] at hG
            simp only [Option.elim_none, Tv, Nd, nodeZ, List.map_nil] at hG
            simp -implicitDefEqProofs (disch := omega) [wrap_of, ilt_t, ilt_f, ile_t, ile_f, nlt_t, nlt_f, nle_t, nle_f, ieq_t, ieq_f, imin_l, imin_r, imax_l, imax_r, take_app1, take_map_all, round_eq, b27_1, h2, h1, hi, ← hx, a29, hG, k1, k2, nodeZ]
          | some q =>
            rw [hf] at hG
            simp only [Option.elim_some, Tv, Nd] at hG
            simp -implicitDefEqProofs (disch := omega) [wrap_of, ilt_t, ilt_f, ile_t, ile_f, nlt_t, nlt_f, nle_t, nle_f, ieq_t, ieq_f, imin_l, imin_r, imax_l, imax_r, take_app1, take_map_all, round_eq, b27_1, h2, h1, hi, ← hx, a29, hG, k1, k2]
      · cases hf : find t.nodes x.ino with
        | none =>
          rw [hf] at hG
          simp only [Option.elim_none, Tv, Nd, nodeZ, List.map_nil] at hG
          simp -implicitDefEqProofs (disch := omega) [wrap_of, ilt_t, ilt_f, ile_t, ile_f, nlt_t, nlt_f, nle_t, nle_f, ieq_t, ieq_f, imin_l, imin_r, imax_l, imax_r, take_app1, take_map_all, round_eq, b27_1, h2, h1, hi, ← hx, a29, hG, k1, nodeZ]
        | some q =>
          rw [hf] at hG
          simp only [Option.elim_some, Tv, Nd] at hG
          simp -implicitDefEqProofs (disch := omega) [wrap_of, ilt_t, ilt_f, ile_t, ile_f, nlt_t, nlt_f, nle_t, nle_f, ieq_t, ieq_f, imin_l, imin_r, imax_l, imax_r, take_app1, take_map_all, round_eq, b27_1, h2, h1, hi, ← hx, a29, hG, k1])
    (by simp -implicitDefEqProofs (disch := omega) [wrap_of, ilt_t, ilt_f, ile_t, ile_f, nlt_t, nlt_f, nle_t, nle_f, ieq_t, ieq_f, imin_l, imin_r, imax_l, imax_r, take_app1, take_map_all, round_eq, b27_1, h1])
  simpa using this
theorem l27b {n : Nat} (hn : 55 < n) (l : List Ho) (hl : l.length ≤ 1000) (f : Bool) (o : List Int) (ho : o.length ≤ 1000) (e0 : Env) (h1 : e0 1 = .lst f (l.map Hv)) (h9 : e0 9 = .lst false (o.map I)) :
    iter (round (C08.tab n) [10] [(.exit 2, []), (.ret, [4])] c27_2 e0 0 []) ([.int .i64 0], []) = some (if o.all (hld l) = true then (.exit 2, [], []) else (.ret, [.bool false], [])) :=
  for_all (f := round (C08.tab n) [10] [(.exit 2, []), (.ret, [4])] c27_2 e0 0 []) (fun i => ([.int .i64 (i : Int)], [])) o (hld l) _ _ (fun i hi => by
      obtain ⟨x, hx⟩ : ∃ x, x = o[i] := ⟨_, rfl⟩
      rw [← hx]
      have h30 := s30 (n := n) (by omega) l hl f x
      have hz := cntH_hld l x
      generalize ((cntH l x : Nat) : Int) = cz at *
      generalize hld l x = u at *
      cases u with
      | true =>
        have hz' : ¬ cz = 0 := fun h => by cases hz.1 h
        simp -implicitDefEqProofs (disch := omega) [wrap_of, ilt_t, ilt_f, ile_t, ile_f, nlt_t, nlt_f, nle_t, nle_f, ieq_t, ieq_f, imin_l, imin_r, imax_l, imax_r, take_app1, take_map_all, round_eq, b27_2, h1, h9, hi, ← hx, a30, h30, hz']
      | false =>
        have hz' : cz = 0 := hz.2 rfl
        simp -implicitDefEqProofs (disch := omega) [wrap_of, ilt_t, ilt_f, ile_t, ile_f, nlt_t, nlt_f, nle_t, nle_f, ieq_t, ieq_f, imin_l, imin_r, imax_l, imax_r, take_app1, take_map_all, round_eq, b27_2, h1, h9, hi, ← hx, a30, h30, hz'])
    (by simp -implicitDefEqProofs (disch := omega) [wrap_of, ilt_t, ilt_f, ile_t, ile_f, nlt_t, nlt_f, nle_t, nle_f, ieq_t, ieq_f, imin_l, imin_r, imax_l, imax_r, take_app1, take_map_all, round_eq, b27_2, h9])
theorem s27 {n : Nat} (hn : 87 < n) (t : Tr.Tree) (hb : Bt t) (l : List Ho) (hl : l.length ≤ 1000) (f : Bool) : (C08.tab n).p 27 [Tv t, .lst f (l.map Hv)] = some (.bool (rightH t l)) := by
  rw [p27 hn, runP_eq, runH_eq]
  have h := l27 (n := 87) (by decide) t hb l hl f
  have h25 := s25 (n := 87) (by decide) t hb.len
  have h2 := l27b (n := 87) (by decide) l hl f (orphs t) (Nat.le_trans (orphs_len t) hb.len)
  have hol : (orphs t).length ≤ 1000 := Nat.le_trans (orphs_len t) hb.len
  unfold rightH
  have hv := rowH_all t l
  generalize (List.range l.length).all (rowH t l) = v at *
  generalize (orphs t).all (hld l) = u at *
  generalize orphs t = o at *
  simp only [Tv] at h25
  by_cases c1 : 64 < l.length
  · simp -implicitDefEqProofs (disch := omega) [wrap_of, ilt_t, ilt_f, ile_t, ile_f, nlt_t, nlt_f, nle_t, nle_f, ieq_t, ieq_f, imin_l, imin_r, imax_l, imax_r, take_app1, take_map_all, c27, c1]
  · simp -implicitDefEqProofs (disch := omega) [wrap_of, ilt_t, ilt_f, ile_t, ile_f, nlt_t, nlt_f, nle_t, nle_f, ieq_t, ieq_f, imin_l, imin_r, imax_l, imax_r, take_app1, take_map_all, c27, c1]
    rw [h _ (by simp -implicitDefEqProofs (disch := omega) [wrap_of, ilt_t, ilt_f, ile_t, ile_f, nlt_t, nlt_f, nle_t, nle_f, ieq_t, ieq_f, imin_l, imin_r, imax_l, imax_r, take_app1, take_map_all, ]) (by simp -implicitDefEqProofs (disch := omega) [wrap_of, ilt_t, ilt_f, ile_t, ile_f, nlt_t, nlt_f, nle_t, nle_f, ieq_t, ieq_f, imin_l, imin_r, imax_l, imax_r, take_app1, take_map_all, ])]
    rcases hv with ⟨hv, rfl⟩ | ⟨k, hv, rfl⟩
    · rw [hv]
      simp -implicitDefEqProofs (disch := omega) [wrap_of, ilt_t, ilt_f, ile_t, ile_f, nlt_t, nlt_f, nle_t, nle_f, ieq_t, ieq_f, imin_l, imin_r, imax_l, imax_r, take_app1, take_map_all, a25, h25]
      rw [h2 _ (by simp -implicitDefEqProofs (disch := omega) [wrap_of, ilt_t, ilt_f, ile_t, ile_f, nlt_t, nlt_f, nle_t, nle_f, ieq_t, ieq_f, imin_l, imin_r, imax_l, imax_r, take_app1, take_map_all, ]) (by simp -implicitDefEqProofs (disch := omega) [wrap_of, ilt_t, ilt_f, ile_t, ile_f, nlt_t, nlt_f, nle_t, nle_f, ieq_t, ieq_f, imin_l, imin_r, imax_l, imax_r, take_app1, take_map_all, ])]
      cases u with
      | true => simp -implicitDefEqProofs (disch := omega) [wrap_of, ilt_t, ilt_f, ile_t, ile_f, nlt_t, nlt_f, nle_t, nle_f, ieq_t, ieq_f, imin_l, imin_r, imax_l, imax_r, take_app1, take_map_all, ]
      | false => simp -implicitDefEqProofs (disch := omega) [wrap_of, ilt_t, ilt_f, ile_t, ile_f, nlt_t, nlt_f, nle_t, nle_f, ieq_t, ieq_f, imin_l, imin_r, imax_l, imax_r, take_app1, take_map_all, ]
    · rw [hv]
      generalize hqi t l k = X
      simp -implicitDefEqProofs (disch := omega) [wrap_of, ilt_t, ilt_f, ile_t, ile_f, nlt_t, nlt_f, nle_t, nle_f, ieq_t, ieq_f, imin_l, imin_r, imax_l, imax_r, take_app1, take_map_all, ]
end Go.Proofs.Ytdnoopjpkcmpjaa

namespace Go.Proofs.Ytdnoopjpkcmpjaa
open Go.Am Go.Tr

theorem wbt {t : Tr.Tree} (w : WFt t) : Bt t := bt_of w.bg (by omega)
/-- An act as it is read. -/
structure Ad where
  d : UInt8
  c : UInt8
  h : UInt8
  n : UInt8
  m : UInt8
def Ad.ac (a : Ad) : Tr.Act := ⟨a.d.toNat, a.c.toNat, a.h.toNat, a.n.toNat, a.m.toNat⟩
@[simp] def Av (a : Ad) : AV := .agg [.int .u8 a.d.toNat, .int .u8 a.c.toNat, .int .u8 a.h.toNat, .int .u8 a.n.toNat, .int .u8 a.m.toNat]
@[simp] theorem szAv (l : List Ad) : szOk 5 (l.map Av) = true := by simp [szOk]
theorem s14 {n : Nat} (hn : 69 < n) (a : Ad) : (C08.tab n).p 14 [Av a] = some (I (whoA a.ac)) := by
  rw [p14 hn, runP_eq, runH_eq]
  have h1 : (a.c.toNat : Int).tmod 5 = ((a.c.toNat % 5 : Nat) : Int) := rfl
  have h2 : (a.c.toNat : Int).tdiv 250 = ((a.c.toNat / 250 : Nat) : Int) := rfl
  have h3 := u8lt a.c
  unfold whoA Ad.ac
  simp -implicitDefEqProofs (disch := omega) [wrap_of, ilt_t, ilt_f, ile_t, ile_f, nlt_t, nlt_f, nle_t, nle_f, ieq_t, ieq_f, imin_l, imin_r, imax_l, imax_r, take_app1, take_map_all, c14, h1, h2]
theorem s15 {n : Nat} (hn : 70 < n) (a : Ad) : (C08.tab n).p 15 [Av a] = some (I (handA a.ac)) := by
  rw [p15 hn, runP_eq, runH_eq]
  have h1 : (a.h.toNat : Int).tmod 6 = ((a.h.toNat % 6 : Nat) : Int) := rfl
  have h2 : (a.h.toNat : Int).tdiv 240 = ((a.h.toNat / 240 : Nat) : Int) := rfl
  have h3 := u8lt a.h
  unfold handA Ad.ac
  simp -implicitDefEqProofs (disch := omega) [wrap_of, ilt_t, ilt_f, ile_t, ile_f, nlt_t, nlt_f, nle_t, nle_f, ieq_t, ieq_f, imin_l, imin_r, imax_l, imax_r, take_app1, take_map_all, c15, h1, h2]
theorem s10 {n : Nat} (hn : 53 < n) (l : List Sd) (hl : l.length ≤ 9223372036854775807) (hd : ∀ s ∈ l, s.data.length ≤ 9223372036854775807) (f : Bool) (m : List Ad) (hm : m.length ≤ 9223372036854775807) (g : Bool) : (C08.tab n).p 10 [.lst f (l.map Sv), .lst g (m.map Av)] = some (.bool (greatT l || decide (80 < m.length))) := by
  rw [p10 hn, runP_eq, runH_eq]
  have h := s37 (n := 53) (by decide) l hl hd f
  generalize greatT l = u at *
  cases u with
  | true => simp -implicitDefEqProofs (disch := omega) [wrap_of, ilt_t, ilt_f, ile_t, ile_f, nlt_t, nlt_f, nle_t, nle_f, ieq_t, ieq_f, imin_l, imin_r, imax_l, imax_r, take_app1, take_map_all, c10, a37, h]
  | false =>
    by_cases c1 : 80 < m.length
    · simp -implicitDefEqProofs (disch := omega) [wrap_of, ilt_t, ilt_f, ile_t, ile_f, nlt_t, nlt_f, nle_t, nle_f, ieq_t, ieq_f, imin_l, imin_r, imax_l, imax_r, take_app1, take_map_all, c10, a37, h, c1]
    · simp -implicitDefEqProofs (disch := omega) [wrap_of, ilt_t, ilt_f, ile_t, ile_f, nlt_t, nlt_f, nle_t, nle_f, ieq_t, ieq_f, imin_l, imin_r, imax_l, imax_r, take_app1, take_map_all, c10, a37, h, c1]
theorem s20 {n : Nat} (hn : 68 < n) (l : List Sd) (hl : l.length ≤ 1000000) (hd : ∀ s ∈ l, s.data.length ≤ 9223372036854775807) (f : Bool) : (C08.tab n).p 20 [.lst f (l.map Sv)] = some (Tv (swept (Tr.made okN sLess (l.map Sd.st)) [])) := by
  rw [p20 hn, runP_eq, runH_eq]
  have h51 := s51 (n := 68) (by decide) l hl hd f
  have w : WFt (Tr.made okN sLess (l.map Sd.st)) := WF.made ord_sLess _
  generalize Tr.made okN sLess (l.map Sd.st) = t at *
  have h33 := s33 (n := 68) (by decide) t (wbt w) [] (by simp) true
  generalize swept t [] = u at *
  simp only [Tv, List.map_nil] at h51 h33
  simp -implicitDefEqProofs (disch := omega) [wrap_of, ilt_t, ilt_f, ile_t, ile_f, nlt_t, nlt_f, nle_t, nle_f, ieq_t, ieq_f, imin_l, imin_r, imax_l, imax_r, take_app1, take_map_all, c20, a51, h51, a33, h33]
theorem s52 {n : Nat} (hn : 71 < n) (t : Tr.Tree) (w : WFt t) (l : List Ho) (hl : l.length ≤ 1000) (f : Bool) (a : Ad) : (C08.tab n).p 52 [Tv t, .lst f (l.map Hv), Av a] = some (Tv (takenT okN t l a.ac)) := by
  rw [p52 hn, runP_eq, runH_eq]
  have hb := wbt w
  have hN := s12 (n := 71) (by decide) t hb a.n.toNat (u8lt _)
  have hM := s81 (n := 71) (by decide) a.m.toNat (u8lt _)
  have hU := s36 (n := 71) (by decide) t hb (nodeAt t a.n.toNat) (nameOf a.m.toNat) (nameOf_len _) (un_prem w _ _).1 (un_prem w _ _).2
  have w2 := w.un ord_sLess (nodeAt t a.n.toNat) (nameOf a.m.toNat)
  unfold takenT Ad.ac
  simp only
  generalize Tr.un okN t (nodeAt t a.n.toNat) (nameOf a.m.toNat) = r at *
  obtain ⟨u, x, e⟩ := r
  simp only at w2 hU ⊢
  have hS := s33 (n := 71) (by decide) u (wbt w2) l hl f
  generalize swept u l = v at *
  simp only [Tv] at hN hU hS
  simp -implicitDefEqProofs (disch := omega) [wrap_of, ilt_t, ilt_f, ile_t, ile_f, nlt_t, nlt_f, nle_t, nle_f, ieq_t, ieq_f, imin_l, imin_r, imax_l, imax_r, take_app1, take_map_all, c52, hN, hM, hU, a33, hS]
def doneG (t : Tr.Tree) (l : List Ho) (f : Bool) (a : Tr.Act) : Bool := match a.d % 8 with
  | 4 | 5 => f && !decide ((closeP t l (whoA a) (handA a)).2.2 = 0)
  | 6 => (all_.foldl (gf (whoA a)) (t, l, f)).2.2
  | 7 => f
  | _ => f && !decide ((openP t l (whoA a) (handA a) (nodeAt t a.n)).2 = 0)
theorem s22 {n : Nat} (hn : 77 < n) (t : Tr.Tree) (w : WFt t) (l : List Ho) (hl : l.length ≤ 1000) (f : Bool) (a : Ad) :
    (C08.tab n).p 22 [Tv t, .lst f (l.map Hv), Av a] = some (.tup [Tv (doneP okN t l a.ac).1, .lst (doneG t l f a.ac) ((doneP okN t l a.ac).2.1.map Hv), I (doneP okN t l a.ac).2.2]) := by
  rw [p22 hn, runP_eq, runH_eq]
  have hb := wbt w
  have h14 := s14 (n := 77) (by decide) a
  have h15 := s15 (n := 77) (by decide) a
  have hN := s12 (n := 77) (by decide) t hb a.n.toNat (u8lt _)
  have h52 := s52 (n := 77) (by decide) t w l hl f a
  have h53 := s53 (n := 77) (by decide) t hb l hl f (whoA a.ac) (handA a.ac)
  have h55 := s55 (n := 77) (by decide) t hb l hl f (whoA a.ac) (handA a.ac) (nodeAt t a.n.toNat)
  have h54 := s54x (n := 77) (by decide) t hb l hl f (whoA a.ac)
  have e6 := gf_fold (whoA a.ac) all_ (t, l, f)
  simp only at e6
  have hdd : (a.d.toNat : Int).tmod 8 = ((a.d.toNat % 8 : Nat) : Int) := rfl
  have hd8 : a.d.toNat % 8 < 8 := Nat.mod_lt _ (by omega)
  have hdl := u8lt a.d
  have e : doneP okN t l a.ac = match a.d.toNat % 8 with
    | 4 | 5 => closeP t l (whoA a.ac) (handA a.ac)
    | 6 => ((goneL (whoA a.ac) all_ t l).1, (goneL (whoA a.ac) all_ t l).2, 0)
    | 7 => (takenT okN t l a.ac, l, 0)
    | _ => (t, (openP t l (whoA a.ac) (handA a.ac) (nodeAt t a.n.toNat)).1, (openP t l (whoA a.ac) (handA a.ac) (nodeAt t a.n.toNat)).2) := rfl
  have eg : doneG t l f a.ac = match a.d.toNat % 8 with
    | 4 | 5 => f && !decide ((closeP t l (whoA a.ac) (handA a.ac)).2.2 = 0)
    | 6 => (all_.foldl (gf (whoA a.ac)) (t, l, f)).2.2
    | 7 => f
    | _ => f && !decide ((openP t l (whoA a.ac) (handA a.ac) (nodeAt t a.n.toNat)).2 = 0) := rfl
  rw [e, eg, ← e6]
  clear e eg e6
  generalize takenT okN t l a.ac = v at *
  generalize all_.foldl (gf (whoA a.ac)) (t, l, f) = r6 at *
  generalize closeP t l (whoA a.ac) (handA a.ac) = r4 at *
  generalize openP t l (whoA a.ac) (handA a.ac) (nodeAt t a.n.toNat) = r0 at *
  generalize whoA a.ac = c at *
  generalize handA a.ac = k at *
  generalize nodeAt t a.n.toNat = i at *
  generalize a.d.toNat % 8 = j at *
  obtain ⟨u6, l6, g⟩ := r6
  obtain ⟨u4, l4, e4⟩ := r4
  obtain ⟨l0, e0⟩ := r0
  simp only [Tv, Av] at h14 h15 hN h52 h53 h54 h55
  rcases (by omega : j = 4 ∨ j = 5 ∨ j = 6 ∨ j = 7 ∨ j = 0 ∨ j = 1 ∨ j = 2 ∨ j = 3) with h | h | h | h | h | h | h | h
  · subst h
    simp -implicitDefEqProofs (disch := omega) [wrap_of, ilt_t, ilt_f, ile_t, ile_f, nlt_t, nlt_f, nle_t, nle_f, ieq_t, ieq_f, imin_l, imin_r, imax_l, imax_r, take_app1, take_map_all, c22, hdd, h14, h15, h53]
  · subst h
    simp -implicitDefEqProofs (disch := omega) [wrap_of, ilt_t, ilt_f, ile_t, ile_f, nlt_t, nlt_f, nle_t, nle_f, ieq_t, ieq_f, imin_l, imin_r, imax_l, imax_r, take_app1, take_map_all, c22, hdd, h14, h15, h53]
  · subst h
    simp -implicitDefEqProofs (disch := omega) [wrap_of, ilt_t, ilt_f, ile_t, ile_f, nlt_t, nlt_f, nle_t, nle_f, ieq_t, ieq_f, imin_l, imin_r, imax_l, imax_r, take_app1, take_map_all, c22, hdd, h14, h54]
  · subst h
    simp -implicitDefEqProofs (disch := omega) [wrap_of, ilt_t, ilt_f, ile_t, ile_f, nlt_t, nlt_f, nle_t, nle_f, ieq_t, ieq_f, imin_l, imin_r, imax_l, imax_r, take_app1, take_map_all, c22, hdd, a52, h52]
  all_goals
    subst h
    simp -implicitDefEqProofs (disch := omega) [wrap_of, ilt_t, ilt_f, ile_t, ile_f, nlt_t, nlt_f, nle_t, nle_f, ieq_t, ieq_f, imin_l, imin_r, imax_l, imax_r, take_app1, take_map_all, c22, hdd, h14, h15, hN, h55]
theorem s21 {n : Nat} (hn : 85 < n) (t : Tr.Tree) (w : WFt t) (l : List Ho) (hs : SrtH l) (hl : l.length ≤ 1000) (f : Bool) (a : Ad) :
    ∃ g, (C08.tab n).p 21 [Tv t, .lst f (l.map Hv), Av a] = some (.tup [Tv (ownP okN t l a.ac).1, .lst g ((ownP okN t l a.ac).2.1.map Hv), I (ownP okN t l a.ac).2.2]) := by
  rw [p21 hn, runP_eq, runH_eq]
  have hb := wbt w
  have ht := w.wf.srt
  have h14 := s14 (n := 85) (by decide) a
  have h15 := s15 (n := 85) (by decide) a
  have hN := s12 (n := 85) (by decide) t hb a.n.toNat (u8lt _)
  have h52 := s52 (n := 85) (by decide) t w l hl f a
  have h18 := s18 (n := 85) (by decide) t ht hb.len l hl f (whoA a.ac) (handA a.ac)
  have h13 := s13 (n := 85) (by decide) t ht hb.len l hs hl f (whoA a.ac) (handA a.ac) (nodeAt t a.n.toNat)
  obtain ⟨g, h32⟩ := s32 (n := 85) (by decide) t ht hb l hl f (whoA a.ac)
  have hdd : (a.d.toNat : Int).tmod 8 = ((a.d.toNat % 8 : Nat) : Int) := rfl
  have hd8 : a.d.toNat % 8 < 8 := Nat.mod_lt _ (by omega)
  have hdl := u8lt a.d
  have e : ownP okN t l a.ac = match a.d.toNat % 8 with
    | 4 | 5 => closeP t l (whoA a.ac) (handA a.ac)
    | 6 => ((goneL (whoA a.ac) (own_ l (whoA a.ac)) t l).1, (goneL (whoA a.ac) (own_ l (whoA a.ac)) t l).2, 0)
    | 7 => (takenT okN t l a.ac, l, 0)
    | _ => (t, (openP t l (whoA a.ac) (handA a.ac) (nodeAt t a.n.toNat)).1, (openP t l (whoA a.ac) (handA a.ac) (nodeAt t a.n.toNat)).2) := rfl
  rw [e]
  clear e
  generalize takenT okN t l a.ac = v at *
  generalize goneL (whoA a.ac) (own_ l (whoA a.ac)) t l = r6 at *
  generalize closeP t l (whoA a.ac) (handA a.ac) = r4 at *
  generalize openP t l (whoA a.ac) (handA a.ac) (nodeAt t a.n.toNat) = r0 at *
  generalize whoA a.ac = c at *
  generalize handA a.ac = k at *
  generalize nodeAt t a.n.toNat = i at *
  generalize a.d.toNat % 8 = j at *
  obtain ⟨u6, l6⟩ := r6
  obtain ⟨u4, l4, e4⟩ := r4
  obtain ⟨l0, e0⟩ := r0
  simp only [Tv, Av] at h14 h15 hN h52 h18 h32 h13
  rcases (by omega : j = 4 ∨ j = 5 ∨ j = 6 ∨ j = 7 ∨ j = 0 ∨ j = 1 ∨ j = 2 ∨ j = 3) with h | h | h | h | h | h | h | h
  · subst h
    refine ⟨f && !decide (e4 = 0), ?_⟩
    simp -implicitDefEqProofs (disch := omega) [wrap_of, ilt_t, ilt_f, ile_t, ile_f, nlt_t, nlt_f, nle_t, nle_f, ieq_t, ieq_f, imin_l, imin_r, imax_l, imax_r, take_app1, take_map_all, c21, hdd, h14, h15, h18]
  · subst h
    refine ⟨f && !decide (e4 = 0), ?_⟩
    simp -implicitDefEqProofs (disch := omega) [wrap_of, ilt_t, ilt_f, ile_t, ile_f, nlt_t, nlt_f, nle_t, nle_f, ieq_t, ieq_f, imin_l, imin_r, imax_l, imax_r, take_app1, take_map_all, c21, hdd, h14, h15, h18]
  · subst h
    refine ⟨g, ?_⟩
    simp -implicitDefEqProofs (disch := omega) [wrap_of, ilt_t, ilt_f, ile_t, ile_f, nlt_t, nlt_f, nle_t, nle_f, ieq_t, ieq_f, imin_l, imin_r, imax_l, imax_r, take_app1, take_map_all, c21, hdd, h14, h32]
  · subst h
    refine ⟨f, ?_⟩
    simp -implicitDefEqProofs (disch := omega) [wrap_of, ilt_t, ilt_f, ile_t, ile_f, nlt_t, nlt_f, nle_t, nle_f, ieq_t, ieq_f, imin_l, imin_r, imax_l, imax_r, take_app1, take_map_all, c21, hdd, a52, h52]
  all_goals
    subst h
    refine ⟨f && !decide (e0 = 0), ?_⟩
    simp -implicitDefEqProofs (disch := omega) [wrap_of, ilt_t, ilt_f, ile_t, ile_f, nlt_t, nlt_f, nle_t, nle_f, ieq_t, ieq_f, imin_l, imin_r, imax_l, imax_r, take_app1, take_map_all, c21, hdd, h14, h15, hN, h13]
end Go.Proofs.Ytdnoopjpkcmpjaa

namespace Go.Proofs.Ytdnoopjpkcmpjaa
open Go.Am Go.Tr

/-- A loop, of which it is told what it keeps. -/
theorem for_rel {X Y : Type} {f : X → Option (X ⊕ Y)} (n : Nat) (P : Nat → X → Prop) (Q : Y → Prop)
    (hstep : ∀ i, i < n → ∀ x, P i x → (∃ x', f x = some (.inl x') ∧ P (i + 1) x') ∨ ∃ y, f x = some (.inr y) ∧ Q y)
    (hend : ∀ x, P n x → ∃ y, f x = some (.inr y) ∧ Q y) : ∀ k i, n - i = k → i ≤ n → ∀ x, P i x → ∃ y, iter f x = some y ∧ Q y := by
  intro k
  induction k with
  | zero =>
    intro i hk hi x hx
    have : i = n := by omega
    subst this
    obtain ⟨y, h1, h2⟩ := hend x hx
    exact ⟨y, by rw [iter_eq, h1], h2⟩
  | succ k ih =>
    intro i hk hi x hx
    rcases hstep i (by omega) x hx with ⟨x', h1, h2⟩ | ⟨y, h1, h2⟩
    · obtain ⟨y, h3, h4⟩ := ih (i + 1) (by omega) (by omega) x' h2
      exact ⟨y, by rw [iter_eq, h1]; exact h3, h4⟩
    · exact ⟨y, by rw [iter_eq, h1], h2⟩
abbrev Zt : List AV := [.lst true [], .int .i64 0, .int .i64 0]
abbrev Tb (t : Tr.Tree) : List AV := [.lst t.fn (t.nodes.map Nd), .int .i64 t.next, .int .i64 t.cookie]
def gd (s : Tr.Tree × List Ho × Bool) (a : Tr.Act) : Tr.Tree × List Ho × Bool := ((doneP okN s.1 s.2.1 a).1, (doneP okN s.1 s.2.1 a).2.1, doneG s.1 s.2.1 s.2.2 a)
theorem gd_fold (ac : List Tr.Act) : ∀ s : Tr.Tree × List Ho × Bool, ((ac.foldl gd s).1, (ac.foldl gd s).2.1) = ac.foldl (fun s a => ((doneP okN s.1 s.2 a).1, (doneP okN s.1 s.2 a).2.1)) (s.1, s.2.1) := by
  induction ac with
  | nil => intro s; rfl
  | cons a ac ih =>
    intro s
    rw [List.foldl_cons, ih]
    rfl
theorem gd_made (t : Tr.Tree) (ac : List Tr.Act) (f : Bool) : (ac.foldl gd (t, [], f)).1 = (madeH okN t ac).1 ∧ (ac.foldl gd (t, [], f)).2.1 = (madeH okN t ac).2 := by
  have h := gd_fold ac (t, [], f)
  exact ⟨congrArg Prod.fst h, congrArg Prod.snd h⟩
theorem l11 {n : Nat} (hn : 77 < n) (ac : List Ad) (ha : ac.length ≤ 1000000) (g : Bool) (s : Tr.Tree × List Ho × Bool) (w : WFt s.1) (hv : InvH s.1 s.2.1) (e0 : Env) (h1 : e0 1 = .lst g (ac.map Av)) (h6 : e0 6 = .ptr 1 0 0 0) :
    iter (round (C08.tab n) [7, 8] [(.exit 0, [7])] c11_1 e0 2 []) ([.lst s.2.2 (s.2.1.map Hv), .int .i64 0], [.var Zt, .var (Tb s.1)]) =
      some (.exit 0, [.lst ((ac.map Ad.ac).foldl gd s).2.2 (((ac.map Ad.ac).foldl gd s).2.1.map Hv)], [.var Zt, .var (Tb ((ac.map Ad.ac).foldl gd s).1)]) := by
  have := for_list (f := round (C08.tab n) [7, 8] [(.exit 0, [7])] c11_1 e0 2 []) (fun i (s : Tr.Tree × List Ho × Bool) => ([.lst s.2.2 (s.2.1.map Hv), .int .i64 (i : Int)], [.var Zt, .var (Tb s.1)])) ac (fun s a => gd s a.ac)
    (fun s => (.exit 0, [.lst s.2.2 (s.2.1.map Hv)], [.var Zt, .var (Tb s.1)])) (fun _ s => WFt s.1 ∧ InvH s.1 s.2.1)
    (fun i hi s hs => by
      obtain ⟨w, hv⟩ := hs
      obtain ⟨t, m, f⟩ := s
      obtain ⟨a, hae⟩ : ∃ a, a = ac[i] := ⟨_, rfl⟩
      rw [← hae]
      simp only at w hv
      have h22 := s22 (n := n) hn t w m (by have := hv.len; omega) f a
      unfold gd
      refine ⟨⟨w.doneP ord_sLess m a.ac, hv.doneP ord_sLess w a.ac⟩, ?_⟩
      simp only
      generalize doneP okN t m a.ac = z at *
      generalize doneG t m f a.ac = f' at *
      obtain ⟨v, o, err⟩ := z
      simp only [Tv, Av] at h22
      simp -implicitDefEqProofs (disch := omega) [wrap_of, ilt_t, ilt_f, ile_t, ile_f, nlt_t, nlt_f, nle_t, nle_f, ieq_t, ieq_f, imin_l, imin_r, imax_l, imax_r, take_app1, take_map_all, round_eq, b11_1, h1, h6, hi, ← hae, h22])
    (fun s hs => by simp -implicitDefEqProofs (disch := omega) [wrap_of, ilt_t, ilt_f, ile_t, ile_f, nlt_t, nlt_f, nle_t, nle_f, ieq_t, ieq_f, imin_l, imin_r, imax_l, imax_r, take_app1, take_map_all, round_eq, b11_1, h1]) s ⟨w, hv⟩
  rw [List.foldl_map]
  simpa using this
theorem s11 {n : Nat} (hn : 78 < n) (l : List Sd) (hl : l.length ≤ 1000000) (hd : ∀ s ∈ l, s.data.length ≤ 9223372036854775807) (f : Bool) (ac : List Ad) (ha : ac.length ≤ 1000000) (g : Bool) :
    ∃ f', (C08.tab n).p 11 [.lst f (l.map Sv), .lst g (ac.map Av)] = some (.tup [Tv (madeH okN (swept (Tr.made okN sLess (l.map Sd.st)) []) (ac.map Ad.ac)).1, .lst f' ((madeH okN (swept (Tr.made okN sLess (l.map Sd.st)) []) (ac.map Ad.ac)).2.map Hv)]) := by
  have h20 := s20 (n := 78) (by decide) l hl hd f
  obtain ⟨w, hv⟩ := start_inv (WF.made ord_sLess (l.map Sd.st) : WFt _)
  generalize swept (Tr.made okN sLess (l.map Sd.st)) [] = t at *
  have h := l11 (n := 78) (by decide) ac ha g (t, [], true) w hv
  have e := gd_made t (ac.map Ad.ac) true
  rw [← e.1, ← e.2]
  refine ⟨((ac.map Ad.ac).foldl gd (t, [], true)).2.2, ?_⟩
  generalize (ac.map Ad.ac).foldl gd (t, [], true) = r at *
  obtain ⟨u, m, f'⟩ := r
  simp only [Tv, List.map_nil] at h20 h ⊢
  rw [p11 hn, runP_eq, runH_eq]
  simp -implicitDefEqProofs (disch := omega) [wrap_of, ilt_t, ilt_f, ile_t, ile_f, nlt_t, nlt_f, nle_t, nle_f, ieq_t, ieq_f, imin_l, imin_r, imax_l, imax_r, take_app1, take_map_all, c11, a20, h20]
  rw [h _ (by simp -implicitDefEqProofs (disch := omega) [wrap_of, ilt_t, ilt_f, ile_t, ile_f, nlt_t, nlt_f, nle_t, nle_f, ieq_t, ieq_f, imin_l, imin_r, imax_l, imax_r, take_app1, take_map_all, ]) (by simp -implicitDefEqProofs (disch := omega) [wrap_of, ilt_t, ilt_f, ile_t, ile_f, nlt_t, nlt_f, nle_t, nle_f, ieq_t, ieq_f, imin_l, imin_r, imax_l, imax_r, take_app1, take_map_all, ])]
  simp -implicitDefEqProofs (disch := omega) [wrap_of, ilt_t, ilt_f, ile_t, ile_f, nlt_t, nlt_f, nle_t, nle_f, ieq_t, ieq_f, imin_l, imin_r, imax_l, imax_r, take_app1, take_map_all, ]
end Go.Proofs.Ytdnoopjpkcmpjaa

namespace Go.Proofs.Ytdnoopjpkcmpjaa
open Go.Am Go.Tr

def k1 : Tr.Tree := ⟨false, [⟨1, 2, 0, true, [], false, [⟨[102], 2, 1⟩], 1⟩, ⟨2, 1, 1, true, [], true, [], 0⟩], 3, 2⟩
def k2 : Tr.Tree := ⟨false, [⟨1, 2, 0, true, [], false, [], 1⟩, ⟨2, 1, 0, true, [], true, [], 0⟩], 3, 2⟩
def k3 : Tr.Tree := ⟨false, [⟨1, 2, 0, true, [], false, [], 1⟩], 3, 2⟩
abbrev lk : List Ho := [⟨3, 7, 2⟩]
theorem k1_add : Tr.add okN sLess newT 1 [102] 1 = (k1, 2, 0) := by decide
theorem k2_un : Tr.un okN k1 1 [102] = (k2, 2, 0) := by decide
theorem k3_close : closeP k2 lk 3 7 = (k3, [], 0) := by decide
theorem k3_again : closeP k3 [] 3 7 = (k3, [], 80) := by decide
theorem k_open : openP k1 [] 3 7 2 = (lk, 0) := by decide
theorem k_open2 : openP k1 lk 3 7 2 = (lk, 71) := by decide
theorem k_open3 : openP k1 lk 3 8 1 = (lk, 72) := by decide
theorem k_open4 : openP k1 lk 16 8 2 = (lk, 1) := by decide
theorem k_open5 : openP k1 lk 3 8 9 = (lk, 70) := by decide
theorem k_ino : inoP lk 3 7 = (2, 0) := by decide
theorem k_get : find k3.nodes 2 = none := by decide
theorem k_orphs : orphs k2 = [2] := by decide
theorem k_right : rightH k2 lk = true := by decide
theorem k_right2 : rightH k2 [] = false := by decide
theorem wnew : WFt newT := WF.new
theorem wk1 : WFt k1 := by
  have := wnew.add ord_sLess 1 [102] 1
  rw [k1_add] at this
  exact this
theorem wk2 : WFt k2 := by
  have := wk1.un ord_sLess 1 [102]
  rw [k2_un] at this
  exact this
theorem wk3 : WFt k3 := by
  have := wk2.close lk 3 7
  rw [k3_close] at this
  exact this
theorem s9 {n : Nat} (hn : 51 < n) : (C08.tab n).p 9 [] = some (.bool true) := by
  rw [p9 hn, runP_eq, runH_eq]
  have h35 := s35 (n := 51) (by decide)
  have h34 := s34 (n := 51) (by decide) newT (wbt wnew) 1 [102] (by decide) 1 (by decide) (fun _ _ => bt_of (wnew.bg.moreT _ _) (by omega))
  have h13a := s13 (n := 51) (by decide) k1 wk1.wf.srt (wbt wk1).len [] List.Pairwise.nil (by decide) true 3 7 2
  have hlk : SrtH lk := List.pairwise_singleton _ _
  have h13b := s13 (n := 51) (by decide) k1 wk1.wf.srt (wbt wk1).len lk hlk (by decide) false 3 7 2
  have h13c := s13 (n := 51) (by decide) k1 wk1.wf.srt (wbt wk1).len lk hlk (by decide) false 3 8 1
  have h13d := s13 (n := 51) (by decide) k1 wk1.wf.srt (wbt wk1).len lk hlk (by decide) false 16 8 2
  have h13e := s13 (n := 51) (by decide) k1 wk1.wf.srt (wbt wk1).len lk hlk (by decide) false 3 8 9
  have h36 := s36 (n := 51) (by decide) k1 (wbt wk1) 1 [102] (by decide) (un_prem wk1 _ _).1 (un_prem wk1 _ _).2
  have h18a := s18 (n := 51) (by decide) k2 wk2.wf.srt (wbt wk2).len lk (by decide) false 3 7
  have h18b := s18 (n := 51) (by decide) k3 wk3.wf.srt (wbt wk3).len [] (by decide) false 3 7
  have h17 := s17 (n := 51) (by decide) lk (by decide) false 3 7
  have h29 := s29 (n := 51) (by decide) k3 (wbt wk3) 2
  have h24 := s24 (n := 51) (by decide) k2 (wbt wk2).len
  have h26a := s26 (n := 51) (by decide) k2 wk2.wf.srt (wbt wk2).len lk (by decide) false
  have h26b := s26 (n := 51) (by decide) k2 wk2.wf.srt (wbt wk2).len [] (by decide) true
  have h16 := fun g => s16 (n := 51) (by decide) lk lk false g (by decide) (by decide)
  have hl3 : k3.nodes.length = 1 := rfl
  rw [k1_add] at h34
  rw [k_open] at h13a
  rw [k_open2] at h13b
  rw [k_open3] at h13c
  rw [k_open4] at h13d
  rw [k_open5] at h13e
  rw [k2_un] at h36
  rw [k3_close] at h18a
  rw [k3_again] at h18b
  rw [k_ino] at h17
  unfold getV at h29
  rw [k_get] at h29
  rw [k_orphs] at h24
  rw [k_right] at h26a
  rw [k_right2] at h26b
  simp only [Tv, Hv, List.map_cons, List.map_nil, Option.elim_none, decide_true, Bool.not_true, Bool.and_false, Bool.false_and, Bool.and_true, I] at h35 h34 h13a h13b h13c h13d h13e h36 h18a h18b h17 h29 h24 h26a h26b h16
  generalize k1 = t1 at *
  generalize k2 = t2 at *
  generalize k3 = t3 at *
  generalize newT = t0 at *
  simp -implicitDefEqProofs (disch := omega) [wrap_of, ilt_t, ilt_f, ile_t, ile_f, nlt_t, nlt_f, nle_t, nle_f, ieq_t, ieq_f, imin_l, imin_r, imax_l, imax_r, take_app1, take_map_all, c9, a35, h35, a34, h34, a13, h13a, h13b, h13c, h13d, h13e, a36, h36, a18, h18a, h18b, a17, h17, a29, h29, a24, h24, a26, h26a, h26b, a16, h16, hl3]
end Go.Proofs.Ytdnoopjpkcmpjaa
