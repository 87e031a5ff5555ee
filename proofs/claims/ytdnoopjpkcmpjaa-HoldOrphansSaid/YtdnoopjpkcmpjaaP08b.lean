import Derived.Test.YtdnoopjpkcmpjaaP08a
import Derived.Test.YtdnoopjpkcmpjaaHoG
set_option linter.unusedSimpArgs false
set_option linter.unusedVariables false
namespace Go.Proofs.Ytdnoopjpkcmpjaa
open Go.Am Go.Tr

theorem l6a {n : Nat} (hn : 35 < n) (t u : Tr.Tree) (ht : Bt t) (hu : Bt u) (m : List Ho) (hm : m.length ≤ 1000) (hk : ∀ x ∈ m, ∃ p q, find u.nodes x.ino = some p ∧ find t.nodes x.ino = some q ∧ p.data = q.data ∧ p.kind = 1) (f : Bool) (e0 : Env) (h8 : e0 8 = .ptr 0 0 0 0) (h10 : e0 10 = .ptr 1 0 0 0) (h11 : e0 11 = .lst f (m.map Hv)) :
    iter (round (C08.tab n) [13] [(.exit 0, []), (.ret, [6])] c6_1 e0 2 []) ([.int .i64 0], [.var (Tb t), .var (Tb u)]) = some (.exit 0, [], [.var (Tb t), .var (Tb u)]) := by
  have := for_list (f := round (C08.tab n) [13] [(.exit 0, []), (.ret, [6])] c6_1 e0 2 []) (fun i (_ : Unit) => ([.int .i64 (i : Int)], [.var (Tb t), .var (Tb u)])) m (fun _ _ => ()) (fun _ => (.exit 0, [], [.var (Tb t), .var (Tb u)])) (fun _ _ => True)
    (fun i hi s hs => by
      obtain ⟨x, hx⟩ : ∃ x, x = m[i] := ⟨_, rfl⟩
      obtain ⟨p, q, hp, hq, hd, hk⟩ := hk x (by rw [hx]; exact List.getElem_mem hi)
      have h1 := s29 (n := n) hn u hu x.ino
      have h2 := s29 (n := n) hn t ht x.ino
      unfold getV at h1 h2
      rw [hp] at h1
      rw [hq] at h2
      have t1 := toBytes_B p.data
      have t2 := toBytes_B q.data
      rw [hd] at t1
      simp only [Tv, Nd, Option.elim_some, hd, hk] at h1 h2
      refine ⟨trivial, ?_⟩
      simp -implicitDefEqProofs (disch := omega) [wrap_of, ilt_t, ilt_f, ile_t, ile_f, nlt_t, nlt_f, nle_t, nle_f, ieq_t, ieq_f, imin_l, imin_r, imax_l, imax_r, take_app1, take_map_all, round_eq, b6_1, h8, h10, h11, hi, ← hx, h1, h2, t1, strBin])
    (fun s hs => by simp -implicitDefEqProofs (disch := omega) [wrap_of, ilt_t, ilt_f, ile_t, ile_f, nlt_t, nlt_f, nle_t, nle_f, ieq_t, ieq_f, imin_l, imin_r, imax_l, imax_r, take_app1, take_map_all, round_eq, b6_1, h11]) () trivial
  simpa using this
theorem l6b {n : Nat} (hn : 80 < n) (t u : Tr.Tree) (ht : Bt t) (hu : Bt u) (m : List Ho) (hm : m.length ≤ 1000) (hk : ∀ q ∈ t.nodes, find u.nodes q.ino = if keepN m q = true then some q else none) (f : Bool) (e0 : Env) (h8 : e0 8 = .ptr 0 0 0 0) (h10 : e0 10 = .ptr 1 0 0 0) (h11 : e0 11 = .lst f (m.map Hv)) :
    iter (round (C08.tab n) [18] [(.exit 2, []), (.ret, [6])] c6_2 e0 2 []) ([.int .i64 0], [.var (Tb t), .var (Tb u)]) = some (.exit 2, [], [.var (Tb t), .var (Tb u)]) := by
  have := for_list (f := round (C08.tab n) [18] [(.exit 2, []), (.ret, [6])] c6_2 e0 2 []) (fun i (_ : Unit) => ([.int .i64 (i : Int)], [.var (Tb t), .var (Tb u)])) t.nodes (fun _ _ => ()) (fun _ => (.exit 2, [], [.var (Tb t), .var (Tb u)])) (fun _ _ => True)
    (fun i hi s hs => by
      have hl := ht.len
      obtain ⟨q, hq⟩ : ∃ q, q = t.nodes[i] := ⟨_, rfl⟩
      have hqm : q ∈ t.nodes := by rw [hq]; exact List.getElem_mem hi
      have hf := hk q hqm
      have h1 := s29 (n := n) (by omega) u hu q.ino
      have h30 := s30 (n := n) (by omega) m hm f q.ino
      have h31 := s31 (n := n) (by omega) q q (ht.ents q hqm) (ht.ents q hqm)
      have hz := cntH_hld m q.ino
      unfold getV at h1
      rw [hf] at h1
      have hkk : keepN m q = !(decide (q.kind = 1 ∧ q.links = 0) && !hld m q.ino) := rfl
      rw [hkk] at h1
      generalize ((cntH m q.ino : Nat) : Int) = cz at *
      generalize hld m q.ino = hm' at *
      refine ⟨trivial, ?_⟩
      by_cases c1 : q.kind = 1
      · by_cases c2 : q.links = 0
        · cases hm' with
          | true =>
            have hz' : ¬ cz = 0 := fun h => by cases hz.1 h
            simp only [Tv, Nd, c1, c2, and_self, decide_true, Bool.not_true, Bool.and_false, Bool.not_false, if_true, Option.elim_some] at h1 h31
            simp -implicitDefEqProofs (disch := omega) [wrap_of, ilt_t, ilt_f, ile_t, ile_f, nlt_t, nlt_f, nle_t, nle_f, ieq_t, ieq_f, imin_l, imin_r, imax_l, imax_r, take_app1, take_map_all, round_eq, b6_2, h8, h10, h11, hi, ← hq, a29, h1, c1, c2, a30, h30, hz', a31, h31]
          | false =>
            have hz' : cz = 0 := hz.2 rfl
            simp only [Tv, Nd, c1, c2, and_self, decide_true, Bool.not_true, Bool.and_true, Bool.not_false, Bool.false_eq_true, if_false, Option.elim_none] at h1 h31
            simp -implicitDefEqProofs (disch := omega) [wrap_of, ilt_t, ilt_f, ile_t, ile_f, nlt_t, nlt_f, nle_t, nle_f, ieq_t, ieq_f, imin_l, imin_r, imax_l, imax_r, take_app1, take_map_all, round_eq, b6_2, h8, h10, h11, hi, ← hq, a29, h1, c1, c2, a30, h30, hz', nodeZ]
        · simp only [Tv, Nd, c1, c2, and_false, decide_false, decide_true, Bool.false_and, Bool.not_false, if_true, Option.elim_some] at h1 h31
          simp -implicitDefEqProofs (disch := omega) [wrap_of, ilt_t, ilt_f, ile_t, ile_f, nlt_t, nlt_f, nle_t, nle_f, ieq_t, ieq_f, imin_l, imin_r, imax_l, imax_r, take_app1, take_map_all, round_eq, b6_2, h8, h10, h11, hi, ← hq, a29, h1, c1, c2, a31, h31]
      · simp only [Tv, Nd, c1, false_and, decide_false, decide_true, Bool.false_and, Bool.not_false, if_true, Option.elim_some] at h1 h31
        simp -implicitDefEqProofs (disch := omega) [wrap_of, ilt_t, ilt_f, ile_t, ile_f, nlt_t, nlt_f, nle_t, nle_f, ieq_t, ieq_f, imin_l, imin_r, imax_l, imax_r, take_app1, take_map_all, round_eq, b6_2, h8, h10, h11, hi, ← hq, a29, h1, c1, a31, h31])
    (fun s hs => by have hl := ht.len; simp -implicitDefEqProofs (disch := omega) [wrap_of, ilt_t, ilt_f, ile_t, ile_f, nlt_t, nlt_f, nle_t, nle_f, ieq_t, ieq_f, imin_l, imin_r, imax_l, imax_r, take_app1, take_map_all, round_eq, b6_2, h8]) () trivial
  simpa using this
/-- HoldKept -/
theorem lp6 (l : List Sd) (hl : l.length ≤ 9223372036854775807) (hd : ∀ s ∈ l, s.data.length ≤ 9223372036854775807) (f : Bool) (ac : List Ad) (ha : ac.length ≤ 9223372036854775807) (g : Bool) (a : Ad) :
    runP (C08.tab 94) c6 [.lst f (l.map Sv), .lst g (ac.map Av), Av a] = some (.bool true) := by
  rw [runP_eq, runH_eq]
  have h9 := s9 (n := 94) (by decide)
  have h10 := s10 (n := 94) (by decide) l hl hd f ac ha g
  cases hg : (greatT l || decide (80 < ac.length)) with
  | true =>
    rw [hg] at h10
    simp -implicitDefEqProofs (disch := omega) [wrap_of, ilt_t, ilt_f, ile_t, ile_f, nlt_t, nlt_f, nle_t, nle_f, ieq_t, ieq_f, imin_l, imin_r, imax_l, imax_r, take_app1, take_map_all, c6, a9, h9, a10, h10]
  | false =>
    rw [hg] at h10
    have hg1 : l.length ≤ 60 ∧ ac.length ≤ 80 := by
      unfold greatT at hg
      simp at hg
      exact ⟨hg.1.1, hg.2⟩
    obtain ⟨f', h11⟩ := s11 (n := 94) (by decide) l (by omega) hd f ac (by omega) g
    obtain ⟨w, hv⟩ := madeH_inv ord_sLess (WF.made ord_sLess (l.map Sd.st) : WFt _) (ac.map Ad.ac)
    generalize madeH okN (swept (Tr.made okN sLess (l.map Sd.st)) []) (ac.map Ad.ac) = r at *
    obtain ⟨t, m⟩ := r
    simp only at w hv h11
    have hb := wbt w
    have hml : m.length ≤ 1000 := by have := hv.len; omega
    obtain ⟨g', h21⟩ := s21 (n := 94) (by decide) t w m hv.srt hml f' a
    have wo := w.ownP ord_sLess m a.ac
    have vo := hv.ownP ord_sLess w a.ac
    have k1 := own_kept ord_sLess w hv a.ac
    have k2 := fun ha q hq => own_find w hv a.ac ha (q := q) hq
    have k3 := own_fewer w hv a.ac
    have hacd : a.ac.d = a.d.toNat := rfl
    generalize ownP okN t m a.ac = z at *
    obtain ⟨u, o, e⟩ := z
    simp only at wo vo k1 k2 k3 h21
    have hbu := wbt wo
    have hol : o.length ≤ 1000 := by have := vo.len; omega
    have h6a := l6a (n := 94) (by decide) t u hb hbu o hol k1 g'
    have hdd : (a.d.toNat : Int).tmod 8 = ((a.d.toNat % 8 : Nat) : Int) := rfl
    have hd8 : a.d.toNat % 8 < 8 := Nat.mod_lt _ (by omega)
    have hdl := u8lt a.d
    have htl := hb.len
    have hul := hbu.len
    rw [hacd] at k2 k3
    generalize a.d.toNat % 8 = j at *
    simp only [Tv, Av] at h11 h21
    by_cases hj : j = 7
    · subst hj
      simp -implicitDefEqProofs (disch := omega) [wrap_of, ilt_t, ilt_f, ile_t, ile_f, nlt_t, nlt_f, nle_t, nle_f, ieq_t, ieq_f, imin_l, imin_r, imax_l, imax_r, take_app1, take_map_all, c6, a9, h9, a10, h10, a11, h11, a21, h21]
      rw [h6a _ (by simp -implicitDefEqProofs (disch := omega) [wrap_of, ilt_t, ilt_f, ile_t, ile_f, nlt_t, nlt_f, nle_t, nle_f, ieq_t, ieq_f, imin_l, imin_r, imax_l, imax_r, take_app1, take_map_all, ]) (by simp -implicitDefEqProofs (disch := omega) [wrap_of, ilt_t, ilt_f, ile_t, ile_f, nlt_t, nlt_f, nle_t, nle_f, ieq_t, ieq_f, imin_l, imin_r, imax_l, imax_r, take_app1, take_map_all, ]) (by simp -implicitDefEqProofs (disch := omega) [wrap_of, ilt_t, ilt_f, ile_t, ile_f, nlt_t, nlt_f, nle_t, nle_f, ieq_t, ieq_f, imin_l, imin_r, imax_l, imax_r, take_app1, take_map_all, ])]
      simp -implicitDefEqProofs (disch := omega) [wrap_of, ilt_t, ilt_f, ile_t, ile_f, nlt_t, nlt_f, nle_t, nle_f, ieq_t, ieq_f, imin_l, imin_r, imax_l, imax_r, take_app1, take_map_all, hdd]
    · have h6b := l6b (n := 94) (by decide) t u hb hbu o hol (k2 hj) g'
      have k3 := k3 hj
      have hj' : ¬ (j : Int) = 7 := by omega
      simp -implicitDefEqProofs (disch := omega) [wrap_of, ilt_t, ilt_f, ile_t, ile_f, nlt_t, nlt_f, nle_t, nle_f, ieq_t, ieq_f, imin_l, imin_r, imax_l, imax_r, take_app1, take_map_all, c6, a9, h9, a10, h10, a11, h11, a21, h21]
      rw [h6a _ (by simp -implicitDefEqProofs (disch := omega) [wrap_of, ilt_t, ilt_f, ile_t, ile_f, nlt_t, nlt_f, nle_t, nle_f, ieq_t, ieq_f, imin_l, imin_r, imax_l, imax_r, take_app1, take_map_all, ]) (by simp -implicitDefEqProofs (disch := omega) [wrap_of, ilt_t, ilt_f, ile_t, ile_f, nlt_t, nlt_f, nle_t, nle_f, ieq_t, ieq_f, imin_l, imin_r, imax_l, imax_r, take_app1, take_map_all, ]) (by simp -implicitDefEqProofs (disch := omega) [wrap_of, ilt_t, ilt_f, ile_t, ile_f, nlt_t, nlt_f, nle_t, nle_f, ieq_t, ieq_f, imin_l, imin_r, imax_l, imax_r, take_app1, take_map_all, ])]
      simp -implicitDefEqProofs (disch := omega) [wrap_of, ilt_t, ilt_f, ile_t, ile_f, nlt_t, nlt_f, nle_t, nle_f, ieq_t, ieq_f, imin_l, imin_r, imax_l, imax_r, take_app1, take_map_all, hdd, hj']
      rw [h6b _ (by simp -implicitDefEqProofs (disch := omega) [wrap_of, ilt_t, ilt_f, ile_t, ile_f, nlt_t, nlt_f, nle_t, nle_f, ieq_t, ieq_f, imin_l, imin_r, imax_l, imax_r, take_app1, take_map_all, ]) (by simp -implicitDefEqProofs (disch := omega) [wrap_of, ilt_t, ilt_f, ile_t, ile_f, nlt_t, nlt_f, nle_t, nle_f, ieq_t, ieq_f, imin_l, imin_r, imax_l, imax_r, take_app1, take_map_all, ]) (by simp -implicitDefEqProofs (disch := omega) [wrap_of, ilt_t, ilt_f, ile_t, ile_f, nlt_t, nlt_f, nle_t, nle_f, ieq_t, ieq_f, imin_l, imin_r, imax_l, imax_r, take_app1, take_map_all, ])]
      simp -implicitDefEqProofs (disch := omega) [wrap_of, ilt_t, ilt_f, ile_t, ile_f, nlt_t, nlt_f, nle_t, nle_f, ieq_t, ieq_f, imin_l, imin_r, imax_l, imax_r, take_app1, take_map_all, k3]
end Go.Proofs.Ytdnoopjpkcmpjaa
