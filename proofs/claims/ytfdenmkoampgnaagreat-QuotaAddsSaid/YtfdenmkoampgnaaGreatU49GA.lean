import Derived.Test.YtfdenmkoampgnaaGreatT49GP
import Derived.Test.YtfdenmkoampgnaaGreatTrGM
set_option linter.unusedSimpArgs false
set_option linter.unusedVariables false
namespace Go.Proofs.YtfdenmkoampgnaaGreat
open Go.Am Go.Tr

theorem wbt {t : Tr.Tree} (w : WFt t) : Bt t := bt_of w.bg (by omega)
theorem normH_app (L : Nat) (R : List Nat) (h : AH) : ∀ (a b : AH) (i : Nat), normH L R h i (a ++ b) = normH L R h i a ++ normH L R h (i + a.length) b
  | [], b, i => by simp [normH]
  | x :: a, b, i => by
    simp only [List.cons_append, normH, normH_app L R h a b (i + 1), List.length_cons]
    rw [show i + 1 + a.length = i + (a.length + 1) by omega]
abbrev Tb (t : Tr.Tree) : List AV := [.lst t.fn (t.nodes.map Nd), .int .i64 t.next, .int .i64 t.cookie]
abbrev Nc (q : Tr.Node) : List AV := [.int .i64 q.ino, .int .i64 q.kind, .int .i64 q.links, .lst q.fd (q.data.map B), .lst q.fe (q.ents.map En), .int .i64 q.up]
abbrev bs (t : Tr.Tree) (s : List Int × Int) (rest : AH) : AH := .var (Tb t) :: .mp (s.1.map fun x => (x, .bool true)) :: .var [.mpv 1] :: .var [I s.2] :: .var [.fn (.func 40) [] [.ptr 0 0 0 0, .ptr 3 0 0 0, .ptr 2 0 0 0, .ptr 4 0 0 0]] :: rest
def callF (t : Tr.Tree) (k : Nat) : Prop := ∀ (i : Int) (s : List Int × Int) (rest : AH), rest.all plainB = true → unm t s.1 < k → s.1.Nodup → (∀ x ∈ s.1, (find t.nodes x).isSome = true) → 0 ≤ s.2 → s.2 + dat t i ≤ 4096 * (s.1.length : Int) + 4096 →
  callA (recT (C49.tab 14) 40 c40 k) 40 [I i, .ptr 0 0 0 0, .ptr 3 0 0 0, .ptr 2 0 0 0, .ptr 4 0 0 0] (bs t s rest) = some (.tup [], bs t (foll t k i s) (rest ++ [.var (Nc (getZ t i))]))
theorem lookM_map (l : List Int) (x : Int) : lookM (l.map fun y => (y, AV.bool true)) x (.bool false) = .bool (l.contains x) := by
  unfold lookM
  induction l with
  | nil => rfl
  | cons y l ih =>
    rw [List.map_cons, List.find?_cons]
    by_cases h : y = x
    · subst h; simp
    · have h' : ¬ x = y := fun e => h e.symm
      simp only [h, decide_false]
      rw [ih]
      simp [h']
theorem putM_map {l : List Int} {x : Int} (h : x ∉ l) : putM (l.map fun y => (y, AV.bool true)) x (.bool true) = (l ++ [x]).map fun y => (y, AV.bool true) := by
  induction l with
  | nil => rfl
  | cons y l ih =>
    have h1 : ¬ y = x := fun e => h (by rw [e]; exact List.mem_cons_self)
    rw [List.map_cons, putM, if_neg h1, ih fun h' => h (List.mem_cons_of_mem _ h')]
    rfl
theorem call33 {k : Nat} (t : Tr.Tree) (w : WFt t) (i : Int) (h : AH) : callA (recT (C49.tab 14) 40 c40 k) 28 [Tv t, I i] h = some (getV (find t.nodes i), h) :=
  callA_p rfl ((recT_p (by decide) _ k).trans (s28 (n := 14) (by decide) t w.wf.srt (wbt w).len i))
theorem dat_le {t : Tr.Tree} (w : WFt t) (i : Int) : 0 ≤ dat t i ∧ dat t i ≤ 4096 := by
  unfold dat getZ
  cases hf : find t.nodes i with
  | none => simp [nodeZ]
  | some q =>
    show 0 ≤ ((q.data.length : Nat) : Int) ∧ ((q.data.length : Nat) : Int) ≤ 4096
    rcases w.node_is (find_mem hf).1 with ⟨_, _, _, h, _⟩ | ⟨_, h, _⟩
    · omega
    · rw [h]; simp
theorem dats_le {t : Tr.Tree} (w : WFt t) (l : List Int) : 0 ≤ dats t l ∧ dats t l ≤ 4096 * (l.length : Int) := by
  induction l with
  | nil => simp [dats]
  | cons x l ih =>
    have := dat_le w x
    rw [dats_cons, List.length_cons]
    omega
structure Gd (t : Tr.Tree) (k : Nat) (s : List Int × Int) : Prop where
  un : unm t s.1 < k + 1
  nd : s.1.Nodup
  node : ∀ x ∈ s.1, (find t.nodes x).isSome = true
  b0 : 0 ≤ s.2
  b1 : s.2 ≤ 4096 * (s.1.length : Int) + 4096
theorem nodup_le : ∀ {l m : List Int}, l.Nodup → (∀ x ∈ l, x ∈ m) → l.length ≤ m.length
  | [], _, _, _ => Nat.zero_le _
  | x :: l, m, h, hs => by
    obtain ⟨h1, h2⟩ := List.nodup_cons.1 h
    have hx := hs x List.mem_cons_self
    have ih := nodup_le (l := l) (m := m.erase x) h2 fun y hy => (List.mem_erase_of_ne fun e => h1 (by rw [← e]; exact hy)).2 (hs y (List.mem_cons_of_mem _ hy))
    rw [List.length_erase_of_mem hx] at ih
    have := List.length_pos_of_mem hx
    rw [List.length_cons]
    omega
theorem nd_len {t : Tr.Tree} {l : List Int} (h : l.Nodup) (hn : ∀ x ∈ l, (find t.nodes x).isSome = true) : l.length ≤ t.nodes.length := by
  have : (t.nodes.map Tr.Node.ino).length = t.nodes.length := List.length_map ..
  rw [← this]
  exact nodup_le h fun x hx => by
    obtain ⟨q, hq⟩ := Option.isSome_iff_exists.1 (hn x hx)
    obtain ⟨h1, h2⟩ := find_mem hq
    exact List.mem_map.2 ⟨q, h1, h2⟩
theorem normS_fn (L : Nat) (R : List Nat) (h : AH) (f : Fn) (a c : List AV) : normS L R h (.fn f a c) = if (a ++ c).all (fun x => x.isE || match x with | .ptr b _ _ _ => decide (b < L) && !R.contains b | .mpv b => decide (b < L) && !R.contains b | _ => false) then .fn f a c else .dead := rfl
theorem Gd.step {t : Tr.Tree} (w : WFt t) {k : Nat} {s : List Int × Int} (g : Gd t k s) {e : Tr.Ent} (he : (find t.nodes e.ino).isSome = true) : Gd t k (follE t k s e) := by
  obtain ⟨new, p, _⟩ := follE_post k (foll_post w k) [e] s (fun e' h => by simp at h; rw [h]; exact he) g.un g.nd g.node
  rw [List.foldl_cons, List.foldl_nil] at p
  have h1 := dats_le w new
  have h2 := g.b0
  have h3 := g.b1
  refine ⟨Nat.lt_of_le_of_lt (unm_mono fun x hx => by rw [p.eq]; exact List.mem_append_left _ hx) g.un, p.nd, p.node, by rw [p.sum]; omega, ?_⟩
  rw [p.sum, p.eq, List.length_append]
  omega
theorem map_normS (L : Nat) (R : List Nat) (h : AH) (l : List Int) : l.map ((fun p : Int × AV => (p.1, normS L R h p.2)) ∘ fun x => (x, AV.bool true)) = l.map fun x => (x, AV.bool true) := rfl
theorem l40 {k : Nat} (t : Tr.Tree) (w : WFt t) (hF : callF t k) (q : Tr.Node) (hq : ∀ e ∈ q.ents, (find t.nodes e.ino).isSome = true) (hql : q.ents.length ≤ 1000) (s : List Int × Int) (g : Gd t k s) (R : AH) (hR : R.all plainB = true)
    (e0 : Env) (h22 : e0 22 = .lst q.fe (q.ents.map En)) (h23 : e0 23 = .int .i64 q.ents.length) (h3 : e0 3 = .ptr 2 0 0 0) (h4 : e0 4 = .ptr 4 0 0 0) (L : Nat) (hL : R.length + 5 = L) :
    iter (round (recT (C49.tab 14) 40 c40 k) [24] [(.exit 0, [])] c40_1 e0 L []) ([.int .i64 0], bs t s R) = some (.exit 0, [], bs t (q.ents.foldl (follE t k) s) R) := by
  subst hL
  have := for_list (f := round (recT (C49.tab 14) 40 c40 k) [24] [(.exit 0, [])] c40_1 e0 (R.length + 5) []) (fun i (s : List Int × Int) => ([.int .i64 (i : Int)], bs t s R)) q.ents (follE t k) (fun s => (.exit 0, [], bs t s R)) (fun _ s => Gd t k s)
    (fun i hi s g => by
      obtain ⟨e, he⟩ : ∃ e, e = q.ents[i] := ⟨_, rfl⟩
      have hen := hq e (by rw [he]; exact List.getElem_mem hi)
      rw [← he]
      refine ⟨g.step w hen, ?_⟩
      have hlk := lookM_map s.1 e.ino
      have htk : ∀ X : AH, List.take R.length (R ++ X) = R := fun X => by rw [List.take_left']; rfl
      unfold follE
      cases hc : s.1.contains e.ino with
      | true =>
        rw [hc] at hlk
        simp -implicitDefEqProofs (disch := omega) [wrap_of, ilt_t, ilt_f, ile_t, ile_f, nlt_t, nlt_f, nle_t, nle_f, ieq_t, ieq_f, imin_l, imin_r, imax_l, imax_r, take_app1, take_map_all, round_eq, b40_1, h22, h23, h3, h4, hi, ← he, hlk, normH_plain _ _ R _ hR, htk, normS_fn]
      | false =>
        rw [hc] at hlk
        have hni : e.ino ∉ s.1 := by simpa using hc
        have hput := putM_map hni
        have hu := unm_more hen hni
        have hcall := hF e.ino (s.1 ++ [e.ino], s.2) (R ++ [.var [.str e.name, .int .i64 e.ino, .int .i64 e.cookie]]) (by rw [List.all_append, hR]; rfl) (by have := g.un; simp only; omega) (by
            rw [List.nodup_append]
            exact ⟨g.nd, by simp, fun a ha b hb => by simp at hb; subst hb; exact fun e' => hni (e' ▸ ha)⟩) (fun x hx => by
            rcases List.mem_append.1 hx with hx | hx
            · exact g.node x hx
            · simp at hx; subst hx; exact hen) g.b0 (by have := g.b1; have := dat_le w e.ino; simp only [List.length_append, List.length_cons, List.length_nil]; omega)
        generalize foll t k e.ino (s.1 ++ [e.ino], s.2) = m at *
        simp only [bs, List.map_append, List.map_cons, List.map_nil, List.append_assoc, List.cons_append, List.nil_append] at hcall hput
        simp -implicitDefEqProofs (disch := omega) [wrap_of, ilt_t, ilt_f, ile_t, ile_f, nlt_t, nlt_f, nle_t, nle_f, ieq_t, ieq_f, imin_l, imin_r, imax_l, imax_r, take_app1, take_map_all, round_eq, b40_1, h22, h23, h3, h4, hi, ← he, hlk, hput, hcall, normH_plain _ _ R _ hR, htk, normS_fn])
    (fun s g => by simp -implicitDefEqProofs (disch := omega) [wrap_of, ilt_t, ilt_f, ile_t, ile_f, nlt_t, nlt_f, nle_t, nle_f, ieq_t, ieq_f, imin_l, imin_r, imax_l, imax_r, take_app1, take_map_all, round_eq, b40_1, h23]) s g
  simpa using this
theorem callF_all (t : Tr.Tree) (w : WFt t) : ∀ k : Nat, callF t k
  | 0 => fun i s rest _ h => absurd h (by omega)
  | k + 1 => by
    intro i s R hR hu hnd hno hb0 hb1
    have ih := callF_all t w k
    rw [recT_call, runH_eq, foll_succ]
    have h33 := fun h => call33 (k := k) t w i h
    obtain ⟨b, hv, _⟩ := getZ_V t i
    have hde : dat t i = ((getZ t i).data.length : Int) := rfl
    have hen : ∀ e ∈ (getZ t i).ents, (find t.nodes e.ino).isSome = true := fun e he => ent_isN w he
    have hel : (getZ t i).ents.length ≤ 1000 := by have := (w.bg.getZ i).1; omega
    have hsl := nd_len hnd hno
    have htl := w.wf.len
    rw [hde] at hb1
    have g : Gd t k (s.1, s.2 + ((getZ t i).data.length : Int)) := ⟨hu, hnd, hno, by simp only; omega, hb1⟩
    simp only [hv] at h33
    generalize getZ t i = q at *
    have hl := l40 (k := k) t w ih q hen hel (s.1, s.2 + (q.data.length : Int)) g (R ++ [.var (Nc q)]) (by rw [List.all_append, hR]; rfl)
    have hg1 : ∀ X : AB, (R ++ [X])[R.length]? = some X := fun X => by simp
    have hs1 : ∀ X Y : AB, (R ++ [X]).set R.length Y = R ++ [Y] := fun X Y => by simp
    generalize q.ents.foldl (follE t k) (s.1, s.2 + (q.data.length : Int)) = m at *
    have htk : ∀ X : AB, List.take (R.length + 1) (R ++ [X]) = R ++ [X] := fun X => List.take_of_length_le (by simp)
    have hnX : ∀ (L : Nat) (h : AH) (i : Nat), normH L [] h i (R ++ [.var (Nc q)]) = R ++ [.var (Nc q)] := fun L h i => normH_plain L h _ i (by rw [List.all_append, hR]; rfl)
    simp only [Nc] at hnX
    simp only [Tv] at h33
    clear ih
    generalize recT (C49.tab 14) 40 c40 k = Γ at *
    simp only [bs, Nc, Tb] at hl ⊢
    simp -implicitDefEqProofs (disch := omega) [wrap_of, ilt_t, ilt_f, ile_t, ile_f, nlt_t, nlt_f, nle_t, nle_f, ieq_t, ieq_f, imin_l, imin_r, imax_l, imax_r, take_app1, take_map_all, c40, h33, hg1, hs1, htk, hnX, normH_plain _ _ R _ hR, normS_fn, map_normS]
    rw [hl _ (by simp -implicitDefEqProofs (disch := omega) [wrap_of, ilt_t, ilt_f, ile_t, ile_f, nlt_t, nlt_f, nle_t, nle_f, ieq_t, ieq_f, imin_l, imin_r, imax_l, imax_r, take_app1, take_map_all, ]) (by simp -implicitDefEqProofs (disch := omega) [wrap_of, ilt_t, ilt_f, ile_t, ile_f, nlt_t, nlt_f, nle_t, nle_f, ieq_t, ieq_f, imin_l, imin_r, imax_l, imax_r, take_app1, take_map_all, ]) (by simp -implicitDefEqProofs (disch := omega) [wrap_of, ilt_t, ilt_f, ile_t, ile_f, nlt_t, nlt_f, nle_t, nle_f, ieq_t, ieq_f, imin_l, imin_r, imax_l, imax_r, take_app1, take_map_all, ]) (by simp -implicitDefEqProofs (disch := omega) [wrap_of, ilt_t, ilt_f, ile_t, ile_f, nlt_t, nlt_f, nle_t, nle_f, ieq_t, ieq_f, imin_l, imin_r, imax_l, imax_r, take_app1, take_map_all, ]) _ (by simp)]
    simp -implicitDefEqProofs (disch := omega) [wrap_of, ilt_t, ilt_f, ile_t, ile_f, nlt_t, nlt_f, nle_t, nle_f, ieq_t, ieq_f, imin_l, imin_r, imax_l, imax_r, take_app1, take_map_all, ]
end Go.Proofs.YtfdenmkoampgnaaGreat

namespace Go.Proofs.YtfdenmkoampgnaaGreat
open Go.Am Go.Tr

theorem cells_fn (f : Fn) (a c : List AV) : (AV.fn f a c).cells = [.fn f a c] := rfl
theorem okc_fn : (AV.fn (Fn.func 40) [] [AV.ptr 0 0 0 0, AV.ptr 3 0 0 0, AV.ptr 2 0 0 0, AV.ptr 4 0 0 0]).okc = true := rfl
theorem dirE_iff {t : Tr.Tree} {d : Int} : dirE t d = 0 ↔ ∃ q, find t.nodes d = some q ∧ q.kind = 2 := by
  unfold dirE
  cases find t.nodes d with
  | none => simp
  | some q =>
    simp only
    constructor
    · intro h
      split at h
      · exact ⟨q, rfl, by assumption⟩
      · cases h
    · rintro ⟨q', h, hk⟩
      obtain rfl := Option.some.inj h
      rw [if_pos hk]
theorem dat_dir {t : Tr.Tree} (w : WFt t) {d : Int} {q : Tr.Node} (hq : find t.nodes d = some q) (hk : q.kind = 2) : dat t d = 0 := by
  unfold dat
  rw [getZ_of hq]
  rcases w.node_is (find_mem hq).1 with ⟨h, _⟩ | ⟨_, h, _⟩
  · omega
  · rw [h]; rfl
theorem s16 {n : Nat} (hn : 15 < n) (t : Tr.Tree) (w : WFt t) (d : Int) : (C49.tab n).p 16 [Tv t, I d] = some (.tup [I (usedN t d), I (usedB t d)]) := by
  rw [p16 hn, runP_eq, runH_eq]
  have h33 := s28 (n := 15) (by decide) t w.wf.srt (wbt w).len d
  have hp := fun args h => p40 (n := 15) (by decide) args h
  have hc := fun args h => (recT_call (Γ := C49.tab 14) (f := 32) (F := c40) 300 args h).symm
  have hun : ∀ s : List Int × Int, s.1 = [] → unm t s.1 < 301 := fun s hs => by
    have hl := w.wf.len
    have := List.length_filter_le (fun q : Tr.Node => !([] : List Int).contains q.ino) t.nodes
    rw [hs]
    unfold unm
    omega
  unfold getV at h33
  unfold usedN usedB
  cases hf : find t.nodes d with
  | none =>
    have hd : ¬ dirE t d = 0 := fun h => by
      obtain ⟨q, h1, _⟩ := dirE_iff.1 h
      rw [hf] at h1; cases h1
    rw [hf] at h33
    rw [if_neg hd, if_neg hd]
    simp only [Option.elim_none, Tv, Nd, nodeZ, List.map_nil] at h33
    simp -implicitDefEqProofs (disch := omega) [wrap_of, ilt_t, ilt_f, ile_t, ile_f, nlt_t, nlt_f, nle_t, nle_f, ieq_t, ieq_f, imin_l, imin_r, imax_l, imax_r, take_app1, take_map_all, c16, cells_fn, okc_fn, normS_fn, a28, h33]
  | some q =>
    rw [hf] at h33
    by_cases c1 : q.kind = 2
    · have hd : dirE t d = 0 := dirE_iff.2 ⟨q, hf, c1⟩
      rw [if_pos hd, if_pos hd]
      have hcall := callF_all t w 301 d ([], 0) [.var (Nc q)] rfl (hun ([], 0) rfl) List.nodup_nil (fun x hx => by cases hx) (Int.le_refl 0) (by have := dat_le w d; simp only [List.length_nil]; omega)
      rw [recT_call] at hcall
      obtain ⟨m1, m2, m3⟩ := met_post w d
      have hml := nd_len m1 (fun x hx => by
        obtain ⟨p, e, _, h⟩ := (Ru_iff w).1 ((m2 x).1 hx)
        obtain ⟨p', hp', e', he', hj⟩ := inE_find h
        rw [← hj]
        exact ent_isN w (by rw [getZ_of hp']; exact he'))
      have hdz := dat_dir w hf c1
      rw [hdz, Int.zero_add] at m3
      have e1 : (foll t 301 d ([], 0)).1 = metL t d := rfl
      have hgz := getZ_of hf
      rw [hgz] at hcall
      generalize foll t 301 d ([], 0) = m at *
      rw [← e1] at m3 hml ⊢
      rw [← m3]
      have htl := w.wf.len
      simp only [Option.elim_some, Tv, Nd, c1] at h33
      simp only [bs, Nc, Tb, c1, List.map_nil, List.cons_append, List.nil_append] at hcall
      generalize recT (C49.tab 14) 40 c40 300 = Γ at *
      generalize c40 = F at *
      simp -implicitDefEqProofs (disch := omega) [wrap_of, ilt_t, ilt_f, ile_t, ile_f, nlt_t, nlt_f, nle_t, nle_f, ieq_t, ieq_f, imin_l, imin_r, imax_l, imax_r, take_app1, take_map_all, c16, cells_fn, okc_fn, normS_fn, a28, h33, hp, hcall]
    · have hd : ¬ dirE t d = 0 := fun h => by
        obtain ⟨q', h1, h2⟩ := dirE_iff.1 h
        rw [hf] at h1
        obtain rfl := Option.some.inj h1
        exact c1 h2
      rw [if_neg hd, if_neg hd]
      simp only [Option.elim_some, Tv, Nd] at h33
      simp -implicitDefEqProofs (disch := omega) [wrap_of, ilt_t, ilt_f, ile_t, ile_f, nlt_t, nlt_f, nle_t, nle_f, ieq_t, ieq_f, imin_l, imin_r, imax_l, imax_r, take_app1, take_map_all, c16, cells_fn, okc_fn, normS_fn, a28, h33, c1]
end Go.Proofs.YtfdenmkoampgnaaGreat

namespace Go.Proofs.YtfdenmkoampgnaaGreat
open Go.Am Go.Tr

@[simp] def Qv (x : Qu) : AV := .agg [.int .i64 x.ino, .int .i64 x.nodes, .int .i64 x.bytes]
@[simp] theorem szQv (l : List Qu) : szOk 3 (l.map Qv) = true := by simp [szOk]
theorem s61 {n : Nat} (hn : 2 < n) (q : Qu) (i : Int) : (C49.tab n).p 61 [Qv q, I i] = some (I (cmpI q.ino i)) := by
  rw [p61 hn, runP_eq, runH_eq]
  have h := s62 (n := 2) (by decide) q.ino i
  simp -implicitDefEqProofs (disch := omega) [wrap_of, ilt_t, ilt_f, ile_t, ile_f, nlt_t, nlt_f, nle_t, nle_f, ieq_t, ieq_f, imin_l, imin_r, imax_l, imax_r, take_app1, take_map_all, c61, a62, h]
theorem l60 {n : Nat} (hn : 2 < n) (l : List Qu) (hs : SrtQ l) (hl : l.length ≤ 1000) (f : Bool) (i : Int) (e0 : Env) (h0 : e0 0 = .lst f (l.map Qv)) (h1 : e0 1 = I i) (h2 : e0 2 = .fn (.func 61) [] []) (X : AH) (hX : X.all plainB = true) :
    iter (round (C49.tab n) [9, 10] [(.exit 0, [9])] c60_1 e0 X.length []) ([.int .i64 0, .int .i64 l.length], X) = some (.exit 0, [.int .i64 (cutQ l i : Nat)], X) :=
  for_half (f := round (C49.tab n) [9, 10] [(.exit 0, [9])] c60_1 e0 X.length []) (fun i j => ([.int .i64 (i : Int), .int .i64 (j : Int)], X)) l.length (cutQ l i) (cutP_le _ _) (fun c => (.exit 0, [.int .i64 (c : Int)], X))
    (fun a j haj hj => by
      have hh := half2 (i := a) (j := j)
      obtain ⟨m, hmm⟩ : ∃ m, m = (a + j) / 2 := ⟨_, rfl⟩
      rw [← hmm] at hh ⊢
      have hm : m < l.length := by omega
      have hlt := cutQ_iff hs i hm
      obtain ⟨x, hx⟩ : ∃ x, x = l[m] := ⟨_, rfl⟩
      rw [← hx] at hlt
      have hc := s61 (n := n) hn x i
      have hci := cmpI_lt x.ino i
      simp only [Qv] at hc
      generalize cmpI x.ino i = ci at *
      by_cases h : m < cutQ l i
      · have hc' : ci < 0 := hci.2 (hlt.1 h)
        simp -implicitDefEqProofs (disch := omega) [wrap_of, ilt_t, ilt_f, ile_t, ile_f, nlt_t, nlt_f, nle_t, nle_f, ieq_t, ieq_f, imin_l, imin_r, imax_l, imax_r, take_app1, take_map_all, round_eq, b60_1, h0, h1, h2, wrap_u64, hh, hm, ← hx, a61, hc, h, hc', normH_plain _ _ X _ hX]
      · have hc' : ¬ ci < 0 := fun h' => h (hlt.2 (hci.1 h'))
        simp -implicitDefEqProofs (disch := omega) [wrap_of, ilt_t, ilt_f, ile_t, ile_f, nlt_t, nlt_f, nle_t, nle_f, ieq_t, ieq_f, imin_l, imin_r, imax_l, imax_r, take_app1, take_map_all, round_eq, b60_1, h0, h1, h2, wrap_u64, hh, hm, ← hx, a61, hc, h, hc', normH_plain _ _ X _ hX])
    (fun a ha => by simp -implicitDefEqProofs (disch := omega) [wrap_of, ilt_t, ilt_f, ile_t, ile_f, nlt_t, nlt_f, nle_t, nle_f, ieq_t, ieq_f, imin_l, imin_r, imax_l, imax_r, take_app1, take_map_all, round_eq, b60_1, h0, normH_plain _ _ X _ hX]) _ 0 l.length rfl (Nat.zero_le _) (cutP_le _ _) (Nat.le_refl _)
theorem s60 {n : Nat} (hn : 7 < n) (l : List Qu) (hs : SrtQ l) (hl : l.length ≤ 1000) (f : Bool) (i : Int) (X : AH) (hX : X.all plainB = true) :
    callA (C49.tab n) 60 [.lst f (l.map Qv), I i, .fn (.func 61) [] []] X = some (.tup [I (cutQ l i : Nat), .bool (findQ l i).isSome], X) := by
  rw [p60 hn, runH_eq]
  have h1 := fun e0 h0 h1 h2 => l60 (n := 7) (by decide) l hs hl f i e0 h0 h1 h2 X hX
  have hf := cutQ_find hs i
  simp -implicitDefEqProofs (disch := omega) [wrap_of, ilt_t, ilt_f, ile_t, ile_f, nlt_t, nlt_f, nle_t, nle_f, ieq_t, ieq_f, imin_l, imin_r, imax_l, imax_r, take_app1, take_map_all, c60, normH_plain _ _ X _ hX]
  rw [h1 _ (by simp -implicitDefEqProofs (disch := omega) [wrap_of, ilt_t, ilt_f, ile_t, ile_f, nlt_t, nlt_f, nle_t, nle_f, ieq_t, ieq_f, imin_l, imin_r, imax_l, imax_r, take_app1, take_map_all, ]) (by simp -implicitDefEqProofs (disch := omega) [wrap_of, ilt_t, ilt_f, ile_t, ile_f, nlt_t, nlt_f, nle_t, nle_f, ieq_t, ieq_f, imin_l, imin_r, imax_l, imax_r, take_app1, take_map_all, ]) (by simp -implicitDefEqProofs (disch := omega) [wrap_of, ilt_t, ilt_f, ile_t, ile_f, nlt_t, nlt_f, nle_t, nle_f, ieq_t, ieq_f, imin_l, imin_r, imax_l, imax_r, take_app1, take_map_all, ])]
  generalize cutQ l i = c at *
  rcases hf with ⟨hc, hi, hf⟩ | ⟨hf, hi⟩
  · rw [hf]
    obtain ⟨x, hx⟩ : ∃ x, x = l[c] := ⟨_, rfl⟩
    have hg := s61 (n := 7) (by decide) x i
    have hci := (cmpI_eq x.ino i).2 (by rw [hx]; exact hi)
    rw [hci] at hg
    simp only [Qv] at hg
    simp -implicitDefEqProofs (disch := omega) [wrap_of, ilt_t, ilt_f, ile_t, ile_f, nlt_t, nlt_f, nle_t, nle_f, ieq_t, ieq_f, imin_l, imin_r, imax_l, imax_r, take_app1, take_map_all, hc, ← hx, a61, hg]
  · rw [hf]
    by_cases hc : c < l.length
    · obtain ⟨x, hx⟩ : ∃ x, x = l[c] := ⟨_, rfl⟩
      have hg := s61 (n := 7) (by decide) x i
      have hci : ¬ cmpI x.ino i = 0 := fun h => hi hc (by rw [← hx]; exact (cmpI_eq x.ino i).1 h)
      generalize cmpI x.ino i = ci at *
      simp only [Qv] at hg
      simp -implicitDefEqProofs (disch := omega) [wrap_of, ilt_t, ilt_f, ile_t, ile_f, nlt_t, nlt_f, nle_t, nle_f, ieq_t, ieq_f, imin_l, imin_r, imax_l, imax_r, take_app1, take_map_all, hc, ← hx, a61, hg, hci]
    · simp -implicitDefEqProofs (disch := omega) [wrap_of, ilt_t, ilt_f, ile_t, ile_f, nlt_t, nlt_f, nle_t, nle_f, ieq_t, ieq_f, imin_l, imin_r, imax_l, imax_r, take_app1, take_map_all, hc]
theorem s31 {n : Nat} (hn : 8 < n) (l : List Qu) (hs : SrtQ l) (hl : l.length ≤ 1000) (f : Bool) (i : Int) :
    (C49.tab n).p 31 [.lst f (l.map Qv), I i] = some (.tup [I (cutQ l i : Nat), .bool (findQ l i).isSome]) := by
  rw [p31 hn, runP_eq, runH_eq]
  have hb := s60 (n := 8) (by decide) l hs hl f i [] rfl
  simp -implicitDefEqProofs (disch := omega) [wrap_of, ilt_t, ilt_f, ile_t, ile_f, nlt_t, nlt_f, nle_t, nle_f, ieq_t, ieq_f, imin_l, imin_r, imax_l, imax_r, take_app1, take_map_all, c31, hb]
/-- One directory on the way up: its quota. -/
theorem s44 {n : Nat} (hn : 9 < n) (l : List Qu) (hs : SrtQ l) (hl : l.length ≤ 1000) (f : Bool) (d : Int) (hd : d ≠ 0) :
    callA (C49.tab n) 44 [I d, .ptr 0 0 0 0, .ptr 1 0 0 0] [.var [.lst f (l.map Qv)], .var [I 0]] = some (.bool !(findQ l d).isSome, [.var [.lst f (l.map Qv)], .var [I (if (findQ l d).isSome = true then d else 0)]]) := by
  rw [p44 hn, runH_eq]
  have h36 := s31 (n := 9) (by decide) l hs hl f d
  cases hb : (findQ l d).isSome with
  | true =>
    rw [hb] at h36
    simp -implicitDefEqProofs (disch := omega) [wrap_of, ilt_t, ilt_f, ile_t, ile_f, nlt_t, nlt_f, nle_t, nle_f, ieq_t, ieq_f, imin_l, imin_r, imax_l, imax_r, take_app1, take_map_all, c44, a31, h36, hd]
  | false =>
    rw [hb] at h36
    simp -implicitDefEqProofs (disch := omega) [wrap_of, ilt_t, ilt_f, ile_t, ile_f, nlt_t, nlt_f, nle_t, nle_f, ieq_t, ieq_f, imin_l, imin_r, imax_l, imax_r, take_app1, take_map_all, c44, a31, h36]
theorem l41d {n : Nat} (hn : 13 < n) (t : Tr.Tree) (w : WFt t) (l : List Qu) (hs : SrtQ l) (hl : l.length ≤ 1000) (f : Bool) (e0 : Env) (h2 : e0 2 = .fn (.func 44) [] [.ptr 0 0 0 0, .ptr 1 0 0 0]) (h3 : e0 3 = .rptr (Tb t)) {d : Int} {k : Nat} (hk : Dep t d k) :
    iter (round (C49.tab n) [1] [(.exit 0, [])] c29_1 e0 2 []) ([I d], [.var [.lst f (l.map Qv)], .var [I 0]]) = some (.exit 0, [], [.var [.lst f (l.map Qv)], .var [I (domF t l (k + 1) d)]]) := by
  have hd0 : ∀ {d : Int} {k : Nat}, Dep t d k → d ≠ 0 := fun h => by
    cases h with
    | root => decide
    | up h _ _ _ => have := (w.wf.pos _ _ h).1; omega
  induction hk with
  | root =>
    rw [iter_eq]
    have h42 := s44 (n := n) (by omega) l hs hl f 1 (by decide)
    simp only [domF, if_true]
    generalize (findQ l 1).isSome = b at *
    cases b <;> simp -implicitDefEqProofs (disch := omega) [wrap_of, ilt_t, ilt_f, ile_t, ile_f, nlt_t, nlt_f, nle_t, nle_f, ieq_t, ieq_f, imin_l, imin_r, imax_l, imax_r, take_app1, take_map_all, round_eq, b29_1, h2, h3, h42]
  | @up i q k hf hk hne hd ih =>
    rw [iter_eq]
    have h42 := s44 (n := n) (by omega) l hs hl f i (hd0 (.up hf hk hne hd))
    have h33 := s28 (n := n) hn t w.wf.srt (wbt w).len i
    have hu : upN t i = q.up := by unfold upN; rw [hf]; rfl
    unfold domF
    rw [hu, if_neg hne]
    unfold getV at h33
    rw [hf] at h33
    simp only [Option.elim_some, Tv, Nd] at h33
    generalize (findQ l i).isSome = b at *
    cases b with
    | true => simp -implicitDefEqProofs (disch := omega) [wrap_of, ilt_t, ilt_f, ile_t, ile_f, nlt_t, nlt_f, nle_t, nle_f, ieq_t, ieq_f, imin_l, imin_r, imax_l, imax_r, take_app1, take_map_all, round_eq, b29_1, h2, h3, h42]
    | false =>
      simp -implicitDefEqProofs (disch := omega) [wrap_of, ilt_t, ilt_f, ile_t, ile_f, nlt_t, nlt_f, nle_t, nle_f, ieq_t, ieq_f, imin_l, imin_r, imax_l, imax_r, take_app1, take_map_all, round_eq, b29_1, h2, h3, h42, hne, a28, h33]
      exact ih
theorem s19 {n : Nat} (hn : 24 < n) (t : Tr.Tree) (w : WFt t) (l : List Qu) (hs : SrtQ l) (hl : l.length ≤ 1000) (f : Bool) {d : Int} (hd : dirE t d = 0) : (C49.tab n).p 19 [Tv t, .lst f (l.map Qv), I d] = some (I (dom t l d)) := by
  rw [p19 hn, runP_eq, runH_eq]
  obtain ⟨k, hk⟩ := dep_dir w hd
  have hl41 := fun e0 h2 h3 => l41d (n := 23) (by decide) t w l hs hl f e0 h2 h3 hk
  rw [dom_eq w hk (Nat.lt_succ_self k)] at hl41
  have hp := p29 (n := 24) (by decide)
  generalize dom t l d = o at *
  simp -implicitDefEqProofs (disch := omega) [wrap_of, ilt_t, ilt_f, ile_t, ile_f, nlt_t, nlt_f, nle_t, nle_f, ieq_t, ieq_f, imin_l, imin_r, imax_l, imax_r, take_app1, take_map_all, c19, hp, runH_eq, c29]
  rw [hl41 _ (by simp -implicitDefEqProofs (disch := omega) [wrap_of, ilt_t, ilt_f, ile_t, ile_f, nlt_t, nlt_f, nle_t, nle_f, ieq_t, ieq_f, imin_l, imin_r, imax_l, imax_r, take_app1, take_map_all, ]) (by simp -implicitDefEqProofs (disch := omega) [wrap_of, ilt_t, ilt_f, ile_t, ile_f, nlt_t, nlt_f, nle_t, nle_f, ieq_t, ieq_f, imin_l, imin_r, imax_l, imax_r, take_app1, take_map_all, ])]
  simp -implicitDefEqProofs (disch := omega) [wrap_of, ilt_t, ilt_f, ile_t, ile_f, nlt_t, nlt_f, nle_t, nle_f, ieq_t, ieq_f, imin_l, imin_r, imax_l, imax_r, take_app1, take_map_all, ]
theorem s20 {n : Nat} (hn : 25 < n) (t : Tr.Tree) (w : WFt t) (l : List Qu) (hs : SrtQ l) (hl : l.length ≤ 1000) (f : Bool) {d d' : Int} (hd : dirE t d = 0) (hd' : dirE t d' = 0) : (C49.tab n).p 20 [Tv t, .lst f (l.map Qv), I d, I d'] = some (.bool (decide (dom t l d ≠ dom t l d'))) := by
  rw [p20 hn, runP_eq, runH_eq]
  have h1 := s19 (n := 25) (by decide) t w l hs hl f hd
  have h2 := s19 (n := 25) (by decide) t w l hs hl f hd'
  generalize dom t l d = u at *
  generalize dom t l d' = v at *
  simp only [Tv] at h1 h2
  by_cases c : u = v
  · simp -implicitDefEqProofs (disch := omega) [wrap_of, ilt_t, ilt_f, ile_t, ile_f, nlt_t, nlt_f, nle_t, nle_f, ieq_t, ieq_f, imin_l, imin_r, imax_l, imax_r, take_app1, take_map_all, c20, a19, h1, h2, c]
  · simp -implicitDefEqProofs (disch := omega) [wrap_of, ilt_t, ilt_f, ile_t, ile_f, nlt_t, nlt_f, nle_t, nle_f, ieq_t, ieq_f, imin_l, imin_r, imax_l, imax_r, take_app1, take_map_all, c20, a19, h1, h2, c]
theorem used_le {t : Tr.Tree} (w : WFt t) (d : Int) : 0 ≤ usedN t d ∧ usedN t d ≤ 200 ∧ 0 ≤ usedB t d ∧ usedB t d ≤ 819200 := by
  unfold usedN usedB
  obtain ⟨m1, m2, _⟩ := met_post w d
  have hml := nd_len m1 (fun x hx => by
    obtain ⟨p, e, _, h⟩ := (Ru_iff w).1 ((m2 x).1 hx)
    obtain ⟨p', hp', e', he', hj⟩ := inE_find h
    rw [← hj]
    exact ent_isN w (by rw [getZ_of hp']; exact he'))
  have := w.wf.len
  have := dats_le w (metL t d)
  split <;> omega
/-- One directory on the way up: what it has used. -/
theorem s30 {n : Nat} (hn : 22 < n) (t : Tr.Tree) (w : WFt t) (l : List Qu) (hs : SrtQ l) (hl : l.length ≤ 1000) (f : Bool) (a b : Int) (ha : -1099511627776 ≤ a) (ha' : a ≤ 1099511627776) (hb : -1099511627776 ≤ b) (hb' : b ≤ 1099511627776) (d : Int) :
    callA (C49.tab n) 30 [I d, .ptr 1 0 0 0, .ptr 0 0 0 0, .ptr 2 0 0 0, .ptr 3 0 0 0, .ptr 4 0 0 0] [.var (Tb t), .var [.lst f (l.map Qv)], .var [I a], .var [I b], .var [I 0]] =
      some (.bool !((findQ l d).elim false fun q => pass t q a b), [.var (Tb t), .var [.lst f (l.map Qv)], .var [I a], .var [I b], .var [I (if ((findQ l d).elim false fun q => pass t q a b) = true then 90 else 0)]]) := by
  rw [p30 hn, runH_eq]
  have h36 := s31 (n := 22) (by decide) l hs hl f d
  have h13 := s16 (n := 22) (by decide) t w d
  have hu := used_le w d
  rcases cutQ_find hs d with ⟨hc, hi, hf⟩ | ⟨hf, _⟩
  · obtain ⟨x, hx⟩ : ∃ x, x = l[cutQ l d] := ⟨_, rfl⟩
    rw [← hx] at hf hi
    have ho : ((findQ l d).elim false fun q => pass t q a b) = decide (x.nodes < usedN t d + a ∨ x.bytes < usedB t d + b) := by rw [hf, ← hi]; rfl
    rw [hf] at h36
    generalize ((findQ l d).elim false fun q => pass t q a b) = o at *
    simp only [Tv, Tb] at h13 ⊢
    generalize usedN t d = u at *
    generalize usedB t d = v at *
    generalize cutQ l d = c at *
    by_cases c1 : x.nodes < u + a
    · obtain rfl : o = true := by rw [ho]; exact decide_eq_true (.inl c1)
      simp -implicitDefEqProofs (disch := omega) [wrap_of, ilt_t, ilt_f, ile_t, ile_f, nlt_t, nlt_f, nle_t, nle_f, ieq_t, ieq_f, imin_l, imin_r, imax_l, imax_r, take_app1, take_map_all, c30, a31, h36, a16, h13, hc, ← hx, c1]
    · by_cases c2 : x.bytes < v + b
      · obtain rfl : o = true := by rw [ho]; exact decide_eq_true (.inr c2)
        simp -implicitDefEqProofs (disch := omega) [wrap_of, ilt_t, ilt_f, ile_t, ile_f, nlt_t, nlt_f, nle_t, nle_f, ieq_t, ieq_f, imin_l, imin_r, imax_l, imax_r, take_app1, take_map_all, c30, a31, h36, a16, h13, hc, ← hx, c1, c2]
      · obtain rfl : o = false := by rw [ho]; exact decide_eq_false (by omega)
        simp -implicitDefEqProofs (disch := omega) [wrap_of, ilt_t, ilt_f, ile_t, ile_f, nlt_t, nlt_f, nle_t, nle_f, ieq_t, ieq_f, imin_l, imin_r, imax_l, imax_r, take_app1, take_map_all, c30, a31, h36, a16, h13, hc, ← hx, c1, c2]
  · have ho : ((findQ l d).elim false fun q => pass t q a b) = false := by rw [hf]; rfl
    rw [hf] at h36
    rw [ho]
    generalize cutQ l d = c at *
    simp -implicitDefEqProofs (disch := omega) [wrap_of, ilt_t, ilt_f, ile_t, ile_f, nlt_t, nlt_f, nle_t, nle_f, ieq_t, ieq_f, imin_l, imin_r, imax_l, imax_r, take_app1, take_map_all, c30, a31, h36]
theorem l41m {n : Nat} (hn : 22 < n) (t : Tr.Tree) (w : WFt t) (l : List Qu) (hs : SrtQ l) (hl : l.length ≤ 1000) (f : Bool) (a b : Int) (ha : -1099511627776 ≤ a) (ha' : a ≤ 1099511627776) (hb : -1099511627776 ≤ b) (hb' : b ≤ 1099511627776)
    (e0 : Env) (h2 : e0 2 = .fn (.func 30) [] [.ptr 1 0 0 0, .ptr 0 0 0 0, .ptr 2 0 0 0, .ptr 3 0 0 0, .ptr 4 0 0 0]) (h3 : e0 3 = .rptr (Tb t)) {d : Int} {k : Nat} (hk : Dep t d k) :
    iter (round (C49.tab n) [1] [(.exit 0, [])] c29_1 e0 5 []) ([I d], [.var (Tb t), .var [.lst f (l.map Qv)], .var [I a], .var [I b], .var [I 0]]) =
      some (.exit 0, [], [.var (Tb t), .var [.lst f (l.map Qv)], .var [I a], .var [I b], .var [I (mayF t l a b (k + 1) d)]]) := by
  have h43 := s30 (n := n) hn t w l hs hl f a b ha ha' hb hb'
  simp only [Tb] at h43 ⊢
  induction hk with
  | root =>
    rw [iter_eq]
    have h43 := h43 1
    simp only [mayF, if_true]
    generalize (findQ l 1).elim false (fun q => pass t q a b) = o at *
    cases o <;> simp -implicitDefEqProofs (disch := omega) [wrap_of, ilt_t, ilt_f, ile_t, ile_f, nlt_t, nlt_f, nle_t, nle_f, ieq_t, ieq_f, imin_l, imin_r, imax_l, imax_r, take_app1, take_map_all, round_eq, b29_1, h2, h3, h43]
  | @up i q k hf hk hne hd ih =>
    rw [iter_eq]
    have h43 := h43 i
    have h33 := s28 (n := n) (by omega) t w.wf.srt (wbt w).len i
    have hu : upN t i = q.up := by unfold upN; rw [hf]; rfl
    unfold mayF
    rw [hu, if_neg hne]
    unfold getV at h33
    rw [hf] at h33
    simp only [Option.elim_some, Tv, Nd] at h33
    generalize (findQ l i).elim false (fun q => pass t q a b) = o at *
    cases o with
    | true => simp -implicitDefEqProofs (disch := omega) [wrap_of, ilt_t, ilt_f, ile_t, ile_f, nlt_t, nlt_f, nle_t, nle_f, ieq_t, ieq_f, imin_l, imin_r, imax_l, imax_r, take_app1, take_map_all, round_eq, b29_1, h2, h3, h43]
    | false =>
      simp -implicitDefEqProofs (disch := omega) [wrap_of, ilt_t, ilt_f, ile_t, ile_f, nlt_t, nlt_f, nle_t, nle_f, ieq_t, ieq_f, imin_l, imin_r, imax_l, imax_r, take_app1, take_map_all, round_eq, b29_1, h2, h3, h43, hne, a28, h33]
      exact ih
theorem s12 {n : Nat} (hn : 26 < n) (t : Tr.Tree) (w : WFt t) (l : List Qu) (hs : SrtQ l) (hl : l.length ≤ 1000) (f : Bool) (a b : Int) (ha : -1099511627776 ≤ a) (ha' : a ≤ 1099511627776) (hb : -1099511627776 ≤ b) (hb' : b ≤ 1099511627776) {d : Int} (hd : dirE t d = 0) :
    (C49.tab n).p 12 [Tv t, .lst f (l.map Qv), I d, I a, I b] = some (I (may t l d a b)) := by
  rw [p12 hn, runP_eq, runH_eq]
  obtain ⟨k, hk⟩ := dep_dir w hd
  have hl41 := fun e0 h2 h3 => l41m (n := 23) (by decide) t w l hs hl f a b ha ha' hb hb' e0 h2 h3 hk
  rw [mayF_eq w hs hk hd (Nat.lt_succ_self k)] at hl41
  have hp := p29 (n := 26) (by decide)
  generalize may t l d a b = o at *
  simp only [Tb] at hl41
  simp -implicitDefEqProofs (disch := omega) [wrap_of, ilt_t, ilt_f, ile_t, ile_f, nlt_t, nlt_f, nle_t, nle_f, ieq_t, ieq_f, imin_l, imin_r, imax_l, imax_r, take_app1, take_map_all, c12, hp, runH_eq, c29]
  rw [hl41 _ (by simp -implicitDefEqProofs (disch := omega) [wrap_of, ilt_t, ilt_f, ile_t, ile_f, nlt_t, nlt_f, nle_t, nle_f, ieq_t, ieq_f, imin_l, imin_r, imax_l, imax_r, take_app1, take_map_all, ]) (by simp -implicitDefEqProofs (disch := omega) [wrap_of, ilt_t, ilt_f, ile_t, ile_f, nlt_t, nlt_f, nle_t, nle_f, ieq_t, ieq_f, imin_l, imin_r, imax_l, imax_r, take_app1, take_map_all, ])]
  simp -implicitDefEqProofs (disch := omega) [wrap_of, ilt_t, ilt_f, ile_t, ile_f, nlt_t, nlt_f, nle_t, nle_f, ieq_t, ieq_f, imin_l, imin_r, imax_l, imax_r, take_app1, take_map_all, ]
end Go.Proofs.YtfdenmkoampgnaaGreat
