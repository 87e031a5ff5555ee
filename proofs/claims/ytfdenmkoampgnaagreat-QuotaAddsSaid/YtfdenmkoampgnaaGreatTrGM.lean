/-
  What is reached from a directory by names: gone through in depth.
-/
import Derived.Test.YtfdenmkoampgnaaGreatTrGJ
set_option linter.unusedSimpArgs false
set_option linter.unusedVariables false
namespace Go.Tr
/-- Named in it. -/
def inE (t : Tree) (i j : Int) : Prop := ∃ e ∈ (getZ t i).ents, e.ino = j
/-- Reached by names. -/
inductive Ru (t : Tree) (i : Int) : Int → Prop
  | one {j : Int} : inE t i j → Ru t i j
  | more {j k : Int} : Ru t i j → inE t j k → Ru t i k
theorem Ru.trans {t : Tree} {i j k : Int} (h : Ru t i j) (h' : Ru t j k) : Ru t i k := by
  induction h' with
  | one h1 => exact .more h h1
  | more _ h2 ih => exact .more ih h2
/-- Nodes that were not met. -/
def unm (t : Tree) (s : List Int) : Nat := (t.nodes.filter fun q => !s.contains q.ino).length
def foll (t : Tree) : Nat → Int → List Int × Int → List Int × Int
  | 0, _, s => s
  | k + 1, i, s => (getZ t i).ents.foldl (fun s e => if s.1.contains e.ino = true then s else foll t k e.ino (s.1 ++ [e.ino], s.2)) (s.1, s.2 + ((getZ t i).data.length : Int))
def follE (t : Tree) (k : Nat) (s : List Int × Int) (e : Ent) : List Int × Int := if s.1.contains e.ino = true then s else foll t k e.ino (s.1 ++ [e.ino], s.2)
theorem foll_succ (t : Tree) (k : Nat) (i : Int) (s : List Int × Int) : foll t (k + 1) i s = (getZ t i).ents.foldl (follE t k) (s.1, s.2 + ((getZ t i).data.length : Int)) := rfl
theorem unm_mono {t : Tree} {s s' : List Int} (h : ∀ x ∈ s, x ∈ s') : unm t s' ≤ unm t s := by
  unfold unm
  refine List.Sublist.length_le ?_
  have : (t.nodes.filter fun q => !s'.contains q.ino) = (t.nodes.filter fun q => !s.contains q.ino).filter fun q => !s'.contains q.ino := by
    rw [List.filter_filter]
    refine List.filter_congr fun q _ => ?_
    by_cases hq : q.ino ∈ s'
    · simp [hq]
    · have : q.ino ∉ s := fun h' => hq (h _ h')
      simp [hq, this]
  rw [this]
  exact List.filter_sublist
theorem unm_more {t : Tree} {s : List Int} {x : Int} (hf : (find t.nodes x).isSome = true) (hx : x ∉ s) : unm t (s ++ [x]) < unm t s := by
  obtain ⟨q, hq⟩ := Option.isSome_iff_exists.1 hf
  obtain ⟨hm, hi⟩ := find_mem hq
  unfold unm
  have h1 : (t.nodes.filter fun q => !(s ++ [x]).contains q.ino) = (t.nodes.filter fun q => !s.contains q.ino).filter fun q => !decide (q.ino = x) := by
    rw [List.filter_filter]
    refine List.filter_congr fun p _ => ?_
    by_cases hp : p.ino = x
    · simp [hp]
    · by_cases hps : p.ino ∈ s <;> simp [hp, hps]
  rw [h1]
  have h2 : q ∈ t.nodes.filter fun q => !s.contains q.ino := List.mem_filter.2 ⟨hm, by rw [hi]; simpa using hx⟩
  generalize (t.nodes.filter fun q => !s.contains q.ino) = l at *
  clear h1 hm
  induction l with
  | nil => cases h2
  | cons p l ih =>
    rw [List.filter_cons, List.length_cons]
    rcases List.mem_cons.1 h2 with rfl | h2
    · have := List.length_filter_le (fun q : Node => !decide (q.ino = x)) l
      simp only [hi, decide_true, Bool.not_true, Bool.false_eq_true, if_false]
      omega
    · have := ih h2
      split
      · rw [List.length_cons]; omega
      · omega
def dat (t : Tree) (i : Int) : Int := ((getZ t i).data.length : Int)
def dats (t : Tree) (l : List Int) : Int := (l.map (dat t)).sum
theorem dats_append (t : Tree) (a b : List Int) : dats t (a ++ b) = dats t a + dats t b := by
  unfold dats
  rw [List.map_append, List.sum_append]
theorem dats_cons (t : Tree) (x : Int) (l : List Int) : dats t (x :: l) = dat t x + dats t l := rfl
section
variable {ok : List UInt8 → Bool} {lt : List UInt8 → List UInt8 → Bool} {t : Tree}
theorem ent_isN (w : WF ok lt t) {i : Int} {e : Ent} (he : e ∈ (getZ t i).ents) : (find t.nodes e.ino).isSome = true := by
  unfold getZ at he
  cases hf : find t.nodes i with
  | none => rw [hf] at he; cases he
  | some q =>
    rw [hf] at he
    have he : e ∈ q.ents := he
    exact (w.wf.dir _ _ hf (has_dir w.wf hf he)).2.to e he
/-- What going through leaves. -/
structure Post (t : Tree) (s : List Int × Int) (r : List Int × Int) (new : List Int) (P : Int → Prop) : Prop where
  eq : r.1 = s.1 ++ new
  nd : r.1.Nodup
  node : ∀ x ∈ r.1, (find t.nodes x).isSome = true
  from_ : ∀ x ∈ new, P x
  cl : ∀ x ∈ new, ∀ j, inE t x j → j ∈ r.1
  sum : r.2 = s.2 + dats t new
def OneP (t : Tree) (k : Nat) : Prop := ∀ (i : Int) (s : List Int × Int), unm t s.1 < k → s.1.Nodup → (∀ x ∈ s.1, (find t.nodes x).isSome = true) → ∃ new, Post t (s.1, s.2 + dat t i) (foll t k i s) new (Ru t i) ∧ ∀ j, inE t i j → j ∈ (foll t k i s).1
theorem follE_post (k : Nat) (one : OneP t k) : ∀ (l : List Ent) (s : List Int × Int), (∀ e ∈ l, (find t.nodes e.ino).isSome = true) → unm t s.1 < k + 1 → s.1.Nodup → (∀ x ∈ s.1, (find t.nodes x).isSome = true) →
      ∃ new, Post t s (l.foldl (follE t k) s) new (fun x => ∃ e ∈ l, x = e.ino ∨ Ru t e.ino x) ∧ ∀ e ∈ l, e.ino ∈ (l.foldl (follE t k) s).1 := by
  intro l
  induction l with
  | nil =>
    intro s _ _ h2 h3
    exact ⟨[], ⟨by simp, h2, h3, (fun x hx => by cases hx), (fun x hx => by cases hx), by simp [dats]⟩, (fun e he => by cases he)⟩
  | cons e l ih =>
    intro s hl h1 h2 h3
    rw [List.foldl_cons]
    have hl' : ∀ e ∈ l, (find t.nodes e.ino).isSome = true := fun e' he => hl e' (List.mem_cons_of_mem _ he)
    have he := hl e List.mem_cons_self
    by_cases hc : e.ino ∈ s.1
    · have hs : follE t k s e = s := by unfold follE; rw [if_pos (by simpa using hc)]
      rw [hs]
      obtain ⟨new, p, q⟩ := ih s hl' h1 h2 h3
      refine ⟨new, ⟨p.eq, p.nd, p.node, fun x hx => ?_, p.cl, p.sum⟩, fun e' he' => ?_⟩
      · obtain ⟨e', h4, h5⟩ := p.from_ x hx
        exact ⟨e', List.mem_cons_of_mem _ h4, h5⟩
      · rcases List.mem_cons.1 he' with rfl | he'
        · rw [p.eq]; exact List.mem_append_left _ hc
        · exact q e' he'
    · have hs : follE t k s e = foll t k e.ino (s.1 ++ [e.ino], s.2) := by unfold follE; rw [if_neg (by simpa using hc)]
      rw [hs]
      have hu := unm_more he hc
      have hnd : (s.1 ++ [e.ino]).Nodup := by
        rw [List.nodup_append]
        exact ⟨h2, by simp, fun a ha b hb => by simp at hb; subst hb; exact fun e' => hc (e' ▸ ha)⟩
      have hno : ∀ x ∈ s.1 ++ [e.ino], (find t.nodes x).isSome = true := fun x hx => by
        rcases List.mem_append.1 hx with hx | hx
        · exact h3 x hx
        · simp at hx; subst hx; exact he
      obtain ⟨n1, p1, q1⟩ := one e.ino (s.1 ++ [e.ino], s.2) (by simp only; omega) hnd hno
      generalize foll t k e.ino (s.1 ++ [e.ino], s.2) = m at *
      have hsub : ∀ x ∈ s.1, x ∈ m.1 := fun x hx => by rw [p1.eq]; exact List.mem_append_left _ (List.mem_append_left _ hx)
      obtain ⟨n2, p2, q2⟩ := ih m hl' (Nat.lt_of_le_of_lt (unm_mono hsub) h1) p1.nd p1.node
      have hm2 : ∀ x ∈ m.1, x ∈ (l.foldl (follE t k) m).1 := fun x hx => by rw [p2.eq]; exact List.mem_append_left _ hx
      refine ⟨e.ino :: n1 ++ n2, ⟨?_, p2.nd, p2.node, fun x hx => ?_, fun x hx j hj => ?_, ?_⟩, fun e' he' => ?_⟩
      · rw [p2.eq, p1.eq]
        simp
      · rcases List.mem_append.1 hx with hx | hx
        · rcases List.mem_cons.1 hx with rfl | hx
          · exact ⟨e, List.mem_cons_self, .inl rfl⟩
          · exact ⟨e, List.mem_cons_self, .inr (p1.from_ x hx)⟩
        · obtain ⟨e', h4, h5⟩ := p2.from_ x hx
          exact ⟨e', List.mem_cons_of_mem _ h4, h5⟩
      · rcases List.mem_append.1 hx with hx | hx
        · rcases List.mem_cons.1 hx with rfl | hx
          · exact hm2 _ (q1 j hj)
          · exact hm2 _ (p1.cl x hx j hj)
        · exact p2.cl x hx j hj
      · rw [p2.sum, p1.sum, dats_append, dats_cons]
        simp only
        omega
      · rcases List.mem_cons.1 he' with rfl | he'
        · refine hm2 _ ?_
          rw [p1.eq]
          simp
        · exact q2 e' he'
theorem foll_post (w : WF ok lt t) : ∀ k : Nat, OneP t k
  | 0 => fun i s h => absurd h (by omega)
  | k + 1 => by
    have ih := foll_post w k
    intro i s h1 h2 h3
    rw [foll_succ]
    obtain ⟨new, p, q⟩ := follE_post k ih (getZ t i).ents (s.1, s.2 + dat t i) (fun e he => ent_isN w he) h1 h2 h3
    refine ⟨new, ⟨p.eq, p.nd, p.node, fun x hx => ?_, p.cl, p.sum⟩, fun j hj => ?_⟩
    · obtain ⟨e, he, h4⟩ := p.from_ x hx
      rcases h4 with rfl | h4
      · exact .one ⟨e, he, rfl⟩
      · exact (Ru.one ⟨e, he, rfl⟩).trans h4
    · obtain ⟨e, he, rfl⟩ := hj
      exact q e he
/-- All that is reached, each once. -/
def metL (t : Tree) (d : Int) : List Int := (foll t 301 d ([], 0)).1
theorem met_post (w : WF ok lt t) (d : Int) : (metL t d).Nodup ∧ (∀ x, x ∈ metL t d ↔ Ru t d x) ∧ (foll t 301 d ([], 0)).2 = dat t d + dats t (metL t d) := by
  have hu : unm t [] < 301 := by
    have hl := w.wf.len
    have := List.length_filter_le (fun q : Node => !([] : List Int).contains q.ino) t.nodes
    unfold unm
    omega
  obtain ⟨new, p, q⟩ := foll_post w 301 d ([], 0) hu List.nodup_nil (fun x hx => by cases hx)
  have he : metL t d = new := by unfold metL; rw [p.eq]; rfl
  refine ⟨p.nd, fun x => ⟨fun hx => ?_, fun hx => ?_⟩, ?_⟩
  · rw [he] at hx
    exact p.from_ x hx
  · induction hx with
    | one h => exact q _ h
    | more h1 h2 ih =>
      rw [he] at ih
      exact p.cl _ ih _ h2
  · rw [p.sum, he]
    simp
end
end Go.Tr

/-
  What a directory's subtree has.
-/
namespace Go.Tr
section
variable {ok : List UInt8 → Bool} {lt : List UInt8 → List UInt8 → Bool} {t : Tree}
theorem inE_find {i j : Int} (h : inE t i j) : ∃ p, find t.nodes i = some p ∧ ∃ e ∈ p.ents, e.ino = j := by
  obtain ⟨e, he, hj⟩ := h
  unfold getZ at he
  cases hf : find t.nodes i with
  | none => rw [hf] at he; cases he
  | some p =>
    rw [hf] at he
    exact ⟨p, rfl, e, he, hj⟩
theorem inE_of {i j : Int} {p : Node} (hp : find t.nodes i = some p) (h : 0 < cN p j) : inE t i j := by
  obtain ⟨e, he, hj⟩ := cN_mem.1 h
  exact ⟨e, by rw [getZ_of hp]; exact he, hj⟩
/-- A directory that is named in one stands there. -/
theorem entry_up (w : WF ok lt t) {i j : Int} (h : inE t i j) {n : Node} (hj : find t.nodes j = some n) (hk : n.kind = 2) : n.up = i ∧ j ≠ 1 := by
  obtain ⟨p, hp, e, he, rfl⟩ := inE_find h
  obtain ⟨_, hne, _⟩ := ent_node w hp he
  refine ⟨?_, hne⟩
  have hc : 0 < cN p e.ino := cN_mem.2 ⟨e, he, rfl⟩
  have hone := (w.wf.lnk _ _ hj hk hne).1
  obtain ⟨q, q1, q2⟩ := w.wf.par _ _ hj hk hne rfl
  have := cnt_one w.wf.srt (by simpa using hone) (find_mem hp).1 (find_mem q1).1 hc (by omega)
  subst this
  exact (find_ino q1).symm.trans (find_ino hp)
theorem Ru_iff (w : WF ok lt t) {d j : Int} : Ru t d j ↔ ∃ p e, Rch t d p e ∧ inE t p j := by
  constructor
  · intro h
    induction h with
    | one h => exact ⟨d, 0, .here, h⟩
    | more h1 h2 ih =>
      obtain ⟨p, e, h3, h4⟩ := ih
      obtain ⟨q, hq, e', he', hk⟩ := inE_find h2
      have hkd := has_dir w.wf hq he'
      obtain ⟨h5, h6⟩ := entry_up w h4 hq hkd
      exact ⟨_, e + 1, .up hq hkd h6 (by rw [h5]; exact h3), h2⟩
  · rintro ⟨p, e, h1, h2⟩
    induction h1 generalizing j with
    | here => exact .one h2
    | up h hk h1 hr ih =>
      obtain ⟨q, q1, q2⟩ := w.wf.par _ _ h hk h1 rfl
      exact .more (ih (inE_of q1 (by omega))) h2
/-- All that is named stands below the root. -/
theorem root_all (w : WF ok lt t) {j : Int} : Ru t 1 j ↔ 0 < cnt t.nodes j := by
  rw [Ru_iff w]
  constructor
  · rintro ⟨p, e, _, h⟩
    obtain ⟨q, hq, e', he', hj⟩ := inE_find h
    have h1 : 0 < cN q j := cN_mem.2 ⟨e', he', hj⟩
    have h2 := cN_le (find_mem hq).1 j
    omega
  · intro h
    obtain ⟨q, hq, hc⟩ := cnt_mem.1 h
    have hf := find_of w.wf.srt hq
    obtain ⟨e, he, hj⟩ := cN_mem.1 hc
    have hk := has_dir w.wf hf he
    obtain ⟨d, hd, _⟩ := w.dep _ _ hf hk
    have hb := (w.dep_is hq hk).1
    obtain ⟨e', hr⟩ := (bel_iff w hd).1 hb
    exact ⟨q.ino, e', hr, inE_of hf hc⟩
def usedN (t : Tree) (d : Int) : Int := if dirE t d = 0 then ((metL t d).length : Int) else 0
def usedB (t : Tree) (d : Int) : Int := if dirE t d = 0 then dats t (metL t d) else 0
end
end Go.Tr

/-
  Quotas, as the document tells them (layer 9), in plain Lean.
-/
namespace Go.Tr
open Go.Am
structure Qu where
  ino : Int
  nodes : Int
  bytes : Int
deriving DecidableEq
def SrtQ (l : List Qu) : Prop := l.Pairwise fun a b => a.ino < b.ino
def findQ (l : List Qu) (i : Int) : Option Qu := l.find? fun q => decide (q.ino = i)
def cutQ (l : List Qu) (i : Int) : Nat := cutP (fun q => decide (q.ino < i)) l
theorem cutQ_le (l : List Qu) (i : Int) : cutQ l i ≤ l.length := cutP_le _ _
theorem cutQ_iff {l : List Qu} (hs : SrtQ l) (i : Int) {k : Nat} (h : k < l.length) : k < cutQ l i ↔ l[k].ino < i := by
  have := cutP_iff (p := fun n : Qu => decide (n.ino < i)) (l := l) (fun a b hb hab hp => by
    have := (List.pairwise_iff_getElem.1 hs) a b (by omega) hb hab
    have hp := of_decide_eq_true hp
    exact decide_eq_true (by omega)) h
  rw [decide_eq_true_eq] at this
  exact this
theorem findQ_mem {l : List Qu} {i : Int} {q : Qu} (h : findQ l i = some q) : q ∈ l ∧ q.ino = i :=
  ⟨List.mem_of_find?_eq_some h, by have := List.find?_some h; exact of_decide_eq_true this⟩
theorem srtQ_inj {l : List Qu} (hs : SrtQ l) {a b : Qu} (ha : a ∈ l) (hb : b ∈ l) (h : a.ino = b.ino) : a = b := by
  obtain ⟨i, hi, rfl⟩ := List.mem_iff_getElem.1 ha
  obtain ⟨j, hj, rfl⟩ := List.mem_iff_getElem.1 hb
  rcases Nat.lt_trichotomy i j with h1 | h1 | h1
  · have := (List.pairwise_iff_getElem.1 hs) _ _ hi hj h1; omega
  · subst h1; rfl
  · have := (List.pairwise_iff_getElem.1 hs) _ _ hj hi h1; omega
theorem findQ_of {l : List Qu} (hs : SrtQ l) {q : Qu} (h : q ∈ l) : findQ l q.ino = some q := by
  cases hf : findQ l q.ino with
  | none =>
    unfold findQ at hf
    rw [List.find?_eq_none] at hf
    exact (hf q h (decide_eq_true rfl)).elim
  | some p => rw [srtQ_inj hs (findQ_mem hf).1 h (findQ_mem hf).2]
/-- What the cut finds. -/
theorem cutQ_find {l : List Qu} (hs : SrtQ l) (i : Int) : (∃ (h : cutQ l i < l.length), l[cutQ l i].ino = i ∧ findQ l i = some l[cutQ l i]) ∨ (findQ l i = none ∧ ∀ (h : cutQ l i < l.length), l[cutQ l i].ino ≠ i) := by
  by_cases h : cutQ l i < l.length
  · by_cases hi : l[cutQ l i].ino = i
    · refine .inl ⟨h, hi, ?_⟩
      have := findQ_of hs (List.getElem_mem h)
      rwa [hi] at this
    · refine .inr ⟨?_, fun _ => hi⟩
      cases hf : findQ l i with
      | none => rfl
      | some q =>
        exfalso
        obtain ⟨hq, hqi⟩ := findQ_mem hf
        obtain ⟨k, hk, rfl⟩ := List.mem_iff_getElem.1 hq
        have h1 := (cutQ_iff hs i h)
        have h2 := (cutQ_iff hs i hk)
        rcases Nat.lt_trichotomy k (cutQ l i) with h3 | h3 | h3
        · have := h2.1 h3; omega
        · subst h3; exact hi hqi
        · have := (List.pairwise_iff_getElem.1 hs) _ _ h hk h3
          have : ¬ l[cutQ l i].ino < i := fun h => Nat.lt_irrefl _ (h1.2 h)
          omega
  · refine .inr ⟨?_, fun h' => absurd h' h⟩
    cases hf : findQ l i with
    | none => rfl
    | some q =>
      exfalso
      obtain ⟨hq, hqi⟩ := findQ_mem hf
      obtain ⟨k, hk, rfl⟩ := List.mem_iff_getElem.1 hq
      have := (cutQ_iff hs i hk).1 (by have := cutQ_le l i; omega)
      omega
def remQ (l : List Qu) (i : Int) : List Qu := l.filter fun q => decide (q.ino ≠ i)
def putQ (l : List Qu) (x : Qu) : List Qu := l.take (cutQ l x.ino) ++ x :: (l.drop (cutQ l x.ino)).filter fun q => decide (q.ino ≠ x.ino)
theorem take_ne {l : List Qu} (hs : SrtQ l) (i : Int) : (l.take (cutQ l i)).filter (fun m => decide (m.ino ≠ i)) = l.take (cutQ l i) := by
  rw [List.filter_eq_self]
  intro m hm
  obtain ⟨k, hk, rfl⟩ := List.mem_iff_getElem.1 hm
  rw [List.length_take] at hk
  rw [List.getElem_take]
  have := (cutQ_iff hs i (k := k) (by omega)).1 (by omega)
  exact decide_eq_true (by omega)
theorem drop_ne {l : List Qu} (hs : SrtQ l) {i : Int} (h : cutQ l i < l.length) (hi : l[cutQ l i].ino = i) : (l.drop (cutQ l i)).filter (fun m => decide (m.ino ≠ i)) = l.drop (cutQ l i + 1) := by
  have hsp : l.drop (cutQ l i) = l[cutQ l i] :: l.drop (cutQ l i + 1) := List.drop_eq_getElem_cons h
  have h2 : (l.drop (cutQ l i + 1)).filter (fun m => decide (m.ino ≠ i)) = l.drop (cutQ l i + 1) := by
    rw [List.filter_eq_self]
    intro m hm
    obtain ⟨k, hk, rfl⟩ := List.mem_iff_getElem.1 hm
    rw [List.length_drop] at hk
    rw [List.getElem_drop]
    have := (List.pairwise_iff_getElem.1 hs) (cutQ l i) (cutQ l i + 1 + k) h (by omega) (by omega)
    exact decide_eq_true (by omega)
  rw [hsp, List.filter_cons, h2]
  simp [hi]
theorem noneQ {l : List Qu} {i : Int} (h : findQ l i = none) : ∀ q ∈ l, q.ino ≠ i := by
  unfold findQ at h
  rw [List.find?_eq_none] at h
  exact fun q hq => by simpa using h q hq
theorem all_ne {l : List Qu} {i : Int} (h : findQ l i = none) : l.filter (fun m => decide (m.ino ≠ i)) = l := by
  rw [List.filter_eq_self]
  exact fun q hq => decide_eq_true (noneQ h q hq)
theorem remQ_none {l : List Qu} {i : Int} (h : findQ l i = none) : remQ l i = l := all_ne h
theorem remQ_cut {l : List Qu} (hs : SrtQ l) {i : Int} (h : cutQ l i < l.length) (hi : l[cutQ l i].ino = i) : remQ l i = l.take (cutQ l i) ++ l.drop (cutQ l i + 1) := by
  have := drop_ne hs h hi
  unfold remQ
  conv => lhs; rw [← List.take_append_drop (cutQ l i) l]
  rw [List.filter_append, take_ne hs, this]
theorem putQ_none {l : List Qu} {x : Qu} (h : findQ l x.ino = none) : putQ l x = l.take (cutQ l x.ino) ++ x :: l.drop (cutQ l x.ino) := by
  unfold putQ
  congr 2
  rw [List.filter_eq_self]
  exact fun q hq => decide_eq_true (noneQ h q (List.mem_of_mem_drop hq))
theorem putQ_cut {l : List Qu} (hs : SrtQ l) {x : Qu} (h : cutQ l x.ino < l.length) (hi : l[cutQ l x.ino].ino = x.ino) : putQ l x = l.set (cutQ l x.ino) x := by
  unfold putQ
  rw [drop_ne hs h hi, List.set_eq_take_append_cons_drop, if_pos h]
section
variable (t : Tree)
/-- Is it passed, with so much more? -/
def pass (q : Qu) (n b : Int) : Bool := decide (q.nodes < usedN t q.ino + n ∨ q.bytes < usedB t q.ino + b)
def domF (l : List Qu) : Nat → Int → Int
  | 0, _ => 0
  | k + 1, d => if (findQ l d).isSome = true then d else if d = 1 then 0 else domF l k (upN t d)
def dom (l : List Qu) (d : Int) : Int := domF t l (t.nodes.length + 1) d
def mayF (l : List Qu) (n b : Int) : Nat → Int → Int
  | 0, _ => 0
  | k + 1, d => if (findQ l d).elim false (fun q => pass t q n b) = true then 90 else if d = 1 then 0 else mayF l n b k (upN t d)
def may (l : List Qu) (d n b : Int) : Int := if (l.any fun q => below t d q.ino && pass t q n b) = true then 90 else 0
def setP (l : List Qu) (i n b : Int) : List Qu × Int :=
  if dirE t i ≠ 0 then (l, dirE t i) else if n < 0 then (remQ l i, 0) else if n < usedN t i ∨ b < usedB t i then (l, 90) else if findQ l i = none ∧ 16 ≤ l.length then (l, 76) else (putQ l ⟨i, n, b⟩, 0)
def rowQ (l : List Qu) (i : Nat) : Bool := match l[i]? with
  | none => false
  | some q => decide (dirE t q.ino = 0) && (!pass t q 0 0 && (decide (i = 0) || (l[i - 1]?).elim false fun p => decide (p.ino < q.ino)))
def rightQ (l : List Qu) : Bool := (List.range l.length).all (rowQ t l) && decide (l.length ≤ 16)
end
/-- Quotas are right. -/
structure InvQ (t : Tree) (l : List Qu) : Prop where
  srt : SrtQ l
  len : l.length ≤ 16
  dir : ∀ q ∈ l, dirE t q.ino = 0
  ok : ∀ q ∈ l, pass t q 0 0 = false
theorem rightQ_iff (t : Tree) (l : List Qu) : rightQ t l = true ↔ InvQ t l := by
  unfold rightQ
  rw [Bool.and_eq_true, decide_eq_true_eq, List.all_eq_true]
  constructor
  · rintro ⟨h1, h2⟩
    have hr : ∀ i (hi : i < l.length), dirE t l[i].ino = 0 ∧ pass t l[i] 0 0 = false ∧ (i = 0 ∨ l[i - 1].ino < l[i].ino) := fun i hi => by
      have := h1 i (List.mem_range.2 hi)
      unfold rowQ at this
      rw [List.getElem?_eq_getElem hi, List.getElem?_eq_getElem (show i - 1 < l.length by omega)] at this
      simpa using this
    refine ⟨?_, h2, fun q hq => ?_, fun q hq => ?_⟩
    · rw [SrtQ, List.pairwise_iff_getElem]
      intro i j hi hj hij
      induction j with
      | zero => omega
      | succ j ih =>
        have h3 := (hr (j + 1) hj).2.2
        simp only [Nat.add_sub_cancel] at h3
        rcases Nat.lt_or_ge i j with h4 | h4
        · have := ih (by omega) h4; omega
        · have : i = j := by omega
          subst this; omega
    · obtain ⟨i, hi, rfl⟩ := List.mem_iff_getElem.1 hq
      exact (hr i hi).1
    · obtain ⟨i, hi, rfl⟩ := List.mem_iff_getElem.1 hq
      exact (hr i hi).2.1
  · intro h
    refine ⟨fun i hi => ?_, h.len⟩
    have hi := List.mem_range.1 hi
    unfold rowQ
    rw [List.getElem?_eq_getElem hi, List.getElem?_eq_getElem (show i - 1 < l.length by omega)]
    have h1 := h.dir _ (List.getElem_mem hi)
    have h2 := h.ok _ (List.getElem_mem hi)
    have h3 : i = 0 ∨ l[i - 1].ino < l[i].ino := by
      rcases Nat.eq_zero_or_pos i with h3 | h3
      · exact .inl h3
      · exact .inr ((List.pairwise_iff_getElem.1 h.srt) _ _ (by omega) hi (by omega))
    simpa [h1, h2] using h3
section
variable {ok : List UInt8 → Bool} {lt : List UInt8 → List UInt8 → Bool} {t : Tree}
theorem dep_dir (w : WF ok lt t) {d : Int} (h : dirE t d = 0) : ∃ k, Dep t d k := by
  unfold dirE at h
  cases hf : find t.nodes d with
  | none => rw [hf] at h; cases h
  | some q =>
    rw [hf] at h
    simp only at h
    by_cases hk : q.kind = 2
    · obtain ⟨k, h1, _⟩ := w.dep _ _ hf hk
      exact ⟨k, h1⟩
    · rw [if_neg hk] at h; cases h
theorem domF_up {l : List Qu} {d : Int} {k : Nat} (h : Dep t d k) : ∀ {f g : Nat}, k < f → k < g → domF t l f d = domF t l g d := by
  induction h with
  | root =>
    intro f g hf hg
    obtain ⟨f, rfl⟩ : ∃ j, f = j + 1 := ⟨f - 1, by omega⟩
    obtain ⟨g, rfl⟩ : ∃ j, g = j + 1 := ⟨g - 1, by omega⟩
    simp [domF]
  | @up i n d h hk h1 hd ih =>
    intro f g hf hg
    obtain ⟨f, rfl⟩ : ∃ j, f = j + 1 := ⟨f - 1, by omega⟩
    obtain ⟨g, rfl⟩ : ∃ j, g = j + 1 := ⟨g - 1, by omega⟩
    have hu : upN t i = n.up := by unfold upN; rw [h]; rfl
    simp only [domF, hu]
    rw [ih (f := f) (g := g) (by omega) (by omega)]
theorem dom_eq (w : WF ok lt t) {l : List Qu} {d : Int} {k : Nat} (h : Dep t d k) {f : Nat} (hf : k < f) : domF t l f d = dom t l d :=
  domF_up h hf (by have := dep_len w h; omega)
/-- A directory's domain, told by its Up. -/
theorem dom_own {l : List Qu} {d : Int} (h : (findQ l d).isSome = true) : dom t l d = d := by
  unfold dom; simp [domF, h]
theorem dom_root {l : List Qu} (h : findQ l 1 = none) : dom t l 1 = 0 := by
  unfold dom; simp [domF, h]
theorem dom_up (w : WF ok lt t) {l : List Qu} {d : Int} (h : findQ l d = none) (h1 : d ≠ 1) (hd : dirE t d = 0) : dom t l d = dom t l (upN t d) := by
  obtain ⟨k, hk⟩ := dep_dir w hd
  cases hk with
  | root => exact absurd rfl h1
  | @up _ n k hf hk hne hd' =>
    have hu : upN t d = n.up := by unfold upN; rw [hf]; rfl
    rw [hu]
    have hl := dep_len w hd'
    rw [← dom_eq w hd' (f := t.nodes.length) hl]
    unfold dom
    simp [domF, h, h1, hu]
theorem mayF_iff (w : WF ok lt t) {l : List Qu} (hs : SrtQ l) {n b : Int} {d : Int} {k : Nat} (h : Dep t d k) : ∀ {f : Nat}, k < f → (mayF t l n b f d = 90 ↔ ∃ q ∈ l, (∃ e, Rch t q.ino d e) ∧ pass t q n b = true) ∧ (mayF t l n b f d = 90 ∨ mayF t l n b f d = 0) := by
  induction h with
  | root =>
    intro f hf
    obtain ⟨f, rfl⟩ : ∃ j, f = j + 1 := ⟨f - 1, by omega⟩
    have hr1 : ∀ q : Qu, (∃ e, Rch t q.ino 1 e) ↔ q.ino = 1 := fun q => by
      constructor
      · rintro ⟨e, he⟩
        generalize hqi : q.ino = j at he
        generalize hoi : (1 : Int) = o at he
        cases he with
        | here => rfl
        | up _ _ h1 _ => exact absurd hoi.symm h1
      · intro h; rw [h]; exact ⟨0, .here⟩
    unfold mayF
    cases hq : findQ l 1 with
    | none =>
      have hne := noneQ hq
      constructor
      · constructor
        · intro h; simp at h
        · rintro ⟨q, h1, h2, _⟩
          exact absurd ((hr1 q).1 h2) (hne q h1)
      · simp
    | some q =>
      obtain ⟨hm, hi⟩ := findQ_mem hq
      cases hp : pass t q n b with
      | true =>
        constructor
        · simp only [Option.elim_some, hp, if_true, true_iff]
          exact ⟨q, hm, (hr1 q).2 hi, hp⟩
        · simp [hp]
      | false =>
        constructor
        · constructor
          · intro h; simp [hp] at h
          · rintro ⟨q', h1, h2, h3⟩
            have := srtQ_inj hs h1 hm (by rw [(hr1 q').1 h2, hi])
            rw [this, hp] at h3
            cases h3
        · simp [hp]
  | @up i p e h hk h1 hd ih =>
    intro f hf
    obtain ⟨f, rfl⟩ : ∃ j, f = j + 1 := ⟨f - 1, by omega⟩
    have hu : upN t i = p.up := by unfold upN; rw [h]; rfl
    have hr1 : ∀ q : Qu, (∃ e, Rch t q.ino i e) ↔ (q.ino = i ∨ ∃ e, Rch t q.ino p.up e) := fun q => by
      constructor
      · rintro ⟨e, he⟩
        generalize hqi : q.ino = j at he
        cases he with
        | here => exact .inl rfl
        | up h' _ _ hr =>
          rw [h] at h'
          obtain rfl := Option.some.inj h'
          exact .inr ⟨_, hr⟩
      · rintro (h' | ⟨e, he⟩)
        · rw [h']; exact ⟨0, .here⟩
        · exact ⟨e + 1, .up h hk h1 he⟩
    obtain ⟨i1, i2⟩ := ih (f := f) (by omega)
    unfold mayF
    rw [hu, if_neg h1]
    cases hq : findQ l i with
    | none =>
      have hne := noneQ hq
      simp only [Option.elim_none, Bool.false_eq_true, if_false]
      refine ⟨i1.trans ⟨?_, ?_⟩, i2⟩
      · rintro ⟨q, g1, g2, g3⟩
        exact ⟨q, g1, (hr1 q).2 (.inr g2), g3⟩
      · rintro ⟨q, g1, g2, g3⟩
        rcases (hr1 q).1 g2 with g4 | g4
        · exact absurd g4 (hne q g1)
        · exact ⟨q, g1, g4, g3⟩
    | some q =>
      obtain ⟨hm, hi⟩ := findQ_mem hq
      cases hp : pass t q n b with
      | true =>
        simp only [Option.elim_some, hp, if_true, true_iff, true_or, and_true]
        exact ⟨q, hm, (hr1 q).2 (.inl hi), hp⟩
      | false =>
        simp only [Option.elim_some, hp, Bool.false_eq_true, if_false]
        refine ⟨i1.trans ⟨?_, ?_⟩, i2⟩
        · rintro ⟨q, g1, g2, g3⟩
          exact ⟨q, g1, (hr1 q).2 (.inr g2), g3⟩
        · rintro ⟨q', g1, g2, g3⟩
          rcases (hr1 q').1 g2 with g4 | g4
          · have := srtQ_inj hs g1 hm (by rw [g4, hi])
            rw [this, hp] at g3
            cases g3
          · exact ⟨q', g1, g4, g3⟩
theorem may_iff (w : WF ok lt t) {l : List Qu} {n b d : Int} (hd : dirE t d = 0) : may t l d n b = 90 ↔ ∃ q ∈ l, (∃ e, Rch t q.ino d e) ∧ pass t q n b = true := by
  obtain ⟨k, hk⟩ := dep_dir w hd
  unfold may
  constructor
  · intro h
    have h : (l.any fun q => below t d q.ino && pass t q n b) = true := by
      apply Decidable.byContradiction
      intro h'
      rw [if_neg h'] at h
      cases h
    obtain ⟨q, hq, h⟩ := List.any_eq_true.1 h
    rw [Bool.and_eq_true] at h
    exact ⟨q, hq, (bel_iff w hk).1 h.1, h.2⟩
  · rintro ⟨q, hq, h1, h2⟩
    rw [if_pos]
    rw [List.any_eq_true]
    exact ⟨q, hq, by rw [Bool.and_eq_true]; exact ⟨(bel_iff w hk).2 h1, h2⟩⟩
theorem mayF_eq (w : WF ok lt t) {l : List Qu} (hs : SrtQ l) {n b d : Int} {k : Nat} (h : Dep t d k) (hd : dirE t d = 0) {f : Nat} (hf : k < f) : mayF t l n b f d = may t l d n b := by
  obtain ⟨h1, h2⟩ := mayF_iff w hs (n := n) (b := b) h hf
  have h3 := may_iff w (l := l) (n := n) (b := b) hd
  have h4 : may t l d n b = 90 ∨ may t l d n b = 0 := by unfold may; split <;> simp
  rcases h2 with h2 | h2
  · rw [h2, h3.2 (h1.1 h2)]
  · rcases h4 with h4 | h4
    · have := h1.2 (h3.1 h4); omega
    · rw [h2, h4]
end
end Go.Tr

/-
  What stands below a directory: over and over.
-/
namespace Go.Tr
def mkE (s : List Int × Bool) (e : Ent) : List Int × Bool := if s.1.contains e.ino = true then s else (s.1 ++ [e.ino], true)
def rowU (i : Int) (s : List Int × Bool) (q : Node) : List Int × Bool := if q.ino ≠ i ∧ s.1.contains q.ino = false then s else q.ents.foldl mkE s
def rndU (t : Tree) (i : Int) (M : List Int) : List Int × Bool := t.nodes.foldl (rowU i) (M, false)
def undU (t : Tree) (i : Int) : Nat → List Int → List Int
  | 0, M => M
  | k + 1, M => if (rndU t i M).2 = true then undU t i k (rndU t i M).1 else (rndU t i M).1
def undL (t : Tree) (i : Int) : List Int := undU t i t.nodes.length []
def cntE (M : List Int) (s : Int × Int) (q : Node) : Int × Int := if M.contains q.ino = true then (s.1 + 1, s.2 + (q.data.length : Int)) else s
/-- Some more. -/
structure Ext (P : Int → Prop) (s r : List Int × Bool) (new : List Int) : Prop where
  eq : r.1 = s.1 ++ new
  more : r.2 = (s.2 || !new.isEmpty)
  nd : s.1.Nodup → r.1.Nodup
  is : ∀ x ∈ new, P x
theorem Ext.nil (P : Int → Prop) (s : List Int × Bool) : Ext P s s [] := ⟨by simp, by simp, id, by simp⟩
theorem Ext.trans {P : Int → Prop} {s r u : List Int × Bool} {a b : List Int} (h : Ext P s r a) (h' : Ext P r u b) : Ext P s u (a ++ b) :=
  ⟨by rw [h'.eq, h.eq, List.append_assoc], by rw [h'.more, h.more]; cases a <;> simp, fun g => h'.nd (h.nd g), fun x hx => (List.mem_append.1 hx).elim (h.is x) (h'.is x)⟩
theorem mkE_ext {P : Int → Prop} (s : List Int × Bool) (e : Ent) (h : P e.ino) : ∃ new, Ext P s (mkE s e) new ∧ e.ino ∈ (mkE s e).1 := by
  unfold mkE
  by_cases hc : s.1.contains e.ino = true
  · rw [if_pos hc]
    exact ⟨[], .nil P s, by simpa using hc⟩
  · rw [if_neg hc]
    refine ⟨[e.ino], ⟨rfl, by simp, fun hn => ?_, by simpa using h⟩, by simp⟩
    rw [List.nodup_append]
    exact ⟨hn, by simp, fun a ha b hb => by simp at hb; subst hb; exact fun e' => hc (by subst e'; simpa using ha)⟩
theorem mkEs_ext {P : Int → Prop} : ∀ (l : List Ent) (s : List Int × Bool), (∀ e ∈ l, P e.ino) → ∃ new, Ext P s (l.foldl mkE s) new ∧ ∀ e ∈ l, e.ino ∈ (l.foldl mkE s).1
  | [], s, _ => ⟨[], .nil P s, by simp⟩
  | e :: l, s, h => by
    obtain ⟨a, ha, ha'⟩ := mkE_ext (P := P) s e (h e List.mem_cons_self)
    obtain ⟨b, hb, hb'⟩ := mkEs_ext l (mkE s e) fun x hx => h x (List.mem_cons_of_mem _ hx)
    rw [List.foldl_cons]
    refine ⟨a ++ b, ha.trans hb, fun x hx => ?_⟩
    rcases List.mem_cons.1 hx with rfl | hx
    · rw [hb.eq]; exact List.mem_append_left _ ha'
    · exact hb' x hx
theorem rows_ext {t : Tree} {i : Int} (hs : ∀ q ∈ t.nodes, getZ t q.ino = q) : ∀ (l : List Node) (s : List Int × Bool), (∀ q ∈ l, q ∈ t.nodes) → (∀ x ∈ s.1, Ru t i x) →
    ∃ new, Ext (Ru t i) s (l.foldl (rowU i) s) new ∧ (new = [] → ∀ q ∈ l, (q.ino = i ∨ q.ino ∈ s.1) → ∀ e ∈ q.ents, e.ino ∈ s.1)
  | [], s, _, _ => ⟨[], .nil _ s, fun _ q hq => by cases hq⟩
  | q :: l, s, hl, h => by
    rw [List.foldl_cons]
    have hone : ∃ new, Ext (Ru t i) s (rowU i s q) new ∧ (new = [] → (q.ino = i ∨ q.ino ∈ s.1) → ∀ e ∈ q.ents, e.ino ∈ s.1) := by
      unfold rowU
      by_cases hc : q.ino ≠ i ∧ s.1.contains q.ino = false
      · rw [if_pos hc]
        exact ⟨[], .nil _ s, fun _ h' => by
          rcases h' with h' | h'
          · exact absurd h' hc.1
          · have := hc.2; simp at this; exact absurd h' this⟩
      · rw [if_neg hc]
        have hq : q.ino = i ∨ q.ino ∈ s.1 := by
          by_cases h1 : q.ino = i
          · exact .inl h1
          · right
            cases h2 : s.1.contains q.ino with
            | true => simpa using h2
            | false => exact absurd ⟨h1, h2⟩ hc
        have hin : ∀ e ∈ q.ents, inE t q.ino e.ino := fun e he => ⟨e, by rw [hs q (hl q List.mem_cons_self)]; exact he, rfl⟩
        obtain ⟨new, h1, h2⟩ := mkEs_ext (P := Ru t i) q.ents s fun e he => by
          rcases hq with hq | hq
          · rw [← hq]; exact .one (hin e he)
          · exact .more (h _ hq) (hin e he)
        refine ⟨new, h1, fun hn _ e he => ?_⟩
        have := h2 e he
        rw [h1.eq, hn, List.append_nil] at this
        exact this
    obtain ⟨a, ha, ha'⟩ := hone
    obtain ⟨b, hb, hb'⟩ := rows_ext hs l (rowU i s q) (fun x hx => hl x (List.mem_cons_of_mem _ hx)) fun x hx => by
      rw [ha.eq] at hx
      exact (List.mem_append.1 hx).elim (h x) (ha.is x)
    refine ⟨a ++ b, ha.trans hb, fun hn x hx hxi => ?_⟩
    obtain ⟨rfl, rfl⟩ := List.append_eq_nil_iff.1 hn
    have he : (rowU i s q).1 = s.1 := by rw [ha.eq, List.append_nil]
    rcases List.mem_cons.1 hx with rfl | hx
    · exact ha' rfl hxi
    · have := hb' rfl x hx
      rw [he] at this
      exact this hxi
section
variable {ok : List UInt8 → Bool} {lt : List UInt8 → List UInt8 → Bool} {t : Tree}
theorem Ru_node (w : WF ok lt t) {i j : Int} (h : Ru t i j) : (find t.nodes j).isSome = true := by
  obtain ⟨p, e, _, h⟩ := (Ru_iff w).1 h
  obtain ⟨e, he, rfl⟩ := h
  exact ent_isN w he
theorem undU_post (w : WF ok lt t) {i : Int} : ∀ (k : Nat) (M : List Int), M.Nodup → (∀ x ∈ M, Ru t i x) →
    (undU t i k M).Nodup ∧ (∀ x ∈ undU t i k M, Ru t i x) ∧ ((∀ q ∈ t.nodes, (q.ino = i ∨ q.ino ∈ undU t i k M) → ∀ e ∈ q.ents, e.ino ∈ undU t i k M) ∨ M.length + k ≤ (undU t i k M).length)
  | 0, M, h1, h2 => ⟨h1, h2, .inr (Nat.le_refl _)⟩
  | k + 1, M, h1, h2 => by
    obtain ⟨new, h3, h4⟩ := rows_ext (t := t) (i := i) (fun q hq => getZ_of (find_of w.wf.srt hq)) t.nodes (M, false) (fun _ h => h) h2
    change Ext (Ru t i) (M, false) (rndU t i M) new at h3
    have h5 : ∀ x ∈ (rndU t i M).1, Ru t i x := fun x hx => by
      rw [h3.eq] at hx
      exact (List.mem_append.1 hx).elim (h2 x) (h3.is x)
    have hm := h3.more
    simp only [Bool.false_or] at hm
    unfold undU
    by_cases hn : new = []
    · subst hn
      have he : (rndU t i M).1 = M := by rw [h3.eq, List.append_nil]
      rw [if_neg (by rw [hm]; simp), he]
      exact ⟨h1, h2, .inl (h4 rfl)⟩
    · have hl : M.length + 1 ≤ (rndU t i M).1.length := by
        rw [h3.eq, List.length_append]
        have := List.length_pos_iff.2 hn
        simp only
        omega
      rw [if_pos (by rw [hm]; simp [hn])]
      obtain ⟨g1, g2, g3⟩ := undU_post w k (rndU t i M).1 (h3.nd h1) h5
      refine ⟨g1, g2, g3.imp id fun g => by omega⟩
theorem node_in {l : List Int} (h : l.Nodup) (hn : ∀ x ∈ l, (find t.nodes x).isSome = true) (hl : t.nodes.length ≤ l.length) {x : Int} (hx : (find t.nodes x).isSome = true) : x ∈ l := by
  by_cases hm : x ∈ l
  · exact hm
  · exfalso
    have hc : ∀ y ∈ x :: l, y ∈ t.nodes.map Node.ino := fun y hy => by
      have : (find t.nodes y).isSome = true := by
        rcases List.mem_cons.1 hy with rfl | hy
        · exact hx
        · exact hn y hy
      obtain ⟨q, hq⟩ := Option.isSome_iff_exists.1 this
      exact List.mem_map.2 ⟨q, (find_mem hq).1, (find_mem hq).2⟩
    have := both_len (List.nodup_cons.2 ⟨hm, h⟩) hc
    rw [List.length_cons, List.length_map] at this
    omega
theorem undL_iff (w : WF ok lt t) (i : Int) : (undL t i).Nodup ∧ ∀ x, x ∈ undL t i ↔ Ru t i x := by
  obtain ⟨h1, h2, h3⟩ := undU_post w (i := i) t.nodes.length [] List.nodup_nil (by simp)
  change (undL t i).Nodup at h1
  change ∀ x ∈ undL t i, Ru t i x at h2
  refine ⟨h1, fun x => ⟨h2 x, fun hx => ?_⟩⟩
  have h4 : (∀ q ∈ t.nodes, (q.ino = i ∨ q.ino ∈ undL t i) → ∀ e ∈ q.ents, e.ino ∈ undL t i) := by
    rcases h3 with h3 | h3
    · exact h3
    · intro q hq _ e he
      refine node_in h1 (fun x hx => Ru_node w (h2 x hx)) ?_ (ent_isN w (i := q.ino) (by rw [getZ_of (find_of w.wf.srt hq)]; exact he))
      change [].length + t.nodes.length ≤ (undL t i).length at h3
      simpa using h3
  induction hx with
  | one h =>
    obtain ⟨p, hp, e, he, rfl⟩ := inE_find h
    exact h4 p (find_mem hp).1 (.inl (find_mem hp).2) e he
  | more h1 h2 ih =>
    obtain ⟨p, hp, e, he, rfl⟩ := inE_find h2
    exact h4 p (find_mem hp).1 (.inr (by rw [(find_mem hp).2]; exact ih)) e he
theorem dats_perm {a b : List Int} (h : a.Perm b) : dats t a = dats t b := by
  induction h with
  | nil => rfl
  | cons x _ ih => rw [dats_cons, dats_cons, ih]
  | swap x y l => simp only [dats_cons]; omega
  | trans _ _ h1 h2 => exact h1.trans h2
theorem undL_perm (w : WF ok lt t) (i : Int) : (undL t i).Perm (metL t i) := by
  obtain ⟨h1, h2⟩ := undL_iff w i
  obtain ⟨g1, g2, _⟩ := met_post w i
  exact (List.perm_ext_iff_of_nodup h1 g1).2 fun x => (h2 x).trans (g2 x).symm
theorem cntE_fold (M : List Int) : ∀ (l : List Node) (s : Int × Int), (∀ q ∈ l, dat t q.ino = (q.data.length : Int)) → l.foldl (cntE M) s = (s.1 + (((l.filter fun q => M.contains q.ino).map Node.ino).length : Int), s.2 + dats t ((l.filter fun q => M.contains q.ino).map Node.ino))
  | [], s, _ => by simp [dats]
  | q :: l, s, h => by
    rw [List.foldl_cons, cntE_fold M l _ fun x hx => h x (List.mem_cons_of_mem _ hx), List.filter_cons]
    unfold cntE
    cases hc : M.contains q.ino with
    | true =>
      simp only [if_true, List.map_cons, List.length_cons]
      rw [dats_cons, h q List.mem_cons_self]
      refine Prod.ext ?_ ?_
      · simp only; omega
      · simp only; omega
    | false => simp
theorem srt_nodup {l : List Node} (hs : Srt l) : (l.map Node.ino).Nodup := by
  rw [List.nodup_iff_pairwise_ne, List.pairwise_map]
  exact hs.imp fun h => by omega
/-- Counted in the nodes' order. -/
theorem cntE_used (w : WF ok lt t) {d : Int} (hd : dirE t d = 0) : t.nodes.foldl (cntE (undL t d)) (0, 0) = (usedN t d, usedB t d) := by
  have h1 := undL_iff w d
  have h2 : ((t.nodes.filter fun q => (undL t d).contains q.ino).map Node.ino).Perm (undL t d) := by
    refine (List.perm_ext_iff_of_nodup ?_ h1.1).2 fun x => ?_
    · exact List.Sublist.nodup (List.Sublist.map _ List.filter_sublist) (srt_nodup w.wf.srt)
    · constructor
      · intro hx
        obtain ⟨q, hq, rfl⟩ := List.mem_map.1 hx
        simpa using (List.mem_filter.1 hq).2
      · intro hx
        obtain ⟨q, hq⟩ := Option.isSome_iff_exists.1 (Ru_node w ((h1.2 x).1 hx))
        obtain ⟨hm, hi⟩ := find_mem hq
        exact List.mem_map.2 ⟨q, List.mem_filter.2 ⟨hm, by rw [hi]; simpa using hx⟩, hi⟩
  rw [cntE_fold (t := t) _ _ _ fun q hq => by unfold dat; rw [getZ_of (find_of w.wf.srt hq)]]
  have h3 := h2.trans (undL_perm w d)
  unfold usedN usedB
  rw [if_pos hd, if_pos hd, h3.length_eq, dats_perm h3]
  simp
end
end Go.Tr

/-
  What is set, and nearest (layer 9).
-/
namespace Go.Tr
open Go.Am
theorem remQ_mem {l : List Qu} {i : Int} {q : Qu} : q ∈ remQ l i ↔ q ∈ l ∧ q.ino ≠ i := by
  unfold remQ
  rw [List.mem_filter, decide_eq_true_eq]
theorem putQ_mem {l : List Qu} (hs : SrtQ l) {x q : Qu} : q ∈ putQ l x ↔ q = x ∨ (q ∈ l ∧ q.ino ≠ x.ino) := by
  unfold putQ
  rw [List.mem_append, List.mem_cons, List.mem_filter, decide_eq_true_eq]
  have h1 : ∀ q ∈ l.take (cutQ l x.ino), q.ino ≠ x.ino := fun q hq => by
    have := take_ne hs x.ino
    rw [← this] at hq
    exact of_decide_eq_true (List.mem_filter.1 hq).2
  constructor
  · rintro (h | rfl | ⟨h, h2⟩)
    · exact .inr ⟨List.mem_of_mem_take h, h1 q h⟩
    · exact .inl rfl
    · exact .inr ⟨List.mem_of_mem_drop h, h2⟩
  · rintro (rfl | ⟨h, h2⟩)
    · exact .inr (.inl rfl)
    · rw [← List.take_append_drop (cutQ l x.ino) l, List.mem_append] at h
      exact h.imp id fun h => .inr ⟨h, h2⟩
theorem remQ_srt {l : List Qu} (hs : SrtQ l) (i : Int) : SrtQ (remQ l i) := hs.filter _
theorem putQ_srt {l : List Qu} (hs : SrtQ l) (x : Qu) : SrtQ (putQ l x) := by
  have h1 : ∀ q ∈ l.take (cutQ l x.ino), q.ino < x.ino := fun q hq => by
    obtain ⟨k, hk, rfl⟩ := List.mem_iff_getElem.1 hq
    rw [List.length_take] at hk
    rw [List.getElem_take]
    exact (cutQ_iff hs x.ino (k := k) (by omega)).1 (by omega)
  have h2 : ∀ q ∈ l.drop (cutQ l x.ino), x.ino ≤ q.ino := fun q hq => by
    obtain ⟨k, hk, rfl⟩ := List.mem_iff_getElem.1 hq
    rw [List.length_drop] at hk
    rw [List.getElem_drop]
    have := (cutQ_iff hs x.ino (k := cutQ l x.ino + k) (by omega))
    have h3 : ¬ cutQ l x.ino + k < cutQ l x.ino := by omega
    have h4 := fun h => h3 (this.2 h)
    omega
  unfold SrtQ putQ
  rw [List.pairwise_append, List.pairwise_cons]
  refine ⟨List.Pairwise.sublist (List.take_sublist _ _) hs, ⟨fun q hq => ?_, List.Pairwise.filter _ (List.Pairwise.sublist (List.drop_sublist _ _) hs)⟩, fun a ha b hb => ?_⟩
  · obtain ⟨h3, h4⟩ := List.mem_filter.1 hq
    have := h2 q h3
    have := of_decide_eq_true h4
    omega
  · have ha := h1 a ha
    rcases List.mem_cons.1 hb with rfl | hb
    · exact ha
    · have := h2 b (List.mem_filter.1 hb).1
      omega
theorem rem_put {l : List Qu} (hs : SrtQ l) (x : Qu) : remQ (putQ l x) x.ino = remQ l x.ino := by
  unfold putQ remQ
  conv => rhs; rw [← List.take_append_drop (cutQ l x.ino) l]
  rw [List.filter_append, List.filter_append, List.filter_cons]
  simp only [ne_eq, not_true_eq_false, decide_false, Bool.false_eq_true, if_false, List.filter_filter, Bool.and_self]
theorem rem_rem (l : List Qu) (i : Int) : remQ (remQ l i) i = remQ l i := by
  unfold remQ
  rw [List.filter_filter]
  simp only [Bool.and_self]
theorem put_len {l : List Qu} (hs : SrtQ l) (x : Qu) : (putQ l x).length = (remQ l x.ino).length + 1 := by
  have h := rem_put hs x
  rw [← h]
  unfold putQ remQ
  have h1 := take_ne hs x.ino
  rw [List.filter_append, List.filter_cons, h1, List.filter_filter]
  simp only [ne_eq, not_true_eq_false, decide_false, Bool.false_eq_true, if_false, Bool.and_self, List.length_append, List.length_cons]
  omega
theorem rem_len (l : List Qu) (i : Int) : (remQ l i).length ≤ l.length := List.length_filter_le _ _
theorem rem_has {l : List Qu} {i : Int} (h : (findQ l i).isSome = true) : (remQ l i).length < l.length := by
  obtain ⟨q, hq⟩ := Option.isSome_iff_exists.1 h
  obtain ⟨h1, h2⟩ := findQ_mem hq
  rcases Nat.lt_or_ge (remQ l i).length l.length with h3 | h3
  · exact h3
  · have h4 : remQ l i = l := List.Sublist.eq_of_length_le List.filter_sublist h3
    rw [← h4] at h1
    exact absurd h2 (remQ_mem.1 h1).2
section
variable {ok : List UInt8 → Bool} {lt : List UInt8 → List UInt8 → Bool} {t : Tree}
/-- What comes of setting. -/
theorem setP_cases (t : Tree) {l : List Qu} (i a b : Int) : ((setP t l i a b).2 ≠ 0 ∧ (setP t l i a b).1 = l ∧ (dirE t i = 0 → ((setP t l i a b).2 = 90 ∨ ((setP t l i a b).2 = 76 ∧ 16 ≤ l.length)))) ∨
    (dirE t i = 0 ∧ a < 0 ∧ setP t l i a b = (remQ l i, 0)) ∨ (dirE t i = 0 ∧ 0 ≤ a ∧ usedN t i ≤ a ∧ usedB t i ≤ b ∧ ((findQ l i).isSome = true ∨ l.length < 16) ∧ setP t l i a b = (putQ l ⟨i, a, b⟩, 0)) := by
  unfold setP
  by_cases h1 : dirE t i = 0
  · rw [if_neg (by simpa using h1)]
    by_cases h2 : a < 0
    · rw [if_pos h2]
      exact .inr (.inl ⟨h1, h2, rfl⟩)
    · rw [if_neg h2]
      by_cases h3 : a < usedN t i ∨ b < usedB t i
      · rw [if_pos h3]
        exact .inl ⟨by simp, rfl, fun _ => .inl rfl⟩
      · rw [if_neg h3]
        by_cases h4 : findQ l i = none ∧ 16 ≤ l.length
        · rw [if_pos h4]
          exact .inl ⟨by simp, rfl, fun _ => .inr ⟨rfl, h4.2⟩⟩
        · rw [if_neg h4]
          refine .inr (.inr ⟨h1, by omega, by omega, by omega, ?_, rfl⟩)
          cases hf : findQ l i with
          | none => exact .inr (Nat.lt_of_not_le fun h => h4 ⟨hf, h⟩)
          | some q => exact .inl rfl
  · rw [if_pos h1]
    exact .inl ⟨h1, rfl, fun h => absurd h h1⟩
theorem InvQ.set {l : List Qu} (h : InvQ t l) (i a b : Int) : InvQ t (setP t l i a b).1 := by
  rcases setP_cases t (l := l) i a b with ⟨_, h1, _⟩ | ⟨h1, h2, h3⟩ | ⟨h1, h2, h3, h4, h5, h6⟩
  · rw [h1]; exact h
  · rw [h3]
    exact ⟨remQ_srt h.srt i, Nat.le_trans (rem_len l i) h.len, fun q hq => h.dir q (remQ_mem.1 hq).1, fun q hq => h.ok q (remQ_mem.1 hq).1⟩
  · rw [h6]
    refine ⟨putQ_srt h.srt _, ?_, fun q hq => ?_, fun q hq => ?_⟩
    · rw [put_len h.srt]
      rcases h5 with h5 | h5
      · have := rem_has h5
        have := h.len
        simp only
        omega
      · have := rem_len l i
        simp only
        omega
    · rcases (putQ_mem h.srt).1 hq with rfl | ⟨hq, _⟩
      · exact h1
      · exact h.dir q hq
    · rcases (putQ_mem h.srt).1 hq with rfl | ⟨hq, _⟩
      · exact decide_eq_false (by simp only; omega)
      · exact h.ok q hq
theorem InvQ.nil (t : Tree) : InvQ t [] := ⟨List.Pairwise.nil, by simp, by simp, by simp⟩
theorem may_ok (w : WF ok lt t) {l : List Qu} (h : InvQ t l) {d : Int} (hd : dirE t d = 0) : may t l d 0 0 = 0 := by
  have h4 : may t l d 0 0 = 90 ∨ may t l d 0 0 = 0 := by unfold may; split <;> simp
  rcases h4 with h4 | h4
  · obtain ⟨q, hq, _, h5⟩ := (may_iff w hd).1 h4
    rw [h.ok q hq] at h5
    cases h5
  · exact h4
theorem dir_pos (w : WF ok lt t) {d : Int} (h : dirE t d = 0) : 1 ≤ d := by
  unfold dirE at h
  cases hf : find t.nodes d with
  | none => rw [hf] at h; cases h
  | some q => exact (w.wf.pos _ _ hf).1
theorem dep_is_dir (w : WF ok lt t) {d : Int} {k : Nat} (h : Dep t d k) : dirE t d = 0 := by
  unfold dirE
  cases h with
  | root =>
    obtain ⟨r, r1, r2, _⟩ := w.wf.root
    rw [r1]; simp [r2]
  | up h hk _ _ => rw [h]; simp [hk]
theorem up_dir (w : WF ok lt t) {d : Int} (h : dirE t d = 0) (h1 : d ≠ 1) : dirE t (upN t d) = 0 := by
  obtain ⟨k, hk⟩ := dep_dir w h
  cases hk with
  | root => exact absurd rfl h1
  | @up _ n _ hf _ _ hd =>
    have hu : upN t d = n.up := by unfold upN; rw [hf]; rfl
    rw [hu]
    exact dep_is_dir w hd
/-- A domain is one that has a quota, above. -/
theorem dom_spec (w : WF ok lt t) (l : List Qu) {d : Int} {k : Nat} (h : Dep t d k) : dom t l d = 0 ∨ ((findQ l (dom t l d)).isSome = true ∧ ∃ e, Rch t (dom t l d) d e) := by
  induction h with
  | root =>
    cases hf : findQ l 1 with
    | none => exact .inl (dom_root hf)
    | some q =>
      have h1 : dom t l 1 = 1 := dom_own (by rw [hf]; rfl)
      rw [h1, hf]
      exact .inr ⟨rfl, 0, .here⟩
  | @up i n k hf hk hne hd ih =>
    cases hq : findQ l i with
    | none =>
      have hu : upN t i = n.up := by unfold upN; rw [hf]; rfl
      rw [dom_up w hq hne (dep_is_dir w (.up hf hk hne hd)), hu]
      exact ih.imp id fun ⟨h1, e, h2⟩ => ⟨h1, e + 1, .up hf hk hne h2⟩
    | some q =>
      have h1 : dom t l i = i := dom_own (by rw [hq]; rfl)
      rw [h1, hq]
      exact .inr ⟨rfl, 0, .here⟩
end
end Go.Tr

/-
  What the root has used, and what a directory has used: plain laws.
-/
namespace Go.Tr
section
variable {ok : List UInt8 → Bool} {lt : List UInt8 → List UInt8 → Bool} {t : Tree}
theorem dats_nn (t : Tree) (l : List Int) : 0 ≤ dats t l := by
  induction l with
  | nil => simp [dats]
  | cons x l ih =>
    have : 0 ≤ dat t x := by unfold dat; omega
    rw [dats_cons]
    omega
theorem dats_sub : ∀ {l m : List Int}, l.Nodup → (∀ x ∈ l, x ∈ m) → dats t l ≤ dats t m
  | [], m, _, _ => by simpa [dats] using dats_nn t m
  | x :: l, m, h, hs => by
    obtain ⟨h1, h2⟩ := List.nodup_cons.1 h
    have hx := hs x List.mem_cons_self
    have ih := dats_sub (l := l) (m := m.erase x) h2 fun y hy => (List.mem_erase_of_ne fun e => h1 (by rw [← e]; exact hy)).2 (hs y (List.mem_cons_of_mem _ hy))
    have hp := dats_perm (t := t) (List.perm_cons_erase hx)
    rw [dats_cons] at hp ⊢
    omega
theorem links_iff (w : WF ok lt t) {q : Node} (hq : q ∈ t.nodes) : 0 < q.links ↔ 0 < cnt t.nodes q.ino := by
  rcases w.node_is hq with ⟨_, _, _, _, h⟩ | ⟨h1, h2, h3⟩
  · rw [h]; omega
  · have hf := find_of w.wf.srt hq
    by_cases h1' : q.ino = 1
    · obtain ⟨r, hr, _, _, hl⟩ := w.wf.root
      have hq1 : find t.nodes 1 = some q := by rw [← h1']; exact hf
      rw [hq1] at hr
      cases hr
      rw [hl]
      refine ⟨fun h => absurd h (by omega), fun h => ?_⟩
      obtain ⟨p, hp, hc⟩ := cnt_mem.1 h
      obtain ⟨e, he, hj⟩ := cN_mem.1 hc
      obtain ⟨_, hne, _⟩ := ent_node w (find_of w.wf.srt hp) he
      exact absurd (hj.trans h1') hne
    · have := w.wf.lnk _ _ hf h1 h1'
      omega
def cntL (s : Int × Int) (q : Node) : Int × Int := if 0 < q.links then (s.1 + 1, s.2 + (q.data.length : Int)) else s
theorem all_root (w : WF ok lt t) : t.nodes.foldl cntL (0, 0) = (usedN t 1, usedB t 1) := by
  obtain ⟨r, hr, hk⟩ := w.root_dir
  have hd : dirE t 1 = 0 := by unfold dirE; rw [hr]; simp [hk]
  rw [← cntE_used w hd]
  have key : ∀ (l : List Node) (s : Int × Int), (∀ q ∈ l, q ∈ t.nodes) → l.foldl cntL s = l.foldl (cntE (undL t 1)) s := by
    intro l
    induction l with
    | nil => intro s _; rfl
    | cons q l ih =>
      intro s h
      rw [List.foldl_cons, List.foldl_cons]
      have h1 : cntL s q = cntE (undL t 1) s q := by
        unfold cntL cntE
        have h2 := links_iff w (h q List.mem_cons_self)
        have h3 := (undL_iff w 1).2 q.ino
        rw [root_all w] at h3
        by_cases c : 0 < q.links
        · rw [if_pos c, if_pos (by simpa using h3.2 (h2.1 c))]
        · rw [if_neg c, if_neg (by simpa using fun hm => c (h2.2 (h3.1 hm)))]
      rw [h1]
      exact ih _ fun q hq => h q (List.mem_cons_of_mem _ hq)
  exact key _ _ fun _ h => h
theorem Ru_irr (w : WF ok lt t) {y : Int} (h : dirE t y = 0) : ¬ Ru t y y := by
  intro hr
  obtain ⟨p, e, h1, h2⟩ := (Ru_iff w).1 hr
  obtain ⟨k, hk⟩ := dep_dir w h
  obtain ⟨n, hn, hnk, _⟩ := dirE_of h
  obtain ⟨h3, h4⟩ := entry_up w h2 hn hnk
  have h5 := h1.dep hk
  have h6 : Dep t y (k + e + 1) := .up hn hnk h4 (by rw [h3]; exact h5)
  have := hk.inj h6
  omega
theorem used_dir {d : Int} (h : dirE t d = 0) : usedN t d = ((metL t d).length : Int) ∧ usedB t d = dats t (metL t d) := by
  unfold usedN usedB
  rw [if_pos h, if_pos h]
  exact ⟨rfl, rfl⟩
/-- What a directory in it has, and that one. -/
theorem used_in (w : WF ok lt t) {d y : Int} (hd : dirE t d = 0) (hy : dirE t y = 0) (h : inE t d y) : usedN t y + 1 ≤ usedN t d ∧ usedB t y ≤ usedB t d := by
  obtain ⟨a1, a2⟩ := used_dir hd
  obtain ⟨b1, b2⟩ := used_dir hy
  obtain ⟨m1, m2, _⟩ := met_post w d
  obtain ⟨n1, n2, _⟩ := met_post w y
  have hnd : (y :: metL t y).Nodup := List.nodup_cons.2 ⟨fun hm => Ru_irr w hy ((n2 y).1 hm), n1⟩
  have hsub : ∀ x ∈ y :: metL t y, x ∈ metL t d := fun x hx => (m2 x).2 (by
    rcases List.mem_cons.1 hx with rfl | hx
    · exact .one h
    · exact (Ru.one h).trans ((n2 x).1 hx))
  have h1 := both_len hnd hsub
  have h2 := dats_sub (t := t) hnd hsub
  rw [dats_cons] at h2
  have h3 : 0 ≤ dat t y := by unfold dat; omega
  rw [List.length_cons] at h1
  rw [a1, a2, b1, b2]
  omega
theorem count_filter (l : List Ent) (p : Ent → Bool) (i : Int) : ((l.filter p).map Ent.ino).count i ≤ (l.filter fun e => decide (e.ino = i)).length := by
  induction l with
  | nil => simp
  | cons e l ih =>
    rw [List.filter_cons, List.filter_cons]
    by_cases c : e.ino = i
    · cases p e <;> simp [c] <;> omega
    · cases p e <;> simp [c] <;> omega
def dirsIn (t : Tree) (l : List Ent) : List Int := (l.filter fun e => decide ((getZ t e.ino).kind = 2)).map Ent.ino
theorem dirE_getZ {i : Int} (h : (getZ t i).kind = 2) : dirE t i = 0 := by
  unfold getZ at h
  unfold dirE
  cases hf : find t.nodes i with
  | none => rw [hf] at h; simp [nodeZ] at h
  | some n => rw [hf] at h; simp only [Option.getD_some] at h; simp [h]
theorem dirs_nodup (w : WF ok lt t) {d : Int} {p : Node} (hp : find t.nodes d = some p) : (dirsIn t p.ents).Nodup := by
  rw [List.nodup_iff_count]
  intro i
  have h1 := count_filter p.ents (fun e => decide ((getZ t e.ino).kind = 2)) i
  by_cases hi : i ∈ dirsIn t p.ents
  · obtain ⟨e, he, hei⟩ := List.mem_map.1 hi
    obtain ⟨he1, he2⟩ := List.mem_filter.1 he
    have hk : (getZ t i).kind = 2 := by rw [← hei]; simpa using he2
    obtain ⟨n, hn, hnk, _⟩ := dirE_of (dirE_getZ hk)
    obtain ⟨_, hne, _⟩ := ent_node w hp he1
    have h2 := (w.wf.lnk _ _ hn hnk (by rw [← hei]; exact hne)).1
    have h3 := cN_le (find_mem hp).1 i
    have h4 : (p.ents.filter fun e => decide (e.ino = i)).length = cN p i := rfl
    unfold dirsIn
    omega
  · rw [List.count_eq_zero.2 hi]
    omega
theorem dirs_le (w : WF ok lt t) {d : Int} {p : Node} (hp : find t.nodes d = some p) (hd : dirE t d = 0) : ((dirsIn t p.ents).length : Int) ≤ usedN t d := by
  rw [(used_dir hd).1]
  have := both_len (dirs_nodup w hp) (b := metL t d) fun x hx => by
    obtain ⟨e, he, hei⟩ := List.mem_map.1 hx
    exact ((met_post w d).2.1 x).2 (.one ⟨e, by rw [getZ_of hp]; exact (List.mem_filter.1 he).1, hei⟩)
  omega
theorem used_none (w : WF ok lt t) {d : Int} {p : Node} (hp : find t.nodes d = some p) (hd : dirE t d = 0) (he : p.ents = []) : usedN t d = 0 ∧ usedB t d = 0 := by
  have hm : metL t d = [] := List.eq_nil_iff_forall_not_mem.2 fun x hx => by
    have h := ((met_post w d).2.1 x).1 hx
    have key : ∀ {j : Int}, Ru t d j → False := by
      intro j h
      induction h with
      | one h =>
        obtain ⟨e, h1, _⟩ := h
        rw [getZ_of hp, he] at h1
        cases h1
      | more _ _ ih => exact ih
    exact key h
  rw [(used_dir hd).1, (used_dir hd).2, hm]
  simp [dats]
end
end Go.Tr

/-
  Other bytes of a file, and quotas: plain law.
-/
namespace Go.Tr
section
variable {ok : List UInt8 → Bool} {lt : List UInt8 → List UInt8 → Bool} {t u : Tree}
theorem Ru_mono (h : ∀ i j, inE t i j → inE u i j) {i j : Int} (hr : Ru t i j) : Ru u i j := by
  induction hr with
  | one h1 => exact .one (h _ _ h1)
  | more _ h2 ih => exact .more ih (h _ _ h2)
theorem perm_of_iff : ∀ {a b : List Int}, a.Nodup → b.Nodup → (∀ x, x ∈ a ↔ x ∈ b) → a.Perm b := fun ha hb h => (List.perm_ext_iff_of_nodup ha hb).2 h
theorem met_same (w : WF ok lt t) (w' : WF ok lt u) (hE : ∀ i j, inE u i j ↔ inE t i j) (i : Int) : (metL u i).Perm (metL t i) := by
  obtain ⟨a1, a2, _⟩ := met_post w' i
  obtain ⟨b1, b2, _⟩ := met_post w i
  exact perm_of_iff a1 b1 fun x => by
    rw [a2, b2]
    exact ⟨Ru_mono fun i j => (hE i j).1, Ru_mono fun i j => (hE i j).2⟩
theorem dats_other {y : Int} {δ : Int} (hy : dat u y = dat t y + δ) (ho : ∀ j, j ≠ y → dat u j = dat t j) : ∀ {l : List Int}, l.Nodup → dats u l = dats t l + if y ∈ l then δ else 0
  | [], _ => by simp [dats]
  | x :: l, h => by
    obtain ⟨h1, h2⟩ := List.nodup_cons.1 h
    rw [dats_cons, dats_cons, dats_other hy ho h2]
    by_cases c : x = y
    · subst c
      rw [if_neg h1, if_pos List.mem_cons_self, hy]
      omega
    · rw [ho x c]
      by_cases c2 : y ∈ l
      · rw [if_pos c2, if_pos (List.mem_cons_of_mem _ c2)]; omega
      · rw [if_neg c2, if_neg (by simp; exact ⟨fun e => c e.symm, c2⟩)]; omega
theorem rch_dir {d x : Int} {e : Nat} (h : Rch t d x e) (hx : dirE t x = 0) : True := trivial
/-- Other bytes of a file of one name. -/
theorem bytes_right (w : WF ok lt t) {l : List Qu} (hv : InvQ t l) {x y : Int} {q : Node} (hx : dirE t x = 0) (hxy : inE t x y) (hy : find t.nodes y = some q) (hk : q.kind = 1) (hl : q.links = 1) {data : List UInt8} (hdl : data.length ≤ 4096) :
    (rightQ (put t y data).1 l = true ↔ may t l x 0 ((data.length : Int) - (q.data.length : Int)) ≠ 90) := by
  have w' := w.put y data
  have hp : (put t y data).1 = withN t { q with fd := false, data := data } := by
    unfold put
    rw [hy]
    simp only
    rw [if_neg (by omega), if_neg (by omega)]
  rw [hp] at w' ⊢
  have hf : ∀ j, find (withN t { q with fd := false, data := data }).nodes j = if j = y then some { q with fd := false, data := data } else find t.nodes j := fun j => find_set w.wf.srt (n := { q with fd := false, data := data }) (have hqi : q.ino = y := find_ino hy; hqi) j
  generalize withN t { q with fd := false, data := data } = u at *
  have hE : ∀ i j, inE u i j ↔ inE t i j := fun i j => by
    have : (getZ u i).ents = (getZ t i).ents := by
      unfold getZ
      rw [hf]
      by_cases c : i = y
      · rw [if_pos c, c, hy]; rfl
      · rw [if_neg c]
    unfold inE
    rw [this]
  have hD : ∀ i, dirE u i = dirE t i := fun i => by
    unfold dirE
    rw [hf]
    by_cases c : i = y
    · rw [if_pos c, c, hy]
    · rw [if_neg c]
  have hd1 : dat u y = dat t y + ((data.length : Int) - (q.data.length : Int)) := by
    have h1 : getZ u y = { q with fd := false, data := data } := getZ_of (by rw [hf, if_pos rfl])
    have h2 : getZ t y = q := getZ_of hy
    unfold dat
    rw [h1, h2]
    simp only
    omega
  have hd2 : ∀ j, j ≠ y → dat u j = dat t j := fun j hj => by
    unfold dat getZ
    rw [hf, if_neg hj]
  have hcn : cnt t.nodes y = 1 := by
    have := (w.wf.file _ _ hy hk).2.2.2
    rw [hl] at this
    omega
  have hab : ∀ d, y ∈ metL t d ↔ ∃ e, Rch t d x e := fun d => by
    rw [(met_post w d).2.1, Ru_iff w]
    constructor
    · rintro ⟨p, e, h1, h2⟩
      obtain ⟨pn, p1, e1, e2, e3⟩ := inE_find h2
      obtain ⟨xn, x1, e4, e5, e6⟩ := inE_find hxy
      have := cnt_one w.wf.srt hcn (find_mem p1).1 (find_mem x1).1 (cN_mem.2 ⟨e1, e2, e3⟩) (cN_mem.2 ⟨e4, e5, e6⟩)
      subst this
      have : p = x := (find_ino p1).symm.trans (find_ino x1)
      subst this
      exact ⟨e, h1⟩
    · rintro ⟨e, h⟩
      exact ⟨x, e, h, hxy⟩
  have hN : ∀ d, usedN u d = usedN t d := fun d => by
    unfold usedN
    rw [hD, (met_same w w' hE d).length_eq]
  have hB : ∀ d, dirE t d = 0 → usedB u d = usedB t d + if y ∈ metL t d then (data.length : Int) - (q.data.length : Int) else 0 := fun d h => by
    unfold usedB
    rw [hD, if_pos h, if_pos h, dats_perm (met_same w w' hE d)]
    exact dats_other hd1 hd2 (met_post w d).1
  rw [rightQ_iff, Ne, may_iff w hx]
  constructor
  · rintro hu ⟨z, hz, hr, hps⟩
    have h1 := hu.ok z hz
    have h2 := hv.ok z hz
    unfold pass at h1 h2 hps
    rw [decide_eq_false_iff_not] at h1 h2
    rw [decide_eq_true_eq] at hps
    rw [hN, hB _ (hv.dir z hz), if_pos ((hab _).2 hr)] at h1
    omega
  · intro h
    refine ⟨hv.srt, hv.len, fun z hz => by rw [hD]; exact hv.dir z hz, fun z hz => ?_⟩
    have h2 := hv.ok z hz
    unfold pass at h2 ⊢
    rw [decide_eq_false_iff_not] at h2 ⊢
    rw [hN, hB _ (hv.dir z hz)]
    by_cases c : y ∈ metL t z.ino
    · rw [if_pos c]
      intro h3
      refine h ⟨z, hz, (hab _).1 c, ?_⟩
      unfold pass
      rw [decide_eq_true_eq]
      omega
    · rw [if_neg c]
      omega
end
end Go.Tr

/-
  A node more, a node less, and quotas: plain laws.
-/
namespace Go.Tr
section
variable {ok : List UInt8 → Bool} {lt : List UInt8 → List UInt8 → Bool} {t u : Tree}
theorem rch_ru (w : WF ok lt t) {i d : Int} {e : Nat} (h : Rch t i d e) : d = i ∨ Ru t i d := by
  cases h with
  | here => exact .inl rfl
  | up h hk h1 hr =>
    obtain ⟨q, q1, q2⟩ := w.wf.par _ _ h hk h1 rfl
    exact .inr ((Ru_iff w).2 ⟨_, _, hr, inE_of q1 (by omega)⟩)
theorem ru_rch (w : WF ok lt t) {i d : Int} (hd : dirE t d = 0) (h : Ru t i d) : ∃ e, Rch t i d e := by
  obtain ⟨p, e, h1, h2⟩ := (Ru_iff w).1 h
  obtain ⟨n, hn, hnk, _⟩ := dirE_of hd
  obtain ⟨h3, h4⟩ := entry_up w h2 hn hnk
  exact ⟨e + 1, .up hn hnk h4 (by rw [h3]; exact h1)⟩
theorem add_find (w : WF ok lt t) {d : Int} {s : List UInt8} {kind : Int} (h : (add ok lt t d s kind).2.2 = 0) : ∃ p, find t.nodes d = some p ∧ p.kind = 2 ∧ d ≠ t.next ∧
    ∀ j, find (add ok lt t d s kind).1.nodes j = if j = d then some { p with fe := false, ents := insE lt ⟨s, t.next, t.cookie⟩ p.ents } else if j = t.next then some (newN t kind (if kind = 2 then d else 0)) else find t.nodes j := by
  unfold add at h ⊢
  split at h
  · cases h
  · rename_i hk
    split at h
    · rename_i he
      exact absurd h he
    · rename_i he
      split at h
      · cases h
      · rename_i hb
        obtain ⟨p, p1, p2, p3, p4, p5, p6, p7⟩ := enter_of (Classical.not_not.1 he)
        have hk' : kind = 1 ∨ kind = 2 := by omega
        have hkk : kind = 1 ∧ (if kind = 2 then d else 0) = 0 ∨ kind = 2 := by
          rcases hk' with h | h
          · exact .inl ⟨h, by rw [if_neg (by omega)]⟩
          · exact .inr h
        have w1 := w.wf.more kind (if kind = 2 then d else 0) hkk rfl (by omega) (by omega)
        have hf1 := find_more w.wf kind (if kind = 2 then d else 0)
        have hi := w.wf.pos _ _ p1
        have p1' : find (moreT t kind (if kind = 2 then d else 0)).nodes d = some p := by rw [hf1, if_neg (by omega)]; exact p1
        have hf2 := find_entered (lt := lt) w1.srt p1' s t.next
        refine ⟨p, p1, p2, by omega, fun j => ?_⟩
        rw [if_neg hk, if_neg he, if_neg hb]
        have h2 := hf2 j
        rw [hf1] at h2
        exact h2
theorem add_rel (w : WF ok lt t) {d : Int} {s : List UInt8} {kind : Int} (h : (add ok lt t d s kind).2.2 = 0) (hu : (add ok lt t d s kind).1 = u) :
    dirE t d = 0 ∧ (∀ i j, inE u i j ↔ inE t i j ∨ (i = d ∧ j = t.next)) ∧ (∀ i, dat u i = dat t i) ∧ (∀ i, i ≠ t.next → dirE u i = dirE t i) := by
  obtain ⟨p, p1, p2, p3, hf⟩ := add_find w h
  rw [hu] at hf
  refine ⟨by unfold dirE; rw [p1]; simp [p2], fun i j => ?_, fun i => ?_, fun i hi => ?_⟩
  · unfold inE getZ
    rw [hf]
    by_cases c : i = d
    · rw [if_pos c, c, p1]
      simp only [Option.getD_some, insE_mem]
      constructor
      · rintro ⟨e, rfl | he, hj⟩
        · exact .inr ⟨trivial, hj.symm⟩
        · exact .inl ⟨e, he, hj⟩
      · rintro (⟨e, he, hj⟩ | ⟨_, rfl⟩)
        · exact ⟨e, .inr he, hj⟩
        · exact ⟨_, .inl rfl, rfl⟩
    · rw [if_neg c]
      by_cases c2 : i = t.next
      · rw [if_pos c2, c2, find_next w.wf]
        simp [newN, nodeZ, c, p3.symm]
      · rw [if_neg c2]
        simp [c]
  · unfold dat getZ
    rw [hf]
    by_cases c : i = d
    · rw [if_pos c, c, p1]; rfl
    · rw [if_neg c]
      by_cases c2 : i = t.next
      · rw [if_pos c2, c2, find_next w.wf]; rfl
      · rw [if_neg c2]
  · unfold dirE
    rw [hf]
    by_cases c : i = d
    · rw [if_pos c, c, p1]
    · rw [if_neg c, if_neg hi]
theorem dats_congr (h : ∀ i, dat u i = dat t i) (l : List Int) : dats u l = dats t l := by
  unfold dats
  exact congrArg List.sum (List.map_congr_left fun x _ => h x)
theorem dir_next (w : WF ok lt t) {i : Int} (h : dirE t i = 0) : i ≠ t.next := by
  obtain ⟨n, hn, _⟩ := dirE_of h
  have := w.wf.pos _ _ hn
  omega
/-- A node more. -/
theorem adds_right (o : Ord lt) (w : WF ok lt t) {l : List Qu} (hv : InvQ t l) {d : Int} {s : List UInt8} {kind : Int} (h : (add ok lt t d s kind).2.2 = 0) :
    (rightQ (add ok lt t d s kind).1 l = true ↔ may t l d 1 0 ≠ 90) := by
  have w' := w.add o d s kind
  obtain ⟨hd, hE, hda, hD⟩ := add_rel w h rfl
  generalize (add ok lt t d s kind).1 = u at *
  have hnx : ∀ {i}, ¬ Ru t i t.next := fun {i} h' => by
    have := Ru_node w h'
    rw [find_next w.wf] at this
    cases this
  have hR : ∀ i j, Ru u i j ↔ Ru t i j ∨ (j = t.next ∧ ∃ e, Rch t i d e) := fun i j => by
    constructor
    · intro h
      induction h with
      | one h1 =>
        rcases (hE _ _).1 h1 with h1 | ⟨rfl, h1⟩
        · exact .inl (.one h1)
        · exact .inr ⟨h1, 0, .here⟩
      | more h1 h2 ih =>
        rcases ih with ih | ⟨rfl, _⟩
        · rcases (hE _ _).1 h2 with h2 | ⟨rfl, h2⟩
          · exact .inl (.more ih h2)
          · exact .inr ⟨h2, ru_rch w hd ih⟩
        · rcases (hE _ _).1 h2 with ⟨e, he, _⟩ | ⟨h2, _⟩
          · unfold getZ at he
            rw [find_next w.wf] at he
            cases he
          · exact absurd h2 (dir_next w hd).symm
    · rintro (h | ⟨rfl, e, h⟩)
      · exact Ru_mono (fun i j h => (hE i j).2 (.inl h)) h
      · rcases rch_ru w h with rfl | h
        · exact .one ((hE _ _).2 (.inr ⟨rfl, rfl⟩))
        · exact .more (Ru_mono (fun i j h => (hE i j).2 (.inl h)) h) ((hE _ _).2 (.inr ⟨rfl, rfl⟩))
  have hN : ∀ i, dirE t i = 0 → ((∃ e, Rch t i d e) → usedN u i = usedN t i + 1) ∧ (¬ (∃ e, Rch t i d e) → usedN u i = usedN t i) ∧ usedB u i = usedB t i := fun i hi => by
    have hi' : dirE u i = 0 := by rw [hD i (dir_next w hi)]; exact hi
    obtain ⟨a1, a2⟩ := used_dir hi
    obtain ⟨b1, b2⟩ := used_dir hi'
    obtain ⟨m1, m2, _⟩ := met_post w i
    obtain ⟨n1, n2, _⟩ := met_post w' i
    have hni : t.next ∉ metL t i := fun hm => hnx ((m2 _).1 hm)
    by_cases c : ∃ e, Rch t i d e
    · have hp : (metL u i).Perm (t.next :: metL t i) := perm_of_iff n1 (List.nodup_cons.2 ⟨hni, m1⟩) fun x => by
        rw [n2, hR, List.mem_cons, m2]
        constructor
        · rintro (h | ⟨h, _⟩)
          · exact .inr h
          · exact .inl h
        · rintro (h | h)
          · exact .inr ⟨h, c⟩
          · exact .inl h
      refine ⟨fun _ => ?_, fun h => absurd c h, ?_⟩
      · rw [a1, b1, hp.length_eq, List.length_cons]; omega
      · rw [a2, b2, dats_perm hp, dats_cons, dats_congr hda, hda]
        have : dat t t.next = 0 := by unfold dat getZ; rw [find_next w.wf]; rfl
        omega
    · have hp : (metL u i).Perm (metL t i) := perm_of_iff n1 m1 fun x => by
        rw [n2, hR, m2]
        constructor
        · rintro (h | ⟨_, h⟩)
          · exact h
          · exact absurd h c
        · exact .inl
      refine ⟨fun h => absurd h c, fun _ => ?_, ?_⟩
      · rw [a1, b1, hp.length_eq]
      · rw [a2, b2, dats_perm hp, dats_congr hda]
  rw [rightQ_iff, Ne, may_iff w hd]
  constructor
  · rintro hu ⟨z, hz, hr, hps⟩
    have h1 := hu.ok z hz
    obtain ⟨h3, _, h4⟩ := hN _ (hv.dir z hz)
    unfold pass at h1 hps
    rw [decide_eq_false_iff_not] at h1
    rw [decide_eq_true_eq] at hps
    rw [h3 hr, h4] at h1
    omega
  · intro h
    refine ⟨hv.srt, hv.len, fun z hz => by rw [hD _ (dir_next w (hv.dir z hz))]; exact hv.dir z hz, fun z hz => ?_⟩
    have h2 := hv.ok z hz
    obtain ⟨h3, h5, h4⟩ := hN _ (hv.dir z hz)
    unfold pass at h2 ⊢
    rw [decide_eq_false_iff_not] at h2 ⊢
    rw [h4]
    by_cases c : ∃ e, Rch t z.ino d e
    · rw [h3 c]
      intro h6
      refine h ⟨z, hz, c, ?_⟩
      unfold pass
      rw [decide_eq_true_eq]
      omega
    · rw [h5 c]
      omega
theorem un_find (o : Ord lt) (w : WF ok lt t) {d : Int} {s : List UInt8} (h : (un ok t d s).2.2 = 0) : ∃ p z, find t.nodes d = some p ∧ p.kind = 2 ∧ find t.nodes (un ok t d s).2.1 = some z ∧ z.ents = [] ∧ (un ok t d s).2.1 ≠ d ∧
    ∀ j, find (un ok t d s).1.nodes j = if j = (un ok t d s).2.1 then (if z.kind = 2 then none else some { z with links := z.links - 1 }) else if j = d then some { p with fe := false, ents := dropE s p.ents } else find t.nodes j := by
  unfold un at h ⊢
  split at h
  · rename_i he
    exact absurd h he
  · rename_i h0
    split at h
    · cases h
    · rename_i hl
      rw [if_neg h0, if_neg hl]
      obtain ⟨p, e, p1, p2, p3, p4, p5⟩ := look_of (x := (look ok t d s).1) (by rw [← Classical.not_not.1 h0])
      simp only
      rw [← p5] at hl ⊢
      obtain ⟨he, _⟩ := entOf_mem p4
      obtain ⟨⟨z, hz⟩, hx1, hxi⟩ := ent_node w p1 he
      rw [getZ_of hz] at hl
      have hze : z.ents = [] := List.eq_nil_of_length_eq_zero (by omega)
      have w1 := w.wf.left o p1 p2 p4
      have hf1 := fun j => find_left w.wf.srt p1 s j
      have hz1 : find (left t d s).nodes e.ino = some z := by rw [hf1, if_neg hxi]; exact hz
      exact ⟨p, z, p1, p2, hz, hze, hxi, fun j => by rw [find_unnamed w1.srt hz1 j, hf1]⟩
/-- A node less. -/
theorem un_right (o : Ord lt) (w : WF ok lt t) {l : List Qu} (hv : InvQ t l) {d : Int} {s : List UInt8} (h : (un ok t d s).2.2 = 0) :
    ∃ z, find t.nodes (un ok t d s).2.1 = some z ∧ ((z.kind = 2 ∧ (findQ l (un ok t d s).2.1).isSome = true) ∨ rightQ (un ok t d s).1 l = true) := by
  have w' := w.un o d s
  obtain ⟨p, z, p1, p2, hz, hze, hxd, hf⟩ := un_find o w h
  refine ⟨z, hz, ?_⟩
  generalize (un ok t d s).2.1 = x at *
  generalize (un ok t d s).1 = u at *
  by_cases hq : z.kind = 2 ∧ (findQ l x).isSome = true
  · exact .inl hq
  · right
    have hE : ∀ i j, inE u i j → inE t i j := fun i j => by
      unfold inE getZ
      rw [hf]
      by_cases c : i = x
      · rw [if_pos c]
        by_cases c2 : z.kind = 2
        · rw [if_pos c2]
          rintro ⟨e, he, _⟩
          cases he
        · rw [if_neg c2, c, hz]
          exact id
      · rw [if_neg c]
        by_cases c2 : i = d
        · rw [if_pos c2, c2, p1]
          rintro ⟨e, he, hj⟩
          exact ⟨e, (dropE_mem.1 he).1, hj⟩
        · rw [if_neg c2]
          exact id
    have hda : ∀ i, dat u i = dat t i := fun i => by
      unfold dat getZ
      rw [hf]
      by_cases c : i = x
      · rw [if_pos c]
        by_cases c2 : z.kind = 2
        · have := (w.wf.dir _ _ hz c2).1
          rw [if_pos c2, c, hz]
          simp [nodeZ, this]
        · rw [if_neg c2, c, hz]
          rfl
      · rw [if_neg c]
        by_cases c2 : i = d
        · rw [if_pos c2, c2, p1]
          rfl
        · rw [if_neg c2]
    have hD : ∀ q ∈ l, dirE u q.ino = 0 := fun q hq' => by
      have h1 := hv.dir q hq'
      unfold dirE at h1 ⊢
      rw [hf]
      by_cases c : q.ino = x
      · rw [c, hz] at h1
        simp only at h1
        have hzk : z.kind = 2 := by
          by_cases c3 : z.kind = 2
          · exact c3
          · rw [if_neg c3] at h1; cases h1
        refine absurd ⟨hzk, ?_⟩ hq
        have := findQ_of hv.srt hq'
        rw [c] at this
        rw [this]; rfl
      · rw [if_neg c]
        by_cases c2 : q.ino = d
        · rw [if_pos c2]
          simp [p2]
        · rw [if_neg c2]
          exact h1
    rw [rightQ_iff]
    refine ⟨hv.srt, hv.len, hD, fun q hq' => ?_⟩
    have h1 := hv.ok q hq'
    obtain ⟨a1, a2⟩ := used_dir (hv.dir q hq')
    obtain ⟨b1, b2⟩ := used_dir (hD q hq')
    obtain ⟨m1, m2, _⟩ := met_post w q.ino
    obtain ⟨n1, n2, _⟩ := met_post w' q.ino
    have hs : ∀ x ∈ metL u q.ino, x ∈ metL t q.ino := fun x hx => (m2 x).2 (Ru_mono hE ((n2 x).1 hx))
    have h2 := both_len n1 hs
    have h3 := dats_sub (t := t) n1 hs
    rw [← dats_congr hda] at h3
    unfold pass at h1 ⊢
    rw [decide_eq_false_iff_not] at h1 ⊢
    rw [a1, a2] at h1
    rw [b1, b2]
    omega
end
end Go.Tr

/-
  A node put in the place of one that is there, by its place.
-/
namespace Go.Tr
theorem ins_set {l : List Node} (hs : Srt l) {n : Node} (h : cutN l n.ino < l.length) (hi : l[cutN l n.ino].ino = n.ino) : ins n l = l.set (cutN l n.ino) n := by
  unfold ins
  rw [← cutP_take, ← cutP_drop]
  show l.take (cutN l n.ino) ++ n :: (l.drop (cutN l n.ino)).filter _ = _
  have h2 : (l.drop (cutN l n.ino)).filter (fun m => decide (m.ino ≠ n.ino)) = l.drop (cutN l n.ino + 1) := by
    rw [List.drop_eq_getElem_cons h, List.filter_cons, if_neg (by simp [hi]), List.filter_eq_self]
    intro m hm
    obtain ⟨k, hk, rfl⟩ := List.mem_iff_getElem.1 hm
    rw [List.length_drop] at hk
    rw [List.getElem_drop]
    have := (List.pairwise_iff_getElem.1 hs) (cutN l n.ino) (cutN l n.ino + 1 + k) h (by omega) (by omega)
    exact decide_eq_true (by omega)
  rw [h2]
  rw [List.set_eq_take_append_cons_drop, if_pos h]
theorem ins_new {l : List Node} (hs : Srt l) {n : Node} (hf : find l n.ino = none) : ins n l = l.take (cutN l n.ino) ++ n :: l.drop (cutN l n.ino) := by
  unfold ins
  rw [← cutP_take, ← cutP_drop]
  show l.take (cutN l n.ino) ++ n :: (l.drop (cutN l n.ino)).filter _ = _
  have h2 : (l.drop (cutN l n.ino)).filter (fun m => decide (m.ino ≠ n.ino)) = l.drop (cutN l n.ino) := by
    rw [List.filter_eq_self]
    intro m hm
    unfold find at hf
    rw [List.find?_eq_none] at hf
    have := hf m (List.mem_of_mem_drop hm)
    simpa using this
  rw [h2]
theorem withN_at {t : Tree} (hs : Srt t.nodes) {i : Int} {n : Node} (h : cutN t.nodes i < t.nodes.length) (hi : t.nodes[cutN t.nodes i].ino = i) (hn : n.ino = i) : withN t n = ⟨false, t.nodes.set (cutN t.nodes i) n, t.next, t.cookie⟩ := by
  subst hn
  unfold withN
  rw [ins_set hs h hi]
theorem withN_new {t : Tree} (hs : Srt t.nodes) {i : Int} {n : Node} (hf : find t.nodes i = none) (hn : n.ino = i) : withN t n = ⟨false, t.nodes.take (cutN t.nodes i) ++ n :: t.nodes.drop (cutN t.nodes i), t.next, t.cookie⟩ := by
  subst hn
  unfold withN
  rw [ins_new hs hf]
end Go.Tr

/-
  Where a row of entries is cut.
-/
namespace Go.Tr
variable {lt : List UInt8 → List UInt8 → Bool}
def cutE (lt : List UInt8 → List UInt8 → Bool) (l : List Ent) (s : List UInt8) : Nat := cutP (fun e => lt e.name s) l
theorem cutE_iff (o : Ord lt) {l : List Ent} (hs : SrtE lt l) (s : List UInt8) {k : Nat} (h : k < l.length) : k < cutE lt l s ↔ lt l[k].name s = true :=
  cutP_iff (p := fun e : Ent => lt e.name s) (l := l) (fun a b hb hab hp => o.tr _ _ _ ((List.pairwise_iff_getElem.1 hs) a b (by omega) hb hab) hp) h
/-- What the cut finds. -/
theorem cutE_find (o : Ord lt) {l : List Ent} (hs : SrtE lt l) (s : List UInt8) : (∃ (h : cutE lt l s < l.length), l[cutE lt l s].name = s ∧ l.find? (fun e => decide (e.name = s)) = some l[cutE lt l s]) ∨
    (l.find? (fun e => decide (e.name = s)) = none ∧ ∀ (h : cutE lt l s < l.length), l[cutE lt l s].name ≠ s) := by
  have one : ∀ {i j : Nat} (hi : i < l.length) (hj : j < l.length), l[i].name = l[j].name → i = j := fun {i j} hi hj he => by
    rcases Nat.lt_trichotomy i j with h | h | h
    · have := (List.pairwise_iff_getElem.1 hs) i j hi hj h
      rw [he, o.irr] at this
      cases this
    · exact h
    · have := (List.pairwise_iff_getElem.1 hs) j i hj hi h
      rw [he, o.irr] at this
      cases this
  cases hf : l.find? (fun e => decide (e.name = s)) with
  | none =>
    refine .inr ⟨rfl, fun h hn => ?_⟩
    rw [List.find?_eq_none] at hf
    exact hf _ (List.getElem_mem h) (by simpa using hn)
  | some e =>
    have hm := List.mem_of_find?_eq_some hf
    have hn : e.name = s := by have := List.find?_some hf; simpa using this
    obtain ⟨k, hk, hke⟩ := List.mem_iff_getElem.1 hm
    have hkc : cutE lt l s = k := by
      rcases Nat.lt_trichotomy (cutE lt l s) k with h | h | h
      · have h1 := (List.pairwise_iff_getElem.1 hs) _ _ (by omega) hk h
        rw [hke, hn] at h1
        have := (cutE_iff o hs s (by omega)).2 h1
        omega
      · exact h
      · have h1 := (cutE_iff o hs s hk).1 h
        rw [hke, hn, o.irr] at h1
        cases h1
    refine .inl ⟨by omega, ?_, ?_⟩
    · simp only [hkc, hke, hn]
    · simp only [hkc, hke]
theorem insE_cut (o : Ord lt) {l : List Ent} (hs : SrtE lt l) {e : Ent} (hf : l.find? (fun x => decide (x.name = e.name)) = none) : insE lt e l = l.take (cutE lt l e.name) ++ e :: l.drop (cutE lt l e.name) := by
  unfold insE cutE
  rw [cutP_take, cutP_drop]
  have hp : ∀ x ∈ l, (!lt e.name x.name) = lt x.name e.name := fun x hx => by
    rw [List.find?_eq_none] at hf
    have hne : x.name ≠ e.name := by simpa using hf x hx
    rcases o.tot x.name e.name with h | h | h
    · rw [h]
      cases h2 : lt e.name x.name with
      | false => rfl
      | true =>
        have := o.tr _ _ _ h h2
        rw [o.irr] at this
        cases this
    · exact absurd h hne
    · rw [h]
      cases h2 : lt x.name e.name with
      | false => rfl
      | true =>
        have := o.tr _ _ _ h h2
        rw [o.irr] at this
        cases this
  clear hf hs
  induction l with
  | nil => rfl
  | cons x l ih =>
    rw [List.takeWhile_cons, List.takeWhile_cons, List.dropWhile_cons, List.dropWhile_cons, hp x List.mem_cons_self]
    cases lt x.name e.name with
    | true =>
      simp only [if_true, List.cons_append]
      rw [ih fun y hy => hp y (List.mem_cons_of_mem _ hy)]
    | false => simp
theorem dropE_cut (o : Ord lt) {l : List Ent} (hs : SrtE lt l) {s : List UInt8} (h : cutE lt l s < l.length) (hi : l[cutE lt l s].name = s) : dropE s l = l.take (cutE lt l s) ++ l.drop (cutE lt l s + 1) := by
  unfold dropE
  have hsp : l = l.take (cutE lt l s) ++ (l[cutE lt l s] :: l.drop (cutE lt l s + 1)) := by rw [← List.drop_eq_getElem_cons h, List.take_append_drop]
  have h1 : (l.take (cutE lt l s)).filter (fun m => decide (m.name ≠ s)) = l.take (cutE lt l s) := by
    rw [List.filter_eq_self]
    intro m hm
    obtain ⟨k, hk, rfl⟩ := List.mem_iff_getElem.1 hm
    rw [List.length_take] at hk
    rw [List.getElem_take]
    have := (cutE_iff o hs s (k := k) (by omega)).1 (by omega)
    refine decide_eq_true fun he => ?_
    rw [he, o.irr] at this
    cases this
  have h2 : (l.drop (cutE lt l s + 1)).filter (fun m => decide (m.name ≠ s)) = l.drop (cutE lt l s + 1) := by
    rw [List.filter_eq_self]
    intro m hm
    obtain ⟨k, hk, rfl⟩ := List.mem_iff_getElem.1 hm
    rw [List.length_drop] at hk
    rw [List.getElem_drop]
    have := (List.pairwise_iff_getElem.1 hs) (cutE lt l s) (cutE lt l s + 1 + k) h (by omega) (by omega)
    rw [hi] at this
    refine decide_eq_true fun he => ?_
    rw [he, o.irr] at this
    cases this
  have h3 := congrArg (List.filter fun m => decide (m.name ≠ s)) hsp
  rw [List.filter_append, List.filter_cons, h1, h2] at h3
  rw [h3]
  simp [hi]
end Go.Tr
