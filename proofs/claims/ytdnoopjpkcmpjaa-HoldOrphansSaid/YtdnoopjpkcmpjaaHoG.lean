/-
  What is held open, as the document tells it (layer 8), in plain Lean.
-/
import Derived.Test.YtdnoopjpkcmpjaaTrGJ
set_option linter.unusedSimpArgs false
set_option linter.unusedVariables false
namespace Go.Tr
structure Ho where
  c : Int
  h : Int
  ino : Int
deriving DecidableEq
/-- Does it come before a key? -/
def lessK (c h : Int) (x : Ho) : Bool := decide (x.c < c ∨ (x.c = c ∧ x.h < h))
def isK (c h : Int) (x : Ho) : Bool := decide (x.c = c ∧ x.h = h)
def hld (l : List Ho) (i : Int) : Bool := l.any fun x => decide (x.ino = i)
def orph (q : Node) : Bool := decide (q.kind = 1 ∧ q.links = 0)
def isO (t : Tree) (i : Int) : Bool := (find t.nodes i).elim false orph
def okK (c h : Int) : Bool := decide (0 ≤ c ∧ c < 16 ∧ 0 ≤ h ∧ h ≤ 99)
def insH (l : List Ho) (x : Ho) : List Ho := l.take (cutP (lessK x.c x.h) l) ++ x :: l.drop (cutP (lessK x.c x.h) l)
def openP (t : Tree) (l : List Ho) (c h i : Int) : List Ho × Int :=
  if okK c h = false then (l, 1) else match find t.nodes i with
  | none => (l, 70)
  | some q => if orph q = true then (l, 70) else if q.kind = 2 then (l, 72) else if l.any (isK c h) = true then (l, 71) else if 64 ≤ l.length then (l, 76) else (insH l ⟨c, h, i⟩, 0)
def remH (l : List Ho) (c h : Int) : List Ho := l.take (l.findIdx (isK c h)) ++ l.drop (l.findIdx (isK c h) + 1)
def closeP (t : Tree) (l : List Ho) (c h : Int) : Tree × List Ho × Int := match l.find? (isK c h) with
  | none => (t, l, 80)
  | some x => (if isO t x.ino = true ∧ hld (remH l c h) x.ino = false then (free t x.ino).1 else t, remH l c h, 0)
/-- Handles of a client are closed, one by one. -/
def goneL (c : Int) (ks : List Int) (t : Tree) (l : List Ho) : Tree × List Ho := ks.foldl (fun s h => ((closeP s.1 s.2 c h).1, (closeP s.1 s.2 c h).2.1)) (t, l)
def own_ (l : List Ho) (c : Int) : List Int := (l.filter fun x => decide (x.c = c)).map Ho.h
def all_ : List Int := (List.range 100).map Int.ofNat
def orphs (t : Tree) : List Int := (t.nodes.filter orph).map Node.ino
def swept (t : Tree) (l : List Ho) : Tree := (orphs t).foldl (fun t i => if hld l i = false then (free t i).1 else t) t
def inoP (l : List Ho) (c h : Int) : Int × Int := match l.find? (isK c h) with
  | none => (0, 80)
  | some x => (x.ino, 0)
def rowH (t : Tree) (l : List Ho) (i : Nat) : Bool := match l[i]? with
  | none => false
  | some x => okK x.c x.h && (((find t.nodes x.ino).elim false fun q => decide (q.kind = 1)) && (decide (i = 0) || (l[i - 1]?).elim false (lessK x.c x.h)))
def rightH (t : Tree) (l : List Ho) : Bool := decide (l.length ≤ 64) && ((List.range l.length).all (rowH t l) && (orphs t).all (hld l))
/-- What is done. -/
structure Act where
  d : Nat
  c : Nat
  h : Nat
  n : Nat
  m : Nat
def whoA (a : Act) : Int := (a.c % 5 + 15 * (a.c / 250) : Nat)
def handA (a : Act) : Int := (a.h % 6 + 95 * (a.h / 240) : Nat)
section
variable (ok : List UInt8 → Bool)
def takenT (t : Tree) (l : List Ho) (a : Act) : Tree := swept (un ok t (nodeAt t a.n) (nameOf a.m)).1 l
def doneP (t : Tree) (l : List Ho) (a : Act) : Tree × List Ho × Int := match a.d % 8 with
  | 4 | 5 => closeP t l (whoA a) (handA a)
  | 6 => ((goneL (whoA a) all_ t l).1, (goneL (whoA a) all_ t l).2, 0)
  | 7 => (takenT ok t l a, l, 0)
  | _ => (t, (openP t l (whoA a) (handA a) (nodeAt t a.n)).1, (openP t l (whoA a) (handA a) (nodeAt t a.n)).2)
def ownP (t : Tree) (l : List Ho) (a : Act) : Tree × List Ho × Int := match a.d % 8 with
  | 4 | 5 => closeP t l (whoA a) (handA a)
  | 6 => ((goneL (whoA a) (own_ l (whoA a)) t l).1, (goneL (whoA a) (own_ l (whoA a)) t l).2, 0)
  | 7 => (takenT ok t l a, l, 0)
  | _ => (t, (openP t l (whoA a) (handA a) (nodeAt t a.n)).1, (openP t l (whoA a) (handA a) (nodeAt t a.n)).2)
def madeH (t : Tree) (as : List Act) : Tree × List Ho := as.foldl (fun s a => ((doneP ok s.1 s.2 a).1, (doneP ok s.1 s.2 a).2.1)) (t, [])
end
def SrtH (l : List Ho) : Prop := l.Pairwise fun x y => lessK y.c y.h x = true
theorem cutH_iff {l : List Ho} (hs : SrtH l) (c h : Int) {k : Nat} (hk : k < l.length) : k < cutP (lessK c h) l ↔ lessK c h l[k] = true :=
  cutP_iff (fun a b hb hab hp => by
    have := (List.pairwise_iff_getElem.1 hs) a b (by omega) hb hab
    unfold lessK at this hp ⊢
    rw [decide_eq_true_eq] at this hp ⊢
    omega) hk
/-- What the cut finds. -/
theorem cutH_find {l : List Ho} (hs : SrtH l) (c h : Int) : (∃ (hk : cutP (lessK c h) l < l.length), isK c h l[cutP (lessK c h) l] = true ∧ l.any (isK c h) = true) ∨ (l.any (isK c h) = false ∧ ∀ (hk : cutP (lessK c h) l < l.length), isK c h l[cutP (lessK c h) l] = false) := by
  have hno : ∀ k (hk : k < l.length), isK c h l[k] = true → k = cutP (lessK c h) l := fun k hk hi => by
    have h2 := cutH_iff hs c h hk
    unfold isK at hi
    rw [decide_eq_true_eq] at hi
    rcases Nat.lt_trichotomy k (cutP (lessK c h) l) with h3 | h3 | h3
    · have := h2.1 h3
      unfold lessK at this
      rw [decide_eq_true_eq] at this
      omega
    · exact h3
    · exfalso
      have h4 := (List.pairwise_iff_getElem.1 hs) _ _ (by omega) hk h3
      have h5 := cutH_iff hs c h (k := cutP (lessK c h) l) (by omega)
      have h6 : ¬ lessK c h l[cutP (lessK c h) l] = true := fun h => Nat.lt_irrefl _ (h5.2 h)
      unfold lessK at h4
      rw [decide_eq_true_eq] at h4
      apply h6
      unfold lessK
      rw [decide_eq_true_eq]
      omega
  by_cases hk : cutP (lessK c h) l < l.length
  · cases hi : isK c h l[cutP (lessK c h) l] with
    | true => exact .inl ⟨hk, hi, List.any_eq_true.2 ⟨_, List.getElem_mem hk, hi⟩⟩
    | false =>
      refine .inr ⟨?_, fun _ => hi⟩
      rw [← Bool.not_eq_true, List.any_eq_true]
      rintro ⟨x, hx, hxi⟩
      obtain ⟨k, hk', rfl⟩ := List.mem_iff_getElem.1 hx
      have e := hno k hk' hxi
      subst e
      rw [hi] at hxi
      cases hxi
  · refine .inr ⟨?_, fun h => absurd h hk⟩
    rw [← Bool.not_eq_true, List.any_eq_true]
    rintro ⟨x, hx, hxi⟩
    obtain ⟨k, hk', rfl⟩ := List.mem_iff_getElem.1 hx
    have e := hno k hk' hxi
    omega
end Go.Tr

/-
  What is held stays, and what goes.
-/
namespace Go.Tr
/-- The same, but for a row's capacity. -/
def Teq (u v : Tree) : Prop := u.nodes = v.nodes ∧ u.next = v.next ∧ u.cookie = v.cookie
theorem Teq.rfl' {t : Tree} : Teq t t := ⟨rfl, rfl, rfl⟩
theorem Teq.trans {a b c : Tree} (h : Teq a b) (h' : Teq b c) : Teq a c := ⟨h.1.trans h'.1, h.2.1.trans h'.2.1, h.2.2.trans h'.2.2⟩
theorem Teq.symm {a b : Tree} (h : Teq a b) : Teq b a := ⟨h.1.symm, h.2.1.symm, h.2.2.symm⟩
def keepN (l : List Ho) (q : Node) : Bool := !(orph q && !hld l q.ino)
def swp (t : Tree) (l : List Ho) : Tree := ⟨false, t.nodes.filter (keepN l), t.next, t.cookie⟩
theorem find_filter {l : List Node} (hs : Srt l) (p : Node → Bool) (i : Int) : find (l.filter p) i = (find l i).bind fun q => if p q = true then some q else none := by
  cases hf : find l i with
  | none =>
    cases h : find (l.filter p) i with
    | none => rfl
    | some q =>
      obtain ⟨h1, h2⟩ := find_mem h
      have := find_of hs (List.mem_filter.1 h1).1
      rw [h2, hf] at this
      cases this
  | some q =>
    obtain ⟨h1, h2⟩ := find_mem hf
    show _ = if p q = true then some q else none
    by_cases hp : p q = true
    · rw [if_pos hp]
      have := find_of (hs.filter p) (List.mem_filter.2 ⟨h1, hp⟩)
      rwa [h2] at this
    · rw [if_neg hp]
      cases h : find (l.filter p) i with
      | none => rfl
      | some m =>
        obtain ⟨h3, h4⟩ := find_mem h
        have h5 := find_of hs (List.mem_filter.1 h3).1
        rw [h4, hf] at h5
        obtain rfl := Option.some.inj h5
        exact absurd (List.mem_filter.1 h3).2 hp
theorem free_orph {u : Tree} {i : Int} {q : Node} (h : find u.nodes i = some q) (ho : orph q = true) : (free u i).1 = without u i := by
  unfold orph at ho
  rw [decide_eq_true_eq] at ho
  unfold free
  rw [h]
  simp only
  rw [if_neg (by omega), if_neg (by omega)]
theorem free_none {u : Tree} {i : Int} (h : find u.nodes i = none) : (free u i).1 = u := by
  unfold free
  rw [h]
def swO (l : List Ho) (t : Tree) (i : Int) : Tree := if hld l i = false then (free t i).1 else t
theorem sweep (l : List Ho) (os : List Int) : ∀ {u : Tree}, Srt u.nodes → (∀ i ∈ os, ∀ q, find u.nodes i = some q → orph q = true) →
    Teq (os.foldl (swO l) u) ⟨false, u.nodes.filter (fun q => !(os.contains q.ino && !hld l q.ino)), u.next, u.cookie⟩ := by
  induction os with
  | nil =>
    intro u _ _
    refine ⟨?_, rfl, rfl⟩
    exact (List.filter_eq_self.2 fun _ _ => by simp).symm
  | cons i os ih =>
    intro u hs ho
    rw [List.foldl_cons]
    by_cases hh : hld l i = true
    · have e : swO l u i = u := by unfold swO; rw [hh]; rfl
      rw [e]
      refine (ih hs fun j hj => ho j (List.mem_cons_of_mem _ hj)).trans ⟨?_, rfl, rfl⟩
      refine List.filter_congr fun q hq => ?_
      by_cases hi : q.ino = i
      · rw [hi, hh]; simp
      · have hb : (q.ino == i) = false := by simpa using hi
        rw [List.contains_cons, hb]; simp
    · have hh : hld l i = false := by simpa using hh
      cases hf : find u.nodes i with
      | none =>
        have e : swO l u i = u := by unfold swO; rw [hh, if_pos rfl, free_none hf]
        rw [e]
        refine (ih hs fun j hj => ho j (List.mem_cons_of_mem _ hj)).trans ⟨?_, rfl, rfl⟩
        refine List.filter_congr fun q hq => ?_
        have hi : q.ino ≠ i := fun hi => by
          have := find_of hs hq
          rw [hi, hf] at this
          cases this
        have hb : (q.ino == i) = false := by simpa using hi
        rw [List.contains_cons, hb]; simp
      | some q0 =>
        have e : swO l u i = without u i := by unfold swO; rw [hh, if_pos rfl, free_orph hf (ho i List.mem_cons_self q0 hf)]
        rw [e]
        have hs' : Srt (without u i).nodes := hs.filter _
        refine (ih hs' fun j hj q hq => ?_).trans ⟨?_, rfl, rfl⟩
        · have := find_filter hs (fun m => decide (m.ino ≠ i)) j
          rw [show find (without u i).nodes j = find (u.nodes.filter fun m => decide (m.ino ≠ i)) j from rfl, this] at hq
          cases hfj : find u.nodes j with
          | none => rw [hfj] at hq; cases hq
          | some m =>
            rw [hfj] at hq
            have hq : (if decide (m.ino ≠ i) = true then some m else none) = some q := hq
            split at hq
            · obtain rfl := Option.some.inj hq
              exact ho j (List.mem_cons_of_mem _ hj) _ hfj
            · cases hq
        · show (u.nodes.filter _).filter _ = _
          rw [List.filter_filter]
          refine List.filter_congr fun q hq => ?_
          rw [List.contains_cons]
          by_cases hi : q.ino = i
          · rw [hi, hh]; simp
          · have hb : (q.ino == i) = false := by simpa using hi
            rw [hb]; simp [hi]
theorem orphs_mem {t : Tree} (hs : Srt t.nodes) {q : Node} (hq : q ∈ t.nodes) : (orphs t).contains q.ino = orph q := by
  rw [Bool.eq_iff_iff, List.contains_iff_mem]
  unfold orphs
  rw [List.mem_map]
  constructor
  · rintro ⟨m, hm, hi⟩
    obtain ⟨h1, h2⟩ := List.mem_filter.1 hm
    have a := find_of hs h1
    have b := find_of hs hq
    rw [hi, b] at a
    obtain rfl := Option.some.inj a
    exact h2
  · intro h
    exact ⟨q, List.mem_filter.2 ⟨hq, h⟩, rfl⟩
theorem swept_teq {t : Tree} (hs : Srt t.nodes) (l : List Ho) : Teq (swept t l) (swp t l) := by
  have h := sweep l (orphs t) hs (fun i hi q hq => by
    unfold orphs at hi
    obtain ⟨m, hm, rfl⟩ := List.mem_map.1 hi
    obtain ⟨h1, h2⟩ := List.mem_filter.1 hm
    have a := find_of hs h1
    rw [hq] at a
    obtain rfl := Option.some.inj a
    exact h2)
  refine Teq.trans h ⟨?_, rfl, rfl⟩
  refine List.filter_congr fun q hq => ?_
  rw [orphs_mem hs hq]
  rfl
theorem remH_filter : ∀ {l : List Ho} {c h : Int}, SrtH l → (l.find? (isK c h)).isSome = true → remH l c h = l.filter fun x => !isK c h x
  | [], c, h, _, hf => by cases hf
  | y :: l, c, h, hs, hf => by
    obtain ⟨h1, h2⟩ := List.pairwise_cons.1 hs
    unfold remH
    rw [List.findIdx_cons, List.filter_cons]
    cases hy : isK c h y with
    | true =>
      have : (l.filter fun x => !isK c h x) = l := by
        rw [List.filter_eq_self]
        intro x hx
        have := h1 x hx
        unfold lessK at this
        unfold isK at hy ⊢
        rw [decide_eq_true_eq] at this hy
        rw [Bool.not_eq_true', decide_eq_false_iff_not]
        omega
      simp [this]
    | false =>
      rw [List.find?_cons_of_neg (by rw [hy]; simp)] at hf
      have := remH_filter h2 hf
      unfold remH at this
      simp only [cond_false, Bool.not_false, if_true, List.take_succ_cons, List.drop_succ_cons, List.cons_append]
      rw [this]
theorem closeP_list {l : List Ho} (hs : SrtH l) (t : Tree) (c h : Int) : (closeP t l c h).2.1 = l.filter fun x => !isK c h x := by
  unfold closeP
  cases hf : l.find? (isK c h) with
  | none =>
    show l = _
    symm
    rw [List.filter_eq_self]
    intro x hx
    have := List.find?_eq_none.1 hf x hx
    simpa using this
  | some x =>
    exact remH_filter hs (by rw [hf]; rfl)
theorem hld_filter (l : List Ho) (p : Ho → Bool) (i : Int) : hld (l.filter p) i = true → hld l i = true := by
  unfold hld
  rw [List.any_eq_true, List.any_eq_true]
  rintro ⟨x, hx, hi⟩
  exact ⟨x, (List.mem_filter.1 hx).1, hi⟩
theorem close_teq {t : Tree} (ht : Srt t.nodes) {u : Tree} {n : List Ho} (hn : SrtH n) (hu : Teq u (swp t n)) (c h : Int) : Teq (closeP u n c h).1 (swp t (closeP u n c h).2.1) := by
  have hl := closeP_list hn u c h
  unfold closeP at hl ⊢
  cases hf : n.find? (isK c h) with
  | none => exact hu
  | some x =>
    rw [hf] at hl
    have hl : remH n c h = n.filter fun x => !isK c h x := hl
    show Teq (if isO u x.ino = true ∧ hld (remH n c h) x.ino = false then (free u x.ino).1 else u) (swp t (remH n c h))
    rw [hl]
    have hxm := List.mem_of_find?_eq_some hf
    have hxk := List.find?_some hf
    have hother : ∀ i, i ≠ x.ino → hld (n.filter fun x => !isK c h x) i = hld n i := fun i hi => by
      rw [Bool.eq_iff_iff]
      refine ⟨hld_filter _ _ _, fun h1 => ?_⟩
      unfold hld at h1 ⊢
      rw [List.any_eq_true] at h1 ⊢
      obtain ⟨y, hy, hyi⟩ := h1
      rw [decide_eq_true_eq] at hyi
      refine ⟨y, List.mem_filter.2 ⟨hy, ?_⟩, by rw [decide_eq_true_eq]; exact hyi⟩
      -- y is another one than x
      rw [Bool.not_eq_true', ← Bool.not_eq_true]
      intro hyk
      have hxy : x ≠ y := fun e => hi (by rw [← hyi, e])
      obtain ⟨a, ha, rfl⟩ := List.mem_iff_getElem.1 hxm
      obtain ⟨b, hb, rfl⟩ := List.mem_iff_getElem.1 hy
      have hab : a ≠ b := fun e => hxy (by subst e; rfl)
      unfold isK at hxk hyk
      rw [decide_eq_true_eq] at hxk hyk
      rcases Nat.lt_or_ge a b with h2 | h2
      · have := (List.pairwise_iff_getElem.1 hn) a b ha hb h2
        unfold lessK at this
        rw [decide_eq_true_eq] at this
        omega
      · have := (List.pairwise_iff_getElem.1 hn) b a hb ha (by omega)
        unfold lessK at this
        rw [decide_eq_true_eq] at this
        omega
    have hxn : hld n x.ino = true := by
      unfold hld
      rw [List.any_eq_true]
      exact ⟨x, hxm, by simp⟩
    have hsu : Srt u.nodes := by rw [hu.1]; exact ht.filter _
    have hfu : ∀ q ∈ t.nodes, keepN n q = true → find u.nodes q.ino = some q := fun q hq hk => by
      have := find_of (hu.1 ▸ hsu : Srt (swp t n).nodes) (List.mem_filter.2 ⟨hq, hk⟩)
      rw [hu.1]
      exact this
    generalize (n.filter fun x => !isK c h x) = n' at *
    by_cases hc : isO u x.ino = true ∧ hld n' x.ino = false
    · rw [if_pos hc]
      obtain ⟨hc1, hc2⟩ := hc
      unfold isO at hc1
      cases hq0 : find u.nodes x.ino with
      | none => rw [hq0] at hc1; cases hc1
      | some q0 =>
        rw [hq0] at hc1
        have hc1 : orph q0 = true := hc1
        rw [free_orph hq0 hc1]
        refine ⟨?_, hu.2.1, hu.2.2⟩
        show u.nodes.filter _ = t.nodes.filter _
        rw [hu.1]
        show (t.nodes.filter _).filter _ = _
        rw [List.filter_filter]
        refine List.filter_congr fun q hq => ?_
        by_cases hi : q.ino = x.ino
        · have hk : keepN n q = true := by unfold keepN; rw [hi, hxn]; simp
          have e := hfu q hq hk
          rw [hi, hq0] at e
          obtain rfl := Option.some.inj e
          unfold keepN
          rw [hi, hc1, hc2]
          simp
        · unfold keepN
          rw [hother _ hi]
          simp [hi]
    · rw [if_neg hc]
      refine ⟨?_, hu.2.1, hu.2.2⟩
      rw [hu.1]
      refine List.filter_congr fun q hq => ?_
      by_cases hi : q.ino = x.ino
      · have hk : keepN n q = true := by unfold keepN; rw [hi, hxn]; simp
        rw [hk]
        symm
        unfold keepN
        rw [hi]
        cases h1 : hld n' x.ino with
        | true => simp
        | false =>
          have h2 : ¬ isO u x.ino = true := fun h2 => hc ⟨h2, h1⟩
          have e := hfu q hq hk
          unfold isO at h2
          rw [← hi, e] at h2
          have h2 : ¬ orph q = true := h2
          simp [h2]
      · unfold keepN
        rw [hother _ hi]
theorem gone_teq {t : Tree} (ht : Srt t.nodes) (c : Int) (ks : List Int) : ∀ {u : Tree} {n : List Ho}, SrtH n → Teq u (swp t n) → Teq (goneL c ks u n).1 (swp t (goneL c ks u n).2) ∧ (goneL c ks u n).2 = n.filter fun x => !(decide (x.c = c) && ks.contains x.h) := by
  induction ks with
  | nil =>
    intro u n hn hu
    refine ⟨hu, ?_⟩
    show n = _
    exact (List.filter_eq_self.2 fun _ _ => by simp).symm
  | cons k ks ih =>
    intro u n hn hu
    have e : goneL c (k :: ks) u n = goneL c ks (closeP u n c k).1 (closeP u n c k).2.1 := rfl
    rw [e]
    have hl := closeP_list hn u c k
    have h1 := close_teq ht hn hu c k
    have h2 : SrtH (closeP u n c k).2.1 := by rw [hl]; exact hn.filter _
    obtain ⟨h3, h4⟩ := ih h2 h1
    refine ⟨h3, ?_⟩
    rw [h4, hl, List.filter_filter]
    refine List.filter_congr fun x hx => ?_
    rw [List.contains_cons]
    unfold isK
    by_cases h5 : x.c = c
    · by_cases h6 : x.h = k
      · simp [h5, h6]
      · simp [h5, h6]
    · simp [h5]
theorem teq_self {t : Tree} {l : List Ho} (h : ∀ q ∈ t.nodes, orph q = true → hld l q.ino = true) : Teq t (swp t l) := by
  refine ⟨?_, rfl, rfl⟩
  show t.nodes = t.nodes.filter _
  symm
  rw [List.filter_eq_self]
  intro q hq
  unfold keepN
  cases ho : orph q with
  | false => rfl
  | true => rw [h q hq ho]; rfl
end Go.Tr

/-
  Holds that may be, and what keeps them so.
-/
namespace Go.Tr
structure InvH (t : Tree) (l : List Ho) : Prop where
  srt : SrtH l
  len : l.length ≤ 64
  key : ∀ x ∈ l, okK x.c x.h = true
  file : ∀ x ∈ l, ∃ q, find t.nodes x.ino = some q ∧ q.kind = 1
  orp : ∀ q ∈ t.nodes, orph q = true → hld l q.ino = true
theorem hld_mem {l : List Ho} {x : Ho} (h : x ∈ l) : hld l x.ino = true := by
  unfold hld
  rw [List.any_eq_true]
  exact ⟨x, h, by simp⟩
theorem InvH.teq {t u : Tree} {l : List Ho} (h : InvH t l) (e : Teq u t) : InvH u l :=
  ⟨h.srt, h.len, h.key, fun x hx => by rw [e.1]; exact h.file x hx, fun q hq => by rw [e.1] at hq; exact h.orp q hq⟩
/-- A tree swept, for holds of files that are there. -/
theorem InvH.swp {t : Tree} {l : List Ho} (hs : Srt t.nodes) (h1 : SrtH l) (h2 : l.length ≤ 64) (h3 : ∀ x ∈ l, okK x.c x.h = true) (h4 : ∀ x ∈ l, ∃ q, find t.nodes x.ino = some q ∧ q.kind = 1) : InvH (swp t l) l := by
  refine ⟨h1, h2, h3, fun x hx => ?_, fun q hq ho => ?_⟩
  · obtain ⟨q, hq, hk⟩ := h4 x hx
    refine ⟨q, ?_, hk⟩
    show find (t.nodes.filter (keepN l)) x.ino = some q
    rw [find_filter hs, hq]
    show (if keepN l q = true then some q else none) = some q
    rw [if_pos]
    unfold keepN
    rw [(find_mem hq).2, hld_mem hx]
    simp
  · have := (List.mem_filter.1 hq).2
    unfold keepN at this
    rw [ho] at this
    simpa using this
theorem InvH.sub {t : Tree} {l : List Ho} (hs : Srt t.nodes) (h : InvH t l) (p : Ho → Bool) : InvH (Tr.swp t (l.filter p)) (l.filter p) :=
  InvH.swp hs (h.srt.filter p) (Nat.le_trans (List.length_filter_le ..) h.len) (fun x hx => h.key x (List.mem_filter.1 hx).1) (fun x hx => h.file x (List.mem_filter.1 hx).1)
theorem InvH.close {t : Tree} {l : List Ho} (hs : Srt t.nodes) (h : InvH t l) (c k : Int) : InvH (closeP t l c k).1 (closeP t l c k).2.1 := by
  have h1 := close_teq hs h.srt (teq_self h.orp) c k
  have h2 := closeP_list h.srt t c k
  rw [h2] at h1 ⊢
  exact (h.sub hs _).teq h1
theorem InvH.gone {t : Tree} {l : List Ho} (hs : Srt t.nodes) (h : InvH t l) (c : Int) (ks : List Int) : InvH (goneL c ks t l).1 (goneL c ks t l).2 := by
  obtain ⟨h1, h2⟩ := gone_teq hs c ks h.srt (teq_self h.orp)
  rw [h2] at h1 ⊢
  exact (h.sub hs _).teq h1
theorem insH_len (l : List Ho) (x : Ho) : (insH l x).length = l.length + 1 := by
  unfold insH
  have := cutP_le (lessK x.c x.h) l
  rw [List.length_append, List.length_cons, List.length_take, List.length_drop]
  omega
theorem insH_mem {l : List Ho} {x y : Ho} : y ∈ insH l x ↔ y = x ∨ y ∈ l := by
  unfold insH
  have h : y ∈ l ↔ y ∈ l.take (cutP (lessK x.c x.h) l) ∨ y ∈ l.drop (cutP (lessK x.c x.h) l) := by
    rw [← List.mem_append, List.take_append_drop]
  rw [List.mem_append, List.mem_cons, h]
  constructor
  · rintro (h | h | h)
    · exact .inr (.inl h)
    · exact .inl h
    · exact .inr (.inr h)
  · rintro (h | h | h)
    · exact .inr (.inl h)
    · exact .inl h
    · exact .inr (.inr h)
theorem insH_srt {l : List Ho} {x : Ho} (hs : SrtH l) (hno : l.any (isK x.c x.h) = false) : SrtH (insH l x) := by
  unfold insH SrtH
  have hb : ∀ y ∈ l.take (cutP (lessK x.c x.h) l), lessK x.c x.h y = true := fun y hy => by
    obtain ⟨k, hk, rfl⟩ := List.mem_iff_getElem.1 hy
    rw [List.length_take] at hk
    rw [List.getElem_take]
    exact (cutH_iff hs x.c x.h (by omega)).1 (by omega)
  have ha : ∀ y ∈ l.drop (cutP (lessK x.c x.h) l), lessK y.c y.h x = true := fun y hy => by
    obtain ⟨k, hk, rfl⟩ := List.mem_iff_getElem.1 hy
    rw [List.length_drop] at hk
    rw [List.getElem_drop]
    have h1 := cutH_iff hs x.c x.h (k := cutP (lessK x.c x.h) l + k) (by omega)
    have h2 : ¬ lessK x.c x.h l[cutP (lessK x.c x.h) l + k] = true := fun h => by have := h1.2 h; omega
    have h3 : ¬ isK x.c x.h l[cutP (lessK x.c x.h) l + k] = true := fun h => by
      rw [← Bool.not_eq_true, List.any_eq_true] at hno
      exact hno ⟨_, List.getElem_mem _, h⟩
    unfold lessK isK at *
    rw [decide_eq_true_eq] at *
    omega
  rw [List.pairwise_append]
  refine ⟨hs.sublist (List.take_sublist _ _), List.pairwise_cons.2 ⟨ha, hs.sublist (List.drop_sublist _ _)⟩, fun y hy z hz => ?_⟩
  rcases List.mem_cons.1 hz with rfl | hz
  · exact hb y hy
  · have h1 := hb y hy
    have h2 := ha z hz
    unfold lessK at *
    rw [decide_eq_true_eq] at *
    omega
section
variable {ok : List UInt8 → Bool} {lt : List UInt8 → List UInt8 → Bool}
/-- What opening tells. -/
theorem openP_cases (t : Tree) (l : List Ho) (c h i : Int) : ((openP t l c h i).1 = l ∧ (openP t l c h i).2 ≠ 0) ∨ ∃ q, okK c h = true ∧ find t.nodes i = some q ∧ orph q = false ∧ q.kind ≠ 2 ∧ l.any (isK c h) = false ∧ l.length < 64 ∧ openP t l c h i = (insH l ⟨c, h, i⟩, 0) := by
  unfold openP
  split
  · exact .inl ⟨rfl, by simp⟩
  · rename_i h1
    split
    · exact .inl ⟨rfl, by simp⟩
    · rename_i q hq
      split
      · exact .inl ⟨rfl, by simp⟩
      · rename_i h2
        split
        · exact .inl ⟨rfl, by simp⟩
        · rename_i h3
          split
          · exact .inl ⟨rfl, by simp⟩
          · rename_i h4
            split
            · exact .inl ⟨rfl, by simp⟩
            · rename_i h5
              exact .inr ⟨q, by simpa using h1, hq, by simpa using h2, h3, by rw [← Bool.not_eq_true]; exact h4, by omega, rfl⟩
theorem InvH.open_ {t : Tree} {l : List Ho} (w : WF ok lt t) (h : InvH t l) (c k i : Int) : InvH t (openP t l c k i).1 := by
  rcases openP_cases t l c k i with ⟨h1, _⟩ | ⟨q, h1, h2, h3, h4, h5, h6, h7⟩
  · rw [h1]; exact h
  · rw [h7]
    refine ⟨insH_srt h.srt h5, by show (insH l _).length ≤ 64; rw [insH_len]; omega, fun x hx => ?_, fun x hx => ?_, fun q' hq' ho => ?_⟩
    · rcases insH_mem.1 hx with rfl | hx
      · exact h1
      · exact h.key x hx
    · rcases insH_mem.1 hx with rfl | hx
      · refine ⟨q, h2, ?_⟩
        rcases w.wf.kind _ _ h2 with hk | hk
        · exact hk
        · exact absurd hk h4
      · exact h.file x hx
    · have := h.orp q' hq' ho
      unfold hld at this ⊢
      rw [List.any_eq_true] at this ⊢
      obtain ⟨x, hx, hi⟩ := this
      exact ⟨x, insH_mem.2 (.inr hx), hi⟩
/-- A file stays, when a name is taken. -/
theorem un_keep {t : Tree} (w : WF ok lt t) (i : Int) (s : List UInt8) {j : Int} {q : Node} (hf : find t.nodes j = some q) (hk : q.kind = 1) : ∃ q', find (un ok t i s).1.nodes j = some q' ∧ q'.kind = 1 ∧ q'.data = q.data := by
  unfold Tr.un
  split
  · exact ⟨q, hf, hk, rfl⟩
  · rename_i h1
    split
    · exact ⟨q, hf, hk, rfl⟩
    · have h0 : (look ok t i s).2 = 0 := Classical.not_not.1 h1
      have hd : ∃ p, find t.nodes i = some p ∧ p.kind = 2 := by
        unfold Tr.look at h0
        split at h0
        · rename_i h2; exact absurd h0 h2
        · rename_i h2
          have h2 := Classical.not_not.1 h2
          unfold dirE at h2
          cases hp : find t.nodes i with
          | none => rw [hp] at h2; cases h2
          | some p =>
            rw [hp] at h2
            refine ⟨p, rfl, ?_⟩
            simp only at h2
            split at h2
            · assumption
            · cases h2
      obtain ⟨p, hp, hpk⟩ := hd
      have hij : j ≠ i := fun e => by rw [e, hp] at hf; obtain rfl := Option.some.inj hf; omega
      have hL : find (left t i s).nodes j = some q := by
        unfold Tr.left
        rw [find_withN w.wf.srt, if_neg]
        · exact hf
        · show ¬ j = (getZ t i).ino
          rw [getZ_of hp, (find_mem hp).2]
          exact hij
      have hsL : Srt (left t i s).nodes := ins_srt w.wf.srt
      generalize (look ok t i s).1 = x at *
      show ∃ q', find (unnamed (left t i s) x).nodes j = some q' ∧ _
      unfold unnamed
      split
      · rename_i h2
        have hxj : j ≠ x := fun e => by rw [← e, getZ_of hL] at h2; omega
        refine ⟨q, ?_, hk, rfl⟩
        show find ((left t i s).nodes.filter _) j = _
        rw [find_without hsL, if_neg hxj]
        exact hL
      · by_cases hxj : j = x
        · subst hxj
          rw [getZ_of hL]
          refine ⟨{ q with links := q.links - 1 }, ?_, hk, rfl⟩
          rw [find_withN hsL, if_pos]
          exact (find_mem hL).2.symm
        · cases hx : find (left t i s).nodes x with
          | none =>
            refine ⟨q, ?_, hk, rfl⟩
            rw [find_withN hsL, if_neg]
            · exact hL
            · show ¬ j = (getZ (left t i s) x).ino
              unfold getZ
              rw [hx]
              show ¬ j = 0
              have := (w.wf.pos _ _ hf).1
              omega
          | some m =>
            refine ⟨q, ?_, hk, rfl⟩
            rw [find_withN hsL, if_neg]
            · exact hL
            · show ¬ j = (getZ (left t i s) x).ino
              rw [getZ_of hx, (find_mem hx).2]
              exact hxj
theorem WF.close {t : Tree} (w : WF ok lt t) (l : List Ho) (c h : Int) : WF ok lt (closeP t l c h).1 := by
  unfold closeP
  split
  · exact w
  · simp only
    split
    · exact w.free _
    · exact w
theorem WF.gone (c : Int) (ks : List Int) : ∀ {t : Tree} (l : List Ho), WF ok lt t → WF ok lt (goneL c ks t l).1 := by
  induction ks with
  | nil => intro t l w; exact w
  | cons k ks ih =>
    intro t l w
    exact ih (closeP t l c k).2.1 (w.close l c k)
theorem WF.swept {t : Tree} (w : WF ok lt t) (l : List Ho) : WF ok lt (swept t l) := by
  have : ∀ (os : List Int) (t : Tree), WF ok lt t → WF ok lt (os.foldl (fun t i => if hld l i = false then (Tr.free t i).1 else t) t) := by
    intro os
    induction os with
    | nil => intro t w; exact w
    | cons i os ih =>
      intro t w
      rw [List.foldl_cons]
      apply ih
      split
      · exact w.free _
      · exact w
  exact this _ _ w
theorem WF.taken (o : Ord lt) {t : Tree} (w : WF ok lt t) (l : List Ho) (a : Act) : WF ok lt (takenT ok t l a) := (w.un o _ _).swept l
theorem InvH.taken (o : Ord lt) {t : Tree} {l : List Ho} (w : WF ok lt t) (h : InvH t l) (a : Act) : InvH (takenT ok t l a) l := by
  have hs := (w.un o (nodeAt t a.n) (nameOf a.m)).wf.srt
  refine (InvH.swp hs h.srt h.len h.key fun x hx => ?_).teq (swept_teq hs l)
  obtain ⟨q, hq, hk⟩ := h.file x hx
  obtain ⟨q', h1, h2, _⟩ := un_keep w (nodeAt t a.n) (nameOf a.m) hq hk
  exact ⟨q', h1, h2⟩
theorem WF.doneP (o : Ord lt) {t : Tree} (w : WF ok lt t) (l : List Ho) (a : Act) : WF ok lt (doneP ok t l a).1 := by
  unfold Tr.doneP
  split
  · exact w.close ..
  · exact w.close ..
  · dsimp only; exact WF.gone (whoA a) all_ l w
  · exact w.taken o l a
  · exact w
theorem InvH.doneP (o : Ord lt) {t : Tree} {l : List Ho} (w : WF ok lt t) (h : InvH t l) (a : Act) : InvH (doneP ok t l a).1 (doneP ok t l a).2.1 := by
  unfold Tr.doneP
  split
  · exact h.close w.wf.srt _ _
  · exact h.close w.wf.srt _ _
  · dsimp only; exact h.gone w.wf.srt (whoA a) all_
  · exact h.taken o w a
  · exact h.open_ w _ _ _
theorem WF.ownP (o : Ord lt) {t : Tree} (w : WF ok lt t) (l : List Ho) (a : Act) : WF ok lt (ownP ok t l a).1 := by
  unfold Tr.ownP
  split
  · exact w.close ..
  · exact w.close ..
  · exact WF.gone (whoA a) (own_ l (whoA a)) l w
  · exact w.taken o l a
  · exact w
theorem InvH.ownP (o : Ord lt) {t : Tree} {l : List Ho} (w : WF ok lt t) (h : InvH t l) (a : Act) : InvH (ownP ok t l a).1 (ownP ok t l a).2.1 := by
  unfold Tr.ownP
  split
  · exact h.close w.wf.srt _ _
  · exact h.close w.wf.srt _ _
  · exact h.gone w.wf.srt (whoA a) (own_ l (whoA a))
  · exact h.taken o w a
  · exact h.open_ w _ _ _
theorem made_inv (o : Ord lt) (as : List Act) : ∀ {t : Tree} {l : List Ho}, WF ok lt t → InvH t l → WF ok lt (as.foldl (fun s a => ((Tr.doneP ok s.1 s.2 a).1, (Tr.doneP ok s.1 s.2 a).2.1)) (t, l)).1 ∧ InvH (as.foldl (fun s a => ((Tr.doneP ok s.1 s.2 a).1, (Tr.doneP ok s.1 s.2 a).2.1)) (t, l)).1 (as.foldl (fun s a => ((Tr.doneP ok s.1 s.2 a).1, (Tr.doneP ok s.1 s.2 a).2.1)) (t, l)).2 := by
  induction as with
  | nil => intro t l w h; exact ⟨w, h⟩
  | cons a as ih =>
    intro t l w h
    rw [List.foldl_cons]
    exact ih (w.doneP o l a) (h.doneP o w a)
theorem start_inv {t : Tree} (w : WF ok lt t) : WF ok lt (swept t []) ∧ InvH (swept t []) [] := by
  refine ⟨w.swept [], ?_⟩
  refine (InvH.swp w.wf.srt List.Pairwise.nil (by simp) (fun x hx => by cases hx) (fun x hx => by cases hx)).teq (swept_teq w.wf.srt [])
/-- Made by steps and acts. -/
theorem madeH_inv (o : Ord lt) {t : Tree} (w : WF ok lt t) (as : List Act) : WF ok lt (madeH ok (swept t []) as).1 ∧ InvH (madeH ok (swept t []) as).1 (madeH ok (swept t []) as).2 :=
  made_inv o as (start_inv w).1 (start_inv w).2
end
theorem rightH_of {t : Tree} (hs : Srt t.nodes) {l : List Ho} (h : InvH t l) : rightH t l = true := by
  unfold rightH
  rw [Bool.and_eq_true, Bool.and_eq_true, decide_eq_true_eq, List.all_eq_true, List.all_eq_true]
  refine ⟨h.len, fun i hi => ?_, fun i hi => ?_⟩
  · have hi := List.mem_range.1 hi
    unfold rowH
    rw [List.getElem?_eq_getElem hi]
    obtain ⟨q, h1, h2⟩ := h.file _ (List.getElem_mem hi)
    simp only
    rw [h.key _ (List.getElem_mem hi), h1]
    simp only [Option.elim_some, h2, Bool.true_and, decide_true, Bool.or_eq_true, decide_eq_true_eq]
    rcases Nat.eq_zero_or_pos i with h3 | h3
    · exact .inl h3
    · right
      rw [List.getElem?_eq_getElem (show i - 1 < l.length by omega)]
      exact (List.pairwise_iff_getElem.1 h.srt) (i - 1) i (by omega) hi (by omega)
  · unfold orphs at hi
    obtain ⟨q, hq, rfl⟩ := List.mem_map.1 hi
    obtain ⟨h1, h2⟩ := List.mem_filter.1 hq
    exact h.orp q h1 h2
end Go.Tr

/-
  What opening, closing and going make, for the statements.
-/
namespace Go.Tr
theorem any_none {l : List Ho} {p : Ho → Bool} (h : l.any p = false) : l.find? p = none := by
  rw [List.find?_eq_none]
  intro x hx hp
  rw [← Bool.not_eq_true, List.any_eq_true] at h
  exact h ⟨x, hx, hp⟩
theorem isK_self (x : Ho) : isK x.c x.h x = true := by simp [isK]
theorem ins_find {l : List Ho} {x : Ho} (h : l.any (isK x.c x.h) = false) : (insH l x).find? (isK x.c x.h) = some x := by
  unfold insH
  rw [List.find?_append, any_none, Option.none_or, List.find?_cons_of_pos (isK_self x)]
  rw [← Bool.not_eq_true, List.any_eq_true] at h ⊢
  rintro ⟨y, hy, hp⟩
  exact h ⟨y, List.mem_of_mem_take hy, hp⟩
theorem cut_out (a b : List Ho) (x : Ho) : (a ++ x :: b).take a.length ++ (a ++ x :: b).drop (a.length + 1) = a ++ b := by
  induction a with
  | nil => simp
  | cons y a ih => simp
theorem ins_rem {l : List Ho} {x : Ho} (h : l.any (isK x.c x.h) = false) : remH (insH l x) x.c x.h = l := by
  have hc := cutP_le (lessK x.c x.h) l
  have hi : (insH l x).findIdx (isK x.c x.h) = cutP (lessK x.c x.h) l := by
    unfold insH
    rw [List.findIdx_append, List.length_take, Nat.min_eq_left hc, if_neg, List.findIdx_cons, isK_self]
    · simp
    · intro hlt
      have := List.findIdx_lt_length.1 (by rw [List.length_take, Nat.min_eq_left hc]; exact hlt)
      obtain ⟨y, hy, hp⟩ := this
      rw [← Bool.not_eq_true, List.any_eq_true] at h
      exact h ⟨y, List.mem_of_mem_take hy, hp⟩
  unfold remH
  rw [hi]
  unfold insH
  have e1 : (l.take (cutP (lessK x.c x.h) l)).length = cutP (lessK x.c x.h) l := by rw [List.length_take, Nat.min_eq_left hc]
  have e2 := cut_out (l.take (cutP (lessK x.c x.h) l)) (l.drop (cutP (lessK x.c x.h) l)) x
  rw [e1, List.take_append_drop] at e2
  exact e2
theorem openP_back {t : Tree} {l : List Ho} {c h i : Int} (hok : (openP t l c h i).2 = 0) : inoP (openP t l c h i).1 c h = (i, 0) ∧ inoP l c h = (0, 80) ∧ closeP t (openP t l c h i).1 c h = (t, l, 0) ∧ (openP t l c h i).1.length = l.length + 1 := by
  rcases openP_cases t l c h i with ⟨_, h1⟩ | ⟨q, h1, h2, h3, h4, h5, h6, h7⟩
  · exact absurd hok h1
  · rw [h7]
    have hf := ins_find (l := l) (x := ⟨c, h, i⟩) h5
    have hr := ins_rem (l := l) (x := ⟨c, h, i⟩) h5
    have hio : isO t i = false := by unfold isO; rw [h2]; exact h3
    simp only at hf hr
    refine ⟨?_, ?_, ?_, ?_⟩
    · unfold inoP; simp only; rw [hf]
    · unfold inoP; rw [any_none h5]
    · unfold closeP; simp only; rw [hf]; simp only; rw [hr, hio]; simp
    · show (insH l _).length = _
      rw [insH_len]
theorem openP_no {t : Tree} {l : List Ho} {c h i : Int} (hok : (openP t l c h i).2 ≠ 0) : (openP t l c h i).1 = l := by
  rcases openP_cases t l c h i with ⟨h0, _⟩ | ⟨q, h1, h2, h3, h4, h5, h6, h7⟩
  · exact h0
  · rw [h7] at hok; exact absurd rfl hok
end Go.Tr
namespace Go.Tr
theorem own_contains {l : List Ho} {x : Ho} (hx : x ∈ l) : (own_ l x.c).contains x.h = true := by
  rw [List.contains_iff_mem]
  unfold own_
  exact List.mem_map.2 ⟨x, List.mem_filter.2 ⟨hx, by simp⟩, rfl⟩
theorem all_contains {x : Ho} (hx : okK x.c x.h = true) : all_.contains x.h = true := by
  unfold okK at hx
  rw [decide_eq_true_eq] at hx
  rw [List.contains_iff_mem]
  unfold all_
  refine List.mem_map.2 ⟨x.h.toNat, List.mem_range.2 (by omega), ?_⟩
  show ((x.h.toNat : Nat) : Int) = x.h
  omega
theorem gone_own {t : Tree} {l : List Ho} (hs : Srt t.nodes) (h : InvH t l) (c : Int) : (goneL c (own_ l c) t l).2 = l.filter fun x => !decide (x.c = c) := by
  rw [(gone_teq hs c (own_ l c) h.srt (teq_self h.orp)).2]
  refine List.filter_congr fun x hx => ?_
  by_cases hc : x.c = c
  · subst hc
    rw [own_contains hx]
    simp
  · simp [hc]
theorem gone_all {t : Tree} {l : List Ho} (hs : Srt t.nodes) (h : InvH t l) (c : Int) : (goneL c all_ t l).2 = l.filter fun x => !decide (x.c = c) := by
  rw [(gone_teq hs c all_ h.srt (teq_self h.orp)).2]
  refine List.filter_congr fun x hx => ?_
  rw [all_contains (h.key x hx)]
  simp
theorem own_done {ok : List UInt8 → Bool} {t : Tree} {l : List Ho} (hs : Srt t.nodes) (h : InvH t l) (a : Act) : (ownP ok t l a).2 = (doneP ok t l a).2 ∧ Teq (ownP ok t l a).1 (doneP ok t l a).1 := by
  unfold ownP doneP
  split
  · exact ⟨rfl, Teq.rfl'⟩
  · exact ⟨rfl, Teq.rfl'⟩
  · dsimp only
    have e1 := gone_own hs h (whoA a)
    have e2 := gone_all hs h (whoA a)
    have h1 := (gone_teq hs (whoA a) (own_ l (whoA a)) h.srt (teq_self h.orp)).1
    have h2 := (gone_teq hs (whoA a) all_ h.srt (teq_self h.orp)).1
    rw [e1] at h1 ⊢
    rw [e2] at h2 ⊢
    exact ⟨rfl, h1.trans h2.symm⟩
  · exact ⟨rfl, Teq.rfl'⟩
  · exact ⟨rfl, Teq.rfl'⟩
end Go.Tr

/-
  What an act keeps.
-/
namespace Go.Tr
theorem hld_ins {l : List Ho} {x : Ho} {i : Int} (h : hld l i = true) : hld (insH l x) i = true := by
  unfold hld at h ⊢
  rw [List.any_eq_true] at h ⊢
  obtain ⟨y, hy, hi⟩ := h
  exact ⟨y, insH_mem.2 (.inr hy), hi⟩
section
variable {ok : List UInt8 → Bool} {lt : List UInt8 → List UInt8 → Bool}
theorem own_swp {t : Tree} {l : List Ho} (w : WF ok lt t) (h : InvH t l) (a : Act) (ha : a.d % 8 ≠ 7) : Teq (ownP ok t l a).1 (swp t (ownP ok t l a).2.1) := by
  unfold ownP
  split
  · exact close_teq w.wf.srt h.srt (teq_self h.orp) _ _
  · exact close_teq w.wf.srt h.srt (teq_self h.orp) _ _
  · dsimp only
    exact (gone_teq w.wf.srt (whoA a) (own_ l (whoA a)) h.srt (teq_self h.orp)).1
  · rename_i h7
    exact absurd h7 ha
  · dsimp only
    exact teq_self (h.open_ w _ _ _).orp
theorem own_kept (o : Ord lt) {t : Tree} {l : List Ho} (w : WF ok lt t) (h : InvH t l) (a : Act) : ∀ x ∈ (ownP ok t l a).2.1, ∃ p q, find (ownP ok t l a).1.nodes x.ino = some p ∧ find t.nodes x.ino = some q ∧ p.data = q.data ∧ p.kind = 1 := by
  intro x hx
  obtain ⟨p, hp, hk⟩ := (h.ownP o w a).file x hx
  by_cases ha : a.d % 8 = 7
  · have e : ownP ok t l a = (takenT ok t l a, l, 0) := by unfold ownP; rw [ha]; rfl
    rw [e] at hx hp ⊢
    simp only at hx hp ⊢
    obtain ⟨q, hq, hqk⟩ := h.file x hx
    obtain ⟨q', h1, h2, h3⟩ := un_keep w (nodeAt t a.n) (nameOf a.m) hq hqk
    refine ⟨p, q, hp, hq, ?_, hk⟩
    have hs := (w.un o (nodeAt t a.n) (nameOf a.m)).wf.srt
    have e2 := (swept_teq hs l).1
    unfold takenT at hp
    rw [e2] at hp
    have hp : find ((un ok t (nodeAt t a.n) (nameOf a.m)).1.nodes.filter (keepN l)) x.ino = some p := hp
    rw [find_filter hs, h1] at hp
    have hp : (if keepN l q' = true then some q' else none) = some p := hp
    split at hp
    · obtain rfl := Option.some.inj hp
      exact h3
    · cases hp
  · have e := (own_swp w h a ha).1
    refine ⟨p, p, hp, ?_, rfl, hk⟩
    rw [e] at hp
    have hp : find (t.nodes.filter (keepN (ownP ok t l a).2.1)) x.ino = some p := hp
    rw [find_filter w.wf.srt] at hp
    cases hq : find t.nodes x.ino with
    | none => rw [hq] at hp; cases hp
    | some q =>
      rw [hq] at hp
      have hp : (if keepN (ownP ok t l a).2.1 q = true then some q else none) = some p := hp
      split at hp
      · exact hp
      · cases hp
/-- Whom it takes, and whom not. -/
theorem own_find {t : Tree} {l : List Ho} (w : WF ok lt t) (h : InvH t l) (a : Act) (ha : a.d % 8 ≠ 7) {q : Node} (hq : q ∈ t.nodes) : find (ownP ok t l a).1.nodes q.ino = if keepN (ownP ok t l a).2.1 q = true then some q else none := by
  rw [(own_swp w h a ha).1]
  show find (t.nodes.filter _) _ = _
  rw [find_filter w.wf.srt, find_of w.wf.srt hq]
  rfl
theorem own_fewer {t : Tree} {l : List Ho} (w : WF ok lt t) (h : InvH t l) (a : Act) (ha : a.d % 8 ≠ 7) : (ownP ok t l a).1.nodes.length ≤ t.nodes.length := by
  rw [(own_swp w h a ha).1]
  exact List.length_filter_le ..
end
end Go.Tr

/-
  Who is gone holds nothing.
-/
namespace Go.Tr
theorem gone_any {t : Tree} {l : List Ho} (hs : Srt t.nodes) (h : InvH t l) (c : Int) (ks : List Int) (hk : ∀ x ∈ l, x.c = c → ks.contains x.h = true) : (goneL c ks t l).2 = l.filter (fun x => !decide (x.c = c)) ∧ Teq (goneL c ks t l).1 (swp t (l.filter fun x => !decide (x.c = c))) := by
  obtain ⟨h1, h2⟩ := gone_teq hs c ks h.srt (teq_self h.orp)
  have e : (l.filter fun x => !(decide (x.c = c) && ks.contains x.h)) = l.filter fun x => !decide (x.c = c) := by
    refine List.filter_congr fun x hx => ?_
    by_cases hc : x.c = c
    · rw [hk x hx hc]; simp
    · simp [hc]
  rw [e] at h2
  rw [h2] at h1
  exact ⟨h2, h1⟩
theorem own_rev {l : List Ho} (c : Int) : ∀ x ∈ l, x.c = c → (own_ l.reverse c).contains x.h = true := by
  intro x hx hc
  rw [List.contains_iff_mem]
  unfold own_
  exact List.mem_map.2 ⟨x, List.mem_filter.2 ⟨List.mem_reverse.2 hx, by simpa using hc⟩, rfl⟩
/-- A handle that is held can be closed. -/
theorem close_ok {t : Tree} {l : List Ho} {x : Ho} (hx : x ∈ l) : (closeP t l x.c x.h).2.2 = 0 := by
  unfold closeP
  cases hf : l.find? (isK x.c x.h) with
  | none => exact absurd (isK_self x) (List.find?_eq_none.1 hf x hx)
  | some y => rfl
theorem close_stay {t : Tree} {l : List Ho} (hs : SrtH l) {c h : Int} {y : Ho} (hy : y ∈ l) (hk : isK c h y = false) : y ∈ (closeP t l c h).2.1 := by
  rw [closeP_list hs]
  exact List.mem_filter.2 ⟨hy, by rw [hk]; rfl⟩
theorem key_ne {l : List Ho} (hs : SrtH l) {i j : Nat} (hij : i < j) (hj : j < l.length) : isK l[j].c l[j].h (l[i]'(by omega)) = false := by
  have := (List.pairwise_iff_getElem.1 hs) i j (by omega) hj hij
  unfold lessK at this
  unfold isK
  rw [decide_eq_true_eq] at this
  rw [decide_eq_false_iff_not]
  omega
theorem InvH.none {t : Tree} (hs : Srt t.nodes) {l : List Ho} (h : InvH t l) (hl : l = []) : ∀ q ∈ t.nodes, orph q = false := by
  intro q hq
  cases ho : orph q with
  | false => rfl
  | true =>
    have := h.orp q hq ho
    rw [hl] at this
    cases this
end Go.Tr
namespace Go.Tr
theorem filter_sum {α : Type} (p : α → Bool) (l : List α) : (l.filter fun x => !p x).length + (l.filter p).length = l.length := by
  induction l with
  | nil => rfl
  | cons x l ih =>
    rw [List.filter_cons, List.filter_cons]
    cases h : p x <;> simp <;> omega
/-- One client more is gone. -/
theorem gone_next {t : Tree} (ht : Srt t.nodes) {u : Tree} {n l : List Ho} (hn : SrtH n) (hu : Teq u (swp t n)) (k : Nat) (he : n = l.filter fun x => decide ((k : Int) ≤ x.c)) : Teq (goneL k (own_ n k) u n).1 (swp t (goneL k (own_ n k) u n).2) ∧ (goneL k (own_ n k) u n).2 = l.filter fun x => decide (((k + 1 : Nat) : Int) ≤ x.c) := by
  obtain ⟨h1, h2⟩ := gone_teq ht (k : Int) (own_ n k) hn hu
  refine ⟨h1, ?_⟩
  rw [h2]
  have e : (n.filter fun x => !(decide (x.c = (k : Int)) && (own_ n k).contains x.h)) = n.filter fun x => !decide (x.c = (k : Int)) := by
    refine List.filter_congr fun x hx => ?_
    by_cases hc : x.c = (k : Int)
    · have := own_contains hx
      rw [hc] at this
      rw [this]; simp
    · simp [hc]
  rw [e, he, List.filter_filter]
  refine List.filter_congr fun x hx => ?_
  rw [Bool.eq_iff_iff]
  simp only [Bool.and_eq_true, Bool.not_eq_true', decide_eq_false_iff_not, decide_eq_true_eq]
  omega
theorem orphs_srt {t : Tree} (hs : Srt t.nodes) : (orphs t).Pairwise fun a b => a < b := by
  unfold orphs
  rw [List.pairwise_map]
  exact hs.filter _
theorem orphs_is {t : Tree} (hs : Srt t.nodes) {i : Int} (hi : i ∈ orphs t) : ∃ q, find t.nodes i = some q ∧ q.kind = 1 ∧ q.links = 0 ∧ q ∈ t.nodes ∧ orph q = true ∧ q.ino = i := by
  unfold orphs at hi
  obtain ⟨q, hq, rfl⟩ := List.mem_map.1 hi
  obtain ⟨h1, h2⟩ := List.mem_filter.1 hq
  have h3 : q.kind = 1 ∧ q.links = 0 := of_decide_eq_true h2
  exact ⟨q, find_of hs h1, h3.1, h3.2, h1, h2, rfl⟩
end Go.Tr
namespace Go.Tr
theorem own_refused {ok : List UInt8 → Bool} {t : Tree} {l : List Ho} {a : Act} (he : (ownP ok t l a).2.2 ≠ 0) : (ownP ok t l a).1 = t ∧ (ownP ok t l a).2.1 = l := by
  have hc : ∀ c h, (closeP t l c h).2.2 ≠ 0 → (closeP t l c h).1 = t ∧ (closeP t l c h).2.1 = l := fun c h he => by
    unfold closeP at he ⊢
    split at he
    · exact ⟨rfl, rfl⟩
    · exact absurd rfl he
  unfold ownP at he ⊢
  split at he
  · exact hc _ _ he
  · exact hc _ _ he
  · exact absurd rfl he
  · exact absurd rfl he
  · dsimp only at he ⊢
    exact ⟨rfl, openP_no he⟩
end Go.Tr
