/-
  Files and directories, as the document tells them (layer 7), in plain Lean: no program in sight.
-/
import Derived.Test.YtfdenmkoampgnaaGreatAmGT
set_option linter.unusedSimpArgs false
set_option linter.unusedVariables false
namespace Go.Tr

structure Ent where
  name : List UInt8
  ino : Int
  cookie : Int
deriving DecidableEq
/-- A node; 'fd', 'fe': whether its rows' capacities are their lengths. -/
structure Node where
  ino : Int
  kind : Int
  links : Int
  fd : Bool
  data : List UInt8
  fe : Bool
  ents : List Ent
  up : Int
deriving DecidableEq
structure Tree where
  fn : Bool
  nodes : List Node
  next : Int
  cookie : Int
deriving DecidableEq
def nodeZ : Node := ⟨0, 0, 0, true, [], true, [], 0⟩
def newT : Tree := ⟨true, [⟨1, 2, 0, true, [], true, [], 1⟩], 2, 1⟩
def find (l : List Node) (i : Int) : Option Node := l.find? fun n => decide (n.ino = i)
def dirE (t : Tree) (i : Int) : Int := match find t.nodes i with
  | none => 70
  | some n => if n.kind = 2 then 0 else 73
def dirN (t : Tree) (i : Int) : Node := match find t.nodes i with
  | none => nodeZ
  | some n => if n.kind = 2 then n else nodeZ
def entOf (n : Node) (s : List UInt8) : Option Ent := n.ents.find? fun e => decide (e.name = s)
/-- A node more, or another one, in its place. -/
def ins (n : Node) (l : List Node) : List Node := (l.takeWhile fun m => decide (m.ino < n.ino)) ++ n :: (l.dropWhile fun m => decide (m.ino < n.ino)).filter fun m => decide (m.ino ≠ n.ino)
def withN (t : Tree) (n : Node) : Tree := ⟨false, ins n t.nodes, t.next, t.cookie⟩
def without (t : Tree) (i : Int) : Tree := ⟨false, t.nodes.filter fun m => decide (m.ino ≠ i), t.next, t.cookie⟩
/-- An entry more, in its place. -/
def insE (lt : List UInt8 → List UInt8 → Bool) (e : Ent) (l : List Ent) : List Ent := (l.takeWhile fun x => !lt e.name x.name) ++ e :: l.dropWhile fun x => !lt e.name x.name
def getZ (t : Tree) (i : Int) : Node := (find t.nodes i).getD nodeZ
def entered (lt : List UInt8 → List UInt8 → Bool) (t : Tree) (i : Int) (s : List UInt8) (of : Int) : Tree :=
  withN ⟨t.fn, t.nodes, t.next, t.cookie + 1⟩ { getZ t i with fe := false, ents := insE lt ⟨s, of, t.cookie⟩ (getZ t i).ents }
def left (t : Tree) (i : Int) (s : List UInt8) : Tree :=
  withN t { getZ t i with fe := false, ents := (getZ t i).ents.filter fun e => decide (e.name ≠ s) }
def upN (t : Tree) (i : Int) : Int := (find t.nodes i).elim 0 Node.up
def depF (t : Tree) : Nat → Int → Nat
  | 0, _ => 0
  | k + 1, i => if i = 1 then 0 else depF t k (upN t i) + 1
def depth (t : Tree) (i : Int) : Nat := depF t 201 i
def belF (t : Tree) : Nat → Int → Int → Bool
  | 0, _, _ => false
  | k + 1, i, o => if i = o then true else if i = 1 then false else belF t k (upN t i) o
def below (t : Tree) (i o : Int) : Bool := belF t (t.nodes.length + 1) i o
def full (t : Tree) (n : Node) : Bool := decide (64 ≤ n.ents.length) || (decide (12 ≤ depth t n.ino) || decide (1099511627776 ≤ t.cookie))
section
variable (ok : List UInt8 → Bool) (lt : List UInt8 → List UInt8 → Bool)
/-- Why there is no entry more. -/
def enter (t : Tree) (i : Int) (s : List UInt8) : Int :=
  if dirE t i ≠ 0 then dirE t i else if ok s = false then 60 else if (entOf (dirN t i) s).isSome = true then 71 else if full t (dirN t i) = true then 76 else 0
def add (t : Tree) (i : Int) (s : List UInt8) (kind : Int) : Tree × Int × Int :=
  if kind ≠ 1 ∧ kind ≠ 2 then (t, 0, 1) else if enter ok t i s ≠ 0 then (t, 0, enter ok t i s) else if (200 ≤ t.nodes.length ∨ 1099511627776 ≤ t.next) then (t, 0, 76) else
  (entered lt (withN ⟨t.fn, t.nodes, t.next + 1, t.cookie⟩ ⟨t.next, kind, 1, true, [], true, [], if kind = 2 then i else 0⟩) i s t.next, t.next, 0)
def ln (t : Tree) (i : Int) (to : Int) (s : List UInt8) : Tree × Int :=
  match find t.nodes i with
  | none => (t, 70)
  | some n => if n.kind = 1 ∧ n.links = 0 then (t, 70) else if n.kind = 2 then (t, 72) else if enter ok t to s ≠ 0 then (t, enter ok t to s) else
    (entered lt (withN t { n with links := n.links + 1 }) to s i, 0)
def look (t : Tree) (i : Int) (s : List UInt8) : Int × Int :=
  if dirE t i ≠ 0 then (0, dirE t i) else if ok s = false then (0, 60) else match entOf (dirN t i) s with
  | none => (0, 70)
  | some e => (e.ino, 0)
def unnamed (t : Tree) (i : Int) : Tree := if (getZ t i).kind = 2 then without t i else withN t { getZ t i with links := (getZ t i).links - 1 }
def un (t : Tree) (i : Int) (s : List UInt8) : Tree × Int × Int :=
  if (look ok t i s).2 ≠ 0 then (t, 0, (look ok t i s).2) else if 0 < (getZ t (look ok t i s).1).ents.length then (t, 0, 74) else
  (unnamed (left t i s) (look ok t i s).1, (look ok t i s).1, 0)
def high (t : Tree) (i : Int) (at_ : Int) : Int :=
  t.nodes.foldl (fun m n => if n.kind = 2 ∧ below t n.ino i = true then max m (at_ + depth t n.ino - depth t i + if 0 < n.ents.length then 1 else 0) else m) 0
def clash (t : Tree) (x : Node) (y : Int) : Int := match find t.nodes y with
  | none => 0
  | some n => if x.kind = 2 ∧ n.kind ≠ 2 then 73 else if x.kind ≠ 2 ∧ n.kind = 2 then 72 else if 0 < n.ents.length then 74 else 0
/-- What a name is moved onto. -/
def onto (t : Tree) (to : Int) (as : List UInt8) : Int := (entOf (dirN t to) as).elim 0 Ent.ino
def moved (t : Tree) (from_ : Int) (s : List UInt8) (to : Int) (as : List UInt8) (i y : Int) : Tree :=
  let u := left t from_ s
  let u := if y ≠ 0 then unnamed (left u to as) y else u
  let u := if (getZ t i).kind = 2 then withN u { getZ t i with up := to } else u
  entered lt u to as i
def mv (t : Tree) (from_ : Int) (s : List UInt8) (to : Int) (as : List UInt8) : Tree × Int × Int :=
  if (look ok t from_ s).2 ≠ 0 then (t, 0, (look ok t from_ s).2) else if dirE t to ≠ 0 then (t, 0, dirE t to) else if ok as = false then (t, 0, 60) else
  let i := (look ok t from_ s).1
  let y := onto t to as
  let x := getZ t i
  if y = i then (t, 0, 0) else if x.kind = 2 ∧ below t to i = true then (t, 0, 75) else if clash t x y ≠ 0 then (t, 0, clash t x y) else
  if (y = 0 ∧ to ≠ from_ ∧ 64 ≤ (dirN t to).ents.length) ∨ 12 ≤ depth t to ∨ (x.kind = 2 ∧ 12 < high t i (depth t to + 1)) ∨ 1099511627776 ≤ t.cookie then (t, 0, 76) else
  (moved lt t from_ s to as i y, y, 0)
def put (t : Tree) (i : Int) (data : List UInt8) : Tree × Int := match find t.nodes i with
  | none => (t, 70)
  | some n => if n.kind = 2 then (t, 72) else if 4096 < data.length then (t, 2) else (withN t { n with fd := false, data := data }, 0)
def free (t : Tree) (i : Int) : Tree × Int := match find t.nodes i with
  | none => (t, 70)
  | some n => if n.kind = 2 then (t, 72) else if 0 < n.links then (t, 71) else (without t i, 0)
/-- What is done with a tree. -/
structure Step where
  kind : Nat
  a : Nat
  b : Nat
  n : Nat
  m : Nat
  data : List UInt8
def names : List (List UInt8) := [[97], [98], [99], [100], [101], [46, 46]]
def nameOf (n : Nat) : List UInt8 := names.getD (n % 6) []
def nodeAt (t : Tree) (n : Nat) : Int := ((t.nodes[n % (t.nodes.length + 1)]?).elim t.next Node.ino)
def step (t : Tree) (s : Step) : Tree :=
  match s.kind % 8 with
  | 0 | 1 => (add ok lt t (nodeAt t s.a) (nameOf s.n) (s.m % 2 + 1 : Nat)).1
  | 2 => (ln ok lt t (nodeAt t s.b) (nodeAt t s.a) (nameOf s.n)).1
  | 3 => (un ok t (nodeAt t s.a) (nameOf s.n)).1
  | 4 | 5 => (mv ok lt t (nodeAt t s.a) (nameOf s.n) (nodeAt t s.b) (nameOf s.m)).1
  | 6 => (put t (nodeAt t s.a) s.data).1
  | _ => (free t (nodeAt t s.a)).1
def made (l : List Step) : Tree := l.foldl (step ok lt) newT
end

/-! Rows by number. -/
def Srt (l : List Node) : Prop := l.Pairwise fun m n => m.ino < n.ino
theorem find_mem {l : List Node} {i : Int} {n : Node} (h : find l i = some n) : n ∈ l ∧ n.ino = i := ⟨List.mem_of_find?_eq_some h, by simpa using List.find?_some h⟩
theorem find_of {l : List Node} (hs : Srt l) {n : Node} (h : n ∈ l) : find l n.ino = some n := by
  induction l with
  | nil => cases h
  | cons m l ih =>
    obtain ⟨h1, h2⟩ := List.pairwise_cons.1 hs
    unfold find
    rw [List.find?_cons]
    rcases List.mem_cons.1 h with rfl | h
    · simp
    · have := h1 n h
      rw [decide_eq_false (by omega)]
      exact ih h2 h
theorem find_none {l : List Node} {i : Int} : find l i = none ↔ ∀ n ∈ l, n.ino ≠ i := by
  unfold find
  rw [List.find?_eq_none]
  simp
/-- With a row that is sorted, its shape is plain. -/
theorem ins_cons (n m : Node) (l : List Node) (hs : Srt (m :: l)) : ins n (m :: l) = if m.ino < n.ino then m :: ins n l else if m.ino = n.ino then n :: l else n :: m :: l := by
  obtain ⟨h1, _⟩ := List.pairwise_cons.1 hs
  unfold ins
  by_cases c1 : m.ino < n.ino
  · simp [c1]
  · have hf : n.ino ≤ m.ino → (l.filter fun m => decide (m.ino ≠ n.ino)) = l := fun h => List.filter_eq_self.2 fun q hq => by
      have := h1 q hq
      simp; omega
    have hf := hf (by omega)
    rw [if_neg c1, List.takeWhile_cons, List.dropWhile_cons, decide_eq_false c1]
    simp only [Bool.false_eq_true, if_false, List.nil_append, List.filter_cons]
    by_cases c2 : m.ino = n.ino
    · rw [if_pos c2, decide_eq_false (by simp [c2])]
      simp only [Bool.false_eq_true, if_false]
      rw [hf]
    · rw [if_neg c2, decide_eq_true c2]
      simp only [if_true]
      rw [hf]
theorem ins_mem {n m : Node} : ∀ {l : List Node}, Srt l → (m ∈ ins n l ↔ m = n ∨ (m ∈ l ∧ m.ino ≠ n.ino))
  | [], _ => by simp [ins]
  | q :: l, h => by
    obtain ⟨h1, h2⟩ := List.pairwise_cons.1 h
    have ih := ins_mem (n := n) (m := m) h2
    rw [ins_cons n q l h]
    split
    · rename_i hc
      rw [List.mem_cons, ih, List.mem_cons]
      constructor
      · rintro (rfl | h | h)
        · exact .inr ⟨.inl rfl, by omega⟩
        · exact .inl h
        · exact .inr ⟨.inr h.1, h.2⟩
      · rintro (h | ⟨rfl | h, h'⟩)
        · exact .inr (.inl h)
        · exact .inl rfl
        · exact .inr (.inr ⟨h, h'⟩)
    · split
      · rename_i hc
        rw [List.mem_cons, List.mem_cons]
        constructor
        · rintro (h | h)
          · exact .inl h
          · exact .inr ⟨.inr h, by have := h1 m h; omega⟩
        · rintro (h | ⟨rfl | h, h'⟩)
          · exact .inl h
          · exact absurd hc h'
          · exact .inr h
      · rename_i hc1 hc2
        rw [List.mem_cons, List.mem_cons]
        constructor
        · rintro (h | rfl | h)
          · exact .inl h
          · exact .inr ⟨.inl rfl, hc2⟩
          · exact .inr ⟨.inr h, by have := h1 m h; omega⟩
        · rintro (h | ⟨h, h'⟩)
          · exact .inl h
          · exact .inr h
theorem ins_srt {n : Node} : ∀ {l : List Node}, Srt l → Srt (ins n l)
  | [], _ => by simp [ins, Srt]
  | q :: l, h => by
    obtain ⟨h1, h2⟩ := List.pairwise_cons.1 h
    rw [ins_cons n q l h]
    split
    · rename_i hc
      refine List.pairwise_cons.2 ⟨fun m hm => ?_, ins_srt h2⟩
      rcases (ins_mem h2).1 hm with rfl | hm
      · exact hc
      · exact h1 m hm.1
    · split
      · rename_i hc
        exact List.pairwise_cons.2 ⟨fun m hm => by have := h1 m hm; omega, h2⟩
      · rename_i hc1 hc2
        refine List.pairwise_cons.2 ⟨fun m hm => ?_, h⟩
        rcases List.mem_cons.1 hm with rfl | hm
        · omega
        · have := h1 m hm; omega
theorem find_ins {n : Node} {l : List Node} (hs : Srt l) (i : Int) : find (ins n l) i = if i = n.ino then some n else find l i := by
  have hs' := ins_srt (n := n) hs
  by_cases h : i = n.ino
  · subst h
    rw [if_pos rfl]
    exact find_of hs' ((ins_mem hs).2 (.inl rfl))
  · rw [if_neg h]
    cases hf : find l i with
    | none =>
      rw [find_none] at hf ⊢
      intro m hm
      rcases (ins_mem hs).1 hm with rfl | hm
      · exact fun e => h e.symm
      · exact hf m hm.1
    | some m =>
      obtain ⟨h1, rfl⟩ := find_mem hf
      exact find_of hs' ((ins_mem hs).2 (.inr ⟨h1, h⟩))
theorem filter_srt {l : List Node} (h : Srt l) (p : Node → Bool) : Srt (l.filter p) := List.Pairwise.filter p h
theorem find_without {l : List Node} (hs : Srt l) (i j : Int) : find (l.filter fun m => decide (m.ino ≠ i)) j = if j = i then none else find l j := by
  by_cases h : j = i
  · rw [if_pos h, find_none]
    intro n hn
    have := (List.mem_filter.1 hn).2
    simp at this
    omega
  · rw [if_neg h]
    cases hf : find l j with
    | none =>
      rw [find_none] at hf ⊢
      exact fun n hn => hf n (List.mem_filter.1 hn).1
    | some m =>
      obtain ⟨h1, rfl⟩ := find_mem hf
      exact find_of (filter_srt hs _) (List.mem_filter.2 ⟨h1, by simpa using h⟩)
theorem ins_len {n : Node} {l : List Node} (hs : Srt l) : (ins n l).length = if (find l n.ino).isSome = true then l.length else l.length + 1 := by
  induction l with
  | nil => rfl
  | cons q l ih =>
    obtain ⟨h1, h2⟩ := List.pairwise_cons.1 hs
    rw [ins_cons n q l hs]
    unfold find
    rw [List.find?_cons]
    split
    · rename_i hc
      rw [decide_eq_false (by omega)]
      have := ih h2
      unfold find at this
      rw [List.length_cons, this]
      simp only
      split <;> simp
    · split
      · rename_i hc
        rw [decide_eq_true hc]
        simp
      · rename_i hc1 hc2
        rw [decide_eq_false hc2]
        have : List.find? (fun m => decide (m.ino = n.ino)) l = none := by
          have := (find_none (l := l) (i := n.ino)).2 fun m hm => by have := h1 m hm; omega
          exact this
        simp only [this]
        simp
end Go.Tr

/-
  How many entries name a node; which entries a directory has.
-/
namespace Go.Tr

def cN (n : Node) (i : Int) : Nat := (n.ents.filter fun e => decide (e.ino = i)).length
def cnt (l : List Node) (i : Int) : Nat := (l.map fun n => cN n i).sum
def cO (o : Option Node) (i : Int) : Nat := o.elim 0 fun n => cN n i
theorem cnt_cons (n : Node) (l : List Node) (i : Int) : cnt (n :: l) i = cN n i + cnt l i := rfl
theorem find_cons (m : Node) (l : List Node) (i : Int) : find (m :: l) i = if m.ino = i then some m else find l i := by
  unfold find
  rw [List.find?_cons]
  by_cases h : m.ino = i <;> simp [h]
theorem cnt_ins {n : Node} (i : Int) : ∀ {l : List Node}, Srt l → cnt (ins n l) i + cO (find l n.ino) i = cnt l i + cN n i
  | [], _ => by simp [ins, cnt, find, cO]
  | m :: l, h => by
    obtain ⟨h1, h2⟩ := List.pairwise_cons.1 h
    have ih := cnt_ins (n := n) i h2
    rw [ins_cons n m l h, find_cons]
    split
    · rename_i hc
      rw [if_neg (by omega), cnt_cons, cnt_cons]
      omega
    · split
      · rw [cnt_cons, cnt_cons]
        simp only [cO, Option.elim_some]
        omega
      · rename_i hc1 hc2
        have : find l n.ino = none := find_none.2 fun q hq => by have := h1 q hq; omega
        rw [this, cnt_cons]
        simp only [cO, Option.elim_none]
        omega
theorem cnt_without (i j : Int) : ∀ {l : List Node}, Srt l → cnt (l.filter fun m => decide (m.ino ≠ j)) i + cO (find l j) i = cnt l i
  | [], _ => by simp [cnt, find, cO]
  | m :: l, h => by
    obtain ⟨h1, h2⟩ := List.pairwise_cons.1 h
    have ih := cnt_without i j h2
    rw [find_cons, List.filter_cons]
    by_cases hc : m.ino = j
    · have : (l.filter fun m => decide (m.ino ≠ j)) = l := List.filter_eq_self.2 fun q hq => by have := h1 q hq; simp; omega
      rw [if_pos hc, if_neg (by simpa using hc), this, cnt_cons]
      simp only [cO, Option.elim_some]
      omega
    · rw [if_neg hc, if_pos (by simpa using hc), cnt_cons, cnt_cons]
      omega
theorem cN_mem {n : Node} {i : Int} : 0 < cN n i ↔ ∃ e ∈ n.ents, e.ino = i := by
  unfold cN
  rw [List.length_pos_iff_exists_mem]
  constructor
  · rintro ⟨e, he⟩
    obtain ⟨h1, h2⟩ := List.mem_filter.1 he
    exact ⟨e, h1, by simpa using h2⟩
  · rintro ⟨e, h1, h2⟩
    exact ⟨e, List.mem_filter.2 ⟨h1, by simpa using h2⟩⟩
theorem cnt_mem {i : Int} : ∀ {l : List Node}, 0 < cnt l i ↔ ∃ n ∈ l, 0 < cN n i
  | [] => by simp [cnt]
  | m :: l => by
    have ih := cnt_mem (i := i) (l := l)
    rw [cnt_cons]
    constructor
    · intro h
      by_cases hm : 0 < cN m i
      · exact ⟨m, by simp, hm⟩
      · obtain ⟨n, h1, h2⟩ := ih.1 (by omega)
        exact ⟨n, by simp [h1], h2⟩
    · rintro ⟨n, h1, h2⟩
      rcases List.mem_cons.1 h1 with rfl | h1
      · omega
      · have := ih.2 ⟨n, h1, h2⟩
        omega
theorem cN_le {l : List Node} {n : Node} (h : n ∈ l) (i : Int) : cN n i ≤ cnt l i := by
  induction l with
  | nil => cases h
  | cons m l ih =>
    rw [cnt_cons]
    rcases List.mem_cons.1 h with rfl | h
    · omega
    · have := ih h; omega
/-- Two that name it are one, if it is named once. -/
theorem cnt_one {l : List Node} (hs : Srt l) {i : Int} (h : cnt l i = 1) {m n : Node} (hm : m ∈ l) (hn : n ∈ l) (h1 : 0 < cN m i) (h2 : 0 < cN n i) : m = n := by
  induction l with
  | nil => cases hm
  | cons q l ih =>
    obtain ⟨g1, g2⟩ := List.pairwise_cons.1 hs
    rw [cnt_cons] at h
    rcases List.mem_cons.1 hm with rfl | km
    · rcases List.mem_cons.1 hn with rfl | kn
      · rfl
      · have := cN_le kn i
        omega
    · rcases List.mem_cons.1 hn with rfl | kn
      · have := cN_le km i
        omega
      · have := cnt_mem.2 ⟨m, km, h1⟩
        exact ih g2 (by omega) km kn

/-! Entries. -/
section
variable {lt : List UInt8 → List UInt8 → Bool}
/-- An order, as it is wanted of names. -/
structure Ord (lt : List UInt8 → List UInt8 → Bool) : Prop where
  irr : ∀ a, lt a a = false
  tr : ∀ a b c, lt a b = true → lt b c = true → lt a c = true
  tot : ∀ a b, lt a b = true ∨ a = b ∨ lt b a = true
def SrtE (lt : List UInt8 → List UInt8 → Bool) (l : List Ent) : Prop := l.Pairwise fun a b => lt a.name b.name = true
theorem insE_cons (e x : Ent) (l : List Ent) : insE lt e (x :: l) = if lt e.name x.name = true then e :: x :: l else x :: insE lt e l := by
  unfold insE
  cases h : lt e.name x.name <;> simp [h]
theorem insE_perm (e : Ent) (l : List Ent) : (insE lt e l).Perm (e :: l) := by
  induction l with
  | nil => simp [insE]
  | cons x l ih =>
    rw [insE_cons]
    split
    · exact List.Perm.refl _
    · exact (List.Perm.cons x ih).trans (List.Perm.swap e x l)
theorem insE_mem {e x : Ent} {l : List Ent} : x ∈ insE lt e l ↔ x = e ∨ x ∈ l := by
  rw [(insE_perm e l).mem_iff, List.mem_cons]
theorem insE_len (e : Ent) (l : List Ent) : (insE lt e l).length = l.length + 1 := by
  rw [(insE_perm e l).length_eq, List.length_cons]
theorem insE_srt (o : Ord lt) {e : Ent} : ∀ {l : List Ent}, SrtE lt l → (∀ x ∈ l, x.name ≠ e.name) → SrtE lt (insE lt e l)
  | [], _, _ => by simp [insE, SrtE]
  | x :: l, h, hn => by
    obtain ⟨h1, h2⟩ := List.pairwise_cons.1 h
    rw [insE_cons]
    split
    · rename_i hc
      refine List.pairwise_cons.2 ⟨fun y hy => ?_, h⟩
      rcases List.mem_cons.1 hy with rfl | hy
      · exact hc
      · exact o.tr _ _ _ hc (h1 y hy)
    · rename_i hc
      refine List.pairwise_cons.2 ⟨fun y hy => ?_, insE_srt o h2 fun y hy => hn y (by simp [hy])⟩
      rcases insE_mem.1 hy with rfl | hy
      · rcases o.tot x.name y.name with h | h | h
        · exact h
        · exact absurd h (hn x (by simp))
        · exact absurd h hc
      · exact h1 y hy
theorem cN_ins (n : Node) (e : Ent) (b : Bool) (i : Int) : cN { n with fe := b, ents := insE lt e n.ents } i = cN n i + if e.ino = i then 1 else 0 := by
  unfold cN
  simp only
  rw [((insE_perm (lt := lt) e n.ents).filter _).length_eq, List.filter_cons]
  by_cases h : e.ino = i <;> simp [h]
theorem entOf_mem {n : Node} {s : List UInt8} {e : Ent} (h : entOf n s = some e) : e ∈ n.ents ∧ e.name = s := ⟨List.mem_of_find?_eq_some h, by simpa using List.find?_some h⟩
theorem entOf_none {n : Node} {s : List UInt8} : entOf n s = none ↔ ∀ e ∈ n.ents, e.name ≠ s := by
  unfold entOf
  rw [List.find?_eq_none]
  simp
/-- One entry less. -/
def dropE (s : List UInt8) (l : List Ent) : List Ent := l.filter fun e => decide (e.name ≠ s)
theorem dropE_perm (o : Ord lt) {s : List UInt8} {e : Ent} : ∀ {l : List Ent}, SrtE lt l → e ∈ l → e.name = s → (e :: dropE s l).Perm l
  | [], _, h, _ => by cases h
  | x :: l, hs, h, hn => by
    obtain ⟨h1, h2⟩ := List.pairwise_cons.1 hs
    unfold dropE
    rw [List.filter_cons]
    rcases List.mem_cons.1 h with rfl | h
    · rw [if_neg (by simpa using hn)]
      have : (l.filter fun e => decide (e.name ≠ s)) = l := List.filter_eq_self.2 fun y hy => by
        have := h1 y hy
        have hne : y.name ≠ s := fun h' => by rw [h', hn, o.irr] at this; cases this
        simpa using hne
      rw [this]
    · have hx : x.name ≠ s := fun h' => by
        have := h1 e h
        rw [h', hn, o.irr] at this
        cases this
      rw [if_pos (by simpa using hx)]
      exact (List.Perm.swap x e _).trans (List.Perm.cons x (dropE_perm o h2 h hn))
theorem cN_drop (o : Ord lt) {n : Node} {s : List UInt8} {e : Ent} (hs : SrtE lt n.ents) (h : entOf n s = some e) (b : Bool) (i : Int) : cN { n with fe := b, ents := dropE s n.ents } i + (if e.ino = i then 1 else 0) = cN n i := by
  obtain ⟨h1, h2⟩ := entOf_mem h
  have := ((dropE_perm o hs h1 h2).filter fun e => decide (e.ino = i)).length_eq
  unfold cN
  simp only
  rw [← this, List.filter_cons]
  by_cases h : e.ino = i <;> simp [h]
theorem dropE_len (o : Ord lt) {n : Node} {s : List UInt8} {e : Ent} (hs : SrtE lt n.ents) (h : entOf n s = some e) : (dropE s n.ents).length + 1 = n.ents.length := by
  obtain ⟨h1, h2⟩ := entOf_mem h
  have := (dropE_perm o hs h1 h2).length_eq
  rw [← this, List.length_cons]
theorem dropE_mem {s : List UInt8} {l : List Ent} {e : Ent} : e ∈ dropE s l ↔ e ∈ l ∧ e.name ≠ s := by
  unfold dropE
  rw [List.mem_filter]
  simp
end
end Go.Tr

/-
  Which trees may be: but for depths, with names that are still missing (M).
-/
namespace Go.Tr

section
variable (ok : List UInt8 → Bool) (lt : List UInt8 → List UInt8 → Bool)
structure EntsOK (t : Tree) (l : List Ent) : Prop where
  nm : ∀ e ∈ l, ok e.name = true
  ck : ∀ e ∈ l, 1 ≤ e.cookie ∧ e.cookie < t.cookie
  to : ∀ e ∈ l, (find t.nodes e.ino).isSome = true
  srt : SrtE lt l
  dis : l.Pairwise fun a b => a.cookie ≠ b.cookie
  len : l.length ≤ 64
structure WFm (t : Tree) (M : Int → Nat) : Prop where
  srt : Srt t.nodes
  pos : ∀ i n, find t.nodes i = some n → 1 ≤ i ∧ i < t.next
  nxt : t.next ≤ 1099511627776
  ck1 : 1 ≤ t.cookie
  ck2 : t.cookie ≤ 1099511627776
  len : t.nodes.length ≤ 200
  root : ∃ r, find t.nodes 1 = some r ∧ r.kind = 2 ∧ r.up = 1 ∧ r.links = 0
  cnt1 : cnt t.nodes 1 = 0
  file : ∀ i n, find t.nodes i = some n → n.kind = 1 → n.ents = [] ∧ n.up = 0 ∧ n.data.length ≤ 4096 ∧ n.links = (cnt t.nodes i + M i : Nat)
  dir : ∀ i n, find t.nodes i = some n → n.kind = 2 → n.data = [] ∧ EntsOK ok lt t n.ents
  lnk : ∀ i n, find t.nodes i = some n → n.kind = 2 → i ≠ 1 → cnt t.nodes i + M i = 1 ∧ n.links = 1
  par : ∀ i n, find t.nodes i = some n → n.kind = 2 → i ≠ 1 → M i = 0 → ∃ p, find t.nodes n.up = some p ∧ cN p i = 1
  kind : ∀ i n, find t.nodes i = some n → n.kind = 1 ∨ n.kind = 2
end
variable {ok : List UInt8 → Bool} {lt : List UInt8 → List UInt8 → Bool} {t : Tree} {M : Int → Nat}
def inc (M : Int → Nat) (i : Int) : Int → Nat := fun k => M k + if k = i then 1 else 0
def dec (M : Int → Nat) (i : Int) : Int → Nat := fun k => M k - if k = i then 1 else 0
theorem dec_inc (M : Int → Nat) (i : Int) : dec (inc M i) i = M := by
  funext k
  unfold dec inc
  split <;> omega
theorem find_ino {l : List Node} {i : Int} {n : Node} (h : find l i = some n) : n.ino = i := (find_mem h).2
theorem named_to (w : WFm ok lt t M) {i : Int} (h : 0 < cnt t.nodes i) : (find t.nodes i).isSome = true := by
  obtain ⟨n, hn, hc⟩ := cnt_mem.1 h
  obtain ⟨e, he, rfl⟩ := cN_mem.1 hc
  have hf := find_of w.srt hn
  rcases w.kind _ _ hf with hk | hk
  · rw [(w.file _ _ hf hk).1] at he
    cases he
  · exact (w.dir _ _ hf hk).2.to e he
/-- Who has entries is a directory. -/
theorem has_dir (w : WFm ok lt t M) {i : Int} {n : Node} (hf : find t.nodes i = some n) {e : Ent} (he : e ∈ n.ents) : n.kind = 2 := by
  rcases w.kind _ _ hf with hk | hk
  · rw [(w.file _ _ hf hk).1] at he
    cases he
  · exact hk
theorem find_withN (w : Srt t.nodes) (n : Node) (i : Int) : find (withN t n).nodes i = if i = n.ino then some n else find t.nodes i := find_ins w i
theorem cnt_withN (w : Srt t.nodes) {n m : Node} (h : find t.nodes n.ino = some m) (i : Int) : cnt (withN t n).nodes i + cN m i = cnt t.nodes i + cN n i := by
  have := cnt_ins (n := n) i w
  rw [h] at this
  exact this
theorem len_withN (w : Srt t.nodes) {n m : Node} (h : find t.nodes n.ino = some m) : (withN t n).nodes.length = t.nodes.length := by
  have := ins_len (n := n) w
  rw [h] at this
  unfold withN
  simpa using this
theorem getZ_of {i : Int} {n : Node} (h : find t.nodes i = some n) : getZ t i = n := by unfold getZ; rw [h]; rfl
theorem EntsOK.mono {l : List Ent} (h : EntsOK ok lt t l) {t' : Tree} (hc : t.cookie ≤ t'.cookie) (hf : ∀ i, (find t.nodes i).isSome = true → (find t'.nodes i).isSome = true) : EntsOK ok lt t' l :=
  ⟨h.nm, fun e he => by have := h.ck e he; omega, fun e he => hf _ (h.to e he), h.srt, h.dis, h.len⟩
theorem EntsOK.drop {l : List Ent} (h : EntsOK ok lt t l) (s : List UInt8) : EntsOK ok lt t (dropE s l) :=
  ⟨fun e he => h.nm e (dropE_mem.1 he).1, fun e he => h.ck e (dropE_mem.1 he).1, fun e he => h.to e (dropE_mem.1 he).1, h.srt.filter _, h.dis.filter _, Nat.le_trans (List.length_filter_le ..) h.len⟩
/-- An entry is taken. -/
theorem WFm.left (o : Ord lt) (w : WFm ok lt t M) {i : Int} {p : Node} (hp : find t.nodes i = some p) (hd : p.kind = 2) {s : List UInt8} {e : Ent} (he : entOf p s = some e) : WFm ok lt (left t i s) (inc M e.ino) := by
  have hpi := find_ino hp
  have hes := (w.dir _ _ hp hd).2
  obtain ⟨n, hn⟩ : ∃ n, n = { p with fe := false, ents := dropE s p.ents } := ⟨_, rfl⟩
  have hni : n.ino = i := by rw [hn]; exact hpi
  have hl : Tr.left t i s = withN t n := by unfold Tr.left; rw [getZ_of hp, hn]; rfl
  have hpn : find t.nodes n.ino = some p := by rw [hni]; exact hp
  have hf := fun j => find_withN w.srt n j
  have hc := fun j => cnt_withN w.srt hpn j
  have hcn : ∀ j, cN n j + (if e.ino = j then 1 else 0) = cN p j := fun j => by rw [hn]; exact cN_drop o hes.srt he false j
  have hme := entOf_mem he
  have hsome : ∀ j, (find t.nodes j).isSome = true → (find (withN t n).nodes j).isSome = true := fun j h => by
    rw [hf]; split
    · rfl
    · exact h
  rw [hl]
  have hnk : n.kind = p.kind := by rw [hn]
  have hnu : n.up = p.up := by rw [hn]
  have hnl : n.links = p.links := by rw [hn]
  have hnd : n.data = p.data := by rw [hn]
  have hne : n.ents = dropE s p.ents := by rw [hn]
  have hcm : ∀ j, cnt (withN t n).nodes j + (if e.ino = j then 1 else 0) = cnt t.nodes j := fun j => by have := hc j; have := hcn j; omega
  have hie : e.ino ≠ 1 := fun h1 => by
    have h2 : 0 < cN p 1 := cN_mem.2 ⟨e, hme.1, h1⟩
    have h3 := cN_le (find_mem hp).1 1
    have := w.cnt1
    omega
  refine ⟨ins_srt w.srt, fun j m hj => ?_, w.nxt, w.ck1, w.ck2, by rw [len_withN w.srt hpn]; exact w.len, ?_, ?_, fun j m hj hk => ?_, fun j m hj hk => ?_, fun j m hj hk h1 => ?_, fun j m hj hk h1 hM => ?_, fun j m hj => ?_⟩
  · rw [hf] at hj
    split at hj
    · rename_i h; subst h; rw [hni]; exact w.pos _ _ hp
    · exact w.pos _ _ hj
  · obtain ⟨r, h1, h2, h3, h4⟩ := w.root
    rw [hf]
    by_cases h : 1 = n.ino
    · rw [if_pos h]
      rw [hni] at h
      subst h
      rw [hp] at h1
      cases h1
      exact ⟨n, rfl, by rw [hnk]; exact h2, by rw [hnu]; exact h3, by rw [hnl]; exact h4⟩
    · rw [if_neg h]
      exact ⟨r, h1, h2, h3, h4⟩
  · have := hcm 1; have := w.cnt1; omega
  · rw [hf] at hj
    have := hcm j
    split at hj
    · cases hj; omega
    · obtain ⟨g1, g2, g3, g4⟩ := w.file _ _ hj hk
      refine ⟨g1, g2, g3, ?_⟩
      rw [g4]
      unfold inc
      by_cases hje : j = e.ino
      · subst hje; simp at this ⊢; omega
      · rw [if_neg (fun h => hje h.symm)] at this; rw [if_neg hje]; omega
  · rw [hf] at hj
    split at hj
    · cases hj
      refine ⟨by rw [hnd]; exact (w.dir _ _ hp hd).1, ?_⟩
      rw [hne]
      exact (hes.drop s).mono (Int.le_refl _) hsome
    · obtain ⟨g1, g2⟩ := w.dir _ _ hj hk
      exact ⟨g1, g2.mono (Int.le_refl _) hsome⟩
  · have hcj := hcm j
    have key : cnt t.nodes j + M j = 1 ∧ m.links = 1 := by
      rw [hf] at hj
      split at hj
      · rename_i h
        cases hj
        rw [hni] at h; subst h
        have := w.lnk _ _ hp hd h1
        rw [hnl]; exact this
      · exact w.lnk _ _ hj hk h1
    refine ⟨?_, key.2⟩
    unfold inc
    by_cases hje : j = e.ino
    · subst hje; simp at hcj ⊢; omega
    · rw [if_neg (fun h => hje h.symm)] at hcj; rw [if_neg hje]; omega
  · have hje : j ≠ e.ino := fun h => by unfold inc at hM; rw [if_pos h] at hM; omega
    have hM0 : M j = 0 := by unfold inc at hM; rw [if_neg hje] at hM; exact hM
    have key : ∃ q, find t.nodes m.up = some q ∧ cN q j = 1 := by
      rw [hf] at hj
      split at hj
      · rename_i h
        cases hj
        rw [hni] at h; subst h
        rw [hnu]
        exact w.par _ _ hp hd h1 hM0
      · exact w.par _ _ hj hk h1 hM0
    obtain ⟨q, q1, q2⟩ := key
    rw [hf]
    by_cases h : m.up = n.ino
    · rw [if_pos h]
      rw [h, hpn] at q1
      cases q1
      refine ⟨n, rfl, ?_⟩
      have := hcn j
      rw [if_neg (fun h => hje h.symm)] at this
      omega
    · rw [if_neg h]
      exact ⟨q, q1, q2⟩
  · rw [hf] at hj
    split at hj
    · cases hj; rw [hnk]; exact .inr hd
    · exact w.kind _ _ hj
/-- An entry is given. -/
theorem WFm.entered (o : Ord lt) (w : WFm ok lt t M) {i : Int} {p : Node} (hp : find t.nodes i = some p) (hd : p.kind = 2) {s : List UInt8} (hs : ok s = true) (hno : ∀ e ∈ p.ents, e.name ≠ s) (hlen : p.ents.length < 64) (hck : t.cookie < 1099511627776)
    {of : Int} {m : Node} (hm : find t.nodes of = some m) (hM : 1 ≤ M of) (ho1 : of ≠ 1) (hup : m.kind = 2 → m.up = i) : WFm ok lt (entered lt t i s of) (dec M of) := by
  have hpi := find_ino hp
  have hes := (w.dir _ _ hp hd).2
  obtain ⟨e, he⟩ : ∃ e : Ent, e = ⟨s, of, t.cookie⟩ := ⟨_, rfl⟩
  obtain ⟨n, hn⟩ : ∃ n, n = { p with fe := false, ents := insE lt e p.ents } := ⟨_, rfl⟩
  obtain ⟨u, hu⟩ : ∃ u : Tree, u = ⟨t.fn, t.nodes, t.next, t.cookie + 1⟩ := ⟨_, rfl⟩
  have hun : u.nodes = t.nodes := by rw [hu]
  have hni : n.ino = i := by rw [hn]; exact hpi
  have hl : Tr.entered lt t i s of = withN u n := by unfold Tr.entered; rw [getZ_of hp, hn, he, hu]
  have hpn : find u.nodes n.ino = some p := by rw [hni, hun]; exact hp
  have wu : Srt u.nodes := by rw [hun]; exact w.srt
  have hf := fun j => find_withN wu n j
  have hc := fun j => cnt_withN wu hpn j
  have hcn : ∀ j, cN n j = cN p j + (if e.ino = j then 1 else 0) := fun j => by rw [hn]; exact cN_ins p e false j
  have heo : e.ino = of := by rw [he]
  rw [hun] at hc
  simp only [hun] at hf
  have hsome : ∀ j, (find t.nodes j).isSome = true → (find (withN u n).nodes j).isSome = true := fun j h => by
    rw [hf]; split
    · rfl
    · exact h
  rw [hl]
  have hnk : n.kind = p.kind := by rw [hn]
  have hnu : n.up = p.up := by rw [hn]
  have hnl : n.links = p.links := by rw [hn]
  have hnd : n.data = p.data := by rw [hn]
  have hne : n.ents = insE lt e p.ents := by rw [hn]
  have hcm : ∀ j, cnt (withN u n).nodes j = cnt t.nodes j + (if of = j then 1 else 0) := fun j => by have := hc j; have := hcn j; rw [heo] at this; omega
  have hck1 : (withN u n).cookie = t.cookie + 1 := by unfold withN; rw [hu]
  have hnx : (withN u n).next = t.next := by unfold withN; rw [hu]
  refine ⟨ins_srt wu, fun j m hj => ?_, by rw [hnx]; exact w.nxt, by rw [hck1]; have := w.ck1; omega, by rw [hck1]; omega, by rw [len_withN wu hpn, hun]; exact w.len, ?_, ?_, fun j m hj hk => ?_, fun j m hj hk => ?_, fun j m hj hk h1 => ?_, fun j q hj hk h1 hM' => ?_, fun j m hj => ?_⟩
  · rw [hf] at hj
    rw [hnx]
    split at hj
    · rename_i h; subst h; rw [hni]; exact w.pos _ _ hp
    · exact w.pos _ _ hj
  · obtain ⟨r, h1, h2, h3, h4⟩ := w.root
    rw [hf]
    by_cases h : 1 = n.ino
    · rw [if_pos h]
      rw [hni] at h
      subst h
      rw [hp] at h1
      cases h1
      exact ⟨n, rfl, by rw [hnk]; exact h2, by rw [hnu]; exact h3, by rw [hnl]; exact h4⟩
    · rw [if_neg h]
      exact ⟨r, h1, h2, h3, h4⟩
  · have := hcm 1
    rw [if_neg ho1] at this
    have := w.cnt1; omega
  · rw [hf] at hj
    have := hcm j
    split at hj
    · cases hj; omega
    · obtain ⟨g1, g2, g3, g4⟩ := w.file _ _ hj hk
      refine ⟨g1, g2, g3, ?_⟩
      rw [g4]
      unfold dec
      by_cases hje : j = of
      · subst hje; simp at this ⊢; omega
      · rw [if_neg (fun h => hje h.symm)] at this; rw [if_neg hje]; omega
  · rw [hf] at hj
    split at hj
    · cases hj
      refine ⟨by rw [hnd]; exact (w.dir _ _ hp hd).1, ?_⟩
      rw [hne]
      have hen : ∀ x ∈ p.ents, x.name ≠ e.name := fun x hx => by rw [he]; exact hno x hx
      refine ⟨fun x hx => ?_, fun x hx => ?_, fun x hx => ?_, insE_srt o hes.srt hen, ?_, by rw [insE_len]; omega⟩
      · rcases insE_mem.1 hx with rfl | hx
        · rw [he]; exact hs
        · exact hes.nm x hx
      · rw [hck1]
        rcases insE_mem.1 hx with rfl | hx
        · rw [he]; have := w.ck1; simp only; omega
        · have := hes.ck x hx; omega
      · refine hsome _ ?_
        rcases insE_mem.1 hx with rfl | hx
        · rw [heo, hm]; rfl
        · exact hes.to x hx
      · refine ((insE_perm (lt := lt) e p.ents).pairwise_iff fun h => h.symm).2 (List.pairwise_cons.2 ⟨fun x hx => ?_, hes.dis⟩)
        have := hes.ck x hx
        rw [he]; simp only; omega
    · obtain ⟨g1, g2⟩ := w.dir _ _ hj hk
      exact ⟨g1, g2.mono (by rw [hck1]; omega) hsome⟩
  · have hcj := hcm j
    have key : cnt t.nodes j + M j = 1 ∧ m.links = 1 := by
      rw [hf] at hj
      split at hj
      · rename_i h
        cases hj
        rw [hni] at h; subst h
        have := w.lnk _ _ hp hd h1
        rw [hnl]; exact this
      · exact w.lnk _ _ hj hk h1
    refine ⟨?_, key.2⟩
    unfold dec
    by_cases hje : j = of
    · subst hje; simp at hcj ⊢; omega
    · rw [if_neg (fun h => hje h.symm)] at hcj; rw [if_neg hje]; omega
  · have hqm : find t.nodes j = some q ∨ (j = i ∧ q = n) := by
      rw [hf] at hj
      split at hj
      · rename_i h; cases hj; exact .inr ⟨by rw [h, hni], rfl⟩
      · exact .inl hj
    by_cases hje : j = of
    · subst hje
      have hqu : q.up = i ∧ cnt t.nodes j + M j = 1 := by
        rcases hqm with h | ⟨h, rfl⟩
        · rw [hm] at h; cases h
          exact ⟨hup hk, (w.lnk _ _ hm hk h1).1⟩
        · subst h
          rw [hp] at hm; cases hm
          exact ⟨by rw [hnu]; exact hup hd, (w.lnk _ _ hp hd h1).1⟩
      refine ⟨n, by rw [hf, hqu.1, if_pos hni.symm], ?_⟩
      have g1 := hcn j
      rw [heo, if_pos rfl] at g1
      have g2 := cN_le (find_mem hp).1 j
      omega
    · have hM0 : M j = 0 := by unfold dec at hM'; rw [if_neg hje] at hM'; omega
      have key : ∃ r, find t.nodes q.up = some r ∧ cN r j = 1 := by
        rcases hqm with h | ⟨h, rfl⟩
        · exact w.par _ _ h hk h1 hM0
        · subst h
          rw [hnu]
          exact w.par _ _ hp hd h1 hM0
      obtain ⟨r, q1, q2⟩ := key
      rw [hf]
      by_cases h : q.up = n.ino
      · rw [if_pos h]
        rw [h, hni, hp] at q1
        cases q1
        refine ⟨n, rfl, ?_⟩
        have := hcn j
        rw [heo, if_neg (fun h => hje h.symm)] at this
        omega
      · rw [if_neg h]
        exact ⟨r, q1, q2⟩
  · rw [hf] at hj
    split at hj
    · cases hj; rw [hnk]; exact .inr hd
    · exact w.kind _ _ hj
/-- A node is other, with the entries that it had. -/
theorem WFm.set (w : WFm ok lt t M) {i : Int} {p n : Node} (hp : find t.nodes i = some p) (hni : n.ino = i) (hkp : n.kind = p.kind) (he : n.ents = p.ents) (M' : Int → Nat) (hM : ∀ j, j ≠ i → M' j = M j)
    (hfile : n.kind = 1 → n.up = 0 ∧ n.data.length ≤ 4096 ∧ n.links = (cnt t.nodes i + M' i : Nat))
    (hdir : n.kind = 2 → n.data = [] ∧ n.links = p.links ∧ M' i = M i ∧ (n.up = p.up ∨ (i ≠ 1 ∧ M i ≠ 0))) : WFm ok lt (withN t n) M' := by
  have hpn : find t.nodes n.ino = some p := by rw [hni]; exact hp
  have hf := fun j => find_withN w.srt n j
  have hc := fun j => cnt_withN w.srt hpn j
  have hcn : ∀ j, cN n j = cN p j := fun j => by unfold cN; rw [he]
  have hsome : ∀ j, (find t.nodes j).isSome = true → (find (withN t n).nodes j).isSome = true := fun j h => by
    rw [hf]; split
    · rfl
    · exact h
  have hcm : ∀ j, cnt (withN t n).nodes j = cnt t.nodes j := fun j => by have := hc j; have := hcn j; omega
  have hcase : ∀ j m, find (withN t n).nodes j = some m → (j = i ∧ m = n) ∨ (j ≠ i ∧ find t.nodes j = some m) := fun j m hj => by
    rw [hf, hni] at hj
    split at hj
    · rename_i h; cases hj; exact .inl ⟨h, rfl⟩
    · rename_i h; exact .inr ⟨h, hj⟩
  refine ⟨ins_srt w.srt, fun j m hj => ?_, w.nxt, w.ck1, w.ck2, by rw [len_withN w.srt hpn]; exact w.len, ?_, by rw [hcm]; exact w.cnt1, fun j m hj hk => ?_, fun j m hj hk => ?_, fun j m hj hk h1 => ?_, fun j m hj hk h1 hM0 => ?_, fun j m hj => ?_⟩
  · rcases hcase j m hj with ⟨rfl, rfl⟩ | ⟨_, hj⟩
    · exact w.pos _ _ hp
    · exact w.pos _ _ hj
  · obtain ⟨r, h1, h2, h3, h4⟩ := w.root
    rw [hf, hni]
    by_cases h : 1 = i
    · rw [if_pos h]
      subst h
      rw [hp] at h1
      cases h1
      obtain ⟨_, g2, _, g4⟩ := hdir (by rw [hkp]; exact h2)
      refine ⟨n, rfl, by rw [hkp]; exact h2, ?_, by rw [g2]; exact h4⟩
      rcases g4 with g4 | g4
      · rw [g4]; exact h3
      · exact absurd rfl g4.1
    · rw [if_neg h]
      exact ⟨r, h1, h2, h3, h4⟩
  · rw [hcm]
    rcases hcase j m hj with ⟨rfl, rfl⟩ | ⟨hji, hj⟩
    · refine ⟨?_, hfile hk⟩
      rw [he]
      exact (w.file _ _ hp (hkp.symm.trans hk)).1
    · obtain ⟨g1, g2, g3, g4⟩ := w.file _ _ hj hk
      exact ⟨g1, g2, g3, by rw [hM j hji]; exact g4⟩
  · rcases hcase j m hj with ⟨rfl, rfl⟩ | ⟨hji, hj⟩
    · refine ⟨(hdir hk).1, ?_⟩
      rw [he]
      exact (w.dir _ _ hp (hkp.symm.trans hk)).2.mono (Int.le_refl _) hsome
    · obtain ⟨g1, g2⟩ := w.dir _ _ hj hk
      exact ⟨g1, g2.mono (Int.le_refl _) hsome⟩
  · rw [hcm]
    rcases hcase j m hj with ⟨rfl, rfl⟩ | ⟨hji, hj⟩
    · obtain ⟨g1, g2, g3, g4⟩ := hdir hk
      rw [g3, g2]
      exact w.lnk _ _ hp (hkp.symm.trans hk) h1
    · rw [hM j hji]
      exact w.lnk _ _ hj hk h1
  · have key : ∃ q, find t.nodes m.up = some q ∧ cN q j = 1 := by
      rcases hcase j m hj with ⟨rfl, rfl⟩ | ⟨hji, hj⟩
      · obtain ⟨g1, g2, g3, g4⟩ := hdir hk
        rw [g3] at hM0
        rcases g4 with g4 | g4
        · rw [g4]
          exact w.par _ _ hp (hkp.symm.trans hk) h1 hM0
        · exact absurd hM0 g4.2
      · rw [hM j hji] at hM0
        exact w.par _ _ hj hk h1 hM0
    obtain ⟨q, q1, q2⟩ := key
    rw [hf, hni]
    by_cases h : m.up = i
    · rw [if_pos h]
      rw [h, hp] at q1
      cases q1
      exact ⟨n, rfl, by rw [hcn]; exact q2⟩
    · rw [if_neg h]
      exact ⟨q, q1, q2⟩
  · rcases hcase j m hj with ⟨rfl, rfl⟩ | ⟨hji, hj⟩
    · rw [hkp]; exact w.kind _ _ hp
    · exact w.kind _ _ hj
end Go.Tr

/-
  Nodes that go, and come; depths; which trees may be.
-/
namespace Go.Tr
variable {ok : List UInt8 → Bool} {lt : List UInt8 → List UInt8 → Bool} {t : Tree} {M : Int → Nat}

theorem WFm.gone (w : WFm ok lt t M) {i : Int} {p : Node} (hp : find t.nodes i = some p) (he : p.ents = []) (h1 : i ≠ 1) (hc0 : cnt t.nodes i = 0) (M' : Int → Nat) (hM : ∀ j, j ≠ i → M' j = M j) : WFm ok lt (without t i) M' := by
  have hf : ∀ j, find (without t i).nodes j = if j = i then none else find t.nodes j := fun j => find_without w.srt i j
  have hz : ∀ j, cN p j = 0 := fun j => by unfold cN; rw [he]; rfl
  have hcm : ∀ j, cnt (without t i).nodes j = cnt t.nodes j := fun j => by
    have := cnt_without j i w.srt
    rw [hp] at this
    simp only [cO, Option.elim_some, hz] at this
    exact this
  have hcase : ∀ j m, find (without t i).nodes j = some m → j ≠ i ∧ find t.nodes j = some m := fun j m hj => by
    rw [hf] at hj
    split at hj
    · cases hj
    · rename_i h; exact ⟨h, hj⟩
  have hes : ∀ j m, find t.nodes j = some m → EntsOK ok lt t m.ents → EntsOK ok lt (without t i) m.ents := fun j m hj h =>
    ⟨h.nm, h.ck, fun e he => by
      rw [hf, if_neg]
      · exact h.to e he
      · intro hei
        have := cnt_mem.2 ⟨m, (find_mem hj).1, cN_mem.2 ⟨e, he, hei⟩⟩
        omega, h.srt, h.dis, h.len⟩
  refine ⟨filter_srt w.srt _, fun j m hj => w.pos _ _ (hcase j m hj).2, w.nxt, w.ck1, w.ck2, Nat.le_trans (List.length_filter_le ..) w.len, ?_, by rw [hcm]; exact w.cnt1, fun j m hj hk => ?_, fun j m hj hk => ?_, fun j m hj hk j1 => ?_, fun j m hj hk j1 hM0 => ?_, fun j m hj => w.kind _ _ (hcase j m hj).2⟩
  · obtain ⟨r, r1, r2⟩ := w.root
    exact ⟨r, by rw [hf, if_neg (fun h => h1 h.symm)]; exact r1, r2⟩
  · obtain ⟨hji, hj⟩ := hcase j m hj
    obtain ⟨g1, g2, g3, g4⟩ := w.file _ _ hj hk
    exact ⟨g1, g2, g3, by rw [hcm, hM j hji]; exact g4⟩
  · obtain ⟨hji, hj⟩ := hcase j m hj
    obtain ⟨g1, g2⟩ := w.dir _ _ hj hk
    exact ⟨g1, hes j m hj g2⟩
  · obtain ⟨hji, hj⟩ := hcase j m hj
    rw [hcm, hM j hji]
    exact w.lnk _ _ hj hk j1
  · obtain ⟨hji, hj⟩ := hcase j m hj
    rw [hM j hji] at hM0
    obtain ⟨q, q1, q2⟩ := w.par _ _ hj hk j1 hM0
    refine ⟨q, ?_, q2⟩
    rw [hf, if_neg]
    · exact q1
    · intro h
      rw [h, hp] at q1
      cases q1
      rw [hz] at q2
      omega
def newN (t : Tree) (kind up : Int) : Node := ⟨t.next, kind, 1, true, [], true, [], up⟩
def moreT (t : Tree) (kind up : Int) : Tree := withN ⟨t.fn, t.nodes, t.next + 1, t.cookie⟩ (newN t kind up)
theorem find_next (w : WFm ok lt t M) : find t.nodes t.next = none := by
  cases h : find t.nodes t.next with
  | none => rfl
  | some n => have := (w.pos _ _ h).2; omega
theorem cnt_next (w : WFm ok lt t M) : cnt t.nodes t.next = 0 := by
  rcases Nat.eq_zero_or_pos (cnt t.nodes t.next) with h | h
  · exact h
  · have := named_to w h
    rw [find_next w] at this
    cases this
theorem find_more (w : WFm ok lt t M) (kind up : Int) (j : Int) : find (moreT t kind up).nodes j = if j = t.next then some (newN t kind up) else find t.nodes j := find_ins w.srt j
theorem WFm.more (w : WFm ok lt t M) (kind up : Int) (hk : kind = 1 ∧ up = 0 ∨ kind = 2) (hM : M t.next = 0) (hlen : t.nodes.length < 200) (hnx : t.next < 1099511627776) : WFm ok lt (moreT t kind up) (inc M t.next) := by
  have hf := find_more w kind up
  have hn0 := find_next w
  have hc0 := cnt_next w
  have hz : ∀ j, cN (newN t kind up) j = 0 := fun j => rfl
  have hcm : ∀ j, cnt (moreT t kind up).nodes j = cnt t.nodes j := fun j => by
    have := cnt_ins (n := newN t kind up) j w.srt
    have e : find t.nodes (newN t kind up).ino = none := hn0
    rw [e, hz] at this
    unfold moreT withN
    simpa [cO] using this
  have hcase : ∀ j m, find (moreT t kind up).nodes j = some m → (j = t.next ∧ m = newN t kind up) ∨ (j ≠ t.next ∧ find t.nodes j = some m) := fun j m hj => by
    rw [hf] at hj
    split at hj
    · rename_i h; cases hj; exact .inl ⟨h, rfl⟩
    · rename_i h; exact .inr ⟨h, hj⟩
  have hsome : ∀ j, (find t.nodes j).isSome = true → (find (moreT t kind up).nodes j).isSome = true := fun j h => by
    rw [hf]; split
    · rfl
    · exact h
  have hi : ∀ j, j ≠ t.next → inc M t.next j = M j := fun j h => by unfold inc; rw [if_neg h]; rfl
  have hx : (moreT t kind up).next = t.next + 1 := rfl
  obtain ⟨r, r1, r2⟩ := w.root
  have hr := w.pos _ _ r1
  refine ⟨ins_srt w.srt, fun j m hj => ?_, by rw [hx]; omega, w.ck1, w.ck2, ?_, ⟨r, ?_, r2⟩, by rw [hcm]; exact w.cnt1, fun j m hj hk => ?_, fun j m hj hk => ?_, fun j m hj hk j1 => ?_, fun j m hj hk j1 hM0 => ?_, fun j m hj => ?_⟩
  · rw [hx]
    rcases hcase j m hj with ⟨rfl, _⟩ | ⟨_, hj⟩
    · omega
    · have := w.pos _ _ hj; omega
  · have := ins_len (n := newN t kind up) w.srt
    have e : find t.nodes (newN t kind up).ino = none := hn0
    rw [e] at this
    have h2 : (moreT t kind up).nodes.length = t.nodes.length + 1 := by unfold moreT withN; simpa using this
    omega
  · rw [hf, if_neg (by omega)]; exact r1
  · rw [hcm]
    rcases hcase j m hj with ⟨rfl, rfl⟩ | ⟨hji, hj⟩
    · refine ⟨rfl, ?_, by simp [newN], ?_⟩
      · rcases ‹kind = 1 ∧ up = 0 ∨ kind = 2› with h | h
        · exact h.2
        · have : kind = 1 := hk
          omega
      · unfold inc
        rw [hc0, hM, if_pos rfl]
        rfl
    · rw [hi j hji]
      exact w.file _ _ hj hk
  · rcases hcase j m hj with ⟨rfl, rfl⟩ | ⟨hji, hj⟩
    · exact ⟨rfl, ⟨by simp [newN], by simp [newN], by simp [newN], by simp [newN, SrtE], by simp [newN], by simp [newN]⟩⟩
    · obtain ⟨g1, g2⟩ := w.dir _ _ hj hk
      exact ⟨g1, g2.mono (Int.le_refl _) hsome⟩
  · rw [hcm]
    rcases hcase j m hj with ⟨rfl, rfl⟩ | ⟨hji, hj⟩
    · unfold inc
      rw [hc0, hM, if_pos rfl]
      exact ⟨rfl, rfl⟩
    · rw [hi j hji]
      exact w.lnk _ _ hj hk j1
  · rcases hcase j m hj with ⟨rfl, rfl⟩ | ⟨hji, hj⟩
    · unfold inc at hM0
      rw [if_pos rfl] at hM0
      omega
    · rw [hi j hji] at hM0
      obtain ⟨q, q1, q2⟩ := w.par _ _ hj hk j1 hM0
      refine ⟨q, ?_, q2⟩
      rw [hf, if_neg]
      · exact q1
      · intro h
        rw [h, hn0] at q1
        cases q1
  · rcases hcase j m hj with ⟨rfl, rfl⟩ | ⟨hji, hj⟩
    · exact hk.imp (fun h => h.1) id
    · exact w.kind _ _ hj

/-! Depths. -/
inductive Dep (t : Tree) : Int → Nat → Prop
  | root : Dep t 1 0
  | up {i : Int} {n : Node} {d : Nat} (h : find t.nodes i = some n) (hk : n.kind = 2) (h1 : i ≠ 1) (hd : Dep t n.up d) : Dep t i (d + 1)
theorem Dep.inj {i : Int} {d d' : Nat} (h : Dep t i d) : Dep t i d' → d = d' := by
  induction h generalizing d' with
  | root =>
    intro h'
    cases h' with
    | root => rfl
    | up _ _ h1 _ => exact absurd rfl h1
  | up h hk h1 hd ih =>
    intro h'
    cases h' with
    | root => exact absurd rfl h1
    | up g gk g1 gd =>
      rw [h] at g
      cases g
      rw [ih gd]
theorem Dep.keep {t' : Tree} {P : Int → Prop} (hP : ∀ j n, P j → find t.nodes j = some n → n.kind = 2 → j ≠ 1 → P n.up ∧ ∃ n', find t'.nodes j = some n' ∧ n'.kind = 2 ∧ n'.up = n.up) {i : Int} {d : Nat} (h : Dep t i d) : P i → Dep t' i d := by
  induction h with
  | root => intro _; exact .root
  | up h hk h1 hd ih =>
    intro hp
    obtain ⟨g1, n', g2, g3, g4⟩ := hP _ _ hp h hk h1
    exact .up g2 g3 h1 (by rw [g4]; exact ih g1)
theorem upN_of {i : Int} {n : Node} (h : find t.nodes i = some n) : upN t i = n.up := by unfold upN; rw [h]; rfl
theorem depF_eq {i : Int} {d : Nat} (h : Dep t i d) : ∀ k, d < k → depF t k i = d := by
  induction h with
  | root =>
    intro k hk
    obtain ⟨k, rfl⟩ : ∃ j, k = j + 1 := ⟨k - 1, by omega⟩
    simp [depF]
  | up h hk h1 hd ih =>
    intro k hkk
    obtain ⟨k, rfl⟩ : ∃ j, k = j + 1 := ⟨k - 1, by omega⟩
    simp only [depF]
    rw [if_neg h1, upN_of h, ih k (by omega)]
theorem depth_eq {i : Int} {d : Nat} (h : Dep t i d) (hd : d ≤ 200) : depth t i = d := depF_eq h 201 (by omega)
structure WF (ok : List UInt8 → Bool) (lt : List UInt8 → List UInt8 → Bool) (t : Tree) : Prop where
  wf : WFm ok lt t fun _ => 0
  dep : ∀ i n, find t.nodes i = some n → n.kind = 2 → ∃ d, Dep t i d ∧ d ≤ 12 ∧ (d = 12 → n.ents = [])
/-- Depths stay, where all directories stay, or those that go have none below. -/
theorem dep_keep {t' : Tree} (w : WF ok lt t) (P : Int → Prop)
    (hP : ∀ j n, P j → find t.nodes j = some n → n.kind = 2 → j ≠ 1 → P n.up ∧ ∃ n', find t'.nodes j = some n' ∧ n'.kind = 2 ∧ n'.up = n.up)
    (hb : ∀ j n', find t'.nodes j = some n' → n'.kind = 2 → P j ∧ ∃ n, find t.nodes j = some n ∧ n.kind = 2 ∧ (n.ents = [] → n'.ents = [] ∨ depth t j < 12)) :
    ∀ i n, find t'.nodes i = some n → n.kind = 2 → ∃ d, Dep t' i d ∧ d ≤ 12 ∧ (d = 12 → n.ents = []) := by
  intro i n' hi hk
  obtain ⟨hp, n, g1, g2, g3⟩ := hb i n' hi hk
  obtain ⟨d, d1, d2, d3⟩ := w.dep i n g1 g2
  refine ⟨d, d1.keep hP hp, d2, fun h12 => ?_⟩
  rcases g3 (d3 h12) with h | h
  · exact h
  · rw [depth_eq d1 (by omega)] at h
    omega
theorem dirE_of {i : Int} (h : dirE t i = 0) : ∃ p, find t.nodes i = some p ∧ p.kind = 2 ∧ dirN t i = p := by
  unfold dirE at h
  cases hf : find t.nodes i with
  | none => rw [hf] at h; simp at h
  | some p =>
    rw [hf] at h
    simp only at h
    split at h
    · rename_i hk
      refine ⟨p, rfl, hk, ?_⟩
      unfold dirN
      rw [hf]
      simp only
      rw [if_pos hk]
    · omega
theorem enter_of {i : Int} {s : List UInt8} (h : enter ok t i s = 0) : ∃ p, find t.nodes i = some p ∧ p.kind = 2 ∧ ok s = true ∧ (∀ e ∈ p.ents, e.name ≠ s) ∧ p.ents.length < 64 ∧ depth t i < 12 ∧ t.cookie < 1099511627776 := by
  unfold enter at h
  split at h
  · rename_i h0; exact absurd h h0
  · rename_i h0
    obtain ⟨p, h1, h2, h3⟩ := dirE_of (Classical.not_not.1 h0)
    rw [h3] at h
    split at h
    · omega
    · rename_i hok
      split at h
      · omega
      · rename_i hno
        split at h
        · omega
        · rename_i hfull
          refine ⟨p, h1, h2, by simpa using hok, ?_, ?_⟩
          · have : entOf p s = none := by
              cases hq : entOf p s with
              | none => rfl
              | some e => rw [hq] at hno; simp at hno
            exact entOf_none.1 this
          · unfold full at hfull
            rw [find_ino h1] at hfull
            simp only [Bool.or_eq_true, decide_eq_true_eq] at hfull
            omega
end Go.Tr

/-
  What steps make of a tree that may be.
-/
namespace Go.Tr
variable {ok : List UInt8 → Bool} {lt : List UInt8 → List UInt8 → Bool} {t : Tree} {M : Int → Nat}

theorem find_set (w : Srt t.nodes) {i : Int} {n : Node} (hni : n.ino = i) (j : Int) : find (withN t n).nodes j = if j = i then some n else find t.nodes j := by
  rw [find_withN w, hni]
theorem find_entered (w : Srt t.nodes) {i : Int} {p : Node} (hp : find t.nodes i = some p) (s : List UInt8) (of : Int) (j : Int) :
    find (entered lt t i s of).nodes j = if j = i then some { p with fe := false, ents := insE lt ⟨s, of, t.cookie⟩ p.ents } else find t.nodes j := by
  unfold entered
  rw [getZ_of hp]
  have hpi := find_ino hp
  exact find_set (t := ⟨t.fn, t.nodes, t.next, t.cookie + 1⟩) w (n := { p with fe := false, ents := insE lt ⟨s, of, t.cookie⟩ p.ents }) hpi j
theorem find_left (w : Srt t.nodes) {i : Int} {p : Node} (hp : find t.nodes i = some p) (s : List UInt8) (j : Int) :
    find (left t i s).nodes j = if j = i then some { p with fe := false, ents := dropE s p.ents } else find t.nodes j := by
  unfold left
  rw [getZ_of hp]
  have hpi := find_ino hp
  exact find_set w (n := { p with fe := false, ents := dropE s p.ents }) hpi j
theorem zero_dec (i : Int) : dec (inc (fun _ => 0) i) i = fun _ => 0 := dec_inc _ i
theorem WF.new : WF ok lt newT := by
  have hf : ∀ i, find newT.nodes i = if (1 : Int) = i then some ⟨1, 2, 0, true, [], true, [], 1⟩ else none := fun i => by
    show find [_] i = _
    rw [find_cons]
    rfl
  have hcase : ∀ i n, find newT.nodes i = some n → i = 1 ∧ n = ⟨1, 2, 0, true, [], true, [], 1⟩ := fun i n h => by
    rw [hf] at h
    split at h
    · rename_i h1; cases h; exact ⟨h1.symm, rfl⟩
    · cases h
  refine ⟨⟨by simp [newT, Srt], fun i n h => ?_, by decide, by decide, by decide, by decide, ⟨_, by rw [hf, if_pos rfl], rfl, rfl, rfl⟩, by decide, fun i n h hk => ?_, fun i n h hk => ?_, fun i n h hk h1 => ?_, fun i n h hk h1 => ?_, fun i n h => ?_⟩, fun i n h hk => ?_⟩
  · obtain ⟨rfl, rfl⟩ := hcase i n h; decide
  · obtain ⟨rfl, rfl⟩ := hcase i n h; cases hk
  · obtain ⟨rfl, rfl⟩ := hcase i n h
    exact ⟨rfl, ⟨by simp, by simp, by simp, by simp [SrtE], by simp, by simp⟩⟩
  · exact absurd (hcase i n h).1 h1
  · exact absurd (hcase i n h).1 h1
  · obtain ⟨rfl, rfl⟩ := hcase i n h; exact .inr rfl
  · obtain ⟨rfl, rfl⟩ := hcase i n h
    exact ⟨0, .root, by omega, by omega⟩
theorem WF.root_dir (w : WF ok lt t) : ∃ r, find t.nodes 1 = some r ∧ r.kind = 2 := by
  obtain ⟨r, h1, h2, _⟩ := w.wf.root
  exact ⟨r, h1, h2⟩
theorem WF.add (o : Ord lt) (w : WF ok lt t) (i : Int) (s : List UInt8) (kind : Int) : WF ok lt (add ok lt t i s kind).1 := by
  unfold Tr.add
  split
  · exact w
  · rename_i hk
    split
    · exact w
    · rename_i he
      obtain ⟨p, p1, p2, p3, p4, p5, p6, p7⟩ := enter_of (Classical.not_not.1 he)
      split
      · exact w
      · rename_i hb
        have hk' : kind = 1 ∨ kind = 2 := by omega
        have hkk : kind = 1 ∧ (if kind = 2 then i else 0) = 0 ∨ kind = 2 := by
          rcases hk' with h | h
          · exact .inl ⟨h, by rw [if_neg (by omega)]⟩
          · exact .inr h
        have w1 := w.wf.more kind (if kind = 2 then i else 0) hkk rfl (by omega) (by omega)
        have hf1 := find_more w.wf kind (if kind = 2 then i else 0)
        have hi := w.wf.pos _ _ p1
        have p1' : find (moreT t kind (if kind = 2 then i else 0)).nodes i = some p := by rw [hf1, if_neg (by omega)]; exact p1
        have hnew : find (moreT t kind (if kind = 2 then i else 0)).nodes t.next = some (newN t kind (if kind = 2 then i else 0)) := by rw [hf1, if_pos rfl]
        have w2 := w1.entered o p1' p2 p3 p4 p5 p7 hnew (by unfold inc; rw [if_pos rfl]; omega) (by obtain ⟨r, r1, _⟩ := w.wf.root; have := w.wf.pos _ _ r1; omega) (fun h => by
          have : kind = 2 := h
          show (if kind = 2 then i else 0) = i
          rw [if_pos this])
        rw [zero_dec] at w2
        have hf2 := find_entered (lt := lt) w1.srt p1' s t.next
        have hns : ∀ j n, find t.nodes j = some n → j ≠ t.next := fun j n h => by have := w.wf.pos _ _ h; omega
        obtain ⟨d, d1, d2, d3⟩ := w.dep i p p1 p2
        have hdd : d < 12 := by rw [depth_eq d1 (by omega)] at p6; exact p6
        have hold : ∀ j n, find t.nodes j = some n → ∃ n', find (entered lt (moreT t kind (if kind = 2 then i else 0)) i s t.next).nodes j = some n' ∧ n'.kind = n.kind ∧ n'.up = n.up ∧ (j ≠ i → n'.ents = n.ents) := fun j n h => by
          rw [hf2]
          by_cases hji : j = i
          · subst hji
            rw [p1] at h; cases h
            exact ⟨_, if_pos rfl, rfl, rfl, fun h => absurd rfl h⟩
          · rw [if_neg hji, hf1, if_neg (hns j n h)]
            exact ⟨n, h, rfl, rfl, fun _ => rfl⟩
        have keep : ∀ j d, Dep t j d → Dep (entered lt (moreT t kind (if kind = 2 then i else 0)) i s t.next) j d := fun j d h => h.keep (P := fun _ => True) (fun j n _ h hk _ => by
          obtain ⟨n', g1, g2, g3, _⟩ := hold j n h
          exact ⟨trivial, n', g1, by rw [g2]; exact hk, g3⟩) trivial
        show WF ok lt (entered lt (moreT t kind (if kind = 2 then i else 0)) i s t.next)
        refine ⟨w2, fun j n' hj hk2 => ?_⟩
        have hj0 := hj
        rw [hf2] at hj
        split at hj
        · rename_i hji
          subst hji
          cases hj
          exact ⟨d, keep _ _ d1, by omega, fun h => by omega⟩
        · rename_i hji
          rw [hf1] at hj
          split at hj
          · rename_i hjn
            cases hj
            have hk2' : kind = 2 := hk2
            refine ⟨d + 1, .up hj0 hk2 (by obtain ⟨r, r1, _⟩ := w.wf.root; have := w.wf.pos _ _ r1; omega) ?_, by omega, fun _ => rfl⟩
            have hup : (newN t kind (if kind = 2 then i else 0)).up = i := by show (if kind = 2 then i else 0) = i; rw [if_pos hk2']
            rw [hup]
            exact keep _ _ d1
          · obtain ⟨e, e1, e2, e3⟩ := w.dep j n' hj hk2
            exact ⟨e, keep _ _ e1, e2, e3⟩
theorem WF.ln (o : Ord lt) (w : WF ok lt t) (i to : Int) (s : List UInt8) : WF ok lt (ln ok lt t i to s).1 := by
  unfold Tr.ln
  split
  · exact w
  · rename_i n hn
    split
    · exact w
    · rename_i c1
      split
      · exact w
      · rename_i c2
        split
        · exact w
        · rename_i he
          obtain ⟨p, p1, p2, p3, p4, p5, p6, p7⟩ := enter_of (Classical.not_not.1 he)
          have hni := find_ino hn
          have hk : n.kind = 1 := (w.wf.kind _ _ hn).resolve_right c2
          obtain ⟨f1, f2, f3, f4⟩ := w.wf.file _ _ hn hk
          have w1 := w.wf.set (n := { n with links := n.links + 1 }) hn hni rfl rfl (inc (fun _ => 0) i) (fun j hj => by unfold inc; rw [if_neg hj]) (fun _ => ⟨f2, f3, by simp only [f4, inc]; simp⟩) (fun h => absurd h c2)
          have hf1 := fun j => find_set w.wf.srt (n := { n with links := n.links + 1 }) hni j
          have hit : to ≠ i := fun h => by subst h; rw [hn] at p1; cases p1; omega
          have p1' : find (withN t { n with links := n.links + 1 }).nodes to = some p := by rw [hf1, if_neg hit]; exact p1
          have hi1 : i ≠ 1 := fun h => by
            subst h
            obtain ⟨r, r1, r2, _⟩ := w.wf.root
            rw [hn] at r1; cases r1; omega
          have w2 := w1.entered o p1' p2 p3 p4 p5 p7 (of := i) (m := { n with links := n.links + 1 }) (by rw [hf1, if_pos rfl]) (by unfold inc; rw [if_pos rfl]; omega) hi1 (fun h => absurd h c2)
          rw [zero_dec] at w2
          have hf2 := find_entered (lt := lt) w1.srt p1' s i
          refine ⟨w2, dep_keep w (fun _ => True) (fun j q _ hj hkq _ => ⟨trivial, ?_⟩) (fun j q' hj hkq => ⟨trivial, ?_⟩)⟩
          · rw [hf2]
            by_cases hjt : j = to
            · subst hjt
              rw [p1] at hj; cases hj
              exact ⟨_, if_pos rfl, hkq, rfl⟩
            · rw [if_neg hjt, hf1]
              by_cases hji : j = i
              · subst hji
                rw [hn] at hj; cases hj
                exact absurd hkq c2
              · rw [if_neg hji]
                exact ⟨q, hj, hkq, rfl⟩
          · rw [hf2] at hj
            split at hj
            · rename_i hjt
              subst hjt
              exact ⟨p, p1, p2, fun _ => .inr p6⟩
            · rw [hf1] at hj
              split at hj
              · cases hj; exact absurd hkq c2
              · exact ⟨q', hj, hkq, fun h => .inl h⟩
theorem WF.put (w : WF ok lt t) (i : Int) (data : List UInt8) : WF ok lt (put t i data).1 := by
  unfold Tr.put
  split
  · exact w
  · rename_i n hn
    split
    · exact w
    · rename_i c2
      split
      · exact w
      · rename_i c3
        have hni := find_ino hn
        have hk : n.kind = 1 := (w.wf.kind _ _ hn).resolve_right c2
        obtain ⟨f1, f2, f3, f4⟩ := w.wf.file _ _ hn hk
        have w1 := w.wf.set (n := { n with fd := false, data := data }) hn hni rfl rfl (fun _ => 0) (fun j hj => rfl) (fun _ => ⟨f2, by simp only; omega, f4⟩) (fun h => absurd h c2)
        have hf1 := fun j => find_set w.wf.srt (n := { n with fd := false, data := data }) hni j
        refine ⟨w1, dep_keep w (fun _ => True) (fun j q _ hj hkq _ => ⟨trivial, ?_⟩) (fun j q' hj hkq => ⟨trivial, ?_⟩)⟩
        · rw [hf1]
          by_cases hji : j = i
          · subst hji
            rw [hn] at hj; cases hj
            exact absurd hkq c2
          · rw [if_neg hji]
            exact ⟨q, hj, hkq, rfl⟩
        · rw [hf1] at hj
          split at hj
          · cases hj; exact absurd hkq c2
          · exact ⟨q', hj, hkq, fun h => .inl h⟩
theorem find_wo (w : Srt t.nodes) (i j : Int) : find (without t i).nodes j = if j = i then none else find t.nodes j := find_without w i j
theorem WF.free (w : WF ok lt t) (i : Int) : WF ok lt (free t i).1 := by
  unfold Tr.free
  split
  · exact w
  · rename_i n hn
    split
    · exact w
    · rename_i c2
      split
      · exact w
      · rename_i c3
        have hk : n.kind = 1 := (w.wf.kind _ _ hn).resolve_right c2
        obtain ⟨f1, f2, f3, f4⟩ := w.wf.file _ _ hn hk
        have hi1 : i ≠ 1 := fun h => by
          subst h
          obtain ⟨r, r1, r2, _⟩ := w.wf.root
          rw [hn] at r1; cases r1; omega
        have w1 := w.wf.gone hn f1 hi1 (by omega) (fun _ => 0) (fun _ _ => rfl)
        have hf1 := find_wo w.wf.srt i
        refine ⟨w1, dep_keep w (fun _ => True) (fun j q _ hj hkq _ => ⟨trivial, ?_⟩) (fun j q' hj hkq => ⟨trivial, ?_⟩)⟩
        · rw [hf1, if_neg (fun h => by subst h; rw [hn] at hj; cases hj; exact c2 hkq)]
          exact ⟨q, hj, hkq, rfl⟩
        · rw [hf1] at hj
          split at hj
          · cases hj
          · exact ⟨q', hj, hkq, fun h => .inl h⟩
end Go.Tr

/-
  A name that is taken; one that is moved.
-/
namespace Go.Tr
variable {ok : List UInt8 → Bool} {lt : List UInt8 → List UInt8 → Bool} {t : Tree} {M : Int → Nat}

theorem WFm.unnamed (w : WFm ok lt t M) {y : Int} {q : Node} (hq : find t.nodes y = some q) (he : q.ents = []) (hM : 1 ≤ M y) (h1 : y ≠ 1) : WFm ok lt (unnamed t y) (dec M y) := by
  unfold Tr.unnamed
  rw [getZ_of hq]
  have hd : ∀ j, j ≠ y → dec M y j = M j := fun j hj => by unfold dec; rw [if_neg hj]; rfl
  split
  · rename_i hk
    have := (w.lnk _ _ hq hk h1).1
    exact w.gone hq he h1 (by omega) _ hd
  · rename_i hk
    have hk1 := (w.kind _ _ hq).resolve_right hk
    obtain ⟨f1, f2, f3, f4⟩ := w.file _ _ hq hk1
    have hqi := find_ino hq
    exact w.set (n := { q with links := q.links - 1 }) hq hqi rfl rfl _ hd (fun _ => ⟨f2, f3, by simp only [f4, dec, if_true]; omega⟩) (fun h => absurd h hk)
theorem find_unnamed (w : Srt t.nodes) {y : Int} {q : Node} (hq : find t.nodes y = some q) (j : Int) : find (unnamed t y).nodes j = if j = y then (if q.kind = 2 then none else some { q with links := q.links - 1 }) else find t.nodes j := by
  unfold unnamed
  rw [getZ_of hq]
  split
  · rw [find_wo w]
  · have hqi := find_ino hq
    rw [find_set w (n := { q with links := q.links - 1 }) hqi]
theorem look_of {i x : Int} {s : List UInt8} (h : look ok t i s = (x, 0)) : ∃ p e, find t.nodes i = some p ∧ p.kind = 2 ∧ ok s = true ∧ entOf p s = some e ∧ e.ino = x := by
  unfold look at h
  split at h
  · rename_i h0
    have := congrArg Prod.snd h
    exact absurd this h0
  · rename_i h0
    obtain ⟨p, h1, h2, h3⟩ := dirE_of (Classical.not_not.1 h0)
    rw [h3] at h
    split at h
    · have := congrArg Prod.snd h; simp at this
    · rename_i hok
      cases he : entOf p s with
      | none => rw [he] at h; have := congrArg Prod.snd h; simp at this
      | some e =>
        rw [he] at h
        exact ⟨p, e, h1, h2, by simpa using hok, he, congrArg Prod.fst h⟩
/-- No node stands in one without entries. -/
theorem up_ne (w : WF ok lt t) {x : Int} {z : Node} (hz : find t.nodes x = some z) (he : z.ents = []) {j : Int} {n : Node} (hj : find t.nodes j = some n) (hk : n.kind = 2) (h1 : j ≠ 1) : n.up ≠ x := by
  intro h
  obtain ⟨p, p1, p2⟩ := w.wf.par _ _ hj hk h1 rfl
  rw [h, hz] at p1
  cases p1
  unfold cN at p2
  rw [he] at p2
  simp at p2
/-- An entry's node: it is one, no root. -/
theorem ent_node (w : WF ok lt t) {i : Int} {p : Node} (hp : find t.nodes i = some p) {e : Ent} (he : e ∈ p.ents) : (∃ n, find t.nodes e.ino = some n) ∧ e.ino ≠ 1 ∧ e.ino ≠ i := by
  have hk := has_dir w.wf hp he
  have h1 := (w.wf.dir _ _ hp hk).2.to e he
  have hc : 0 < cN p e.ino := cN_mem.2 ⟨e, he, rfl⟩
  have hcc := cN_le (find_mem hp).1 e.ino
  have hne : e.ino ≠ 1 := fun h => by rw [h] at hc hcc; have := w.wf.cnt1; omega
  refine ⟨Option.isSome_iff_exists.1 h1, hne, fun h => ?_⟩
  rw [h] at hc hne
  have hone := (w.wf.lnk _ _ hp hk hne).1
  obtain ⟨q, q1, q2⟩ := w.wf.par _ _ hp hk hne rfl
  have := cnt_one w.wf.srt (by simpa using hone) (find_mem hp).1 (find_mem q1).1 hc (by omega)
  subst this
  have hup : p.up = i := (find_ino q1).symm.trans (find_ino hp)
  obtain ⟨d, d1, _⟩ := w.dep _ _ hp hk
  cases d1 with
  | root => exact hne rfl
  | up g gk g1 gd =>
    rw [hp] at g
    cases g
    rw [hup] at gd
    have := Dep.inj gd (.up hp hk hne (by rw [hup]; exact gd))
    omega
theorem WF.un (o : Ord lt) (w : WF ok lt t) (i : Int) (s : List UInt8) : WF ok lt (un ok t i s).1 := by
  unfold Tr.un
  split
  · exact w
  · rename_i h0
    obtain ⟨p, e, p1, p2, p3, p4, p5⟩ := look_of (x := (look ok t i s).1) (by rw [← Classical.not_not.1 h0])
    rw [← p5]
    obtain ⟨he, _⟩ := entOf_mem p4
    obtain ⟨⟨z, hz⟩, hx1, hxi⟩ := ent_node w p1 he
    split
    · exact w
    · rename_i hl
      rw [getZ_of hz] at hl
      have hze : z.ents = [] := List.eq_nil_of_length_eq_zero (by omega)
      have w1 := w.wf.left o p1 p2 p4
      have hf1 := fun j => find_left w.wf.srt p1 s j
      have hz1 : find (left t i s).nodes e.ino = some z := by rw [hf1, if_neg hxi]; exact hz
      have w2 := w1.unnamed hz1 hze (by unfold inc; rw [if_pos rfl]; omega) hx1
      rw [zero_dec] at w2
      have hf2 := fun j => find_unnamed w1.srt hz1 j
      refine ⟨w2, dep_keep w (fun j => j ≠ e.ino) (fun j n hj h hk h1 => ⟨up_ne w hz hze h hk h1, ?_⟩) (fun j n' hj hk => ?_)⟩
      · rw [hf2, if_neg hj, hf1]
        by_cases hji : j = i
        · subst hji
          rw [p1] at h; cases h
          exact ⟨_, if_pos rfl, hk, rfl⟩
        · rw [if_neg hji]
          exact ⟨n, h, hk, rfl⟩
      · rw [hf2] at hj
        split at hj
        · split at hj
          · cases hj
          · rename_i hzk; cases hj; exact absurd hk hzk
        · rename_i hjx
          refine ⟨hjx, ?_⟩
          rw [hf1] at hj
          split at hj
          · rename_i hji
            subst hji
            exact ⟨p, p1, p2, fun h => by rw [h] at he; cases he⟩
          · exact ⟨n', hj, hk, fun h => .inl h⟩

/-! What stands below. -/
inductive Rch (t : Tree) (i : Int) : Int → Nat → Prop
  | here : Rch t i i 0
  | up {j : Int} {n : Node} {e : Nat} (h : find t.nodes j = some n) (hk : n.kind = 2) (h1 : j ≠ 1) (hr : Rch t i n.up e) : Rch t i j (e + 1)
theorem Rch.dep {i j : Int} {e d : Nat} (h : Rch t i j e) : Dep t i d → Dep t j (d + e) := by
  induction h with
  | here => exact id
  | up h hk h1 hr ih => exact fun g => .up h hk h1 (ih g)
theorem both_len : ∀ {a b : List Int}, a.Nodup → (∀ x ∈ a, x ∈ b) → a.length ≤ b.length
  | [], _, _, _ => by simp
  | x :: a, b, h, hs => by
    obtain ⟨h1, h2⟩ := List.nodup_cons.1 h
    have := both_len (a := a) (b := b.erase x) h2 fun y hy => (List.mem_erase_of_ne (fun (e : y = x) => h1 (e ▸ hy))).2 (hs y (by simp [hy]))
    have hx := hs x (by simp)
    rw [List.length_erase_of_mem hx] at this
    have : 0 < b.length := List.length_pos_of_mem hx
    simp only [List.length_cons]
    omega
/-- So many nodes as deep. -/
theorem dep_len (w : WF ok lt t) {i : Int} {d : Nat} (h : Dep t i d) : d < t.nodes.length := by
  have : ∃ l : List Int, l.Nodup ∧ l.length = d + 1 ∧ ∀ j ∈ l, j ∈ t.nodes.map Node.ino ∧ ∃ d', d' ≤ d ∧ Dep t j d' := by
    induction h with
    | root =>
      obtain ⟨r, r1, _⟩ := w.wf.root
      exact ⟨[1], by simp, rfl, fun j hj => by
        simp only [List.mem_singleton] at hj
        subst hj
        exact ⟨List.mem_map.2 ⟨r, (find_mem r1).1, find_ino r1⟩, 0, Nat.le_refl _, .root⟩⟩
    | @up i n d h hk h1 hd ih =>
      obtain ⟨l, l1, l2, l3⟩ := ih
      refine ⟨i :: l, List.nodup_cons.2 ⟨fun hm => ?_, l1⟩, by simp [l2], fun j hj => ?_⟩
      · obtain ⟨_, d', e1, e2⟩ := l3 i hm
        have := e2.inj (.up h hk h1 hd)
        omega
      · rcases List.mem_cons.1 hj with rfl | hj
        · exact ⟨List.mem_map.2 ⟨n, (find_mem h).1, find_ino h⟩, d + 1, Nat.le_refl _, .up h hk h1 hd⟩
        · obtain ⟨g1, d', e1, e2⟩ := l3 j hj
          exact ⟨g1, d', by omega, e2⟩
  obtain ⟨l, l1, l2, l3⟩ := this
  have := both_len l1 fun j hj => (l3 j hj).1
  rw [List.length_map] at this
  omega
theorem bel_of {i o : Int} {e : Nat} (h : Rch t o i e) : ∀ k, e < k → belF t k i o = true := by
  induction h with
  | here =>
    intro k hk
    obtain ⟨k, rfl⟩ : ∃ j, k = j + 1 := ⟨k - 1, by omega⟩
    simp [belF]
  | @up j n e h hk h1 hr ih =>
    intro k hkk
    obtain ⟨k, rfl⟩ : ∃ j, k = j + 1 := ⟨k - 1, by omega⟩
    simp only [belF]
    rw [upN_of h, ih k (by omega)]
    by_cases hjo : j = o
    · rw [if_pos hjo]
    · rw [if_neg hjo, if_neg h1]
theorem bel_iff (w : WF ok lt t) {i o : Int} {d : Nat} (hd : Dep t i d) : below t i o = true ↔ ∃ e, Rch t o i e := by
  constructor
  · intro h
    unfold below at h
    generalize t.nodes.length + 1 = k at h
    induction hd generalizing k with
    | root =>
      cases k with
      | zero => simp [belF] at h
      | succ k =>
        simp only [belF] at h
        split at h
        · rename_i ho; subst ho; exact ⟨0, .here⟩
        · simp at h
    | up g gk g1 gd ih =>
      cases k with
      | zero => simp [belF] at h
      | succ k =>
        simp only [belF] at h
        split at h
        · rename_i ho; subst ho; exact ⟨0, .here⟩
        · rw [upN_of g] at h
          obtain ⟨e, he⟩ := ih k h
          exact ⟨e + 1, .up g gk g1 he⟩
  · rintro ⟨e, he⟩
    refine bel_of he _ ?_
    have hle : e ≤ d := by
      clear w
      induction he generalizing d with
      | here => omega
      | up g gk g1 gr ih =>
        cases hd with
        | root => exact absurd rfl g1
        | up k kk k1 kd =>
          rw [g] at k
          cases k
          have := ih kd
          omega
    have := dep_len w hd
    omega
end Go.Tr

/-
  A name that is moved keeps what may be.
-/
namespace Go.Tr
variable {ok : List UInt8 → Bool} {lt : List UInt8 → List UInt8 → Bool} {t : Tree} {M : Int → Nat}

theorem entOf_drop {n : Node} {s a : List UInt8} (h : a ≠ s) (b : Bool) : entOf { n with fe := b, ents := dropE s n.ents } a = entOf n a := by
  unfold entOf dropE
  simp only
  rw [List.find?_filter]
  congr 1
  funext e
  by_cases he : e.name = a
  · simp [he, h]
  · simp [he]
theorem clash_of {x : Node} {y : Int} {z : Node} (h : clash t x y = 0) (hz : find t.nodes y = some z) : (x.kind = 2 ↔ z.kind = 2) ∧ z.ents = [] := by
  unfold clash at h
  rw [hz] at h
  simp only at h
  split at h
  · omega
  · rename_i c1
    split at h
    · omega
    · rename_i c2
      split at h
      · omega
      · rename_i c3
        refine ⟨⟨fun hx => ?_, fun hz => ?_⟩, List.eq_nil_of_length_eq_zero (by omega)⟩
        · exact Classical.byContradiction fun hn => c1 ⟨hx, hn⟩
        · exact Classical.byContradiction fun hn => c2 ⟨hn, hz⟩
theorem high_ge {i at_ : Int} : ∀ {l : List Node} {m : Int}, m ≤ l.foldl (fun m n => if n.kind = 2 ∧ below t n.ino i = true then max m (at_ + depth t n.ino - depth t i + if 0 < n.ents.length then 1 else 0) else m) m
  | [], m => Int.le_refl _
  | n :: l, m => by
    rw [List.foldl_cons]
    refine Int.le_trans ?_ (high_ge (l := l))
    split
    · omega
    · exact Int.le_refl _
theorem high_le {i at_ : Int} : ∀ {l : List Node} {m : Int} {n : Node}, n ∈ l → n.kind = 2 → below t n.ino i = true →
    at_ + depth t n.ino - depth t i + (if 0 < n.ents.length then 1 else 0) ≤ l.foldl (fun m n => if n.kind = 2 ∧ below t n.ino i = true then max m (at_ + depth t n.ino - depth t i + if 0 < n.ents.length then 1 else 0) else m) m
  | q :: l, m, n, h, hk, hb => by
    rw [List.foldl_cons]
    rcases List.mem_cons.1 h with rfl | h
    · refine Int.le_trans ?_ (high_ge (l := l))
      rw [if_pos (show n.kind = 2 ∧ below t n.ino i = true from ⟨hk, hb⟩)]
      omega
    · exact high_le h hk hb
theorem WF.mv (o : Ord lt) (w : WF ok lt t) (from_ : Int) (s : List UInt8) (to : Int) (as : List UInt8) : WF ok lt (mv ok lt t from_ s to as).1 := by
  unfold Tr.mv
  split
  · exact w
  · rename_i h0
    split
    · exact w
    · rename_i hE
      split
      · exact w
      · rename_i h2
        obtain ⟨p, e, p1, p2, p3, p4, p5⟩ := look_of (x := (look ok t from_ s).1) (by rw [← Classical.not_not.1 h0])
        obtain ⟨q, q1, q2, q3⟩ := dirE_of (Classical.not_not.1 hE)
        have hok : ok as = true := by simpa using h2
        rw [← p5]
        obtain ⟨he, hes⟩ := entOf_mem p4
        obtain ⟨⟨x, hx⟩, hx1, hxf⟩ := ent_node w p1 he
        simp only [getZ_of hx]
        obtain ⟨i, hi⟩ : ∃ i, i = e.ino := ⟨_, rfl⟩
        rw [← hi] at hx hx1 hxf ⊢
        obtain ⟨y, hy⟩ : ∃ y, y = onto t to as := ⟨_, rfl⟩
        rw [← hy]
        split
        · exact w
        · rename_i hyi
          split
          · exact w
          · rename_i hbel
            split
            · exact w
            · rename_i hcl
              have hcl := Classical.not_not.1 hcl
              split
              · exact w
              · rename_i hful
                have hix : x.ino = i := find_ino hx
                have hito : i ≠ to := fun h => by
                  subst h
                  rw [hx] at q1
                  cases q1
                  exact hbel ⟨q2, by
                    obtain ⟨d, d1, _⟩ := w.dep _ _ hx q2
                    exact (bel_iff w d1).2 ⟨0, .here⟩⟩
                -- the name is taken
                have w1 := w.wf.left o p1 p2 p4
                rw [← hi] at w1
                have hf1 := fun j => find_left w.wf.srt p1 s j
                have hx1' : find (left t from_ s).nodes i = some x := by rw [hf1, if_neg hxf]; exact hx
                obtain ⟨qq, g1, g2, g3, g4⟩ : ∃ qq, find (left t from_ s).nodes to = some qq ∧ qq.kind = 2 ∧ qq.up = q.up ∧ (to = from_ → qq.ents = dropE s q.ents) ∧ (to ≠ from_ → qq = q) := by
                  rw [hf1]
                  by_cases htf : to = from_
                  · subst htf
                    rw [p1] at q1
                    cases q1
                    exact ⟨_, if_pos rfl, p2, rfl, fun _ => rfl, fun h => absurd rfl h⟩
                  · exact ⟨q, by rw [if_neg htf]; exact q1, q2, rfl, fun h => absurd h htf, fun _ => rfl⟩
                have hqo : as ≠ s ∨ to ≠ from_ → entOf qq as = entOf q as := fun h => by
                  by_cases htf : to = from_
                  · have has : as ≠ s := h.resolve_right (fun h => h htf)
                    have := entOf_drop (n := q) has false
                    unfold entOf at this ⊢
                    rw [g4.1 htf]
                    exact this
                  · rw [g4.2 htf]
                have hqs : to = from_ → as = s → y = i := fun h1 h2 => by
                  rw [hy, hi]
                  unfold onto
                  subst h1; subst h2
                  rw [p1] at q1
                  cases q1
                  rw [q3, p4]
                  rfl
                have hqa : as ≠ s ∨ to ≠ from_ := by
                  by_cases htf : to = from_
                  · exact .inl fun has => hyi (hqs htf has)
                  · exact .inr htf
                have hqo := hqo hqa
                have hql : qq.ents.length ≤ q.ents.length ∧ (to = from_ → qq.ents.length + 1 = q.ents.length) := by
                  by_cases htf : to = from_
                  · have hpq : q = p := by subst htf; rw [p1] at q1; cases q1; rfl
                    subst hpq
                    have := dropE_len o (w.wf.dir _ _ p1 p2).2.srt p4
                    rw [g4.1 htf]
                    exact ⟨by omega, fun _ => this⟩
                  · rw [g4.2 htf]
                    exact ⟨Nat.le_refl _, fun h => absurd h htf⟩
                -- what stood there is gone
                have main : ∃ u, (if y ≠ 0 then unnamed (left (left t from_ s) to as) y else left t from_ s) = u ∧ WFm ok lt u (inc (fun _ => 0) i) ∧ u.cookie = t.cookie ∧ find u.nodes i = some x ∧
                    (∃ r, find u.nodes to = some r ∧ r.kind = 2 ∧ r.up = q.up ∧ (∀ e ∈ r.ents, e.name ≠ as) ∧ r.ents.length < 64) ∧
                    (∀ j n, find t.nodes j = some n → n.kind = 2 → j ≠ 1 → n.up ≠ y) ∧
                    (∀ j n, j ≠ y → find t.nodes j = some n → n.kind = 2 → ∃ n', find u.nodes j = some n' ∧ n'.kind = 2 ∧ n'.up = n.up) ∧
                    (∀ j n', find u.nodes j = some n' → n'.kind = 2 → j ≠ y ∧ ∃ n, find t.nodes j = some n ∧ n.kind = 2 ∧ n'.up = n.up ∧ (j = to ∨ (n.ents = [] → n'.ents = []))) := by
                  by_cases hy0 : y = 0
                  · rw [if_neg (fun h => h hy0)]
                    have hno : entOf q as = none := by
                      cases hq : entOf q as with
                      | none => rfl
                      | some e2 =>
                        exfalso
                        have : y = e2.ino := by rw [hy]; unfold onto; rw [q3, hq]; rfl
                        obtain ⟨⟨n2, hn2⟩, _⟩ := ent_node w q1 (entOf_mem hq).1
                        have := w.wf.pos _ _ hn2
                        omega
                    refine ⟨_, rfl, w1, rfl, hx1', ⟨qq, g1, g2, g3, ?_, ?_⟩, fun j n hj hk h1 hn => ?_, fun j n hjy hj hk => ?_, fun j n' hj hk => ?_⟩
                    · rw [hno] at hqo
                      exact entOf_none.1 hqo
                    · have h64 := (w.wf.dir _ _ q1 q2).2.len
                      rw [q3] at hful
                      by_cases htf : to = from_
                      · have := hql.2 htf; omega
                      · have := hql.1
                        have : ¬ 64 ≤ q.ents.length := fun h => hful (.inl ⟨hy0, htf, h⟩)
                        omega
                    · obtain ⟨r, r1, _⟩ := w.wf.par _ _ hj hk h1 rfl
                      have := w.wf.pos _ _ r1
                      omega
                    · rw [hf1]
                      by_cases hjf : j = from_
                      · subst hjf
                        rw [p1] at hj; cases hj
                        exact ⟨_, if_pos rfl, hk, rfl⟩
                      · rw [if_neg hjf]
                        exact ⟨n, hj, hk, rfl⟩
                    · have hj0 : j ≠ 0 := fun h => by have := w1.pos _ _ hj; omega
                      refine ⟨by rw [hy0]; exact hj0, ?_⟩
                      rw [hf1] at hj
                      split at hj
                      · rename_i hjf
                        subst hjf
                        cases hj
                        exact ⟨p, p1, p2, rfl, .inr fun h => by rw [h] at he; cases he⟩
                      · exact ⟨n', hj, hk, rfl, .inr fun h => h⟩
                  · rw [if_pos hy0]
                    obtain ⟨e2, he2⟩ : ∃ e2, entOf q as = some e2 := by
                      cases hq : entOf q as with
                      | none => exfalso; apply hy0; rw [hy]; unfold onto; rw [q3, hq]; rfl
                      | some e2 => exact ⟨e2, rfl⟩
                    have hye : y = e2.ino := by rw [hy]; unfold onto; rw [q3, he2]; rfl
                    obtain ⟨⟨z, hz⟩, hy1, hyt⟩ := ent_node w q1 (entOf_mem he2).1
                    rw [← hye] at hz hy1 hyt
                    obtain ⟨hkk, hze⟩ := clash_of hcl hz
                    have hyf : y ≠ from_ := fun h => by
                      rw [h, p1] at hz
                      cases hz
                      rw [hze] at he; cases he
                    have w2 := w1.left o g1 g2 (by rw [hqo]; exact he2)
                    rw [← hye] at w2
                    have hf2 := fun j => find_left w1.srt g1 as j
                    have hz2 : find (left (left t from_ s) to as).nodes y = some z := by rw [hf2, if_neg hyt, hf1, if_neg hyf]; exact hz
                    have w3 := w2.unnamed hz2 hze (by unfold inc; rw [if_pos rfl]; omega) hy1
                    rw [dec_inc] at w3
                    have hf3 := fun j => find_unnamed w2.srt hz2 j
                    have hq2 := dropE_len o (w1.dir _ _ g1 g2).2.srt (by rw [hqo]; exact he2)
                    refine ⟨_, rfl, w3, ?_, ?_, ⟨{ qq with fe := false, ents := dropE as qq.ents }, ?_, g2, g3, ?_, ?_⟩, fun j n hj hk h1 => up_ne w hz hze hj hk h1, fun j n hjy hj hk => ?_, fun j n' hj hk => ?_⟩
                    · unfold unnamed
                      split <;> rfl
                    · rw [hf3, if_neg (fun h => hyi h.symm), hf2, if_neg hito]
                      exact hx1'
                    · rw [hf3, if_neg (fun h => hyt h.symm), hf2, if_pos rfl]
                    · intro e he
                      exact (dropE_mem.1 he).2
                    · have h64 := (w.wf.dir _ _ q1 q2).2.len
                      have := hql.1
                      simp only
                      omega
                    · rw [hf3, if_neg hjy, hf2]
                      by_cases hjt : j = to
                      · subst hjt
                        rw [q1] at hj; cases hj
                        exact ⟨_, if_pos rfl, g2, g3⟩
                      · rw [if_neg hjt, hf1]
                        by_cases hjf : j = from_
                        · subst hjf
                          rw [p1] at hj; cases hj
                          exact ⟨_, if_pos rfl, hk, rfl⟩
                        · rw [if_neg hjf]
                          exact ⟨n, hj, hk, rfl⟩
                    · rw [hf3] at hj
                      split at hj
                      · split at hj
                        · cases hj
                        · rename_i hzk; cases hj; exact absurd hk hzk
                      · rename_i hjy
                        refine ⟨hjy, ?_⟩
                        rw [hf2] at hj
                        split at hj
                        · rename_i hjt
                          subst hjt
                          cases hj
                          exact ⟨q, q1, q2, g3, .inl rfl⟩
                        · rw [hf1] at hj
                          split at hj
                          · rename_i hjf
                            subst hjf
                            cases hj
                            exact ⟨p, p1, p2, rfl, .inr fun h => by rw [h] at he; cases he⟩
                          · exact ⟨n', hj, hk, rfl, .inr fun h => h⟩
                obtain ⟨u, hu, wu, huc, hui, ⟨r, r1, r2, r3, r4, r5⟩, hupy, hdirs, hback⟩ := main
                have hdt : depth t to < 12 := by omega
                have hck : t.cookie < 1099511627776 := by omega
                show WF ok lt (moved lt t from_ s to as i y)
                unfold moved
                simp only [getZ_of hx]
                rw [hu]
                obtain ⟨dto, dt1, dt2, dt3⟩ := w.dep _ _ q1 q2
                rw [depth_eq dt1 (by omega)] at hdt
                by_cases hxk : x.kind = 2
                · rw [if_pos hxk]
                  have hxd := w.wf.dir _ _ hx hxk
                  have hxl := w.wf.lnk _ _ hx hxk hx1
                  have w4 := wu.set (n := { x with up := to }) hui hix rfl rfl (inc (fun _ => 0) i) (fun _ _ => rfl) (fun h => by simp only at h; omega) (fun _ => ⟨hxd.1, rfl, rfl, .inr ⟨hx1, by unfold inc; rw [if_pos rfl]; omega⟩⟩)
                  have hf4 := fun j => find_set wu.srt (n := { x with up := to }) hix j
                  have r1' : find (withN u { x with up := to }).nodes to = some r := by rw [hf4, if_neg (fun h => hito h.symm)]; exact r1
                  have w5 := w4.entered o r1' r2 hok r4 r5 (by show u.cookie < _; rw [huc]; exact hck) (of := i) (m := { x with up := to }) (by rw [hf4, if_pos rfl]) (by unfold inc; rw [if_pos rfl]; omega) hx1 (fun _ => rfl)
                  rw [zero_dec] at w5
                  have hf5 := find_entered (lt := lt) w4.srt r1' as i
                  obtain ⟨di, di1, di2, di3⟩ := w.dep _ _ hx hxk
                  have hnb : ¬ ∃ k, Rch t i to k := fun h => hbel ⟨hxk, (bel_iff w dt1).2 h⟩
                  -- directories that are not below
                  have keep : ∀ j d, Dep t j d → (j ≠ y ∧ ¬ ∃ k, Rch t i j k) → Dep (entered lt (withN u { x with up := to }) to as i) j d := fun j d h => h.keep (P := fun j => j ≠ y ∧ ¬ ∃ k, Rch t i j k) (fun j n hj hf hk h1 => by
                    refine ⟨⟨hupy j n hf hk h1, fun ⟨k, hr⟩ => hj.2 ⟨k + 1, .up hf hk h1 hr⟩⟩, ?_⟩
                    obtain ⟨n', a1, a2, a3⟩ := hdirs j n hj.1 hf hk
                    have hji : j ≠ i := fun h => hj.2 ⟨0, by rw [h]; exact .here⟩
                    rw [hf5]
                    by_cases hjt : j = to
                    · subst hjt
                      rw [r1] at a1
                      cases a1
                      exact ⟨_, if_pos rfl, r2, a3⟩
                    · rw [if_neg hjt, hf4, if_neg hji]
                      exact ⟨n', a1, a2, a3⟩)
                  have hty : to ≠ y := fun h => by
                    have := hback _ _ r1 r2
                    exact this.1 h
                  have hdto := keep to dto dt1 ⟨hty, hnb⟩
                  have hdi : Dep (entered lt (withN u { x with up := to }) to as i) i (dto + 1) := by
                    refine .up (n := { x with up := to }) ?_ hxk hx1 hdto
                    rw [hf5, if_neg hito, hf4, if_pos rfl]
                  have hrch : ∀ j k, Rch t i j k → j ≠ y → Dep (entered lt (withN u { x with up := to }) to as i) j (dto + 1 + k) := fun j k h => by
                    induction h with
                    | here => intro _; exact hdi
                    | @up j n k hf hk h1 hr ih =>
                      intro hjy
                      by_cases hji : j = i
                      · exfalso
                        subst hji
                        rw [hx] at hf
                        cases hf
                        cases di1 with
                        | root => exact hx1 rfl
                        | up c1 c2 c3 c4 =>
                          rw [hx] at c1
                          cases c1
                          have := hr.dep (.up hx hxk hx1 c4)
                          have := this.inj c4
                          omega
                      · obtain ⟨n', a1, a2, a3⟩ := hdirs j n hjy hf hk
                        by_cases hjt : j = to
                        · exfalso
                          subst hjt
                          exact hnb ⟨k + 1, .up hf hk h1 hr⟩
                        · refine .up (n := n') ?_ a2 h1 ?_
                          · rw [hf5, if_neg hjt, hf4, if_neg hji]
                            exact a1
                          · rw [a3]
                            exact ih (hupy j n hf hk h1)
                  refine ⟨w5, fun j n' hj hk => ?_⟩
                  by_cases hji : j = i
                  · subst hji
                    have hhi : ¬ (12 < high t j (depth t to + 1)) := fun h => hful (.inr (.inr (.inl ⟨hxk, h⟩)))
                    have hb0 : below t j j = true := (bel_iff w di1).2 ⟨0, .here⟩
                    have hge := high_le (t := t) (i := j) (at_ := (depth t to : Int) + 1) (m := 0) (find_mem hx).1 hxk (by rw [hix]; exact hb0)
                    unfold high at hhi
                    rw [hix] at hge
                    rw [depth_eq dt1 (by omega)] at hge hhi
                    rw [hf5, if_neg hito, hf4, if_pos rfl] at hj
                    cases hj
                    refine ⟨dto + 1, hdi, by omega, fun h => ?_⟩
                    simp only
                    rcases Nat.eq_zero_or_pos x.ents.length with h0 | h0
                    · exact List.eq_nil_of_length_eq_zero h0
                    · rw [if_pos h0] at hge; omega
                  · have hu2 : ∃ n2, find u.nodes j = some n2 ∧ n2.kind = 2 ∧ (j ≠ to → n2 = n') := by
                      rw [hf5] at hj
                      split at hj
                      · rename_i hjt; subst hjt; exact ⟨r, r1, r2, fun h => absurd rfl h⟩
                      · rename_i hjt
                        rw [hf4, if_neg hji] at hj
                        exact ⟨n', hj, hk, fun _ => rfl⟩
                    obtain ⟨n2, b1, b2, b3⟩ := hu2
                    obtain ⟨hjy, n, c1, c2, c3, c4⟩ := hback j n2 b1 b2
                    obtain ⟨d, d1, d2, d3⟩ := w.dep _ _ c1 c2
                    by_cases hR : ∃ k, Rch t i j k
                    · have hjt : j ≠ to := fun h => hnb (h ▸ hR)
                      have hbj := (bel_iff w d1).2 hR
                      obtain ⟨k, hk2⟩ := hR
                      have hdd := d1.inj (hk2.dep di1)
                      have hhi : ¬ (12 < high t i (depth t to + 1)) := fun h => hful (.inr (.inr (.inl ⟨hxk, h⟩)))
                      have hge := high_le (t := t) (i := i) (at_ := (depth t to : Int) + 1) (m := 0) (find_mem c1).1 c2 (by rw [find_ino c1]; exact hbj)
                      unfold high at hhi
                      rw [find_ino c1, depth_eq d1 (by omega), depth_eq di1 (by omega), depth_eq dt1 (by omega)] at hge
                      rw [depth_eq dt1 (by omega), depth_eq di1 (by omega)] at hhi
                      refine ⟨dto + 1 + k, hrch j k hk2 hjy, by omega, fun h => ?_⟩
                      have hn0 : n.ents = [] := by
                        rcases Nat.eq_zero_or_pos n.ents.length with h0 | h0
                        · exact List.eq_nil_of_length_eq_zero h0
                        · rw [if_pos h0] at hge; omega
                      rw [← b3 hjt]
                      rcases c4 with c4 | c4
                      · exact absurd c4 hjt
                      · exact c4 hn0
                    · refine ⟨d, keep j d d1 ⟨hjy, hR⟩, d2, fun h => ?_⟩
                      by_cases hjt : j = to
                      · subst hjt
                        have := d1.inj dt1
                        omega
                      · rw [← b3 hjt]
                        rcases c4 with c4 | c4
                        · exact absurd c4 hjt
                        · exact c4 (d3 h)
                · rw [if_neg hxk]
                  have w5 := wu.entered o r1 r2 hok r4 r5 (by rw [huc]; exact hck) (of := i) (m := x) hui (by unfold inc; rw [if_pos rfl]; omega) hx1 (fun h => absurd h hxk)
                  rw [zero_dec] at w5
                  have hf5 := find_entered (lt := lt) wu.srt r1 as i
                  refine ⟨w5, dep_keep w (fun j => j ≠ y) (fun j n hj hf hk h1 => ⟨hupy j n hf hk h1, ?_⟩) (fun j n' hj hk => ?_)⟩
                  · obtain ⟨n', a1, a2, a3⟩ := hdirs j n hj hf hk
                    rw [hf5]
                    by_cases hjt : j = to
                    · subst hjt
                      rw [r1] at a1
                      cases a1
                      exact ⟨_, if_pos rfl, r2, a3⟩
                    · rw [if_neg hjt]
                      exact ⟨n', a1, a2, a3⟩
                  · rw [hf5] at hj
                    split at hj
                    · rename_i hjt
                      subst hjt
                      exact ⟨(hback _ _ r1 r2).1, q, q1, q2, fun _ => .inr (by rw [depth_eq dt1 (by omega)]; exact hdt)⟩
                    · rename_i hjt
                      obtain ⟨hjy, n, c1, c2, c3, c4⟩ := hback j n' hj hk
                      refine ⟨hjy, n, c1, c2, fun h => .inl ?_⟩
                      rcases c4 with c4 | c4
                      · exact absurd c4 hjt
                      · exact c4 h
theorem WF.step (o : Ord lt) (w : WF ok lt t) (s : Step) : WF ok lt (step ok lt t s) := by
  unfold Tr.step
  split
  · exact w.add o _ _ _
  · exact w.add o _ _ _
  · exact w.ln o _ _ _
  · exact w.un o _ _
  · exact w.mv o _ _ _ _
  · exact w.mv o _ _ _ _
  · exact w.put _ _
  · exact w.free _
/-- Trees of steps may be. -/
theorem WF.made (o : Ord lt) (l : List Step) : WF ok lt (made ok lt l) := by
  unfold Tr.made
  have : ∀ (l : List Step) (t : Tree), WF ok lt t → WF ok lt (l.foldl (Tr.step ok lt) t) := by
    intro l
    induction l with
    | nil => intro t w; exact w
    | cons s l ih => intro t w; exact ih _ (w.step o s)
  exact this l _ .new
end Go.Tr

/-
  Rightness, as the document tells it step by step; trees of steps are right.
-/
namespace Go.Tr
section
variable (ok : List UInt8 → Bool) (lt : List UInt8 → List UInt8 → Bool)
/-- An entry at a place of a row. -/
def entR (t : Tree) (l : List Ent) (i : Nat) : Bool := match l[i]? with
  | none => false
  | some x => ok x.name && (decide (1 ≤ x.cookie) && (decide (x.cookie < t.cookie) && ((find t.nodes x.ino).isSome && ((decide (i = 0) || ((l[i - 1]?).elim false fun y => lt y.name x.name)) && (l.take i).all fun y => !decide (y.cookie = x.cookie)))))
def entsR (t : Tree) (l : List Ent) : Bool := decide (l.length ≤ 64) && (List.range l.length).all (entR ok lt t l)
/-- How many of one directory's entries name it: of all nodes of its number. -/
def ownC (l : List Node) (i up : Int) : Nat := ((l.filter fun n => decide (n.ino = up)).map fun n => cN n i).sum
def nodeR (t : Tree) (n : Node) : Bool :=
  if n.kind = 1 then decide (n.ents.length = 0) && (decide (n.up = 0) && (decide (n.data.length ≤ 4096) && decide (n.links = (cnt t.nodes n.ino : Nat))))
  else if n.kind ≠ 2 ∨ 0 < n.data.length ∨ entsR ok lt t n.ents = false then false
  else if n.ino = 1 then decide (n.up = 1) && (decide (n.links = 0) && decide (cnt t.nodes n.ino = 0))
  else decide (cnt t.nodes n.ino = 1) && (decide (ownC t.nodes n.ino n.up = 1) && decide (n.links = 1))
def rowR (t : Tree) (i : Nat) : Bool := match t.nodes[i]? with
  | none => false
  | some n => (decide (i = 0) || ((t.nodes[i - 1]?).elim false fun m => decide (m.ino < n.ino))) && (decide (n.ino < t.next) && (decide (n.ents.length ≤ 64) && nodeR ok lt t n))
def depR (t : Tree) (n : Node) : Bool := if n.kind ≠ 2 then true else below t n.ino 1 && (decide (depth t n.ino ≤ 12) && (!decide (depth t n.ino = 12) || decide (n.ents.length = 0)))
def rightT (t : Tree) : Bool :=
  (decide (1 ≤ t.nodes.length ∧ t.nodes.length ≤ 200) && ((t.nodes[0]?).elim false fun n => decide (n.ino = 1 ∧ n.kind = 2))) && (decide (t.next ≤ 1099511627776 ∧ 1 ≤ t.cookie ∧ t.cookie ≤ 1099511627776) &&
  ((List.range t.nodes.length).all (rowR ok lt t) && t.nodes.all (depR t)))
end
variable {ok : List UInt8 → Bool} {lt : List UInt8 → List UInt8 → Bool} {t : Tree}
theorem entsR_of {l : List Ent} (h : EntsOK ok lt t l) : entsR ok lt t l = true := by
  unfold entsR
  rw [Bool.and_eq_true, decide_eq_true_eq, List.all_eq_true]
  refine ⟨h.len, fun i hi => ?_⟩
  have hi := List.mem_range.1 hi
  unfold entR
  rw [List.getElem?_eq_getElem hi]
  have hm := List.getElem_mem hi
  have hc := h.ck _ hm
  simp only [Bool.and_eq_true, decide_eq_true_eq, Bool.or_eq_true, List.all_eq_true]
  refine ⟨h.nm _ hm, hc.1, hc.2, h.to _ hm, ?_, fun y hy => ?_⟩
  · rcases Nat.eq_zero_or_pos i with h0 | h0
    · exact .inl h0
    · right
      rw [List.getElem?_eq_getElem (show i - 1 < l.length by omega)]
      exact (List.pairwise_iff_getElem.1 h.srt) (i - 1) i (by omega) hi (by omega)
  · obtain ⟨j, hj, rfl⟩ := List.mem_iff_getElem.1 hy
    rw [List.length_take] at hj
    rw [List.getElem_take]
    have := (List.pairwise_iff_getElem.1 h.dis) j i (by omega) hi (by omega)
    simpa using this
theorem ownC_of {l : List Node} (hs : Srt l) {up : Int} {p : Node} (hp : find l up = some p) (i : Int) : ownC l i up = cN p i := by
  obtain ⟨hm, hi⟩ := find_mem hp
  have : (l.filter fun n => decide (n.ino = up)) = [p] := by
    clear hp
    induction l with
    | nil => cases hm
    | cons q l ih =>
      obtain ⟨h1, h2⟩ := List.pairwise_cons.1 hs
      rw [List.filter_cons]
      rcases List.mem_cons.1 hm with rfl | hm
      · rw [if_pos (by simpa using hi)]
        congr 1
        rw [List.filter_eq_nil_iff]
        intro r hr
        have := h1 r hr
        simp; omega
      · have := h1 p hm
        rw [if_neg (by simp; omega)]
        exact ih h2 hm
  unfold ownC
  rw [this]
  simp
theorem nodeR_of (w : WF ok lt t) {i : Int} {n : Node} (h : find t.nodes i = some n) : nodeR ok lt t n = true := by
  have hi := find_ino h
  unfold nodeR
  rw [hi]
  rcases w.wf.kind _ _ h with hk | hk
  · rw [if_pos hk]
    obtain ⟨f1, f2, f3, f4⟩ := w.wf.file _ _ h hk
    simp only [Bool.and_eq_true, decide_eq_true_eq]
    exact ⟨by rw [f1]; rfl, f2, f3, by simpa using f4⟩
  · rw [if_neg (by omega)]
    obtain ⟨d1, d2⟩ := w.wf.dir _ _ h hk
    rw [if_neg (by rw [entsR_of d2, d1]; simp [hk])]
    by_cases h1 : i = 1
    · subst h1
      rw [if_pos rfl]
      obtain ⟨r, r1, r2, r3, r4⟩ := w.wf.root
      rw [h] at r1
      cases r1
      simp only [Bool.and_eq_true, decide_eq_true_eq]
      exact ⟨r3, r4, w.wf.cnt1⟩
    · rw [if_neg h1]
      have hl := w.wf.lnk _ _ h hk h1
      obtain ⟨p, p1, p2⟩ := w.wf.par _ _ h hk h1 rfl
      simp only [Bool.and_eq_true, decide_eq_true_eq]
      exact ⟨by simpa using hl.1, by rw [ownC_of w.wf.srt p1]; exact p2, hl.2⟩
theorem reach_root {t : Tree} {i : Int} {d : Nat} (h : Dep t i d) : ∃ e, Rch t 1 i e := by
  induction h with
  | root => exact ⟨0, .here⟩
  | up h hk h1 hd ih =>
    obtain ⟨e, he⟩ := ih
    exact ⟨e + 1, .up h hk h1 he⟩
theorem WF.right (w : WF ok lt t) : rightT ok lt t = true := by
  obtain ⟨r, r1, r2, _⟩ := w.wf.root
  have hne : 0 < t.nodes.length := List.length_pos_of_mem (find_mem r1).1
  unfold rightT
  simp only [Bool.and_eq_true, decide_eq_true_eq, List.all_eq_true]
  refine ⟨⟨⟨hne, w.wf.len⟩, ?_⟩, ⟨w.wf.nxt, w.wf.ck1, w.wf.ck2⟩, fun i hi => ?_, fun n hn => ?_⟩
  · rw [List.getElem?_eq_getElem hne]
    simp only [Option.elim_some, decide_eq_true_eq]
    have h0 := find_of w.wf.srt (List.getElem_mem hne)
    have hpos := w.wf.pos _ _ h0
    obtain ⟨k, hk, hkr⟩ := List.mem_iff_getElem.1 (find_mem r1).1
    have hr1 := find_ino r1
    rcases Nat.eq_zero_or_pos k with hk0 | hk0
    · subst hk0
      rw [hkr]
      exact ⟨hr1, r2⟩
    · have := (List.pairwise_iff_getElem.1 w.wf.srt) 0 k hne hk hk0
      rw [hkr, hr1] at this
      omega
  · have hi := List.mem_range.1 hi
    unfold rowR
    rw [List.getElem?_eq_getElem hi]
    have hf := find_of w.wf.srt (List.getElem_mem hi)
    simp only [Bool.and_eq_true, decide_eq_true_eq, Bool.or_eq_true]
    refine ⟨?_, (w.wf.pos _ _ hf).2, ?_, nodeR_of w hf⟩
    · rcases Nat.eq_zero_or_pos i with h0 | h0
      · exact .inl h0
      · right
        rw [List.getElem?_eq_getElem (show i - 1 < t.nodes.length by omega)]
        simp only [Option.elim_some, decide_eq_true_eq]
        exact (List.pairwise_iff_getElem.1 w.wf.srt) (i - 1) i (by omega) hi (by omega)
    · rcases w.wf.kind _ _ hf with hk | hk
      · rw [(w.wf.file _ _ hf hk).1]; simp
      · exact (w.wf.dir _ _ hf hk).2.len
  · have hf := find_of w.wf.srt hn
    unfold depR
    split
    · rfl
    · rename_i hk
      obtain ⟨d, d1, d2, d3⟩ := w.dep _ _ hf (Classical.not_not.1 hk)
      rw [depth_eq d1 (by omega)]
      simp only [Bool.and_eq_true, decide_eq_true_eq, Bool.or_eq_true]
      refine ⟨(bel_iff w d1).2 (reach_root d1), d2, ?_⟩
      by_cases h12 : d = 12
      · right
        rw [d3 h12]; rfl
      · left; simp [h12]
end Go.Tr

/-
  The order of texts.
-/
namespace Go.Tr
open Go.Am
theorem sLess_irr : ∀ a : List UInt8, sLess a a = false
  | [] => rfl
  | a :: x => by
    simp only [sLess, sLess_irr x]
    simp
theorem sLess_tot : ∀ a b : List UInt8, sLess a b = true ∨ a = b ∨ sLess b a = true
  | [], [] => .inr (.inl rfl)
  | [], _ :: _ => .inl rfl
  | _ :: _, [] => .inr (.inr rfl)
  | a :: x, b :: y => by
    simp only [sLess, Bool.or_eq_true, decide_eq_true_eq, Bool.and_eq_true, beq_iff_eq, List.cons.injEq, UInt8.lt_iff_toNat_lt]
    rcases Nat.lt_trichotomy a.toNat b.toNat with h | h | h
    · exact .inl (.inl h)
    · have hab : a = b := UInt8.toNat.inj h
      subst hab
      rcases sLess_tot x y with h | h | h
      · exact .inl (.inr ⟨rfl, h⟩)
      · exact .inr (.inl ⟨rfl, h⟩)
      · exact .inr (.inr (.inr ⟨rfl, h⟩))
    · exact .inr (.inr (.inl h))
theorem sLess_tr : ∀ a b c : List UInt8, sLess a b = true → sLess b c = true → sLess a c = true
  | _, _, [], _, h => by simp [sLess] at h
  | _, [], _ :: _, h, _ => by simp [sLess] at h
  | [], _ :: _, _ :: _, _, _ => rfl
  | a :: x, b :: y, c :: z, h1, h2 => by
    simp only [sLess, Bool.or_eq_true, decide_eq_true_eq, Bool.and_eq_true, beq_iff_eq, UInt8.lt_iff_toNat_lt] at h1 h2 ⊢
    rcases h1 with h1 | ⟨rfl, h1⟩
    · rcases h2 with h2 | ⟨rfl, h2⟩
      · exact .inl (by omega)
      · exact .inl h1
    · rcases h2 with h2 | ⟨rfl, h2⟩
      · exact .inl h2
      · exact .inr ⟨rfl, sLess_tr x y z h1 h2⟩
theorem ord_sLess : Ord sLess := ⟨sLess_irr, sLess_tr, sLess_tot⟩
theorem sLess_asym {a b : List UInt8} (h : sLess a b = true) : sLess b a = false := by
  cases h' : sLess b a with
  | false => rfl
  | true => have := sLess_tr _ _ _ h h'; rw [sLess_irr] at this; cases this
theorem sLess_ne {a b : List UInt8} (h : sLess a b = true) : a ≠ b := fun e => by rw [e, sLess_irr] at h; cases h
end Go.Tr
