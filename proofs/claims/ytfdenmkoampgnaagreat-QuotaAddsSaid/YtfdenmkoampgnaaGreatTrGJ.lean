/-
  Sizes of trees on the way: each change makes them a little greater.
-/
import Derived.Test.YtfdenmkoampgnaaGreatTrGA
set_option linter.unusedSimpArgs false
set_option linter.unusedVariables false
namespace Go.Tr
structure Bg (k : Nat) (t : Tree) : Prop where
  len : t.nodes.length ≤ 200 + k
  ents : ∀ n ∈ t.nodes, n.ents.length ≤ 64 + k
  ck0 : 0 ≤ t.cookie
  ck : t.cookie ≤ 1099511627776 + (k : Int)
  nx0 : 0 ≤ t.next
  nx : t.next ≤ 1099511627776 + (k : Int)
  lk : ∀ n ∈ t.nodes, -(k : Int) ≤ n.links ∧ n.links ≤ 1099511627776 + (k : Int)
theorem cN_len (n : Node) (i : Int) : cN n i ≤ n.ents.length := List.length_filter_le ..
theorem cnt_le {l : List Node} {b : Nat} (h : ∀ n ∈ l, n.ents.length ≤ b) (i : Int) : cnt l i ≤ l.length * b := by
  unfold cnt
  induction l with
  | nil => simp
  | cons n l ih =>
    rw [List.map_cons, List.sum_cons, List.length_cons, Nat.succ_mul]
    have h1 := ih fun m hm => h m (List.mem_cons_of_mem _ hm)
    have h2 := h n List.mem_cons_self
    have h3 := cN_len n i
    omega
theorem WF.bg {ok : List UInt8 → Bool} {lt : List UInt8 → List UInt8 → Bool} {t : Tree} (w : WF ok lt t) : Bg 0 t := by
  have he : ∀ n ∈ t.nodes, n.ents.length ≤ 64 := fun n hn => by
    have hf := find_of w.wf.srt hn
    rcases w.wf.kind _ _ hf with h | h
    · rw [(w.wf.file _ _ hf h).1]; simp
    · exact (w.wf.dir _ _ hf h).2.len
  obtain ⟨r, hr, hk, _, hl⟩ := w.wf.root
  have hp := w.wf.pos _ _ hr
  refine ⟨w.wf.len, he, by have := w.wf.ck1; omega, by have := w.wf.ck2; omega, by omega, by have := w.wf.nxt; omega, fun n hn => ?_⟩
  have hf := find_of w.wf.srt hn
  rcases w.wf.kind _ _ hf with h | h
  · have h1 := (w.wf.file _ _ hf h).2.2.2
    have h2 := cnt_le he n.ino
    have h3 := w.wf.len
    have h4 : t.nodes.length * 64 ≤ 200 * 64 := Nat.mul_le_mul_right _ h3
    omega
  · by_cases h1 : n.ino = 1
    · rw [h1, hr] at hf
      obtain rfl := Option.some.inj hf
      omega
    · have := (w.wf.lnk _ _ hf h h1).2
      omega
variable {k : Nat} {t : Tree}
theorem Bg.mono (h : Bg k t) {j : Nat} (hj : k ≤ j) : Bg j t :=
  ⟨by have := h.len; omega, fun n hn => by have := h.ents n hn; omega, h.ck0, by have := h.ck; omega, h.nx0, by have := h.nx; omega, fun n hn => by have := h.lk n hn; omega⟩
theorem mem_ins_or {n m : Node} {l : List Node} (h : m ∈ ins n l) : m = n ∨ m ∈ l := by
  unfold ins at h
  rcases List.mem_append.1 h with h | h
  · exact .inr ((List.takeWhile_sublist _).subset h)
  · rcases List.mem_cons.1 h with h | h
    · exact .inl h
    · exact .inr ((List.dropWhile_sublist _).subset (List.mem_filter.1 h).1)
theorem ins_le (n : Node) (l : List Node) : (ins n l).length ≤ l.length + 1 := by
  unfold ins
  rw [List.length_append, List.length_cons]
  have h1 := List.length_filter_le (fun m : Node => decide (m.ino ≠ n.ino)) (l.dropWhile fun m => decide (m.ino < n.ino))
  have h2 := congrArg List.length (List.takeWhile_append_dropWhile (p := fun m : Node => decide (m.ino < n.ino)) (l := l))
  rw [List.length_append] at h2
  omega
theorem Bg.withN (h : Bg k t) {n : Node} (he : n.ents.length ≤ 64 + k + 1) (hl : -(k : Int) - 1 ≤ n.links ∧ n.links ≤ 1099511627776 + (k : Int) + 1) : Bg (k + 1) (withN t n) := by
  refine ⟨?_, fun m hm => ?_, h.ck0, ?_, h.nx0, ?_, fun m hm => ?_⟩
  · have := ins_le n t.nodes
    have := h.len
    show (ins n t.nodes).length ≤ _
    omega
  · rcases mem_ins_or (show m ∈ ins n t.nodes from hm) with rfl | hm
    · omega
    · have := h.ents m hm; omega
  · have := h.ck; show t.cookie ≤ _; omega
  · have := h.nx; show t.next ≤ _; omega
  · rcases mem_ins_or (show m ∈ ins n t.nodes from hm) with rfl | hm
    · omega
    · have := h.lk m hm; omega
theorem Bg.without (h : Bg k t) (i : Int) : Bg k (without t i) :=
  ⟨Nat.le_trans (List.length_filter_le ..) h.len, fun n hn => h.ents n (List.mem_filter.1 hn).1, h.ck0, h.ck, h.nx0, h.nx, fun n hn => h.lk n (List.mem_filter.1 hn).1⟩
theorem Bg.getZ (h : Bg k t) (i : Int) : (getZ t i).ents.length ≤ 64 + k ∧ -(k : Int) ≤ (getZ t i).links ∧ (getZ t i).links ≤ 1099511627776 + (k : Int) := by
  unfold Tr.getZ
  cases hf : find t.nodes i with
  | none => simp [nodeZ]; omega
  | some n => exact ⟨h.ents n (find_mem hf).1, h.lk n (find_mem hf).1⟩
theorem Bg.left (h : Bg k t) (i : Int) (s : List UInt8) : Bg (k + 1) (left t i s) := by
  have hg := h.getZ i
  unfold Tr.left
  refine h.withN ?_ ?_
  · have := List.length_filter_le (fun e : Ent => decide (e.name ≠ s)) (Tr.getZ t i).ents
    show (List.filter _ _).length ≤ _
    omega
  · show _ ≤ (Tr.getZ t i).links ∧ (Tr.getZ t i).links ≤ _
    omega
theorem Bg.unnamed (h : Bg k t) (i : Int) : Bg (k + 1) (unnamed t i) := by
  have hg := h.getZ i
  unfold Tr.unnamed
  split
  · exact (h.without i).mono (Nat.le_succ _)
  · refine h.withN (by show (Tr.getZ t i).ents.length ≤ _; omega) ?_
    show _ ≤ (Tr.getZ t i).links - 1 ∧ (Tr.getZ t i).links - 1 ≤ _
    omega
theorem Bg.entered (h : Bg k t) (lt : List UInt8 → List UInt8 → Bool) (i : Int) (s : List UInt8) (of : Int) : Bg (k + 2) (entered lt t i s of) := by
  have hg := h.getZ i
  unfold Tr.entered
  have h1 : Bg (k + 1) ⟨t.fn, t.nodes, t.next, t.cookie + 1⟩ := ⟨by have := h.len; simp only; omega, fun n hn => by have := h.ents n hn; omega, by have := h.ck0; simp only; omega, by have := h.ck; simp only; omega, h.nx0, by have := h.nx; simp only; omega, fun n hn => by have := h.lk n hn; omega⟩
  refine h1.withN ?_ ?_
  · show (insE lt _ _).length ≤ _
    rw [insE_len]
    omega
  · show _ ≤ (Tr.getZ t i).links ∧ (Tr.getZ t i).links ≤ _
    omega
theorem Bg.moreT (h : Bg k t) (kind up : Int) : Bg (k + 2) (moreT t kind up) := by
  have h1 : Bg (k + 1) ⟨t.fn, t.nodes, t.next + 1, t.cookie⟩ := ⟨by have := h.len; simp only; omega, fun n hn => by have := h.ents n hn; omega, h.ck0, by have := h.ck; simp only; omega, by have := h.nx0; simp only; omega, by have := h.nx; simp only; omega, fun n hn => by have := h.lk n hn; omega⟩
  refine h1.withN ?_ ?_
  · show 0 ≤ _
    omega
  · show _ ≤ (1 : Int) ∧ (1 : Int) ≤ _
    omega
end Go.Tr

/-
  Where a row is cut.
-/
namespace Go.Tr
open Go.Am
theorem half2 {i j : Nat} : bin .shr (.int .u64 ((i : Int) + j)) (.int .u64 1) = some (.int .u64 (((i + j) / 2 : Nat) : Int)) := by
  have h : ((i : Int) + j).fdiv 2 = (((i + j) / 2 : Nat) : Int) := by
    rw [Int.fdiv_eq_ediv_of_nonneg _ (by omega)]
    omega
  simp only [bin]
  rw [← h]
  rfl
/-- How many come before. -/
def cutP {α : Type} (p : α → Bool) (l : List α) : Nat := l.findIdx fun x => !p x
theorem cutP_le {α : Type} (p : α → Bool) (l : List α) : cutP p l ≤ l.length := List.findIdx_le_length
theorem cutP_iff {α : Type} {p : α → Bool} {l : List α} (hm : ∀ i j (h : j < l.length) (hij : i < j), p l[j] = true → p l[i] = true) {i : Nat} (h : i < l.length) : i < cutP p l ↔ p l[i] = true := by
  constructor
  · intro hc
    have := List.not_of_lt_findIdx hc
    simpa using this
  · intro hc
    rcases Nat.lt_or_ge i (cutP p l) with h' | h'
    · exact h'
    · exfalso
      have hcl : cutP p l < l.length := by omega
      have hn := List.findIdx_getElem (w := hcl)
      have hn' : p l[cutP p l] = false := by
        have h3 : (!p l[cutP p l]) = true := hn
        rwa [Bool.not_eq_true'] at h3
      rcases Nat.lt_or_ge (cutP p l) i with h2 | h2
      · have := hm _ _ h h2 hc
        rw [this] at hn'
        cases hn'
      · have e : cutP p l = i := by omega
        simp only [e] at hn'
        rw [hc] at hn'
        cases hn'
theorem cutP_take {α : Type} {p : α → Bool} {l : List α} : l.take (cutP p l) = l.takeWhile p := by
  unfold cutP
  induction l with
  | nil => rfl
  | cons x l ih =>
    rw [List.findIdx_cons, List.takeWhile_cons]
    cases h : p x with
    | true => simp [ih]
    | false => simp
theorem cutP_drop {α : Type} {p : α → Bool} {l : List α} : l.drop (cutP p l) = l.dropWhile p := by
  unfold cutP
  induction l with
  | nil => rfl
  | cons x l ih =>
    rw [List.findIdx_cons, List.dropWhile_cons]
    cases h : p x with
    | true => simp [ih]
    | false => simp
def cutN (l : List Node) (i : Int) : Nat := cutP (fun n => decide (n.ino < i)) l
theorem cutN_iff {l : List Node} (hs : Srt l) (i : Int) {k : Nat} (h : k < l.length) : k < cutN l i ↔ l[k].ino < i := by
  have := cutP_iff (p := fun n : Node => decide (n.ino < i)) (l := l) (fun a b hb hab hp => by
    have := (List.pairwise_iff_getElem.1 hs) a b (by omega) hb hab
    have hp := of_decide_eq_true hp
    exact decide_eq_true (by omega)) h
  rw [decide_eq_true_eq] at this
  exact this
/-- What the cut finds. -/
theorem cutN_find {l : List Node} (hs : Srt l) (i : Int) : (∃ (h : cutN l i < l.length), l[cutN l i].ino = i ∧ find l i = some l[cutN l i]) ∨ (find l i = none ∧ ∀ (h : cutN l i < l.length), l[cutN l i].ino ≠ i) := by
  by_cases h : cutN l i < l.length
  · by_cases hi : l[cutN l i].ino = i
    · refine .inl ⟨h, hi, ?_⟩
      have := find_of hs (List.getElem_mem h)
      rwa [hi] at this
    · refine .inr ⟨?_, fun _ => hi⟩
      cases hf : find l i with
      | none => rfl
      | some q =>
        exfalso
        obtain ⟨hq, hqi⟩ := find_mem hf
        obtain ⟨k, hk, rfl⟩ := List.mem_iff_getElem.1 hq
        have h1 := (cutN_iff hs i h)
        have h2 := (cutN_iff hs i hk)
        have : ¬ cutN l i < cutN l i := Nat.lt_irrefl _
        rcases Nat.lt_trichotomy k (cutN l i) with h3 | h3 | h3
        · have := h2.1 h3; omega
        · subst h3; exact hi hqi
        · have := (List.pairwise_iff_getElem.1 hs) _ _ h hk h3
          have : ¬ l[cutN l i].ino < i := fun h => Nat.lt_irrefl _ (h1.2 h)
          omega
  · refine .inr ⟨?_, fun h' => absurd h' h⟩
    cases hf : find l i with
    | none => rfl
    | some q =>
      exfalso
      obtain ⟨hq, hqi⟩ := find_mem hf
      obtain ⟨k, hk, rfl⟩ := List.mem_iff_getElem.1 hq
      have := (cutN_iff hs i hk).1 (by have := cutP_le (fun n : Node => decide (n.ino < i)) l; unfold cutN at h ⊢; omega)
      omega
theorem cutN_filter {l : List Node} (hs : Srt l) {i : Int} (h : cutN l i < l.length) (hi : l[cutN l i].ino = i) : (l.filter fun m => decide (m.ino ≠ i)) = l.take (cutN l i) ++ l.drop (cutN l i + 1) := by
  have hsp : l = l.take (cutN l i) ++ (l[cutN l i] :: l.drop (cutN l i + 1)) := by rw [← List.drop_eq_getElem_cons h, List.take_append_drop]
  have h1 : (l.take (cutN l i)).filter (fun m => decide (m.ino ≠ i)) = l.take (cutN l i) := by
    rw [List.filter_eq_self]
    intro m hm
    obtain ⟨k, hk, rfl⟩ := List.mem_iff_getElem.1 hm
    rw [List.length_take] at hk
    rw [List.getElem_take]
    have := (cutN_iff hs i (k := k) (by omega)).1 (by omega)
    exact decide_eq_true (by omega)
  have h2 : (l.drop (cutN l i + 1)).filter (fun m => decide (m.ino ≠ i)) = l.drop (cutN l i + 1) := by
    rw [List.filter_eq_self]
    intro m hm
    obtain ⟨k, hk, rfl⟩ := List.mem_iff_getElem.1 hm
    rw [List.length_drop] at hk
    rw [List.getElem_drop]
    have := (List.pairwise_iff_getElem.1 hs) (cutN l i) (cutN l i + 1 + k) h (by omega) (by omega)
    exact decide_eq_true (by omega)
  have h3 := congrArg (List.filter fun m => decide (m.ino ≠ i)) hsp
  rw [List.filter_append, List.filter_cons, h1, h2] at h3
  rw [h3]
  simp [hi]
end Go.Tr

/-
  What a right tree's nodes are, one by one.
-/
namespace Go.Tr
variable {ok : List UInt8 → Bool} {lt : List UInt8 → List UInt8 → Bool} {t : Tree}
theorem WF.node_is (w : WF ok lt t) {q : Node} (hq : q ∈ t.nodes) : (q.kind = 1 ∧ q.ents = [] ∧ q.up = 0 ∧ q.data.length ≤ 4096 ∧ q.links = (cnt t.nodes q.ino : Nat)) ∨
    (q.kind = 2 ∧ q.data = [] ∧ EntsOK ok lt t q.ents ∧ (q.ino = 1 → q.up = 1 ∧ q.links = 0 ∧ cnt t.nodes q.ino = 0) ∧ (q.ino ≠ 1 → cnt t.nodes q.ino = 1 ∧ ownC t.nodes q.ino q.up = 1 ∧ q.links = 1)) := by
  have hf := find_of w.wf.srt hq
  rcases w.wf.kind _ _ hf with h | h
  · obtain ⟨h1, h2, h3, h4⟩ := w.wf.file _ _ hf h
    exact .inl ⟨h, h1, h2, h3, by simpa using h4⟩
  · obtain ⟨h1, h2⟩ := w.wf.dir _ _ hf h
    refine .inr ⟨h, h1, h2, fun h3 => ?_, fun h3 => ?_⟩
    · obtain ⟨r, r1, r2, r3, r4⟩ := w.wf.root
      rw [h3, r1] at hf
      obtain rfl := Option.some.inj hf
      exact ⟨r3, r4, by rw [h3]; exact w.wf.cnt1⟩
    · obtain ⟨h4, h5⟩ := w.wf.lnk _ _ hf h h3
      obtain ⟨p, h6, h7⟩ := w.wf.par _ _ hf h h3 rfl
      exact ⟨by simpa using h4, by rw [ownC_of w.wf.srt h6]; exact h7, h5⟩
theorem WF.dep_is (w : WF ok lt t) {q : Node} (hq : q ∈ t.nodes) (hk : q.kind = 2) : below t q.ino 1 = true ∧ depth t q.ino ≤ 12 ∧ (depth t q.ino = 12 → q.ents = []) := by
  have h := w.right
  unfold rightT at h
  simp only [Bool.and_eq_true] at h
  have h2 := List.all_eq_true.1 h.2.2.2 q hq
  unfold depR at h2
  rw [if_neg (by simpa using hk)] at h2
  simp only [Bool.and_eq_true, Bool.or_eq_true, Bool.not_eq_true', decide_eq_true_eq, decide_eq_false_iff_not] at h2
  refine ⟨h2.1, h2.2.1, fun h3 => ?_⟩
  rcases h2.2.2 with h4 | h4
  · exact absurd h3 h4
  · exact List.length_eq_zero_iff.1 h4
theorem WF.first (w : WF ok lt t) : ∃ (h : 0 < t.nodes.length), t.nodes[0].ino = 1 ∧ t.nodes[0].kind = 2 := by
  have h := w.right
  unfold rightT at h
  simp only [Bool.and_eq_true, decide_eq_true_eq] at h
  have h0 : 0 < t.nodes.length := by omega
  refine ⟨h0, ?_⟩
  have := h.1.2
  rw [List.getElem?_eq_getElem h0] at this
  exact of_decide_eq_true this
end Go.Tr
