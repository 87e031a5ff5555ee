/-
  The abstract machine and the model's memory: how rows turn.
-/
import Derived.Test.YtldgegojhaamoaaAmC
set_option linter.unusedSimpArgs false
set_option linter.unusedVariables false
namespace Go.Am

theorem ElemsAt.mono {O O' : Nat → Prop} {w w' : World} (hst : Stay O w O' w') {cur : Array Value} {base sz : Nat} {es : List AV} (h : ElemsAt O w cur base sz es) : ElemsAt O' w' cur base sz es := by
  intro i x hx
  obtain ⟨h1, h2⟩ := h i x hx
  refine ⟨h1, fun j y hy => ?_⟩
  obtain ⟨v, e1, e2, e3⟩ := h2 j y hy
  exact ⟨v, e1, e2, e3.mono hst⟩

theorem BlkRel.mono {β β' : Bds} {O O' : Nat → Prop} {w w' : World} (hst : Stay O w O' w') (hβ : ∀ i v bd, β i v = some bd → β' i v = some bd) {i : Nat} {X : AB}
    (hb : ∀ c, ownsB β i X c → w'.heap[c]? = w.heap[c]?) (h : BlkRel β O w i X) : BlkRel β' O' w' i X := by
  cases X with
  | gone => trivial
  | var cs =>
    obtain ⟨c, cur, elem, e1, e2, e3, e4⟩ := h
    refine ⟨c, cur, elem, hβ _ _ _ e1, (hb c ⟨_, rfl, e1⟩).trans e2, e3, fun j y hy => ?_⟩
    obtain ⟨v, g1, g2, g3⟩ := e4 j y hy
    exact ⟨v, g1, g2, g3.mono hβ hst⟩
  | row v sz es =>
    obtain ⟨h0, bd, e1, e2, e3⟩ := h
    refine ⟨h0, bd, hβ _ _ _ e1, e2, ?_⟩
    rcases e3 with e3 | ⟨c, cur, elem, g1, g2, g3, g4, g5⟩
    · exact .inl e3
    · exact .inr ⟨c, cur, elem, g1, (hb c ⟨bd, g1, e1⟩).trans g2, g3, g4, g5.mono hst⟩
  | fro v sz es =>
    obtain ⟨h0, bd, e1, e2, e3⟩ := h
    refine ⟨h0, bd, hβ _ _ _ e1, e2, ?_⟩
    rcases e3 with e3 | ⟨c, cur, elem, fr, g1, g2, g3, g4, g5, g6⟩
    · exact .inl e3
    · have hc : c < w.heap.size := (Array.getElem?_eq_some_iff.1 g3).1
      exact .inr ⟨c, cur, elem, fr, g1, (hst.2 c hc g2).2, (hst.2 c hc g2).1.trans g3, g4, g5, g6.mono hst⟩

theorem Rel.own_lt {Z : Nat → Prop} {β : Bds} {h : AH} {w : World} (R : Rel Z β h w) {i c : Nat} (ho : owned β h i c) : c < w.heap.size := by
  obtain ⟨X, hX, bd, hc, hb⟩ := ho
  have hr := R.blk i X hX
  cases X with
  | gone => exact hb.elim
  | var cs =>
    obtain ⟨c', cur, elem, e1, e2, _⟩ := hr
    simp only at hb
    rw [e1] at hb
    cases hb
    simp at hc
    subst hc
    exact (Array.getElem?_eq_some_iff.1 e2).1
  | row v sz es =>
    obtain ⟨_, bd', e1, e2, e3⟩ := hr
    simp only at hb
    rw [e1] at hb
    cases hb
    rcases e3 with ⟨e3, _⟩ | ⟨c', cur, elem, g1, g2, _⟩
    · rw [e3] at hc; cases hc
    · rw [g1] at hc; cases hc
      exact (Array.getElem?_eq_some_iff.1 g2).1
  | fro v sz es => exact hb.elim

/-- One block turns. -/
theorem Rel.upd {Z : Nat → Prop} {β : Bds} {h : AH} {w : World} (R : Rel Z β h w) {i : Nat} {X' : AB} {β' : Bds} {w' : World} (hi : i < h.length)
    (hos : w'.os = w.os) (htape : w'.tape = w.tape) (hout : w'.output = w.output)
    (hβ : ∀ j v, j ≠ i → β' j v = β j v) (hβi : ∀ v bd, β i v = some bd → β' i v = some bd)
    (hlater : ∀ v sz es v', X' = .row v sz es → v < v' → β' i v' = none)
    (hown : ∀ c, ownsB β' i X' c → owned β h i c ∨ w.heap.size ≤ c)
    (hsize : w.heap.size ≤ w'.heap.size) (hkeep : ∀ b, b < w.heap.size → ¬ owned β h i b → w'.heap[b]? = w.heap[b]?)
    (hblk : Stay (Own Z β h) w (Own Z β' (h.set i X')) w' → BlkRel β' (Own Z β' (h.set i X')) w' i X') :
    Rel Z β' (h.set i X') w' ∧ Fr Z β h w β' (h.set i X') w' := by
  have hext : ∀ j v bd, β j v = some bd → β' j v = some bd := by
    intro j v bd e
    by_cases hj : j = i
    · subst hj; exact hβi v bd e
    · rw [hβ j v hj]; exact e
  have hother : ∀ j c, j ≠ i → (owned β' (h.set i X') j c ↔ owned β h j c) := by
    intro j c hj
    unfold owned ownsB
    simp only [List.getElem?_set_ne (Ne.symm hj)]
    constructor
    · rintro ⟨X, hX, bd, hc, hb⟩
      refine ⟨X, hX, bd, hc, ?_⟩
      cases X <;> simp_all
    · rintro ⟨X, hX, bd, hc, hb⟩
      refine ⟨X, hX, bd, hc, ?_⟩
      cases X <;> simp_all
  have hself : ∀ c, owned β' (h.set i X') i c → owned β h i c ∨ w.heap.size ≤ c := by
    rintro c ⟨X, hX, hb⟩
    have : (h.set i X')[i]? = some X' := by simp [hi]
    rw [this] at hX
    cases hX
    exact hown c hb
  have hst : Stay (Own Z β h) w (Own Z β' (h.set i X')) w' := by
    refine ⟨hsize, fun b hb hO => ⟨hkeep b hb fun ho => hO (.inr ⟨i, ho⟩), ?_⟩⟩
    rintro (hz | ⟨j, hj⟩)
    · exact hO (.inl hz)
    by_cases hji : j = i
    · subst hji
      rcases hself b hj with h1 | h1
      · exact hO (.inr ⟨j, h1⟩)
      · omega
    · exact hO (.inr ⟨j, (hother j b hji).1 hj⟩)
  refine ⟨⟨fun c hc => Nat.lt_of_lt_of_le (R.xlt c hc) hsize, ?_, ?_, ?_, ?_, ?_⟩, ⟨fun b hb hz => hkeep b hb fun ho => R.xap i b ho hz, hos, htape, hout, hext, hst⟩⟩
  · intro j c hj hz
    by_cases hji : j = i
    · subst hji
      rcases hself c hj with h1 | h1
      · exact R.xap j c h1 hz
      · have := R.xlt c hz; omega
    · exact R.xap j c ((hother j c hji).1 hj) hz
  · intro j v hj
    rw [List.length_set] at hj
    rw [hβ j v (by omega)]
    exact R.fresh j v hj
  · intro j v sz es v' hj hv
    by_cases hji : j = i
    · subst hji
      have : (h.set j X')[j]? = some X' := by simp [hi]
      rw [this] at hj
      cases hj
      exact hlater v sz es v' rfl hv
    · rw [List.getElem?_set_ne (Ne.symm hji)] at hj
      rw [hβ j v' hji]
      exact R.later j v sz es v' hj hv
  · intro j X hj
    by_cases hji : j = i
    · subst hji
      have : (h.set j X')[j]? = some X' := by simp [hi]
      rw [this] at hj
      cases hj
      exact hblk hst
    · rw [List.getElem?_set_ne (Ne.symm hji)] at hj
      refine (R.blk j X hj).mono hst hext fun c hc => ?_
      have ho : owned β h j c := ⟨X, hj, hc⟩
      exact hkeep c (R.own_lt ho) fun ho' => hji (R.apart j i c ho ho')
  · intro j k c hj hk
    by_cases hji : j = i
    · by_cases hki : k = i
      · rw [hji, hki]
      · subst hji
        have hk' := (hother k c hki).1 hk
        rcases hself c hj with h1 | h1
        · exact absurd (R.apart j k c h1 hk') (fun e => hki e.symm)
        · have := R.own_lt hk'; omega
    · have hj' := (hother j c hji).1 hj
      by_cases hki : k = i
      · subst hki
        rcases hself c hk with h1 | h1
        · exact absurd (R.apart j k c hj' h1) hji
        · have := R.own_lt hj'; omega
      · exact R.apart j k c hj' ((hother k c hki).1 hk)

/-- One block more. -/
theorem Rel.push {Z : Nat → Prop} {β : Bds} {h : AH} {w : World} (R : Rel Z β h w) {X : AB} {bd : Bd} {w' : World} {β' : Bds}
    (hos : w'.os = w.os) (htape : w'.tape = w.tape) (hout : w'.output = w.output)
    (hβ : β' = fun i v => if i = h.length ∧ v = 0 then some bd else β i v)
    (hX : ∀ v sz es, X = .row v sz es → v = 0)
    (hcb : ∀ c, bd.cb = some c → w.heap.size ≤ c)
    (hsize : w.heap.size ≤ w'.heap.size) (hkeep : ∀ b, b < w.heap.size → w'.heap[b]? = w.heap[b]?)
    (hblk : Stay (Own Z β h) w (Own Z β' (h ++ [X])) w' → BlkRel β' (Own Z β' (h ++ [X])) w' h.length X) :
    Rel Z β' (h ++ [X]) w' ∧ Fr Z β h w β' (h ++ [X]) w' := by
  subst hβ
  have hnone : ∀ v, β h.length v = none := fun v => R.fresh _ v (Nat.le_refl _)
  have hext : ∀ j v bd', β j v = some bd' → (if j = h.length ∧ v = 0 then some bd else β j v) = some bd' := by
    intro j v bd' e
    rw [if_neg]
    · exact e
    · rintro ⟨rfl, _⟩
      rw [hnone] at e
      cases e
  have hother : ∀ j c, j ≠ h.length → (owned (fun i v => if i = h.length ∧ v = 0 then some bd else β i v) (h ++ [X]) j c ↔ owned β h j c) := by
    intro j c hj
    unfold owned ownsB
    have : (h ++ [X])[j]? = h[j]? := by
      by_cases hlt : j < h.length
      · rw [List.getElem?_append_left hlt]
      · rw [List.getElem?_eq_none (by simp; omega), List.getElem?_eq_none (by omega)]
    simp only [this, hj, false_and, if_false]
  have hself : ∀ c, owned (fun i v => if i = h.length ∧ v = 0 then some bd else β i v) (h ++ [X]) h.length c → w.heap.size ≤ c := by
    rintro c ⟨X', hX', bd', hc, hb⟩
    have : (h ++ [X])[h.length]? = some X := by simp
    rw [this] at hX'
    cases hX'
    have hbd : bd' = bd := by
      cases X with
      | gone => exact hb.elim
      | var cs => simpa using hb.symm
      | row v sz es =>
        obtain rfl := hX v sz es rfl
        simpa using hb.symm
      | fro v sz es => exact hb.elim
    subst hbd
    exact hcb c hc
  have hst : Stay (Own Z β h) w (Own Z (fun i v => if i = h.length ∧ v = 0 then some bd else β i v) (h ++ [X])) w' := by
    refine ⟨hsize, fun b hb hO => ⟨hkeep b hb, ?_⟩⟩
    rintro (hz | ⟨j, hj⟩)
    · exact hO (.inl hz)
    by_cases hji : j = h.length
    · subst hji
      have := hself b hj
      omega
    · exact hO (.inr ⟨j, (hother j b hji).1 hj⟩)
  refine ⟨⟨fun c hc => Nat.lt_of_lt_of_le (R.xlt c hc) hsize, ?_, ?_, ?_, ?_, ?_⟩, ⟨fun b hb _ => hkeep b hb, hos, htape, hout, hext, hst⟩⟩
  · intro j c hj hz
    by_cases hji : j = h.length
    · subst hji
      have := hself c hj
      have := R.xlt c hz
      omega
    · exact R.xap j c ((hother j c hji).1 hj) hz
  · intro j v hj
    simp at hj
    rw [if_neg (by omega)]
    exact R.fresh j v (by omega)
  · intro j v sz es v' hj hv
    by_cases hji : j = h.length
    · rw [if_neg (by omega)]
      subst hji
      exact hnone v'
    · rw [if_neg (by simp [hji])]
      have : (h ++ [X])[j]? = h[j]? := by
        by_cases hlt : j < h.length
        · rw [List.getElem?_append_left hlt]
        · rw [List.getElem?_eq_none (by simp; omega), List.getElem?_eq_none (by omega)]
      rw [this] at hj
      exact R.later j v sz es v' hj hv
  · intro j Y hj
    by_cases hji : j = h.length
    · subst hji
      have : (h ++ [X])[h.length]? = some X := by simp
      rw [this] at hj
      cases hj
      exact hblk hst
    · have : (h ++ [X])[j]? = h[j]? := by
        by_cases hlt : j < h.length
        · rw [List.getElem?_append_left hlt]
        · rw [List.getElem?_eq_none (by simp; omega), List.getElem?_eq_none (by omega)]
      rw [this] at hj
      refine (R.blk j Y hj).mono hst hext fun c hc => ?_
      exact hkeep c (R.own_lt ⟨Y, hj, hc⟩)
  · intro j k c hj hk
    by_cases hji : j = h.length
    · by_cases hki : k = h.length
      · rw [hji, hki]
      · subst hji
        have := hself c hj
        have := R.own_lt ((hother k c hki).1 hk)
        omega
    · have hj' := (hother j c hji).1 hj
      by_cases hki : k = h.length
      · subst hki
        have := hself c hk
        have := R.own_lt hj'
        omega
      · exact R.apart j k c hj' ((hother k c hki).1 hk)

/-- A variable more. -/
theorem Rel.push_var {Z : Nat → Prop} {β : Bds} {h : AH} {w : World} (R : Rel Z β h w) (elem : TypeId) (cs : List AV) (vs : List Value) (hl : cs.length = vs.length)
    (h1 : ∀ u ∈ vs, u.oneCell' = true) (h2 : ∀ (j : Nat) (y : AV) (u : Value), cs[j]? = some y → vs[j]? = some u → VR β (Own Z β h) w y u) :
    ∃ β', Rel Z β' (h ++ [.var cs]) (w.alloc (.cells vs.toArray elem)) ∧ Fr Z β h w β' (h ++ [.var cs]) (w.alloc (.cells vs.toArray elem)) ∧
      VR β' (Own Z β' (h ++ [.var cs])) (w.alloc (.cells vs.toArray elem)) (.ptr h.length 0 0 0) (.pointer (some ⟨w.heap.size, 0, none⟩)) := by
  have key := R.push (X := .var cs) (bd := ⟨some w.heap.size, 0, cs.length, cs.length⟩) (w' := w.alloc (.cells vs.toArray elem)) rfl rfl rfl rfl (by simp) (by simp) (by simp)
    (fun b hb => heap_alloc_old w _ b hb) (fun hst => ⟨w.heap.size, vs.toArray, elem, by simp, heap_alloc_new w _, by simp [hl], fun j y hy => ?_⟩)
  · obtain ⟨k1, k2⟩ := key
    refine ⟨_, k1, k2, ?_⟩
    have := VR.ptr (β := fun i v => if i = h.length ∧ v = 0 then some ⟨some w.heap.size, 0, cs.length, cs.length⟩ else β i v)
      (O := Own Z (fun i v => if i = h.length ∧ v = 0 then some ⟨some w.heap.size, 0, cs.length, cs.length⟩ else β i v) (h ++ [.var cs])) (w := w.alloc (.cells vs.toArray elem))
      h.length 0 0 0 ⟨some w.heap.size, 0, cs.length, cs.length⟩ w.heap.size (by simp) rfl
    simpa using this
  · have hj : j < vs.length := by rw [← hl]; exact (List.getElem?_eq_some_iff.1 hy).1
    refine ⟨vs[j], by simp [hj], h1 _ (List.getElem_mem hj), ?_⟩
    refine (h2 j y vs[j] hy (by simp [hj])).mono ?_ hst
    intro i v bd' e
    rw [if_neg]
    · exact e
    · rintro ⟨rfl, _⟩
      rw [R.fresh _ v (Nat.le_refl _)] at e
      cases e

/-- A row more, in a new block. -/
theorem Rel.push_row {Z : Nat → Prop} {β : Bds} {h : AH} {w w' : World} (R : Rel Z β h w) (sz : Nat) (hsz : 0 < sz) (es : List AV) (cur : Array Value) (elem : TypeId)
    (hos : w'.os = w.os) (htape : w'.tape = w.tape) (hout : w'.output = w.output) (hh : w'.heap = w.heap.push (.cells cur elem (0, 0)))
    (hfit : es.length * sz ≤ cur.size) (he : ElemsAt (Own Z β h) w cur 0 sz es) :
    ∃ β', Rel Z β' (h ++ [.row 0 sz es]) w' ∧ Fr Z β h w β' (h ++ [.row 0 sz es]) w' ∧
      ∀ n c, n ≤ c → c * sz ≤ cur.size → VR β' (Own Z β' (h ++ [.row 0 sz es])) w' (.own h.length 0 0 n) (.slice (some ⟨w.heap.size, 0, none⟩) n c) := by
  have hold : ∀ b, b < w.heap.size → w'.heap[b]? = w.heap[b]? := fun b hb => by rw [hh, Array.getElem?_push, if_neg (by omega)]
  have hnew : w'.heap[w.heap.size]? = some (.cells cur elem (0, 0)) := by rw [hh]; simp
  have key := R.push (X := .row 0 sz es) (bd := ⟨some w.heap.size, 0, cur.size, sz⟩) (w' := w') hos htape hout rfl (by intro v sz' es e; cases e; rfl) (by simp) (by rw [hh]; simp)
    hold (fun hst => ⟨hsz, ⟨some w.heap.size, 0, cur.size, sz⟩, by simp, rfl, .inr ⟨w.heap.size, cur, elem, rfl, hnew, rfl, by simpa using hfit, he.mono hst⟩⟩)
  obtain ⟨k1, k2⟩ := key
  refine ⟨_, k1, k2, fun n c hn hc => ?_⟩
  refine .own h.length 0 0 n ⟨some w.heap.size, 0, cur.size, sz⟩ _ c (by simp) (.inr ⟨w.heap.size, rfl, by simp, hn, by simpa using hc⟩)

/-- A row without room. -/
theorem Rel.push_none {Z : Nat → Prop} {β : Bds} {h : AH} {w : World} (R : Rel Z β h w) (sz : Nat) (hsz : 0 < sz) :
    ∃ β', Rel Z β' (h ++ [.row 0 sz []]) w ∧ Fr Z β h w β' (h ++ [.row 0 sz []]) w ∧
      ∀ a, VR β' (Own Z β' (h ++ [.row 0 sz []])) w (.own h.length 0 0 0) (.slice a 0 0) := by
  have key := R.push (X := .row 0 sz []) (bd := ⟨none, 0, 0, sz⟩) (w' := w) rfl rfl rfl rfl (by intro v sz' es e; cases e; rfl) (by simp) (Nat.le_refl _)
    (fun b _ => rfl) (fun _ => ⟨hsz, ⟨none, 0, 0, sz⟩, by simp, rfl, .inl ⟨rfl, rfl⟩⟩)
  obtain ⟨k1, k2⟩ := key
  exact ⟨_, k1, k2, fun a => .own h.length 0 0 0 ⟨none, 0, 0, sz⟩ a 0 (by simp) (.inl ⟨rfl, rfl⟩)⟩

/-- The count of draws does not matter. -/
theorem Rel.drawn {Z : Nat → Prop} {β : Bds} {h : AH} {w : World} (R : Rel Z β h w) (n : Nat) : Rel Z β h { w with drawn := n } ∧ Fr Z β h w β h { w with drawn := n } := by
  have hst : Stay (Own Z β h) w (Own Z β h) { w with drawn := n } := ⟨Nat.le_refl _, fun _ _ e => ⟨rfl, e⟩⟩
  exact ⟨⟨R.xlt, R.xap, R.fresh, R.later, fun i X hX => (R.blk i X hX).mono hst (fun _ _ _ e => e) (fun _ _ => rfl), R.apart⟩, ⟨fun _ _ _ => rfl, rfl, rfl, rfl, fun _ _ _ e => e, hst⟩⟩

end Go.Am
