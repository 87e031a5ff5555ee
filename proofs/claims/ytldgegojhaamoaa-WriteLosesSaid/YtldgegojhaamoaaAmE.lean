/-
  The abstract machine and the model's memory: what is read, and written.
-/
import Derived.Test.YtldgegojhaamoaaAmD
set_option linter.unusedSimpArgs false
set_option linter.unusedVariables false
namespace Go.Am

/-! ### Elements in a row of cells -/
theorem SrcAt.mono {O O' : Nat → Prop} {w w' : World} (hst : Stay O w O' w') {f : Nat → Option Value} {sz : Nat} {es : List AV} (h : SrcAt O w f sz es) : SrcAt O' w' f sz es := by
  intro i x hx
  obtain ⟨h1, h2⟩ := h i x hx
  refine ⟨h1, fun j y hy => ?_⟩
  obtain ⟨v, e1, e2, e3⟩ := h2 j y hy
  exact ⟨v, e1, e2, e3.mono hst⟩

theorem SrcAt.congr {O : Nat → Prop} {w : World} {f g : Nat → Option Value} {sz : Nat} {es : List AV} (h : SrcAt O w f sz es) (hfg : ∀ k, k < es.length * sz → f k = g k) : SrcAt O w g sz es := by
  intro i x hx
  obtain ⟨h1, h2⟩ := h i x hx
  refine ⟨h1, fun j y hy => ?_⟩
  obtain ⟨v, e1, e2, e3⟩ := h2 j y hy
  refine ⟨v, ?_, e2, e3⟩
  rw [← hfg]
  · exact e1
  · have hi : i < es.length := (List.getElem?_eq_some_iff.1 hx).1
    have hj : j < sz := by rw [← h1]; exact (List.getElem?_eq_some_iff.1 hy).1
    calc i * sz + j < i * sz + sz := by omega
      _ = (i + 1) * sz := by rw [Nat.add_mul]; omega
      _ ≤ es.length * sz := Nat.mul_le_mul_right _ (by omega)

/-- The cells themselves. -/
theorem SrcAt.list {O : Nat → Prop} {w : World} {f : Nat → Option Value} {sz : Nat} {es : List AV} (h : SrcAt O w f sz es) :
    ∃ vs : List Value, vs.length = es.length * sz ∧ (∀ (k : Nat) (u : Value), vs[k]? = some u → f k = some u) ∧ (∀ u ∈ vs, u.oneCell' = true) ∧ SrcAt O w (fun k => vs[k]?) sz es := by
  have hk : ∀ k, k < es.length * sz → ∃ u, f k = some u ∧ u.oneCell' = true := by
    intro k hk
    have hsz : 0 < sz := by rcases Nat.eq_zero_or_pos sz with h0 | h0; · subst h0; omega
                            · exact h0
    have hi : k / sz < es.length := Nat.div_lt_of_lt_mul (by rw [Nat.mul_comm]; exact hk)
    obtain ⟨h1, h2⟩ := h (k / sz) es[k / sz] (by simp [hi])
    have hj : k % sz < es[k / sz].cells.length := by rw [h1]; exact Nat.mod_lt _ hsz
    obtain ⟨v, e1, e2, _⟩ := h2 (k % sz) (es[k / sz].cells[k % sz]) (by simp [hj])
    refine ⟨v, ?_, e2⟩
    rw [← e1, Nat.mul_comm, Nat.div_add_mod]
  have hl : ((List.range (es.length * sz)).map fun k => (f k).getD Go.undef).length = es.length * sz := by simp
  refine ⟨(List.range (es.length * sz)).map fun k => (f k).getD Go.undef, hl, ?_, ?_, ?_⟩
  · intro k u hu
    have hlt : k < es.length * sz := by rw [← hl]; exact (List.getElem?_eq_some_iff.1 hu).1
    obtain ⟨v, e1, _⟩ := hk k hlt
    simp [hlt, e1] at hu
    rw [e1, hu]
  · intro u hu
    obtain ⟨k, hk', rfl⟩ := List.mem_map.1 hu
    obtain ⟨v, e1, e2⟩ := hk k (by simpa using hk')
    simp [e1, e2]
  · refine h.congr fun k hlt => ?_
    obtain ⟨v, e1, _⟩ := hk k hlt
    simp [hlt, e1]

theorem SrcAt.nil {O : Nat → Prop} {w : World} {f : Nat → Option Value} {sz : Nat} : SrcAt O w f sz [] := by
  intro i x hx; simp at hx

theorem SrcAt.append {O : Nat → Prop} {w : World} {f : Nat → Option Value} {sz : Nat} {es es' : List AV} (h : SrcAt O w f sz es) (h' : SrcAt O w (fun k => f (es.length * sz + k)) sz es') : SrcAt O w f sz (es ++ es') := by
  intro i x hx
  by_cases hi : i < es.length
  · rw [List.getElem?_append_left hi] at hx
    exact h i x hx
  · rw [List.getElem?_append_right (by omega)] at hx
    obtain ⟨h1, h2⟩ := h' (i - es.length) x hx
    refine ⟨h1, fun j y hy => ?_⟩
    obtain ⟨v, e1, e2, e3⟩ := h2 j y hy
    refine ⟨v, ?_, e2, e3⟩
    rw [← e1]
    congr 1
    have : i = es.length + (i - es.length) := by omega
    conv => lhs; rw [this, Nat.add_mul]
    omega

theorem SrcAt.drop {O : Nat → Prop} {w : World} {f : Nat → Option Value} {sz : Nat} {es : List AV} (h : SrcAt O w f sz es) (o : Nat) : SrcAt O w (fun k => f (o * sz + k)) sz (es.drop o) := by
  intro i x hx
  rw [List.getElem?_drop] at hx
  obtain ⟨h1, h2⟩ := h (o + i) x hx
  refine ⟨h1, fun j y hy => ?_⟩
  obtain ⟨v, e1, e2, e3⟩ := h2 j y hy
  have ea : o * sz + (i * sz + j) = (o + i) * sz + j := by rw [Nat.add_mul]; omega
  exact ⟨v, by rw [← e1, ← ea], e2, e3⟩

theorem SrcAt.take {O : Nat → Prop} {w : World} {f : Nat → Option Value} {sz : Nat} {es : List AV} (h : SrcAt O w f sz es) (n : Nat) : SrcAt O w f sz (es.take n) := by
  intro i x hx
  rw [List.getElem?_take] at hx
  split at hx
  · exact h i x hx
  · cases hx

theorem SrcAt.szOk {O : Nat → Prop} {w : World} {f : Nat → Option Value} {sz sz' : Nat} {es : List AV} (h : SrcAt O w f sz es) (hs : szOk sz' es = true) : SrcAt O w f sz' es := by
  by_cases hne : es = []
  · subst hne; exact .nil
  · have : sz' = sz := by
      obtain ⟨x, l, rfl⟩ := List.exists_cons_of_ne_nil hne
      have h1 := (h 0 x rfl).1
      simp only [Am.szOk, List.all_cons, Bool.and_eq_true, beq_iff_eq] at hs
      exact hs.1.symm.trans h1
    subst this; exact h

/-! ### Reading -/
section reads
variable {Z : Nat → Prop} {β : Bds} {h : AH} {w : World}

theorem cellsAt_rel (R : Rel Z β h w) {a : AV} {cs : List AV} (hc : cellsAt h a = some cs) {v : Value} (hv : VR β (Own Z β h) w a v) :
    ∃ blk o, v = .pointer (some ⟨blk, o, none⟩) ∧ ∀ (j : Nat) (y : AV), cs[j]? = some y → ∃ u, w.cell? ⟨blk, o + j, none⟩ = some u ∧ u.oneCell' = true ∧ VR β (Own Z β h) w y u := by
  cases a with
  | rptr cs' =>
    simp only [cellsAt, Option.some.injEq] at hc
    subst hc
    cases hv with
    | pure _ _ hv => cases hv
    | rptr _ blk o f hO hw h1 h3 h2 => exact ⟨blk, o, rfl, fun j y hy => ⟨f j, h1 j y hy, h3 j y hy, .pure _ _ (h2 j y hy)⟩⟩
  | ptr b vv i o =>
    obtain ⟨bd, c, hb, hcb, rfl⟩ := hv.ptr_inv
    simp only [cellsAt] at hc
    split at hc
    · rename_i cs0 hcs
      split at hc
      · rename_i hcond
        obtain ⟨rfl, rfl, ho⟩ := hcond
        cases hc
        obtain ⟨c', cur, elem, e1, e2, e3, e4⟩ := R.blk b _ hcs
        rw [hb] at e1; cases e1
        cases hcb
        refine ⟨c, o, by simp, fun j y hy => ?_⟩
        rw [List.getElem?_drop] at hy
        obtain ⟨u, g1, g2, g3⟩ := e4 (o + j) y hy
        exact ⟨u, by rw [cell_of_row w c (o + j) cur elem (0, 0) e2]; exact g1, g2, g3⟩
      · cases hc
    · rename_i v' sz es hes
      split at hc
      · rename_i hvv
        subst hvv
        simp only [Option.bind_eq_some_iff] at hc
        obtain ⟨x, hx, hc⟩ := hc
        split at hc
        · rename_i ho
          cases hc
          obtain ⟨_, bd', e1, e2, e3⟩ := R.blk b _ hes
          rw [hb] at e1; cases e1
          rcases e3 with ⟨e3, _⟩ | ⟨c', cur, elem, g1, g2, g3, g4, g5⟩
          · rw [hcb] at e3; cases e3
          · rw [hcb] at g1; cases g1
            refine ⟨c, _, rfl, fun j y hy => ?_⟩
            rw [List.getElem?_drop] at hy
            obtain ⟨u, k1, k2, k3⟩ := (g5 i x hx).2 (o + j) y hy
            refine ⟨u, ?_, k2, .pure _ _ k3⟩
            rw [cell_of_row w c _ cur elem (0, 0) g2, ← k1, e2]
            congr 1; omega
        · cases hc
      · cases hc
    · rename_i v' sz es hes
      split at hc
      · rename_i hvv
        subst hvv
        simp only [Option.bind_eq_some_iff] at hc
        obtain ⟨x, hx, hc⟩ := hc
        split at hc
        · rename_i ho
          cases hc
          obtain ⟨_, bd', e1, e2, e3⟩ := R.blk b _ hes
          rw [hb] at e1; cases e1
          rcases e3 with ⟨e3, _⟩ | ⟨c', cur, elem, fr, g1, _, g2, g3, g4, g5⟩
          · rw [hcb] at e3; cases e3
          · rw [hcb] at g1; cases g1
            refine ⟨c, _, rfl, fun j y hy => ?_⟩
            rw [List.getElem?_drop] at hy
            obtain ⟨u, k1, k2, k3⟩ := (g5 i x hx).2 (o + j) y hy
            refine ⟨u, ?_, k2, .pure _ _ k3⟩
            rw [cell_of_row w c _ cur elem fr g2, ← k1, e2]
            congr 1; omega
        · cases hc
      · cases hc
    · cases hc
  | _ => simp [cellsAt] at hc

theorem row_src {O : Nat → Prop} {cur : Array Value} {elem : TypeId} {fr : Nat × Nat} {cb base sz o n : Nat} {es : List AV} (g2 : w.heap[cb]? = some (.cells cur elem fr)) (g5 : ElemsAt O w cur base sz es) :
    SrcAt O w (fun k => w.cell? ⟨cb, base + o * sz + k, none⟩) sz ((es.drop o).take n) := by
  refine ((SrcAt.drop g5 o).take n).congr fun k _ => ?_
  rw [cell_of_row w cb _ cur elem fr g2]
  congr 1
  omega

theorem elems_rel (R : Rel Z β h w) {a : AV} {es : List AV} (hc : elems h a = some es) {v : Value} (hv : VR β (Own Z β h) w a v) :
    ∃ ad c, v = .slice ad es.length c ∧ es.length ≤ c ∧ (es ≠ [] → ∃ blk o sz, 0 < sz ∧ ad = some ⟨blk, o, none⟩ ∧ SrcAt (Own Z β h) w (fun k => w.cell? ⟨blk, o + k, none⟩) sz es) := by
  cases a with
  | lst full es' =>
    simp only [elems, Option.some.injEq] at hc
    subst hc
    cases hv.lst_inv with
    | lst _ _ ad c blk o sz f hf hc ha hs h1 h3 h2 =>
      refine ⟨ad, c, rfl, hc, fun hne => ?_⟩
      obtain ⟨x, l, hxl⟩ := List.exists_cons_of_ne_nil hne
      refine ⟨blk, o, sz, (hs 0 x (by rw [hxl]; rfl)).2, (ha hne).1, fun i x hx => ⟨(hs i x hx).1, fun j y hy => ⟨f i j, ?_, h3 i x hx j y hy, h2 i x hx j y hy⟩⟩⟩
      rw [← h1 i x hx j y hy, Nat.add_assoc]
  | own b vv o n =>
    obtain ⟨bd, ad, c, hb, rfl, h2⟩ := hv.own_inv
    simp only [elems] at hc
    split at hc
    · rename_i v' sz es' hes
      split at hc
      · rename_i hcond
        obtain ⟨rfl, hn⟩ := hcond
        cases hc
        have hlen : ((es'.drop o).take n).length = n := by simp; omega
        rw [hlen]
        obtain ⟨hsz, bd', e1, e2, e3⟩ := R.blk b _ hes
        rw [hb] at e1; cases e1
        rcases h2 with ⟨h2, h2'⟩ | ⟨cb, q1, q2, q3, q4⟩
        · subst h2'
          exact ⟨ad, c, rfl, by omega, by simp⟩
        · refine ⟨ad, c, rfl, q3, fun _ => ?_⟩
          rcases e3 with ⟨e3, _⟩ | ⟨c', cur, elem, g1, g2, g3, g4, g5⟩
          · rw [q1] at e3; cases e3
          · rw [q1] at g1; cases g1
            subst e2
            exact ⟨cb, _, _, hsz, q2, row_src g2 g5⟩
      · cases hc
    · rename_i v' sz es' hes
      split at hc
      · rename_i hcond
        obtain ⟨rfl, hn⟩ := hcond
        cases hc
        have hlen : ((es'.drop o).take n).length = n := by simp; omega
        rw [hlen]
        obtain ⟨hsz, bd', e1, e2, e3⟩ := R.blk b _ hes
        rw [hb] at e1; cases e1
        rcases h2 with ⟨h2, h2'⟩ | ⟨cb, q1, q2, q3, q4⟩
        · subst h2'
          exact ⟨ad, c, rfl, by omega, by simp⟩
        · refine ⟨ad, c, rfl, q3, fun _ => ?_⟩
          rcases e3 with ⟨e3, _⟩ | ⟨c', cur, elem, fr, g1, _, g2, g3, g4, g5⟩
          · rw [q1] at e3; cases e3
          · rw [q1] at g1; cases g1
            subst e2
            exact ⟨cb, _, _, hsz, q2, row_src g2 g5⟩
      · cases hc
    · cases hc
  | _ => simp [elems] at hc
end reads
end Go.Am
