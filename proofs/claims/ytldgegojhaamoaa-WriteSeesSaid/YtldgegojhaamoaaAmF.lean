/-
  The abstract machine and the model's memory: what is written.
-/
import Derived.Test.YtldgegojhaamoaaAmE
set_option linter.unusedSimpArgs false
set_option linter.unusedVariables false
namespace Go.Am

theorem over_length {α : Type} (l : List α) (o : Nat) (xs : List α) (h : o + xs.length ≤ l.length) : (over l o xs).length = l.length := by
  simp [over]; omega
theorem over_get {α : Type} (l : List α) (o : Nat) (xs : List α) (h : o + xs.length ≤ l.length) (j : Nat) :
    (over l o xs)[j]? = if o ≤ j ∧ j < o + xs.length then xs[j - o]? else l[j]? := by
  unfold over
  by_cases h1 : j < o
  · rw [if_neg (by omega), List.append_assoc, List.getElem?_append_left (by simp; omega), List.getElem?_take, if_pos h1]
  · by_cases h2 : j < o + xs.length
    · rw [if_pos ⟨by omega, h2⟩, List.getElem?_append_left (by simp; omega), List.getElem?_append_right (by simp; omega)]
      congr 1; simp; omega
    · rw [if_neg (by omega), List.getElem?_append_right (by simp; omega), List.getElem?_drop]
      congr 1; simp; omega

theorem block_ne {i i' sz j j' : Nat} (h : i' ≠ i) (hj : j < sz) (hj' : j' < sz) : i' * sz + j ≠ i * sz + j' := by
  rcases Nat.lt_or_gt_of_ne h with h1 | h1
  · have : (i' + 1) * sz ≤ i * sz := Nat.mul_le_mul_right _ h1
    rw [Nat.add_mul] at this
    omega
  · have : (i + 1) * sz ≤ i' * sz := Nat.mul_le_mul_right _ h1
    rw [Nat.add_mul] at this
    omega

section
variable {Z : Nat → Prop} {β : Bds} {h : AH} {w : World}

/-- A variable's cells are written. -/
theorem Rel.write_var (R : Rel Z β h w) {b : Nat} {cs : List AV} (hb : h[b]? = some (.var cs)) (o : Nat) (xs : List AV) (us : List Value) (hl : xs.length = us.length) (hfit : o + xs.length ≤ cs.length)
    (h1 : ∀ u ∈ us, u.oneCell' = true) (h2 : ∀ (j : Nat) (y : AV) (u : Value), xs[j]? = some y → us[j]? = some u → VR β (Own Z β h) w y u) :
    ∃ c cur elem, β b 0 = some ⟨some c, 0, cs.length, cs.length⟩ ∧ w.heap[c]? = some (.cells cur elem (0, 0)) ∧ cur.size = cs.length ∧
      Rel Z β (h.set b (.var (over cs o xs))) (w.setRow c (over cur.toList o us).toArray) ∧ Fr Z β h w β (h.set b (.var (over cs o xs))) (w.setRow c (over cur.toList o us).toArray) := by
  obtain ⟨c, cur, elem, e1, e2, e3, e4⟩ := R.blk b _ hb
  refine ⟨c, cur, elem, e1, e2, e3, ?_⟩
  have hlen := over_length cs o xs hfit
  have hown : owned β h b c := ⟨_, hb, _, rfl, e1⟩
  refine R.upd (List.getElem?_eq_some_iff.1 hb).1 rfl rfl rfl (fun _ _ _ => rfl) (fun _ _ e => e) (by simp) ?_ (by simp [World.setRow]) (fun b' _ hb' => setRow_other w c b' _ (fun e => hb' (e ▸ hown))) ?_
  · rintro c' ⟨bd, q1, q2⟩
    exact .inl ⟨_, hb, bd, q1, q2⟩
  · intro hst
    refine ⟨c, _, elem, by rw [e1, hlen], setRow_heap w c cur _ elem (0, 0) e2, by simp [over_length cur.toList o us (by simp; omega), over_length cs o xs hfit, e3], fun j y hy => ?_⟩
    rw [over_get cs o xs hfit] at hy
    simp only [List.getElem?_toArray]
    rw [over_get cur.toList o us (by simp; omega)]
    by_cases hj : o ≤ j ∧ j < o + xs.length
    · rw [if_pos hj] at hy
      rw [if_pos (by omega)]
      have hlt : j - o < us.length := by omega
      exact ⟨us[j - o], by simp [hlt], h1 _ (List.getElem_mem hlt), (h2 (j - o) y us[j - o] hy (by simp [hlt])).mono (fun _ _ _ e => e) hst⟩
    · rw [if_neg hj] at hy
      rw [if_neg (by omega)]
      obtain ⟨u, g1, g2, g3⟩ := e4 j y hy
      exact ⟨u, by simpa using g1, g2, g3.mono (fun _ _ _ e => e) hst⟩

/-- A row's block is written, and its elements are others, at the same version. -/
theorem Rel.write_row (R : Rel Z β h w) {b v sz : Nat} {es es' : List AV} (hb : h[b]? = some (.row v sz es)) {bd : Bd} {c : Nat} {cur : Array Value} {elem : TypeId}
    (hbd : β b v = some bd) (hc : bd.cb = some c) (hcur : w.heap[c]? = some (.cells cur elem (0, 0))) (cur' : List Value) (hsize : cur'.length = cur.size) (hlen : es'.length = es.length)
    (hel : ElemsAt (Own Z β h) w cur'.toArray bd.base sz es') :
    Rel Z β (h.set b (.row v sz es')) (w.setRow c cur'.toArray) ∧ Fr Z β h w β (h.set b (.row v sz es')) (w.setRow c cur'.toArray) := by
  obtain ⟨hsz, bd', e1, e2, e3⟩ := R.blk b _ hb
  rw [hbd] at e1; cases e1
  have hown : owned β h b c := ⟨_, hb, bd, hc, hbd⟩
  rcases e3 with ⟨e3, _⟩ | ⟨c', cur0, elem0, g1, g2, g3, g4, _⟩
  · rw [hc] at e3; cases e3
  rw [hc] at g1; cases g1
  rw [hcur] at g2; cases g2
  refine R.upd (List.getElem?_eq_some_iff.1 hb).1 rfl rfl rfl (fun _ _ _ => rfl) (fun _ _ e => e) ?_ ?_ (by simp [World.setRow]) (fun b' _ hb' => setRow_other w c b' _ (fun e => hb' (e ▸ hown))) ?_
  · intro v1 sz1 es1 v2 e hv
    cases e
    exact R.later b v sz es v2 hb hv
  · rintro c' ⟨bd', q1, q2⟩
    exact .inl ⟨_, hb, bd', q1, q2⟩
  · intro hst
    exact ⟨hsz, bd, hbd, e2, .inr ⟨c, cur'.toArray, elem, hc, setRow_heap w c cur _ elem (0, 0) hcur, by simp [hsize, g3], by rw [hlen]; exact g4, SrcAt.mono hst hel⟩⟩

/-- A slice is appended to where it lies: a new version. -/
theorem Rel.append_there (R : Rel Z β h w) {b v sz : Nat} {es es' : List AV} (hb : h[b]? = some (.row v sz es)) {bd : Bd} {c : Nat} {cur : Array Value} {elem : TypeId}
    (hbd : β b v = some bd) (hc : bd.cb = some c) (hcur : w.heap[c]? = some (.cells cur elem (0, 0))) (cur' : List Value) (hsize : cur'.length = cur.size) (o : Nat)
    (hfit : bd.base + o * sz + es'.length * sz ≤ cur.size) (hel : ElemsAt (Own Z β h) w cur'.toArray (bd.base + o * sz) sz es') :
    ∃ β', Rel Z β' (h.set b (.row (v + 1) sz es')) (w.setRow c cur'.toArray) ∧ Fr Z β h w β' (h.set b (.row (v + 1) sz es')) (w.setRow c cur'.toArray) ∧
      ∀ n cap, n ≤ cap → bd.base + o * sz + cap * sz ≤ cur.size → VR β' (Own Z β' (h.set b (.row (v + 1) sz es'))) (w.setRow c cur'.toArray) (.own b (v + 1) 0 n) (.slice (some ⟨c, bd.base + o * sz, none⟩) n cap) := by
  obtain ⟨hsz, bd', e1, e2, e3⟩ := R.blk b _ hb
  rw [hbd] at e1; cases e1
  have hown : owned β h b c := ⟨_, hb, bd, hc, hbd⟩
  rcases e3 with ⟨e3, _⟩ | ⟨c', cur0, elem0, g1, g2, g3, g4, _⟩
  · rw [hc] at e3; cases e3
  rw [hc] at g1; cases g1
  rw [hcur] at g2; cases g2
  have hnone : β b (v + 1) = none := R.later b v sz es (v + 1) hb (by omega)
  let bd2 : Bd := ⟨some c, bd.base + o * sz, cur.size, sz⟩
  let β' : Bds := fun i k => if i = b ∧ k = v + 1 then some bd2 else β i k
  have hβb : β' b (v + 1) = some bd2 := by simp [β']
  refine ⟨β', ?_⟩
  have key := R.upd (X' := .row (v + 1) sz es') (β' := β') (w' := w.setRow c cur'.toArray) (List.getElem?_eq_some_iff.1 hb).1 rfl rfl rfl
    (fun j k hj => by simp [β', hj]) (fun k bd0 e => ?_) ?_ ?_ (by simp [World.setRow]) (fun b' _ hb' => setRow_other w c b' _ (fun e => hb' (e ▸ hown))) ?_
  · refine ⟨key.1, key.2, fun n cap hn hcap => ?_⟩
    refine .own b (v + 1) 0 n bd2 _ cap hβb (.inr ⟨c, rfl, by simp [bd2], hn, ?_⟩)
    simpa [bd2] using hcap
  · by_cases hk : k = v + 1
    · subst hk; rw [hnone] at e; cases e
    · simp [β', hk, e]
  · intro v1 sz1 es1 v2 e hv
    cases e
    simp only [β']
    rw [if_neg (by omega)]
    exact R.later b v sz es v2 hb (by omega)
  · rintro c' ⟨bd0, q1, q2⟩
    simp only [hβb] at q2
    cases q2
    simp [bd2] at q1
    subst q1
    exact .inl hown
  · intro hst
    exact ⟨hsz, bd2, hβb, rfl, .inr ⟨c, cur'.toArray, elem, rfl, setRow_heap w c cur _ elem (0, 0) hcur, by simp [hsize, bd2], by simpa [bd2] using hfit, SrcAt.mono hst hel⟩⟩

/-- A slice is appended to, and laid anew. -/
theorem Rel.append_new (R : Rel Z β h w) {b v sz : Nat} {es es' : List AV} (hb : h[b]? = some (.row v sz es)) {w' : World} {cur : Array Value} {elem : TypeId}
    (hos : w'.os = w.os) (htape : w'.tape = w.tape) (hout : w'.output = w.output) (hh : w'.heap = w.heap.push (.cells cur elem (0, 0)))
    (hfit : es'.length * sz ≤ cur.size) (hel : ElemsAt (Own Z β h) w cur 0 sz es') :
    ∃ β', Rel Z β' (h.set b (.row (v + 1) sz es')) w' ∧ Fr Z β h w β' (h.set b (.row (v + 1) sz es')) w' ∧
      ∀ n cap, n ≤ cap → cap * sz ≤ cur.size → VR β' (Own Z β' (h.set b (.row (v + 1) sz es'))) w' (.own b (v + 1) 0 n) (.slice (some ⟨w.heap.size, 0, none⟩) n cap) := by
  obtain ⟨hsz, bd, hbd, e2, e3⟩ := R.blk b _ hb
  have hnone : β b (v + 1) = none := R.later b v sz es (v + 1) hb (by omega)
  let bd2 : Bd := ⟨some w.heap.size, 0, cur.size, sz⟩
  let β' : Bds := fun i k => if i = b ∧ k = v + 1 then some bd2 else β i k
  have hβb : β' b (v + 1) = some bd2 := by simp [β']
  have hold : ∀ k, k < w.heap.size → w'.heap[k]? = w.heap[k]? := fun k hk => by rw [hh, Array.getElem?_push, if_neg (by omega)]
  have hnew : w'.heap[w.heap.size]? = some (.cells cur elem (0, 0)) := by rw [hh]; simp
  refine ⟨β', ?_⟩
  have key := R.upd (X' := .row (v + 1) sz es') (β' := β') (w' := w') (List.getElem?_eq_some_iff.1 hb).1 hos htape hout
    (fun j k hj => by simp [β', hj]) (fun k bd0 e => ?_) ?_ ?_ (by rw [hh]; simp) (fun b' hb' _ => hold b' hb') ?_
  · refine ⟨key.1, key.2, fun n cap hn hcap => ?_⟩
    refine .own b (v + 1) 0 n bd2 _ cap hβb (.inr ⟨w.heap.size, rfl, by simp [bd2], hn, by simpa [bd2] using hcap⟩)
  · by_cases hk : k = v + 1
    · subst hk; rw [hnone] at e; cases e
    · simp [β', hk, e]
  · intro v1 sz1 es1 v2 e hv
    cases e
    simp only [β']
    rw [if_neg (by omega)]
    exact R.later b v sz es v2 hb (by omega)
  · rintro c' ⟨bd0, q1, q2⟩
    simp only [hβb] at q2
    cases q2
    simp [bd2] at q1
    exact .inr (by omega)
  · intro hst
    exact ⟨hsz, bd2, hβb, rfl, .inr ⟨w.heap.size, cur, elem, rfl, hnew, rfl, by simpa [bd2] using hfit, SrcAt.mono hst hel⟩⟩

/-- The same where nothing is appended to nothing: no room, no block. -/
theorem Rel.append_none (R : Rel Z β h w) {b v sz : Nat} {es : List AV} (hb : h[b]? = some (.row v sz es)) :
    ∃ β', Rel Z β' (h.set b (.row (v + 1) sz [])) w ∧ Fr Z β h w β' (h.set b (.row (v + 1) sz [])) w ∧
      ∀ a, VR β' (Own Z β' (h.set b (.row (v + 1) sz []))) w (.own b (v + 1) 0 0) (.slice a 0 0) := by
  obtain ⟨hsz, bd, hbd, e2, e3⟩ := R.blk b _ hb
  have hnone : β b (v + 1) = none := R.later b v sz es (v + 1) hb (by omega)
  let bd2 : Bd := ⟨none, 0, 0, sz⟩
  let β' : Bds := fun i k => if i = b ∧ k = v + 1 then some bd2 else β i k
  have hβb : β' b (v + 1) = some bd2 := by simp [β']
  refine ⟨β', ?_⟩
  have key := R.upd (X' := .row (v + 1) sz []) (β' := β') (w' := w) (List.getElem?_eq_some_iff.1 hb).1 rfl rfl rfl
    (fun j k hj => by simp [β', hj]) (fun k bd0 e => ?_) ?_ ?_ (Nat.le_refl _) (fun b' _ _ => rfl) ?_
  · exact ⟨key.1, key.2, fun a => .own b (v + 1) 0 0 bd2 a 0 hβb (.inl ⟨rfl, rfl⟩)⟩
  · by_cases hk : k = v + 1
    · subst hk; rw [hnone] at e; cases e
    · simp [β', hk, e]
  · intro v1 sz1 es1 v2 e hv
    cases e
    simp only [β']
    rw [if_neg (by omega)]
    exact R.later b v sz es v2 hb (by omega)
  · rintro c' ⟨bd0, q1, q2⟩
    simp only [hβb] at q2
    cases q2
    simp [bd2] at q1
  · intro _
    exact ⟨hsz, bd2, hβb, rfl, .inl ⟨rfl, rfl⟩⟩

/-- A row is not written any more. -/
theorem Rel.freeze (R : Rel Z β h w) {b v sz : Nat} {es : List AV} (hb : h[b]? = some (.row v sz es)) :
    Rel Z β (h.set b (.fro v sz es)) w ∧ Fr Z β h w β (h.set b (.fro v sz es)) w := by
  obtain ⟨hsz, bd, hbd, e2, e3⟩ := R.blk b _ hb
  have hi := (List.getElem?_eq_some_iff.1 hb).1
  refine R.upd hi rfl rfl rfl (fun _ _ _ => rfl) (fun _ _ e => e) (by simp) ?_ (Nat.le_refl _) (fun _ _ _ => rfl) ?_
  · rintro c ⟨bd', q1, q2⟩
    exact q2.elim
  · intro hst
    refine ⟨hsz, bd, hbd, e2, ?_⟩
    rcases e3 with e3 | ⟨c, cur, elem, g1, g2, g3, g4, g5⟩
    · exact .inl e3
    · refine .inr ⟨c, cur, elem, (0, 0), g1, ?_, g2, g3, g4, SrcAt.mono hst g5⟩
      rintro (hz | ⟨j, X, hX, hj⟩)
      · exact R.xap b c ⟨_, hb, bd, g1, hbd⟩ hz
      by_cases hjb : j = b
      · subst hjb
        simp [hi] at hX
        subst hX
        obtain ⟨_, _, q⟩ := hj
        exact q
      · rw [List.getElem?_set_ne (Ne.symm hjb)] at hX
        exact hjb (R.apart j b c ⟨X, hX, hj⟩ ⟨_, hb, bd, g1, hbd⟩)

/-- What is read of a row that is not written any more needs no row. -/
theorem lst_of_fro (R : Rel Z β h w) {b v sz : Nat} {es : List AV} (hb : h[b]? = some (.fro v sz es)) {o n : Nat} (hn : o + n ≤ es.length) {u : Value} (hu : VR β (Own Z β h) w (.own b v o n) u) :
    VR β (Own Z β h) w (.lst false ((es.drop o).take n)) u := by
  obtain ⟨bd, ad, c, hbd, rfl, h2⟩ := hu.own_inv
  obtain ⟨hsz, bd', e1, e2, e3⟩ := R.blk b _ hb
  rw [hbd] at e1; cases e1
  have hlen : ((es.drop o).take n).length = n := by simp; omega
  refine .pure _ _ ?_
  rcases h2 with ⟨h2, h2'⟩ | ⟨cb, q1, q2, q3, q4⟩
  · subst h2' h2
    have hz : (es.drop o).take 0 = [] := by simp
    rw [hz]
    exact .lst false [] ad 0 0 0 0 (fun _ _ => .bool true) (by simp) (by simp) (by simp) (by simp) (by simp) (by simp) (by simp)
  · by_cases hz : (es.drop o).take n = []
    · rw [hz] at hlen ⊢
      simp at hlen
      subst hlen
      exact .lst false [] ad c 0 0 0 (fun _ _ => .bool true) (by simp) (by simp) (by simp) (by simp) (by simp) (by simp) (by simp)
    · rcases e3 with ⟨e3, _⟩ | ⟨c', cur, elem, fr, g1, g1', g2, g3, g4, g5⟩
      · rw [q1] at e3; cases e3
      · rw [q1] at g1; cases g1
        subst e2
        have hsrc := row_src (o := o) (n := n) g2 g5
        have := PVR.lst (O := Own Z β h) (w := w) false ((es.drop o).take n) ad c cb (bd.base + o * bd.sz) bd.sz (fun i j => (w.cell? ⟨cb, bd.base + o * bd.sz + (i * bd.sz + j), none⟩).getD Go.undef)
          (by simp) (by rw [hlen]; exact q3) (fun _ => ⟨q2, g1', (Array.getElem?_eq_some_iff.1 g2).1⟩) (fun i x hx => ⟨(hsrc i x hx).1, hsz⟩)
          (fun i x hx j y hy => by obtain ⟨u, k1, _, _⟩ := (hsrc i x hx).2 j y hy; dsimp only at k1; rw [Nat.add_assoc, k1]; rfl)
          (fun i x hx j y hy => by obtain ⟨u, k1, k2, _⟩ := (hsrc i x hx).2 j y hy; dsimp only at k1; simp only [k1, Option.getD_some]; exact k2)
          (fun i x hx j y hy => by obtain ⟨u, k1, _, k3⟩ := (hsrc i x hx).2 j y hy; dsimp only at k1; simp only [k1, Option.getD_some]; exact k3)
        rw [hlen] at this
        exact this
end
end Go.Am
