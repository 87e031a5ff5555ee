/-
  The abstract machine: loops' heads.
-/
import Derived.Test.YtldgegojhaamoaaAmW
import Derived.LoopN
set_option linter.unusedSimpArgs false
set_option linter.unusedVariables false
namespace Go.Am

/-- As 'Fr', but for rows that may count anew. -/
structure FrV (V : Nat → Bool) (Z : Nat → Prop) (β : Bds) (h : AH) (w : World) (β' : Bds) (h' : AH) (w' : World) : Prop where
  xkeep : ∀ b, b < w.heap.size → Z b → w'.heap[b]? = w.heap[b]?
  os : w'.os = w.os
  tape : w'.tape = w.tape
  output : w'.output = w.output
  ext : ∀ i v bd, V i = false → β i v = some bd → β' i v = some bd
  stay : Stay (Own Z β h) w (Own Z β' h') w'

theorem Fr.toV {V : Nat → Bool} {Z : Nat → Prop} {β β' : Bds} {h h' : AH} {w w' : World} (f : Fr Z β h w β' h' w') : FrV V Z β h w β' h' w' :=
  ⟨f.xkeep, f.os, f.tape, f.output, fun i v bd _ e => f.ext i v bd e, f.stay⟩
theorem FrV.trans {V : Nat → Bool} {Z : Nat → Prop} {β β' β'' : Bds} {h h' h'' : AH} {w w' w'' : World} (a : FrV V Z β h w β' h' w') (b : FrV V Z β' h' w' β'' h'' w'') : FrV V Z β h w β'' h'' w'' :=
  ⟨fun k hk hx => (b.xkeep k (Nat.lt_of_lt_of_le hk a.stay.1) hx).trans (a.xkeep k hk hx), b.os.trans a.os, b.tape.trans a.tape, b.output.trans a.output,
    fun i v bd hv e => b.ext i v bd hv (a.ext i v bd hv e), a.stay.trans b.stay⟩

section
variable {P : Program} {Z : Nat → Prop} {β : Bds} {h : AH} {w : World}

/-- The version at which a row stands. -/
def ver (h : AH) (i : Nat) : Nat := match h[i]? with
  | some (.row v _ _) => v
  | some (.fro v _ _) => v
  | _ => 0
/-- Where rows lie, at a loop's head. -/
def bdH (β : Bds) (h : AH) (L : Nat) (R : List Nat) : Bds := fun i v => if i < L then (if R.contains i then (if v = 0 then β i (ver h i) else none) else β i v) else none

theorem normH_get (L : Nat) (R : List Nat) (h : AH) : ∀ (l : AH) (k i : Nat), (normH L R h k l)[i]? = (l[i]?).map (normB L R h (k + i))
  | [], k, i => by simp [normH]
  | b :: l, k, i => by
    cases i with
    | zero => simp [normH]
    | succ i =>
      simp only [normH, List.getElem?_cons_succ]
      rw [normH_get L R h l (k + 1) i, show k + 1 + i = k + (i + 1) from by omega]
theorem normH_length (L : Nat) (R : List Nat) (h : AH) : ∀ (l : AH) (k : Nat), (normH L R h k l).length = l.length
  | [], _ => rfl
  | _ :: l, k => by simp [normH, normH_length L R h l]

theorem head_get {L : Nat} {R : List Nat} {i : Nat} {X' : AB} (hX : (normH L R h 0 (h.take L))[i]? = some X') : ∃ X, h[i]? = some X ∧ i < L ∧ X' = normB L R h i X := by
  rw [normH_get, Nat.zero_add] at hX
  rw [List.getElem?_take] at hX
  split at hX
  · rename_i hlt
    cases hx : h[i]? with
    | none => rw [hx] at hX; cases hX
    | some X => rw [hx] at hX; simp at hX; exact ⟨X, rfl, hlt, hX.symm⟩
  · cases hX

theorem owned_head {L : Nat} {R : List Nat} {i c : Nat} (ho : owned (bdH β h L R) (normH L R h 0 (h.take L)) i c) : owned β h i c ∧ i < L := by
  obtain ⟨X', hX', bd, hcb, hm⟩ := ho
  obtain ⟨X, hX, hi, rfl⟩ := head_get hX'
  refine ⟨⟨X, hX, bd, hcb, ?_⟩, hi⟩
  cases X with
  | gone => exact hm
  | var cs =>
    simp only [normB, bdH, if_pos hi] at hm ⊢
    have hv : ver h i = 0 := by unfold ver; rw [hX]
    rw [hv] at hm
    split at hm <;> simpa using hm
  | row v sz es =>
    simp only [normB, bdH, if_pos hi] at hm ⊢
    have hv : ver h i = v := by unfold ver; rw [hX]
    rw [hv] at hm
    split at hm <;> simpa using hm
  | fro v sz es => exact hm

theorem own_head {L : Nat} {R : List Nat} {c : Nat} (ho : Own Z (bdH β h L R) (normH L R h 0 (h.take L)) c) : Own Z β h c := by
  rcases ho with ho | ⟨i, ho⟩
  · exact .inl ho
  · exact .inr ⟨i, (owned_head ho).1⟩
theorem stay_head {L : Nat} {R : List Nat} : Stay (Own Z β h) w (Own Z (bdH β h L R) (normH L R h 0 (h.take L))) w :=
  ⟨Nat.le_refl _, fun _ _ hO => ⟨rfl, fun h => hO (own_head h)⟩⟩

theorem bdH_keep {L : Nat} {R : List Nat} {i v : Nat} {bd : Bd} (hi : i < L) (hR : R.contains i = false) (hb : β i v = some bd) : bdH β h L R i v = some bd := by
  unfold bdH
  rw [if_pos hi, hR]
  simpa using hb

/-- What stays as it is. -/
theorem kept_rel {L : Nat} {R : List Nat} {x : AV} {u : Value} (hx : (x.isE || match x with | .ptr b _ _ _ => decide (b < L) && !R.contains b | _ => false) = true) (hv : VR β (Own Z β h) w x u) :
    VR (bdH β h L R) (Own Z (bdH β h L R) (normH L R h 0 (h.take L))) w x u := by
  rw [Bool.or_eq_true] at hx
  rcases hx with hx | hx
  · exact .pure _ _ ((hv.pureE hx).mono stay_head)
  · split at hx
    · simp only [Bool.and_eq_true, decide_eq_true_eq, Bool.not_eq_true'] at hx
      obtain ⟨bd, c, h1, h2, rfl⟩ := hv.ptr_inv
      exact .ptr _ _ _ _ bd c (bdH_keep hx.1 hx.2 h1) h2
    · cases hx

theorem normS_rel (R0 : Rel Z β h w) (L : Nat) (R : List Nat) {a : AV} {v : Value} (hv : VR β (Own Z β h) w a v) :
    VR (bdH β h L R) (Own Z (bdH β h L R) (normH L R h 0 (h.take L))) w (normS L R h a) v := by
  have pure : ∀ {a : AV}, VR β (Own Z β h) w a v → VR (bdH β h L R) (Own Z (bdH β h L R) (normH L R h 0 (h.take L))) w (if a.isS then a else .dead) v := by
    intro a hv
    split
    · rename_i hs
      exact .pure _ _ ((hv.pureS hs).mono stay_head)
    · exact .dead v
  cases a with
  | own b vv o n =>
    simp only [normS]
    split
    · rename_i hb
      cases hR : R.contains b with
      | false =>
        simp only [Bool.false_eq_true, if_false]
        obtain ⟨bd, a, c, h1, rfl, h2⟩ := hv.own_inv
        exact .own b vv o n bd a c (bdH_keep hb hR h1) h2
      | true =>
        simp only [if_true]
        obtain ⟨bd, a, c, h1, rfl, h2⟩ := hv.own_inv
        have go : ver h b = vv → VR (bdH β h L R) (Own Z (bdH β h L R) (normH L R h 0 (h.take L))) w (.own b 0 o n) (.slice a n c) := by
          intro hver
          refine .own b 0 o n bd a c ?_ h2
          unfold bdH
          rw [if_pos hb, hR, hver]
          simpa using h1
        split
        · rename_i v' sz es hX
          split
          · rename_i he; exact go (by unfold ver; rw [hX]; exact he.symm)
          · exact .dead _
        · rename_i v' sz es hX
          split
          · rename_i he; exact go (by unfold ver; rw [hX]; exact he.symm)
          · exact .dead _
        · exact .dead _
    · rename_i hb
      split
      · rename_i es hes
        obtain ⟨bd, a, c, h1, rfl, h2⟩ := hv.own_inv
        refine .pure _ _ ?_
        -- the row is not one of those at the head
        simp only [elems] at hes
        have build : ∀ {cb sz : Nat} {es' : List AV}, 0 < sz → bd.sz = sz → bd.cb = some cb → (¬ Own Z (bdH β h L R) (normH L R h 0 (h.take L)) cb) → cb < w.heap.size → o + n ≤ es'.length →
            (∃ cur elem fr, w.heap[cb]? = some (.cells cur elem fr) ∧ ElemsAt (Own Z β h) w cur bd.base sz es') → PVR (Own Z (bdH β h L R) (normH L R h 0 (h.take L))) w (.lst false ((es'.drop o).take n)) (.slice a n c) := by
          intro cb sz es' hsz e1 e2 hO hlt hon hcur
          obtain ⟨cur, elem, fr, g2, g5⟩ := hcur
          have hlen : ((es'.drop o).take n).length = n := by simp; omega
          rcases h2 with ⟨z1, z2⟩ | ⟨cb', q1, q2, q3, q4⟩
          · subst z1 z2
            have hz : (es'.drop o).take 0 = [] := by simp
            rw [hz]
            exact .lst false [] a 0 0 0 0 (fun _ _ => Go.undef) (fun h => by cases h) (Nat.le_refl _) (fun h => absurd rfl h) (fun i x hx => by simp at hx) (fun i x hx => by simp at hx) (fun i x hx => by simp at hx) (fun i x hx => by simp at hx)
          · rw [e2] at q1
            cases q1
            rw [q2]
            have := lst_of_src (w := w) (full := false) (c := c) hsz hO hlt ((row_src (o := o) (n := n) g2 g5).mono stay_head) (fun h => by cases h) (by rw [hlen]; exact q3)
            rw [hlen] at this
            rw [e1]
            exact this
        split at hes
        · rename_i v' sz es' hX
          split at hes
          · rename_i hc
            cases hes
            obtain ⟨rfl, hon⟩ := hc
            obtain ⟨hsz, bd', e1, e2, e3⟩ := R0.blk b _ hX
            rw [h1] at e1; cases e1
            rcases e3 with ⟨e3, e4⟩ | ⟨cb, cur, elem, e3, e4, e5, e6, e7⟩
            · subst e4
              have hn0 : n = 0 := by simp at hon; omega
              subst hn0
              simp only [List.drop_nil, List.take_nil]
              refine .lst false [] a c 0 0 0 (fun _ _ => Go.undef) (fun h => by cases h) (Nat.zero_le _) (fun h => absurd rfl h) (fun i x hx => by simp at hx) (fun i x hx => by simp at hx) (fun i x hx => by simp at hx) (fun i x hx => by simp at hx)
            · have hown : owned β h b cb := ⟨_, hX, bd, e3, h1⟩
              refine build hsz e2 e3 ?_ (Array.getElem?_eq_some_iff.1 e4).1 hon ⟨cur, elem, _, e4, e7⟩
              rintro (hz | ⟨i, hi⟩)
              · exact R0.xap b cb hown hz
              · obtain ⟨hi, hlt⟩ := owned_head hi
                have := R0.apart i b cb hi hown
                omega
          · cases hes
        · rename_i v' sz es' hX
          split at hes
          · rename_i hc
            cases hes
            obtain ⟨rfl, hon⟩ := hc
            obtain ⟨hsz, bd', e1, e2, e3⟩ := R0.blk b _ hX
            rw [h1] at e1; cases e1
            rcases e3 with ⟨e3, e4⟩ | ⟨cb, cur, elem, fr, e3, e0, e4, e5, e6, e7⟩
            · subst e4
              have hn0 : n = 0 := by simp at hon; omega
              subst hn0
              simp only [List.drop_nil, List.take_nil]
              refine .lst false [] a c 0 0 0 (fun _ _ => Go.undef) (fun h => by cases h) (Nat.zero_le _) (fun h => absurd rfl h) (fun i x hx => by simp at hx) (fun i x hx => by simp at hx) (fun i x hx => by simp at hx) (fun i x hx => by simp at hx)
            · exact build hsz e2 e3 (fun ho => e0 (own_head ho)) (Array.getElem?_eq_some_iff.1 e4).1 hon ⟨cur, elem, fr, e4, e7⟩
          · cases hes
        · cases hes
      · exact .dead _
  | ptr b vv i o =>
    simp only [normS]
    split
    · rename_i hb
      obtain ⟨bd, c, h1, h2, rfl⟩ := hv.ptr_inv
      refine .ptr _ _ _ _ bd c (bdH_keep hb.1 ?_ h1) h2
      cases hR : R.contains b with
      | false => rfl
      | true => exact absurd hR hb.2
    · exact .dead _
  | fn f a c =>
    simp only [normS]
    split
    · rename_i hall
      cases hv with
      | pure _ _ hv => cases hv
      | fn _ _ _ va vc q1 q2 q3 q4 =>
        have hall' := List.all_eq_true.1 hall
        refine .fn _ _ _ va vc q1 q2 (fun j y u hy hu => kept_rel (hall' y ?_) (q3 j y u hy hu)) (fun j y u hy hu => kept_rel (hall' y ?_) (q4 j y u hy hu))
        · exact List.mem_append_left _ (List.mem_of_getElem? hy)
        · exact List.mem_append_right _ (List.mem_of_getElem? hy)
    · exact .dead _
  | undef => rw [hv.undef_inv]; exact .undef
  | _ => exact pure hv

theorem normV_rel (R0 : Rel Z β h w) (L : Nat) (R : List Nat) {a : AV} {v : Value} (hv : VR β (Own Z β h) w a v) :
    VR (bdH β h L R) (Own Z (bdH β h L R) (normH L R h 0 (h.take L))) w (normV L R h a) v := by
  unfold normV
  split
  · rename_i hE
    exact .pure _ _ ((hv.pureE hE).mono stay_head)
  · split
    · rename_i cs hne
      obtain ⟨vs, rfl, hl, h1, h2⟩ := hv.agg_inv
      refine .agg _ vs (by simpa using hl) h1 fun j y u hy hu => ?_
      rw [List.getElem?_map] at hy
      cases hc : cs[j]? with
      | none => rw [hc] at hy; cases hy
      | some y' =>
        rw [hc] at hy
        simp only [Option.map_some, Option.some.injEq] at hy
        subst hy
        exact normS_rel R0 L R (h2 j y' u hc hu)
    · exact normS_rel R0 L R hv

/-- A loop's head: the memory. -/
theorem head_rel (R0 : Rel Z β h w) (L : Nat) (R : List Nat) : Rel Z (bdH β h L R) (normH L R h 0 (h.take L)) w := by
  refine ⟨R0.xlt, fun i c ho => R0.xap i c (owned_head ho).1, fun i v hi => ?_, fun i v sz es v' hX hv => ?_, fun i X' hX => ?_, fun i j c hi hj => R0.apart i j c (owned_head hi).1 (owned_head hj).1⟩
  · rw [normH_length, List.length_take] at hi
    unfold bdH
    split
    · rename_i hlt
      have hh : h.length ≤ i := by omega
      simp only [R0.fresh i _ hh]
      split
      · split <;> rfl
      · rfl
    · rfl
  · obtain ⟨X, hX', hi, he⟩ := head_get hX
    cases X with
    | row v0 sz0 es0 =>
      simp only [normB, AB.row.injEq] at he
      obtain ⟨rfl, rfl, rfl⟩ := he
      unfold bdH
      rw [if_pos hi]
      split
      · rename_i hR
        rw [if_pos hR] at hv
        rw [if_neg (by omega)]
      · rename_i hR
        rw [if_neg hR] at hv
        exact R0.later i v0 sz es v' hX' hv
    | _ => simp [normB] at he
  · obtain ⟨X, hX', hi, rfl⟩ := head_get hX
    have hb := R0.blk i X hX'
    cases X with
    | gone => trivial
    | var cs =>
      obtain ⟨c, cur, elem, e1, e2, e3, e4⟩ := hb
      have hv : ver h i = 0 := by unfold ver; rw [hX']
      refine ⟨c, cur, elem, ?_, e2, by simpa using e3, fun j y hy => ?_⟩
      · unfold bdH
        rw [if_pos hi, hv]
        simp only [List.length_map]
        split <;> simpa using e1
      · rw [List.getElem?_map] at hy
        cases hc : cs[j]? with
        | none => rw [hc] at hy; cases hy
        | some y' =>
          rw [hc] at hy
          simp only [Option.map_some, Option.some.injEq] at hy
          subst hy
          obtain ⟨u, k1, k2, k3⟩ := e4 j y' hc
          exact ⟨u, k1, k2, normS_rel R0 L R k3⟩
    | row v sz es =>
      obtain ⟨hsz, bd, e1, e2, e3⟩ := hb
      have hv : ver h i = v := by unfold ver; rw [hX']
      refine ⟨hsz, bd, ?_, e2, ?_⟩
      · unfold bdH
        rw [if_pos hi, hv]
        split
        · simpa using e1
        · exact e1
      · rcases e3 with e3 | ⟨c, cur, elem, k1, k2, k3, k4, k5⟩
        · exact .inl e3
        · exact .inr ⟨c, cur, elem, k1, k2, k3, k4, SrcAt.mono stay_head k5⟩
    | fro v sz es =>
      obtain ⟨hsz, bd, e1, e2, e3⟩ := hb
      have hv : ver h i = v := by unfold ver; rw [hX']
      refine ⟨hsz, bd, ?_, e2, ?_⟩
      · unfold bdH
        rw [if_pos hi, hv]
        split
        · simpa using e1
        · exact e1
      · rcases e3 with e3 | ⟨c, cur, elem, fr, k1, k0, k2, k3, k4, k5⟩
        · exact .inl e3
        · exact .inr ⟨c, cur, elem, fr, k1, fun ho => k0 (own_head ho), k2, k3, k4, SrcAt.mono stay_head k5⟩

theorem head_frV {L : Nat} {R : List Nat} : FrV (volIn R L) Z β h w (bdH β h L R) (normH L R h 0 (h.take L)) w := by
  refine ⟨fun _ _ _ => rfl, rfl, rfl, rfl, fun i v bd hv hb => ?_, stay_head⟩
  unfold volIn at hv
  rw [Bool.or_eq_false_iff] at hv
  exact bdH_keep (by have := hv.2; simp at this; omega) hv.1 hb

theorem dropR_rel {R : List Nat} {β' : Bds} {O O' : Nat → Prop} {w' : World} (hext : ∀ i v bd, R.contains i = false → β i v = some bd → β' i v = some bd) (hst : Stay O w O' w') {a : AV} {v : Value} (hv : VR β O w a v) :
    VR β' O' w' (dropR R a) v := by
  have one : ∀ {x : AV} {u : Value}, (x.isE || match x with | .ptr b _ _ _ => !R.contains b | .own b _ _ _ => !R.contains b | _ => false) = true → VR β O w x u → VR β' O' w' x u := by
    intro x u hx hv
    rw [Bool.or_eq_true] at hx
    rcases hx with hx | hx
    · exact .pure _ _ ((hv.pureE hx).mono hst)
    · split at hx
      · obtain ⟨bd, c, h1, h2, rfl⟩ := hv.ptr_inv
        exact .ptr _ _ _ _ bd c (hext _ _ _ (by simpa using hx) h1) h2
      · obtain ⟨bd, a, c, h1, rfl, h2⟩ := hv.own_inv
        exact .own _ _ _ _ bd a c (hext _ _ _ (by simpa using hx) h1) h2
      · cases hx
  have two : ∀ {x : AV} {u : Value}, VR β O w x u → VR β' O' w' (if (x.isE || match x with | .ptr b _ _ _ => !R.contains b | .own b _ _ _ => !R.contains b | _ => false) = true then x else .dead) u := by
    intro x u hv
    exact iteInduction (motive := fun z => VR β' O' w' z u) (fun hx => one hx hv) (fun _ => .dead _)
  cases a with
  | agg cs =>
    simp only [dropR]
    split
    · rename_i hall
      obtain ⟨vs, rfl, hl, h1, h2⟩ := hv.agg_inv
      exact .agg _ vs hl h1 fun j y u hy hu => one (List.all_eq_true.1 hall y (List.mem_of_getElem? hy)) (h2 j y u hy hu)
    · exact .dead _
  | fn f a c =>
    simp only [dropR]
    split
    · rename_i hall
      cases hv with
      | pure _ _ hv => cases hv
      | fn _ _ _ va vc q1 q2 q3 q4 =>
        have hall' := List.all_eq_true.1 hall
        refine .fn _ _ _ va vc q1 q2 (fun j y u hy hu => one (hall' y ?_) (q3 j y u hy hu)) (fun j y u hy hu => one (hall' y ?_) (q4 j y u hy hu))
        · exact List.mem_append_left _ (List.mem_of_getElem? hy)
        · exact List.mem_append_right _ (List.mem_of_getElem? hy)
    · exact .dead _
  | undef => rw [hv.undef_inv]; exact .undef
  | _ => exact two hv

theorem baseEnv_rel {R : List Nat} {β' : Bds} {O O' : Nat → Prop} {w' : World} (hext : ∀ i v bd, R.contains i = false → β i v = some bd → β' i v = some bd) (hst : Stay O w O' w') {e : Env} {t : Nat} {v : Value} (hv : VR β O w (e t) v) :
    VR β' O' w' (baseEnv R e t) v := by
  unfold baseEnv
  split
  · rename_i hR
    have : R = [] := by simpa using hR
    subst this
    exact hv.mono (fun i v bd => hext i v bd rfl) hst
  · exact dropR_rel hext hst hv

theorem lay_rel {β' : Bds} {O : Nat → Prop} {w' : World} {tm : Nat → Value} {e0 : Env} (h0 : ∀ t, VR β' O w' (e0 t) (tm t)) : ∀ (ts : List Nat) (vs : List AV), (∀ p ∈ ts.zip vs, VR β' O w' p.2 (tm p.1)) → ∀ t, VR β' O w' (e0.lay ts vs t) (tm t)
  | [], _, _, t => by simp only [Env.lay]; exact h0 t
  | _ :: _, [], _, t => by simp only [Env.lay]; exact h0 t
  | q :: ts, v :: vs, hp, t => by
    simp only [Env.lay, Env.put]
    split
    · rename_i ht
      subst ht
      exact hp (t, v) (by simp)
    · exact lay_rel h0 ts vs (fun p hq => hp p (by simp [hq])) t

theorem preOwn_rel {a : Act} {n : Nat} : ∀ (own : List (Nat × Nat)) (s : St) (β : Bds), own.all (fun p => decide (0 < p.2)) = true → Rel Z β s.h w → EnvR Z β s.h w s.e a n →
    ∃ β', Rel Z β' (preOwn own s).h w ∧ Fr Z β s.h w β' (preOwn own s).h w ∧ EnvR Z β' (preOwn own s).h w (preOwn own s).e a n
  | [], s, β, _, R, E => ⟨β, R, Fr.refl _ _ _ _, E⟩
  | (t, sz) :: l, s, β, ok, R, E => by
    simp only [List.all_cons, Bool.and_eq_true, decide_eq_true_eq] at ok
    unfold preOwn
    split
    · rename_i he
      obtain ⟨β1, R1, F1, hv⟩ := R.push_none sz ok.1
      have E1 : EnvR Z β1 (s.h ++ [.row 0 sz []]) w (s.e.put t (.own s.h.length 0 0 0)) a n := by
        refine ⟨E.1, fun q => ?_⟩
        simp only [Env.put]
        split
        · rename_i hq
          subst hq
          have h0 := E.2 q
          rw [he] at h0
          have h1 := h0.lst_inv
          generalize a.tmps.getD q Go.undef = u at h1
          cases h1 with
          | lst _ _ ad c _ _ _ _ hf _ _ _ _ _ _ =>
            have hc := hf rfl
            simp only [List.length_nil] at hc ⊢
            subst hc
            exact hv ad
        · exact (E.2 q).fr F1
      obtain ⟨β2, R2, F2, E2⟩ := preOwn_rel l ⟨s.e.put t (.own s.h.length 0 0 0), s.h ++ [.row 0 sz []]⟩ β1 ok.2 R1 E1
      exact ⟨β2, R2, F1.trans F2, E2⟩
    · exact preOwn_rel l s β ok.2 R E
end
end Go.Am
