/-
  The abstract machine: append and copy.
-/
import Derived.Test.YtldgegojhaamoaaAmL
set_option linter.unusedSimpArgs false
set_option linter.unusedVariables false
namespace Go.Am

section
variable {P : Program} {Z : Nat → Prop} {β : Bds} {h : AH} {w : World}

theorem rowSz_inv (R : Rel Z β h w) {b v sz : Nat} (hr : rowSz h b v = some sz) {bd : Bd} (hb : β b v = some bd) : bd.sz = sz ∧ 0 < sz := by
  unfold rowSz at hr
  split at hr
  · rename_i v' sz' es hes
    split at hr
    · rename_i hv; subst hv; cases hr
      obtain ⟨h0, bd', e1, e2, _⟩ := R.blk b _ hes
      rw [hb] at e1; cases e1
      exact ⟨e2, h0⟩
    · cases hr
  · rename_i v' sz' es hes
    split at hr
    · rename_i hv; subst hv; cases hr
      obtain ⟨h0, bd', e1, e2, _⟩ := R.blk b _ hes
      rw [hb] at e1; cases e1
      exact ⟨e2, h0⟩
    · cases hr
  · cases hr

/-- Where append's cells come from. -/
def Brings (P : Program) (w : World) (argTypes : Array TypeId) (x : Value) (size n : Nat) (news : List Value) : Prop :=
  (∃ u d, argTypes[1]? = some u ∧ P.underlying u = some d ∧ (match d with | .int _ => False | _ => True) ∧ (Builtin.lenOf x).run P w = .ok n w ∧
    (∀ w' : World, w'.heap = w.heap → (Builtin.firstCells size n x).run P w' = .ok news.toArray w')) ∨
  (∃ u k kk i, argTypes[1]? = some u ∧ P.underlying u = some (.int k) ∧ x = .int kk i ∧ 0 ≤ i ∧ i.toNat = n ∧ i ≤ 140737488355328)

/-- An append, whatever brings the cells: it fits, or it is laid anew. -/
theorem run_append (t ty e : TypeId) (i : TypeInfo) (z : Value) (ht : P.underlying t = some (.slice e)) (hi : P.info? e = some i) (hz : i.zero = some z) (hzs : z.cells.size = i.size)
    (argTypes : Array TypeId) (hat : argTypes[0]? = some t) (ad : Option Addr) (sLen sCap : Nat) (x : Value) (n : Nat) (news olds : List Value) (hbr : Brings P w argTypes x i.size n news)
    (hnews : (∃ u d, argTypes[1]? = some u ∧ P.underlying u = some d ∧ (match d with | .int _ => False | _ => True)) ∨ news = (Builtin.zeroCells z.cells n).toList)
    (hold : ∀ w' : World, w'.heap = w.heap → (Builtin.firstCells i.size sLen (.slice ad sLen sCap)).run P w' = .ok olds.toArray w')
    (h63 : sLen + n ≤ 140737488355328) (hbytes : (sLen + n) * i.bytes ≤ 140737488355328) :
    (sLen + n ≤ sCap → (Builtin.append_ argTypes ty #[.slice ad sLen sCap, x]).run P w = ((match ad with | some a => storeCells (a.add (sLen * i.size)) news | none => pure () : Sem Unit).run P w).andThen fun _ w' => .ok (.slice ad (sLen + n) sCap) w') ∧
    (¬ sLen + n ≤ sCap → (Builtin.append_ argTypes ty #[.slice ad sLen sCap, x]).run P w = .ok (.slice (some ⟨w.heap.size, 0, none⟩) (sLen + n) (grownCap w (sLen + n) sCap e))
        (w.drew.alloc (.cells (olds.toArray ++ news.toArray ++ Builtin.zeroCells z.cells (grownCap w (sLen + n) sCap e - (sLen + n))) e))) := by
  have hdraw : ∀ x : World, x.drew.heap = x.heap := fun _ => rfl
  have h48 : ¬ (sLen + n ≤ sCap) → ¬ (Builtin.nextslicecap (sLen + n) sCap * i.bytes > 2 ^ 48) := by
    intro hg
    have := growslice_fits (need := sLen + n) (old := sCap) (by omega) hbytes
    omega
  have h63' : ¬ (((sLen + n : Nat) : Int) > IntKind.i64.max) := by
    have : IntKind.i64.max = 9223372036854775807 := by rfl
    rw [this]; omega
  have hfin : ∀ (q : Question), q = .appendCap (sLen + n) sCap e → q.forced = false := by rintro _ rfl; rfl
  rcases hbr with ⟨u, d, hu, hd, hdi, hlen, hfc⟩ | ⟨u, k, kk, ii, hu, hd, rfl, h0, hin, hsmall⟩
  · constructor
    · intro hfit
      have hf := hfc w rfl
      cases d <;> first
        | exact hdi.elim
        | (simp only [Builtin.append_, hat, List.getElem?_toArray, List.getElem?_cons_zero, List.getElem?_cons_succ, Sem.run_bind, run_underlying ht, Result.andThen_ok, sizeOf, typeInfo, run_program, hi, Sem.run_pure, hu, run_underlying hd,
            Bool.false_eq_true, if_false, hlen, Bool.not_false, if_true, hfit, hf]
           cases ad <;> simp)
    · intro hfit
      have hf := hfc { w with drawn := w.drawn + 1 } rfl
      have ho := hold { w with drawn := w.drawn + 1 } rfl
      have hc := hfin _ rfl
      have h4 := h48 hfit
      cases d <;> first
        | exact hdi.elim
        | (simp only [Builtin.append_, hat, List.getElem?_toArray, List.getElem?_cons_zero, List.getElem?_cons_succ, Sem.run_bind, run_underlying ht, Result.andThen_ok, sizeOf, typeInfo, run_program, hi, Sem.run_pure, hu, run_underlying hd,
            Bool.false_eq_true, if_false, hlen, Bool.not_false, if_true, hfit, h63', false_and, h4, run_choose, hc, run_askRoom, ho, hf, run_zeroValue' hi hz, newRow, run_newObj]
           simp [grownCap]; rfl)
  · have hnews' : news = (Builtin.zeroCells z.cells n).toList := by
      rcases hnews with ⟨u', d', e1, e2, e3⟩ | hnews
      · rw [hu] at e1; cases e1
        rw [hd] at e2; cases e2
        exact e3.elim
      · exact hnews
    subst hnews'
    have hw : IntKind.i64.wrap ii = ii := wrap_small h0 (by omega)
    have hneg : ¬ ii < 0 := by omega
    have hi48 : ¬ (ii * (i.bytes : Int) > 2 ^ 48) := by
      have e1 : ii = (n : Int) := by omega
      rw [e1]
      have e2 : (n * i.bytes : Nat) ≤ (sLen + n) * i.bytes := Nat.mul_le_mul_right _ (by omega)
      have e3 : ((n : Int) * (i.bytes : Int)) = ((n * i.bytes : Nat) : Int) := by simp
      rw [e3]; omega
    have e1 : ∀ w', (asInt (.int kk ii)).run P w' = .ok ii w' := fun _ => rfl
    have happ : ∀ w' : World, ((if n * i.size = 0 then pure #[] else do pure (Builtin.zeroCells (← zeroValue e).cells n)) : Sem (Array Value)).run P w' = .ok (Builtin.zeroCells z.cells n) w' := by
      intro w'
      by_cases hz0 : n * i.size = 0
      · have : Builtin.zeroCells z.cells n = #[] := by
          apply Array.eq_empty_of_size_eq_zero
          rw [size_zeroCells, hzs]; exact hz0
        simp [hz0, this]
      · simp [hz0, run_zeroValue' hi hz]
    constructor
    · intro hfit
      simp only [Builtin.append_, hat, List.getElem?_toArray, List.getElem?_cons_zero, List.getElem?_cons_succ, Sem.run_bind, run_underlying ht, Result.andThen_ok, sizeOf, typeInfo, run_program, hi, Sem.run_pure, hu, run_underlying hd,
        if_true, e1, hw, hneg, if_false, hi48, hin, Bool.not_true, Bool.false_eq_true, hfit, happ]
      cases ad with
      | none => simp
      | some a => simp
    · intro hfit
      simp only [Builtin.append_, hat, List.getElem?_toArray, List.getElem?_cons_zero, List.getElem?_cons_succ, Sem.run_bind, run_underlying ht, Result.andThen_ok, sizeOf, typeInfo, run_program, hi, Sem.run_pure, hu, run_underlying hd,
        if_true, e1, hw, hneg, if_false, hi48, hin, Bool.not_true, Bool.false_eq_true, hfit]
      simp only [h63', false_and, if_false, Sem.run_bind, Sem.run_pure, Result.andThen_ok, run_program, hi, h48 hfit, run_choose, hfin _ rfl, Bool.false_eq_true, run_askRoom, hold { w with drawn := w.drawn + 1 } rfl, happ,
        run_zeroValue' hi hz, newRow, run_newObj]
      simp [grownCap]; rfl

/-- What a slice holds, as 'append' reads it. -/
theorem run_first {O : Nat → Prop} {ad : Option Addr} {n c sz : Nat} {es : List AV} (hlen : es.length = n) (hsrc : es ≠ [] → ∃ blk o, ad = some ⟨blk, o, none⟩ ∧ SrcAt O w (fun k => w.cell? ⟨blk, o + k, none⟩) sz es) :
    ∃ olds : List Value, olds.length = n * sz ∧ (∀ u ∈ olds, u.oneCell' = true) ∧ SrcAt O w (fun k => olds[k]?) sz es ∧ ∀ w' : World, w'.heap = w.heap → (Builtin.firstCells sz n (.slice ad n c)).run P w' = .ok olds.toArray w' := by
  by_cases h0 : es = []
  · subst h0
    simp at hlen
    subst hlen
    refine ⟨[], by simp, by simp, .nil, fun w' _ => ?_⟩
    cases ad <;> simp [Builtin.firstCells, loadCells, loadCellsFrom]
  · obtain ⟨blk, o, rfl, hs⟩ := hsrc h0
    obtain ⟨vs, l1, l2, l3, l4⟩ := hs.list
    refine ⟨vs, by rw [l1, hlen], l3, l4, fun w' hw' => ?_⟩
    exact run_firstCells_some w' sz n ⟨blk, o, none⟩ n c vs (by rw [l1, hlen]) (fun j u hu => by
      rw [addr_add]
      have := l2 j u hu
      simpa [World.cell?, hw'] using this)

theorem SrcAt.app {O : Nat → Prop} {vs us : List Value} {sz : Nat} {es es' : List AV} (h1 : SrcAt O w (fun k => vs[k]?) sz es) (hl : vs.length = es.length * sz) (h2 : SrcAt O w (fun k => us[k]?) sz es') : SrcAt O w (fun k => (vs ++ us)[k]?) sz (es ++ es') := by
  have hl2 : ∀ {us' : List Value}, SrcAt O w (fun k => us'[k]?) sz es' → True := fun _ => trivial
  refine SrcAt.append (h1.congr fun k hk => ?_) (h2.congr fun k _ => ?_)
  · rw [List.getElem?_append_left (by omega)]
  · rw [List.getElem?_append_right (by omega), hl]
    congr 1; omega

theorem append_rel (R : Rel Z β h w) {t ty e : TypeId} {sz bytes : Nat} (ht : P.underlying t = some (.slice e)) {i : TypeInfo} {z : Value} (hi : P.info? e = some i) (hz : i.zero = some z) (hzs : z.cells.size = i.size) (hsz : i.size = sz) (hby : i.bytes = bytes) (hsz0 : 0 < sz)
    {argTypes : Array TypeId} (hat : argTypes[0]? = some t) {s av : AV} {newsA : List AV} {h' : AH} (hap : append h sz bytes s newsA = some (av, h')) {v x : Value} (hv : VR β (Own Z β h) w s v) {news : List Value}
    (hbr : Brings P w argTypes x sz newsA.length news) (hnews : (∃ u d, argTypes[1]? = some u ∧ P.underlying u = some d ∧ (match d with | .int _ => False | _ => True)) ∨ news = (Builtin.zeroCells z.cells newsA.length).toList)
    (hnl : news.length = newsA.length * sz) (hns : SrcAt (Own Z β h) w (fun k => news[k]?) sz newsA) (hn1 : ∀ u ∈ news, u.oneCell' = true) : Makes P Z β h w (Builtin.append_ argTypes ty #[v, x]) av h' := by
  cases s with
  | lst full es =>
    cases full with
    | false => simp [append] at hap
    | true =>
      simp only [append] at hap
      split at hap
      · rename_i hcond
        obtain ⟨hne, hszk, hszk2, hb, h63⟩ := hcond
        cases hap
        obtain ⟨ad, c, rfl, hc, hsrc⟩ := elems_rel R (a := .lst true es) rfl hv
        have hfull : c = es.length := by
          generalize hce : es.length = ce at hv
          cases hv.lst_inv with
          | lst _ _ _ _ _ _ _ _ hf => have := hf rfl; omega
        subst hfull
        obtain ⟨olds, o1, o2, o3, o4⟩ := run_first (P := P) (O := Own Z β h) (w := w) (ad := ad) (c := es.length) (sz := sz) (es := es) rfl (fun hne' => by
          obtain ⟨blk, o, sz', _, e1, e2⟩ := hsrc hne'
          exact ⟨blk, o, e1, e2.szOk hszk⟩)
        obtain ⟨r1, r2⟩ := run_append (P := P) (w := w) t ty e i z ht hi hz hzs argTypes hat ad es.length es.length x newsA.length news olds (by rw [hsz]; exact hbr) hnews (by rw [hsz]; exact o4) h63 (by rw [hby]; exact hb)
        by_cases hfit : es.length + newsA.length ≤ es.length
        · have hn0 : newsA = [] := List.eq_nil_of_length_eq_zero (by omega)
          subst hn0
          have hes : es = [] := by
            rcases hne with h0 | h0
            · exact h0
            · exact absurd rfl h0
          subst hes
          have hnews0 : news = [] := List.eq_nil_of_length_eq_zero (by simpa using hnl)
          subst hnews0
          obtain ⟨β', k1, k2, k3⟩ := R.push_none sz hsz0
          refine ⟨.slice ad 0 0, w, β', ?_, by simpa using k1, by simpa using k2, by simpa using k3 ad⟩
          have := r1 hfit
          simp only [List.length_nil, Nat.add_zero] at this
          simp only [List.length_nil]
          rw [this]
          cases ad <;> simp [storeCells]
        · have hr := r2 hfit
          have hge := grownCap_ge w (es.length + newsA.length) es.length e
          have hsize : (olds.toArray ++ news.toArray ++ Builtin.zeroCells z.cells (grownCap w (es.length + newsA.length) es.length e - (es.length + newsA.length))).size = grownCap w (es.length + newsA.length) es.length e * sz := by
            simp only [Array.size_append, List.size_toArray, size_zeroCells, hzs, hsz, o1, hnl, ← Nat.add_mul]
            congr 1; omega
          obtain ⟨β', k1, k2, k3⟩ := R.push_row (w' := w.drew.alloc (.cells (olds.toArray ++ news.toArray ++ Builtin.zeroCells z.cells (grownCap w (es.length + newsA.length) es.length e - (es.length + newsA.length))) e)) sz hsz0 (es ++ newsA) _ e rfl rfl rfl rfl
            (by rw [hsize]; simp only [List.length_append]; exact Nat.mul_le_mul_right _ hge)
            ((o3.app o1 hns).congr fun k hk => by
              have hlt : k < (olds ++ news).length := by simp only [List.length_append, o1, hnl, ← Nat.add_mul] at hk ⊢; exact hk
              have e2 : olds.toArray ++ news.toArray = (olds ++ news).toArray := by simp
              rw [e2, Nat.zero_add, Array.getElem?_append_left (by simpa using hlt)]
              simp)
          exact ⟨_, _, β', hr, k1, k2, k3 _ _ hge (by rw [hsize]; exact Nat.le_refl _)⟩
      · cases hap
  | own b vv o n =>
    simp only [append] at hap
    split at hap
    · rename_i v' sz' es hes
      split at hap
      · rename_i hcond
        obtain ⟨rfl, rfl, hszk2, hon, hb, h63⟩ := hcond
        cases hap
        obtain ⟨bd, ad, c, hbd, rfl, h2⟩ := hv.own_inv
        obtain ⟨_, bd', q1, q2, q3⟩ := R.blk b _ hes
        rw [hbd] at q1; cases q1
        obtain ⟨ad', c', e1, hc, hsrc⟩ := elems_rel R (a := .own b vv o n) (es := (es.drop o).take n) (by simp [elems, hes, hon]) hv
        have hlen : ((es.drop o).take n).length = n := by simp; omega
        rw [hlen] at e1
        cases e1
        obtain ⟨olds, o1, o2, o3, o4⟩ := run_first (P := P) (O := Own Z β h) (w := w) (ad := ad) (c := c) (sz := sz') (es := (es.drop o).take n) hlen (fun hne' => by
          obtain ⟨blk, oo, sz2, _, e1, e2⟩ := hsrc hne'
          rcases h2 with ⟨_, h2⟩ | ⟨cb, p1, p2, _, _⟩
          · subst h2; simp at hne'
          · rcases q3 with ⟨q3, _⟩ | ⟨c2, cur, elem, g1, g2, g3, g4, g5⟩
            · rw [p1] at q3; cases q3
            · rw [p1] at g1; cases g1
              rw [q2] at p2
              exact ⟨cb, _, p2, row_src g2 g5⟩)
        obtain ⟨r1, r2⟩ := run_append (P := P) (w := w) t ty e i z ht hi hz hzs argTypes hat ad n c x newsA.length news olds (by rw [hsz]; exact hbr) hnews (by rw [hsz]; exact o4) h63 (by rw [hby]; exact hb)
        by_cases hfit : n + newsA.length ≤ c
        · have hr := r1 hfit
          rcases h2 with ⟨hc0, hn0⟩ | ⟨cb, p1, p2, p3, p4⟩
          · subst hc0 hn0
            have hnA : newsA = [] := List.eq_nil_of_length_eq_zero (by omega)
            subst hnA
            have hnews0 : news = [] := List.eq_nil_of_length_eq_zero (by simpa using hnl)
            subst hnews0
            obtain ⟨β', k1, k2, k3⟩ := R.append_none hes
            refine ⟨.slice ad 0 0, w, β', ?_, by simpa using k1, by simpa using k2, by simpa using k3 ad⟩
            rw [hr]
            cases ad <;> simp [storeCells]
          · rcases q3 with ⟨q3, _⟩ | ⟨c2, cur, elem, g1, g2, g3, g4, g5⟩
            · rw [p1] at q3; cases q3
            rw [p1] at g1; cases g1
            subst q2
            subst p2
            have hroom : bd.base + o * bd.sz + c * bd.sz ≤ cur.size := by rw [g3]; rw [Nat.add_mul] at p4; omega
            have hroom2 : (n + newsA.length) * bd.sz ≤ c * bd.sz := Nat.mul_le_mul_right _ hfit
            have hnl' : news.length = newsA.length * bd.sz := hnl
            rw [Nat.add_mul] at hroom2
            have hover : bd.base + o * bd.sz + n * bd.sz + news.length ≤ cur.toList.length := by simp; omega
            have hcur : SrcAt (Own Z β h) w (fun k => (over cur.toList (bd.base + o * bd.sz + n * bd.sz) news)[bd.base + o * bd.sz + k]?) bd.sz ((es.drop o).take n ++ newsA) := by
              refine SrcAt.append (((SrcAt.drop g5 o).take n).congr fun k hk => ?_) (hns.congr fun k hk => ?_)
              · rw [hlen] at hk
                rw [over_get _ _ _ hover, if_neg (by omega)]
                simp only [Array.getElem?_toList]
                congr 1; omega
              · rw [over_get _ _ _ hover, hlen, if_pos (by omega)]
                congr 1; omega
            obtain ⟨β', k1, k2, k3⟩ := R.append_there hes hbd p1 g2 (over cur.toList (bd.base + o * bd.sz + n * bd.sz) news) (by rw [over_length _ _ _ hover]; simp) o (es' := (es.drop o).take n ++ newsA)
              (by simp only [List.length_append, hlen, Nat.add_mul]; omega) (hcur.congr fun k _ => by simp)
            refine ⟨_, _, β', ?_, k1, k2, k3 (n + newsA.length) c hfit hroom⟩
            rw [hr]
            have hst := run_storeCells_at P cb (bd.base + o * bd.sz + n * bd.sz) elem news 0 cur w g2 (by simpa using hover) hn1
            simp only [Nat.add_zero] at hst
            simp only [addr_add, hsz]
            rw [hst]
            rfl
        · have hr := r2 hfit
          have hge := grownCap_ge w (n + newsA.length) c e
          have hsize : (olds.toArray ++ news.toArray ++ Builtin.zeroCells z.cells (grownCap w (n + newsA.length) c e - (n + newsA.length))).size = grownCap w (n + newsA.length) c e * sz' := by
            simp only [Array.size_append, List.size_toArray, size_zeroCells, hzs, hsz, o1, hnl, ← Nat.add_mul]
            congr 1; omega
          obtain ⟨β', k1, k2, k3⟩ := R.append_new (w' := w.drew.alloc (.cells (olds.toArray ++ news.toArray ++ Builtin.zeroCells z.cells (grownCap w (n + newsA.length) c e - (n + newsA.length))) e)) (cur := olds.toArray ++ news.toArray ++ Builtin.zeroCells z.cells (grownCap w (n + newsA.length) c e - (n + newsA.length))) (elem := e) hes (es' := (es.drop o).take n ++ newsA) rfl rfl rfl rfl
            (by rw [hsize]; simp only [List.length_append, hlen]; exact Nat.mul_le_mul_right _ hge)
            ((o3.app (by rw [o1, hlen]) hns).congr fun k hk => by
              have hlt : k < (olds ++ news).length := by simp only [List.length_append, o1, hnl, hlen, ← Nat.add_mul] at hk ⊢; exact hk
              have e2 : olds.toArray ++ news.toArray = (olds ++ news).toArray := by simp
              rw [e2, Nat.zero_add, Array.getElem?_append_left (by simpa using hlt)]
              simp)
          exact ⟨_, _, β', hr, k1, k2, k3 _ _ hge (by rw [hsize]; exact Nat.le_refl _)⟩
      · cases hap
    · cases hap
  | _ => simp [append] at hap
end
end Go.Am
