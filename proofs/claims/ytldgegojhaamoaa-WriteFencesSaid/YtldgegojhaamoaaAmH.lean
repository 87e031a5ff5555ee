/-
  The abstract machine: operations that read and write memory.
-/
import Derived.Test.YtldgegojhaamoaaAmG
set_option linter.unusedSimpArgs false
set_option linter.unusedVariables false
namespace Go.Am

theorem addr_add (b o j : Nat) : (⟨b, o, none⟩ : Addr).add j = ⟨b, o + j, none⟩ := by
  unfold Addr.add
  split
  · rename_i hj; subst hj; rfl
  · rfl

/-- Values one by one, as a row. -/
theorem list_of {p : Nat → Value → Prop} (n : Nat) (hp : ∀ j, j < n → ∃ u, p j u) : ∃ vs : List Value, vs.length = n ∧ ∀ (j : Nat) (u : Value), vs[j]? = some u → p j u := by
  induction n with
  | zero => exact ⟨[], rfl, fun j u hu => by simp at hu⟩
  | succ n ih =>
    obtain ⟨vs, hl, hv⟩ := ih fun j hj => hp j (by omega)
    obtain ⟨u, hu⟩ := hp n (by omega)
    refine ⟨vs ++ [u], by simp [hl], fun j x hx => ?_⟩
    by_cases hj : j < n
    · rw [List.getElem?_append_left (by omega)] at hx
      exact hv j x hx
    · rw [List.getElem?_append_right (by omega)] at hx
      have : j - vs.length = 0 := by
        have := (List.getElem?_eq_some_iff.1 hx).1
        simp at this; omega
      rw [this] at hx
      simp at hx
      have : j = n := by omega
      subst this; subst hx; exact hu

/-! ### Types -/
def sizeIs (P : Program) (t : TypeId) (sz : Nat) : Bool := match P.info? t with | some i => i.size == sz | none => false
def bytesIs (P : Program) (t : TypeId) (n : Nat) : Bool := match P.info? t with | some i => i.bytes == n | none => false
def aggIs (P : Program) (t : TypeId) (agg : Bool) : Bool :=
  match P.underlying t with
  | some (.struct _) => agg
  | some (.array _ _) => agg
  | some _ => !agg
  | none => false

/-- A constant of one cell. -/
def eqS : Value → AV → Bool
  | .bool b, .bool b' => b == b'
  | .int k n, .int k' n' => decide (k = k') && decide (n = n')
  | .string s, .str l => decide (s.data.toList = l)
  | .pointer none, .nilp => true
  | .slice none 0 0, .lst true [] => true
  | .nilFunc, .nilf => true
  | .nilIface, .nili => true
  | _, _ => false
def eqCs : List Value → List AV → Bool
  | [], [] => true
  | v :: vs, a :: as => eqS v a && eqCs vs as
  | _, _ => false
def eqV : Value → AV → Bool
  | .agg cs, .agg l => eqCs cs.toList l
  | v, a => eqS v a
def zeroIs (P : Program) (t : TypeId) (cs : List AV) : Bool := match P.info? t with
  | some i => match i.zero with
    | some z => eqCs z.cells.toList cs
    | none => false
  | none => false
def zeroV (P : Program) (t : TypeId) (a : AV) : Bool := match P.info? t with
  | some i => match i.zero with
    | some z => eqV z a
    | none => false
  | none => false

theorem eqS_rel {O : Nat → Prop} {w : World} {v : Value} {a : AV} (he : eqS v a = true) : PVR O w a v ∧ v.oneCell' = true ∧ a.isS = true := by
  unfold eqS at he
  split at he
  · simp at he; subst he; exact ⟨.bool _, rfl, rfl⟩
  · simp at he; obtain ⟨rfl, rfl⟩ := he; exact ⟨.int _ _, rfl, rfl⟩
  · simp at he; subst he; exact ⟨.str _, rfl, rfl⟩
  · exact ⟨.nilp, rfl, rfl⟩
  · exact ⟨.lst true [] none 0 0 0 0 (fun _ _ => .bool true) (by simp) (by simp) (by simp) (by simp) (by simp) (by simp) (by simp), rfl, rfl⟩
  · exact ⟨.nilf, rfl, rfl⟩
  · exact ⟨.nili, rfl, rfl⟩
  · cases he

theorem eqCs_rel {O : Nat → Prop} {w : World} : ∀ {vs : List Value} {as : List AV}, eqCs vs as = true →
    as.length = vs.length ∧ (∀ u ∈ vs, u.oneCell' = true) ∧ (∀ (j : Nat) (y : AV) (u : Value), as[j]? = some y → vs[j]? = some u → PVR O w y u) ∧ as.all AV.isS = true
  | [], [], _ => ⟨rfl, by simp, by simp, rfl⟩
  | v :: vs, a :: as, he => by
    simp only [eqCs, Bool.and_eq_true] at he
    obtain ⟨e1, e2⟩ := he
    obtain ⟨p1, p2, p3⟩ := eqS_rel (O := O) (w := w) e1
    obtain ⟨q1, q2, q3, q4⟩ := eqCs_rel (O := O) (w := w) e2
    refine ⟨by simp [q1], ?_, fun j y u hy hu => ?_, by simp [p3]; simpa using q4⟩
    · intro u hu
      rcases List.mem_cons.1 hu with rfl | hu
      · exact p2
      · exact q2 u hu
    · cases j with
      | zero => simp at hy hu; subst hy hu; exact p1
      | succ j => exact q3 j y u (by simpa using hy) (by simpa using hu)
  | [], _ :: _, he => by simp [eqCs] at he
  | _ :: _, [], he => by simp [eqCs] at he

theorem eqV_rel {O : Nat → Prop} {w : World} {v : Value} {a : AV} (he : eqV v a = true) : PVR O w a v ∧ a.isE = true := by
  unfold eqV at he
  split at he
  · rename_i cs l
    obtain ⟨q1, q2, q3, q4⟩ := eqCs_rel (O := O) (w := w) he
    refine ⟨.agg l cs.toList q1 q2 q3, by simpa [AV.isE] using q4⟩
  · obtain ⟨p1, p2, p3⟩ := eqS_rel (O := O) (w := w) he
    refine ⟨p1, ?_⟩
    cases a <;> simp_all [AV.isS, AV.isE]

section
variable {P : Program} {Z : Nat → Prop} {β : Bds} {h : AH} {w : World}

theorem run_sizeOf' {t : TypeId} {sz : Nat} (hs : sizeIs P t sz = true) (w : World) : (sizeOf t).run P w = .ok sz w := by
  unfold sizeIs at hs
  split at hs
  · rename_i i hi
    simp at hs
    simp [sizeOf, typeInfo, hi, hs]
  · cases hs

theorem run_isAgg {t : TypeId} {agg : Bool} (ha : aggIs P t agg = true) (w : World) : (isAgg t).run P w = .ok agg w := by
  unfold aggIs at ha
  unfold isAgg
  split at ha
  · rename_i f hf; simp [run_underlying hf, ha]
  · rename_i n e hf; simp [run_underlying hf, ha]
  · rename_i d h1 h2 hf
    simp only [Sem.run_bind, run_underlying hf, Result.andThen_ok]
    cases d <;> simp_all
  · cases ha

/-- 'shape' of cells that can be read. -/
theorem load_same (R : Rel Z β h w) {a : AV} {cs : List AV} (hc : cellsAt h a = some cs) {sz : Nat} {agg : Bool} {av : AV} (hs : shape sz agg cs = some av) {v : Value} (hv : VR β (Own Z β h) w a v)
    {t : TypeId} (hsz : sizeIs P t sz = true) (hag : aggIs P t agg = true) : ∃ u, (Instr.loadAt t v).run P w = .ok u w ∧ VR β (Own Z β h) w av u := by
  obtain ⟨blk, o, rfl, hcell⟩ := cellsAt_rel R hc hv
  unfold shape at hs
  split at hs
  · cases hs
  · rename_i hlen
    have hl : sz ≤ cs.length := by omega
    split at hs
    · rename_i hagg
      cases hs
      obtain ⟨vs, hvl, hvs⟩ := list_of (p := fun j u => w.cell? ⟨blk, o + j, none⟩ = some u ∧ u.oneCell' = true ∧ VR β (Own Z β h) w (cs.getD j .dead) u) sz (fun j hj => by
        obtain ⟨u, h1, h2, h3⟩ := hcell j cs[j] (by simp [show j < cs.length by omega])
        exact ⟨u, h1, h2, by simpa [show j < cs.length by omega] using h3⟩)
      refine ⟨.agg vs.toArray, ?_, .agg _ vs (by simp [hvl]; omega) ?_ ?_⟩
      · have hload := run_loadCells_list (P := P) w ⟨blk, o, none⟩ vs (fun j u hu => by rw [addr_add]; exact (hvs j u hu).1)
        rw [hvl] at hload
        subst hagg
        simp only [Instr.loadAt, Instr.sureAddr, loadVar, Sem.run_bind, Sem.run_pure, Result.andThen_ok, run_isAgg hag, if_true, run_sizeOf' hsz, hload]
      · intro u hu
        obtain ⟨j, hj, rfl⟩ := List.getElem_of_mem hu
        exact (hvs j _ (by simp [hj])).2.1
      · intro j y u hy hu
        obtain ⟨_, _, h3⟩ := hvs j u hu
        rw [List.getElem?_take] at hy
        split at hy
        · simpa [List.getD, hy] using h3
        · cases hy
    · rename_i hagg
      split at hs
      · rename_i hsz1
        obtain ⟨u, h1, h2, h3⟩ := hcell 0 av (by simpa [List.head?_eq_getElem?] using hs)
        refine ⟨u, ?_, h3⟩
        have hagg' : agg = false := by simpa using hagg
        subst hagg'
        simp only [Nat.add_zero] at h1
        simp only [Instr.loadAt, Instr.sureAddr, loadVar, Sem.run_bind, Sem.run_pure, Result.andThen_ok, run_isAgg hag, Bool.false_eq_true, if_false, run_load, h1]
      · cases hs

theorem load_rel (R : Rel Z β h w) {a : AV} {cs : List AV} (hc : cellsAt h a = some cs) {sz : Nat} {agg : Bool} {av : AV} (hs : shape sz agg cs = some av) {v : Value} (hv : VR β (Own Z β h) w a v)
    {t : TypeId} (hsz : sizeIs P t sz = true) (hag : aggIs P t agg = true) : Makes P Z β h w (Instr.loadAt t v) av h := by
  obtain ⟨u, h1, h2⟩ := load_same (P := P) R hc hs hv hsz hag
  exact Makes.of R h1 h2

theorem withCells_cells {e : AV} {o : Nat} {xs : List AV} (hs : xs.all AV.isS = true) (hfit : o + xs.length ≤ e.cells.length) : (e.withCells (over e.cells o xs)).cells = over e.cells o xs := by
  by_cases hag : ∃ cs, e = .agg cs
  · obtain ⟨cs, rfl⟩ := hag; rfl
  · have hc : e.cells = [e] := by cases e <;> first | rfl | (exact absurd ⟨_, rfl⟩ hag)
    have hw : ∀ l, e.withCells l = l.headD .dead := by intro l; cases e <;> first | rfl | (exact absurd ⟨_, rfl⟩ hag)
    rw [hw, hc]
    rw [hc] at hfit
    cases xs with
    | nil =>
      have : over [e] o [] = [e] := by simp [over]
      rw [this]; simpa using hc
    | cons x xs =>
      simp at hfit
      have h0 : o = 0 := by omega
      have hx : xs = [] := List.eq_nil_of_length_eq_zero (by omega)
      subst h0 hx
      have : over [e] 0 [x] = [x] := by simp [over]
      rw [this]
      simp at hs ⊢
      cases x <;> first | rfl | (simp [AV.isS] at hs; done)

/-- A store makes a world. -/
theorem store_rel (R : Rel Z β h w) {a x : AV} {sz : Nat} {h' : AH} (hs : storeAt h sz a x = some h') {v u : Value} (hv : VR β (Own Z β h) w a v) (hu : VR β (Own Z β h) w x u)
    {t : TypeId} (hsz : sizeIs P t sz = true) : ∃ w', (Instr.storeAt t v u).run P w = .ok () w' ∧ Rel Z β h' w' ∧ Fr Z β h w β h' w' := by
  cases a with
  | ptr b vv i o =>
    obtain ⟨bd, c, hbd, hcb, rfl⟩ := hv.ptr_inv
    simp only [storeAt] at hs
    split at hs
    · rename_i cs hcs
      split at hs
      · rename_i hcond
        obtain ⟨rfl, rfl, hok, hlen, hfit⟩ := hcond
        cases hs
        obtain ⟨us, e1, e2, e3, e4⟩ := hu.cells hok
        obtain ⟨c', cur, elem, g1, g2, g3, g4, g5⟩ := R.write_var hcs o x.cells us e2 (by omega) e3 e4
        rw [hbd] at g1; cases g1
        cases hcb
        refine ⟨_, ?_, g4, g5⟩
        have hst := run_storeCells_at P c o elem us 0 cur w g2 (by omega) e3
        simp only [Nat.add_zero] at hst
        have hsz2 : u.cells.size = sz := by rw [e1]; simp; omega
        simp only [Instr.storeAt, Instr.sureAddr, storeVar, Sem.run_bind, Sem.run_pure, Result.andThen_ok, run_sizeOf' hsz, hsz2, ne_eq, not_true_eq_false, if_false, Sem.run_ite]
        rw [e1]
        simpa [over] using hst
      · cases hs
    · simp only [Option.bind_eq_some_iff] at hs
      obtain ⟨⟨x', h1⟩, hp, hs⟩ := hs
      obtain ⟨R1, F1, V1, S1⟩ := purE_rel R hp hu
      dsimp only at hs
      split at hs
      · rename_i v' sz' es hes
        simp only [Option.bind_eq_some_iff] at hs
        obtain ⟨e, he, hs⟩ := hs
        split at hs
        · rename_i hcond
          obtain ⟨rfl, hok, hlen, hfit⟩ := hcond
          cases hs
          obtain ⟨us, e1, e2, e3, e4⟩ := V1.cells (by
            rw [List.all_eq_true] at hok ⊢
            exact fun y hy => okc_of_isS (hok y hy))
          obtain ⟨hsz0, bd', q1, q2, q3⟩ := R1.blk b _ hes
          rw [hbd] at q1; cases q1
          rcases q3 with ⟨q3, _⟩ | ⟨c', cur, elem, g1, g2, g3, g4, g5⟩
          · rw [hcb] at q3; cases q3
          rw [hcb] at g1; cases g1
          subst q2
          have hi : i < es.length := (List.getElem?_eq_some_iff.1 he).1
          have hel := (g5 i e he).1
          have hplace : bd.base + i * bd.sz + bd.sz ≤ cur.size := by
            have : (i + 1) * bd.sz ≤ es.length * bd.sz := Nat.mul_le_mul_right _ hi
            rw [Nat.add_mul] at this
            omega
          have hover : bd.base + i * bd.sz + o + us.length ≤ cur.toList.length := by simp; omega
          obtain ⟨W1, W2⟩ := R1.write_row hes hbd hcb g2 (over cur.toList (bd.base + i * bd.sz + o) us) (by simp [over_length _ _ _ hover]) (es' := es.set i (e.withCells (over e.cells o x'.cells))) (by simp) (by
            intro i1 x1 hx1
            by_cases hi1 : i1 = i
            · subst hi1
              rw [List.getElem?_set_self hi] at hx1
              cases hx1
              have hwc := withCells_cells (e := e) hok (by omega : o + x'.cells.length ≤ e.cells.length)
              rw [hwc]
              refine ⟨by rw [over_length _ _ _ (by omega)]; exact hel, fun j y hy => ?_⟩
              rw [over_get _ _ _ (by omega)] at hy
              simp only [List.getElem?_toArray]
              rw [over_get _ _ _ hover]
              by_cases hj : o ≤ j ∧ j < o + x'.cells.length
              · rw [if_pos hj] at hy
                rw [if_pos (by omega)]
                have ej : bd.base + (i1 * bd.sz + j) - (bd.base + i1 * bd.sz + o) = j - o := by omega
                rw [ej]
                have hlt : j - o < us.length := by omega
                refine ⟨us[j - o], by simp [hlt], e3 _ (List.getElem_mem hlt), (e4 (j - o) y us[j - o] hy (by simp [hlt])).pureS ?_⟩
                exact List.all_eq_true.1 hok y (List.mem_of_getElem? hy)
              · rw [if_neg hj] at hy
                rw [if_neg (by omega)]
                obtain ⟨u', k1, k2, k3⟩ := (g5 i1 e he).2 j y hy
                exact ⟨u', by simpa using k1, k2, k3⟩
            · rw [List.getElem?_set_ne (Ne.symm hi1)] at hx1
              obtain ⟨k0, k⟩ := g5 i1 x1 hx1
              refine ⟨k0, fun j y hy => ?_⟩
              obtain ⟨u', k1, k2, k3⟩ := k j y hy
              have hj : j < bd.sz := by rw [← k0]; exact (List.getElem?_eq_some_iff.1 hy).1
              refine ⟨u', ?_, k2, k3⟩
              simp only [List.getElem?_toArray]
              rw [over_get _ _ _ hover, if_neg]
              · simpa using k1
              · rintro ⟨m1, m2⟩
                have hb2 := block_ne (j' := bd.base + (i1 * bd.sz + j) - (bd.base + i * bd.sz)) hi1 hj (by omega)
                omega)
          refine ⟨_, ?_, W1, F1.trans W2⟩
          have hst := run_storeCells_at P c (bd.base + i * bd.sz + o) elem us 0 cur w g2 (by simpa using hover) e3
          simp only [Nat.add_zero] at hst
          have hsz2 : u.cells.size = sz := by rw [e1]; simp; omega
          simp only [Instr.storeAt, Instr.sureAddr, storeVar, Sem.run_bind, Sem.run_pure, Result.andThen_ok, run_sizeOf' hsz, hsz2, ne_eq, not_true_eq_false, if_false, Sem.run_ite]
          rw [e1]
          simpa [over] using hst
        · cases hs
      · cases hs
    · cases hs
  | _ => simp [storeAt] at hs
end
end Go.Am
