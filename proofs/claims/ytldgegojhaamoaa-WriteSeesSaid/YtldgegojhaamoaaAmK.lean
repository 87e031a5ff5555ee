/-
  The abstract machine: slices' literals, conversions, cuts.
-/
import Derived.Test.YtldgegojhaamoaaAmJ
import Derived.Laws.BytesString
import Derived.Laws.Slices
set_option linter.unusedSimpArgs false
set_option linter.unusedVariables false
namespace Go.Am

/-- One element is another one. -/
theorem SrcAt.set {O : Nat → Prop} {w : World} {vs : List Value} {sz : Nat} {es : List AV} (hs : SrcAt O w (fun k => vs[k]?) sz es) (hl : vs.length = es.length * sz) {i : Nat} (hi : i < es.length) {x : AV} {us : List Value}
    (hx : x.cells.length = sz) (hu : us.length = sz) (h1 : ∀ u ∈ us, u.oneCell' = true) (h2 : ∀ (j : Nat) (y : AV) (u : Value), x.cells[j]? = some y → us[j]? = some u → PVR O w y u) :
    SrcAt O w (fun k => (over vs (i * sz) us)[k]?) sz (es.set i x) := by
  have hplace : i * sz + sz ≤ vs.length := by
    have : (i + 1) * sz ≤ es.length * sz := Nat.mul_le_mul_right _ hi
    rw [Nat.add_mul] at this
    omega
  have hover : i * sz + us.length ≤ vs.length := by omega
  intro i1 x1 hx1
  by_cases hi1 : i1 = i
  · subst hi1
    rw [List.getElem?_set_self hi] at hx1
    cases hx1
    refine ⟨hx, fun j y hy => ?_⟩
    have hj : j < sz := by rw [← hx]; exact (List.getElem?_eq_some_iff.1 hy).1
    dsimp only
    rw [over_get _ _ _ hover, if_pos (by omega)]
    have ej : i1 * sz + j - i1 * sz = j := by omega
    rw [ej]
    have hlt : j < us.length := by omega
    exact ⟨us[j], by simp [hlt], h1 _ (List.getElem_mem hlt), h2 j y us[j] hy (by simp [hlt])⟩
  · rw [List.getElem?_set_ne (Ne.symm hi1)] at hx1
    obtain ⟨k0, k⟩ := hs i1 x1 hx1
    refine ⟨k0, fun j y hy => ?_⟩
    obtain ⟨u', k1, k2, k3⟩ := k j y hy
    have hj : j < sz := by rw [← k0]; exact (List.getElem?_eq_some_iff.1 hy).1
    refine ⟨u', ?_, k2, k3⟩
    dsimp only
    rw [over_get _ _ _ hover, if_neg]
    · exact k1
    · rintro ⟨m1, m2⟩
      have hb2 := block_ne (j' := i1 * sz + j - i * sz) hi1 hj (by omega)
      omega

/-- Zeros, so many. -/
theorem src_zeros {O : Nat → Prop} {w : World} {z : Value} {a : AV} (he : eqV z a = true) (n : Nat) : SrcAt O w (fun k => (Builtin.zeroCells z.cells n)[k]?) z.cells.size (List.replicate n a) ∧ a.cells.length = z.cells.size ∧
    ((Builtin.zeroCells z.cells n).toList.all Value.oneCell' = true) := by
  have hcells : ∃ l, eqCs z.cells.toList l = true ∧ a.cells = l := by
    unfold eqV at he
    split at he
    · exact ⟨_, he, rfl⟩
    · obtain ⟨p1, p2, p3⟩ := eqS_rel (O := O) (w := w) he
      refine ⟨[a], ?_, ?_⟩
      · rw [cells_one p2]; simp [eqCs, he]
      · cases a <;> first | rfl | (simp [AV.isS] at p3; done)
  obtain ⟨l, hl, hal⟩ := hcells
  obtain ⟨q1, q2, q3, q4⟩ := eqCs_rel (O := O) (w := w) hl
  have hsz : a.cells.length = z.cells.size := by rw [hal, q1]; simp
  have hget : ∀ k, k < n * z.cells.size → (Builtin.zeroCells z.cells n)[k]? = some (z.cells[k % z.cells.size]!) := by
    intro k hk
    simp [Builtin.zeroCells, hk]
  refine ⟨?_, hsz, ?_⟩
  · intro i x hx
    have hi : i < n := by simpa using (List.getElem?_eq_some_iff.1 hx).1
    have hxa : x = a := by
      have := (List.getElem?_eq_some_iff.1 hx).2
      simpa using this.symm
    subst hxa
    refine ⟨hsz, fun j y hy => ?_⟩
    have hj : j < z.cells.size := by rw [← hsz]; exact (List.getElem?_eq_some_iff.1 hy).1
    have hlt : i * z.cells.size + j < n * z.cells.size := by
      have : (i + 1) * z.cells.size ≤ n * z.cells.size := Nat.mul_le_mul_right _ hi
      rw [Nat.add_mul] at this
      omega
    dsimp only
    rw [hget _ hlt]
    have hm : (i * z.cells.size + j) % z.cells.size = j := by rw [Nat.mul_comm, Nat.mul_add_mod, Nat.mod_eq_of_lt hj]
    rw [hm]
    have hzj : z.cells[j]! = z.cells[j] := by simp [hj]
    rw [hzj]
    refine ⟨_, rfl, q2 _ (by simp), q3 j y z.cells[j] (by rw [← hal]; exact hy) (by simp [hj])⟩
  · rw [List.all_eq_true]
    intro u hu
    obtain ⟨k, hk, rfl⟩ := List.getElem_of_mem hu
    have hk' : k < n * z.cells.size := by simpa [size_zeroCells] using hk
    have := hget k hk'
    rw [Array.getElem?_eq_getElem (by simpa using hk)] at this
    have e := Option.some.inj this
    have hpos : 0 < z.cells.size := by rcases Nat.eq_zero_or_pos z.cells.size with h0 | h0; · rw [h0] at hk'; omega
                                       · exact h0
    have hmod : k % z.cells.size < z.cells.size := Nat.mod_lt _ hpos
    simp only [Array.getElem_toList]
    rw [e, show z.cells[k % z.cells.size]! = z.cells[k % z.cells.size] by simp [hmod]]
    exact q2 _ (by simp)

/-- A slice that nobody writes, off cells in memory. -/
theorem lst_of_src {O : Nat → Prop} {w : World} {blk o sz c : Nat} {es : List AV} (hsz : 0 < sz) (hO : ¬ O blk) (hb : blk < w.heap.size) (hs : SrcAt O w (fun k => w.cell? ⟨blk, o + k, none⟩) sz es) {full : Bool}
    (hf : full = true → c = es.length) (hc : es.length ≤ c) : PVR O w (.lst full es) (.slice (some ⟨blk, o, none⟩) es.length c) := by
  refine .lst full es _ c blk o sz (fun i j => (w.cell? ⟨blk, o + (i * sz + j), none⟩).getD Go.undef) hf hc (fun _ => ⟨rfl, hO, hb⟩) (fun i x hx => ⟨(hs i x hx).1, hsz⟩) ?_ ?_ ?_
  · intro i x hx j y hy
    obtain ⟨u, k1, _, _⟩ := (hs i x hx).2 j y hy
    dsimp only at k1
    rw [Nat.add_assoc, k1]; rfl
  · intro i x hx j y hy
    obtain ⟨u, k1, k2, _⟩ := (hs i x hx).2 j y hy
    dsimp only at k1
    simp only [k1, Option.getD_some]; exact k2
  · intro i x hx j y hy
    obtain ⟨u, k1, _, k3⟩ := (hs i x hx).2 j y hy
    dsimp only at k1
    simp only [k1, Option.getD_some]; exact k3

section
variable {P : Program} {Z : Nat → Prop} {β : Bds} {h : AH} {w : World}

theorem PVR.cells {O : Nat → Prop} {a : AV} {v : Value} (hv : PVR O w a v) (ha : a.isE = true) :
    ∃ vs : List Value, v.cells = vs.toArray ∧ a.cells.length = vs.length ∧ (∀ u ∈ vs, u.oneCell' = true) ∧ ∀ (j : Nat) (y : AV) (u : Value), a.cells[j]? = some y → vs[j]? = some u → PVR O w y u := by
  have hok : a.cells.all AV.isS = true := by
    by_cases hag : ∃ cs, a = .agg cs
    · obtain ⟨cs, rfl⟩ := hag; exact ha
    · have hc : a.cells = [a] := by cases a <;> first | rfl | (exact absurd ⟨_, rfl⟩ hag)
      rw [hc]
      cases a <;> first | rfl | (simp [AV.isE, AV.isS] at ha; done) | (exact absurd ⟨_, rfl⟩ hag)
  obtain ⟨vs, e1, e2, e3, e4⟩ := (VR.pure (β := fun _ _ => none) a v hv).cells (by
    rw [List.all_eq_true] at hok ⊢
    exact fun y hy => okc_of_isS (hok y hy))
  exact ⟨vs, e1, e2, e3, fun j y u hy hu => (e4 j y u hy hu).pureS (List.all_eq_true.1 hok y (List.mem_of_getElem? hy))⟩

def okSliceParts : List (Nat × Operand) → List (Nat × AO) → Bool
  | [], [] => true
  | (i, x) :: l, (j, y) :: l' => i == j && okO x y && okSliceParts l l'
  | _, _ => false

theorem bparts_rel {e : Env} {a : Act} {n : Nat} (sz : Nat) : ∀ (ps : List (Nat × Operand)) (qs : List (Nat × AO)) (es es' : List AV) (vs : List Value) {h h' : AH} (_ : Rel Z β h w) (_ : EnvR Z β h w e a n),
    okSliceParts ps qs = true → bparts e sz qs es h = some (es', h') → vs.length = es.length * sz → SrcAt (Own Z β h) w (fun k => vs[k]?) sz es → (∀ u ∈ vs, u.oneCell' = true) →
    ∃ vs' : List Value, Instr.fill (fun i => some (i * sz, sz)) vs.toArray (ps.map fun p => (p.1, a.eval p.2)) = some vs'.toArray ∧ vs'.length = es'.length * sz ∧ es'.length = es.length ∧ SrcAt (Own Z β h') w (fun k => vs'[k]?) sz es' ∧
      (∀ u ∈ vs', u.oneCell' = true) ∧ Rel Z β h' w ∧ Fr Z β h w β h' w
  | [], [], es, es', vs, h, h', R, _, _, hp, hl, hs, h1 => by
    simp only [bparts] at hp
    cases hp
    exact ⟨vs, by simp [Instr.fill], hl, rfl, hs, h1, R, Fr.refl _ _ _ _⟩
  | [], _ :: _, _, _, _, _, _, _, _, ho, _, _, _, _ => by simp [okSliceParts] at ho
  | _ :: _, [], _, _, _, _, _, _, _, ho, _, _, _, _ => by simp [okSliceParts] at ho
  | (i, x) :: ps, (j, y) :: qs, es, es', vs, h, h', R, E, ho, hp, hl, hs, h1 => by
    simp only [okSliceParts, Bool.and_eq_true, beq_iff_eq] at ho
    obtain ⟨⟨rfl, hoo⟩, ho⟩ := ho
    simp only [bparts, Option.bind_eq_some_iff] at hp
    obtain ⟨⟨x', h1'⟩, hp1, hp⟩ := hp
    obtain ⟨R1, F1, V1, S1⟩ := purE_rel R hp1 (okO_rel E hoo)
    dsimp only at hp
    split at hp
    · rename_i hcond
      obtain ⟨hlen, hi⟩ := hcond
      obtain ⟨us, e1, e2, e3, e4⟩ := (V1.pureE S1).cells S1
      have hplace : i * sz + sz ≤ vs.length := by
        have : (i + 1) * sz ≤ es.length * sz := Nat.mul_le_mul_right _ hi
        rw [Nat.add_mul] at this
        omega
      have hset := (hs.mono F1.stay).set hl hi hlen (e2.symm.trans hlen) e3 e4
      have hus : us.length = sz := e2.symm.trans hlen
      obtain ⟨vs', k1, k2, k3, k4, k5, k6, k7⟩ := bparts_rel sz ps qs (es.set i x') es' (over vs (i * sz) us) R1 (E.fr F1) ho hp
        (by rw [over_length _ _ _ (by omega)]; simpa using hl) hset (fun u hu => by
          unfold over at hu
          simp only [List.mem_append] at hu
          rcases hu with (hu | hu) | hu
          · exact h1 u (List.mem_of_mem_take hu)
          · exact e3 u hu
          · exact h1 u (List.mem_of_mem_drop hu))
      refine ⟨vs', ?_, k2, by simpa using k3, k4, k5, k6, F1.trans k7⟩
      simp only [List.map_cons]
      rw [fill_cons (fun i => some (i * sz, sz)) vs.toArray i (a.eval x) _ rfl (by rw [e1]; simp [hus]) (by simpa using hplace)]
      rw [e1]
      exact k1
    · cases hp

theorem bpartsP_bparts {e : Env} {sz : Nat} (h : AH) : ∀ (qs : List (Nat × AO)) (es es' : List AV), bpartsP e sz qs es = some es' → bparts e sz qs es h = some (es', h)
  | [], es, es', hp => by simp only [bpartsP] at hp; cases hp; rfl
  | (i, x) :: qs, es, es', hp => by
    simp only [bpartsP] at hp
    split at hp
    · rename_i hc
      simp only [bparts]
      have : purE h (x.get e) = some (x.get e, h) := by unfold purE; rw [if_pos hc.1]
      rw [this]
      simp only [Option.bind_some]
      rw [if_pos hc.2]
      exact bpartsP_bparts h qs _ es' hp
    · cases hp

/-- A slice's literal. -/
def okBsl (P : Program) (t : TypeId) (len : Nat) (ps : Array (Nat × Operand)) (sz : Nat) (zero : AV) (len' : Nat) (qs : List (Nat × AO)) : Bool :=
  len == len' && decide (0 < sz) && decide (len * sz ≤ 16777216) && okSliceParts ps.toList qs && match P.underlying t with
  | some (.slice elem) => sizeIs P elem sz && zeroV P elem zero && zero.cells.length == sz
  | _ => false

theorem bsl_rel (R : Rel Z β h w) {e : Env} {a : Act} {n : Nat} (E : EnvR Z β h w e a n) {t : TypeId} {len : Nat} {ps : Array (Nat × Operand)} {sz : Nat} {zero : AV} {len' : Nat} {qs : List (Nat × AO)} (ho : okBsl P t len ps sz zero len' qs = true)
    {es : List AV} {h' : AH} (hp : bparts e sz qs (List.replicate len' zero) h = some (es, h')) : Makes P Z β h w (Instr.buildSlice t len (ps.map fun (i, x) => (i, a.eval x))) (.lst true es) h' := by
  unfold okBsl at ho
  simp only [Bool.and_eq_true, beq_iff_eq, decide_eq_true_eq] at ho
  obtain ⟨⟨⟨⟨rfl, hsz⟩, hbig⟩, hparts⟩, ho⟩ := ho
  have hmap : (ps.map fun (i, x) => (i, a.eval x)).toList = ps.toList.map fun p => (p.1, a.eval p.2) := by simp
  split at ho
  · rename_i elem hel
    simp only [Bool.and_eq_true, beq_iff_eq] at ho
    obtain ⟨⟨hs, hz⟩, hzl⟩ := ho
    obtain ⟨i, z, hi, hz, he⟩ := zeroV_inv hz
    obtain ⟨z1, z2, z3⟩ := src_zeros (O := Own Z β h) (w := w) he len
    have hzs : z.cells.size = sz := by omega
    rw [hzs] at z1
    have hc0 : len * sz = 0 → (Array.range (len * sz)).map (fun x => (#[] : Array Value)[x % (#[] : Array Value).size]!) = Builtin.zeroCells z.cells len := by
      intro h0; unfold Builtin.zeroCells; rw [hzs, h0]; simp
    have hc1 : (Array.range (len * sz)).map (fun x => z.cells[x % z.cells.size]!) = Builtin.zeroCells z.cells len := by
      unfold Builtin.zeroCells; rw [hzs]
    obtain ⟨vs', k1, k2, k3, k4, k5, k6, k7⟩ := bparts_rel sz ps.toList qs (List.replicate len zero) es (Builtin.zeroCells z.cells len).toList R E hparts hp (by simp [size_zeroCells, hzs]) (by simpa using z1)
      (fun u hu => List.all_eq_true.1 z3 u hu)
    simp at k3
    obtain ⟨G1, G2⟩ := k6.grown_alloc (.cells vs'.toArray elem)
    refine ⟨.slice (some ⟨w.heap.size, 0, none⟩) len len, w.alloc (.cells vs'.toArray elem), β, ?_, G1, k7.trans G2, ?_⟩
    · have hbig' : ¬ (len * sz > 2 ^ 24) := by omega
      simp only [Instr.buildSlice, Sem.run_bind, run_underlying hel, Result.andThen_ok, run_sizeOf' hs]
      rw [if_neg hbig']
      simp only [Array.toArray_toList] at k1
      by_cases h0 : len * sz = 0
      · rw [if_pos h0]
        simp only [Sem.run_bind, Sem.run_pure, Result.andThen_ok, hmap, hc0 h0]
        rw [k1]
        simp [newRow]
      · rw [if_neg h0]
        simp only [Sem.run_bind, Sem.run_pure, Result.andThen_ok, hmap, run_zeroValue' hi hz, hc1]
        rw [k1]
        simp [newRow]
    · have hlen : es.length = len := k3
      refine .pure _ _ ?_
      have hnew : (w.alloc (.cells vs'.toArray elem)).heap[w.heap.size]? = some (.cells vs'.toArray elem (0, 0)) := heap_alloc_new w _
      have hnO : ¬ Own Z β h' w.heap.size := by
        rintro (hz | ⟨j, hj⟩)
        · have := k6.xlt _ hz
          omega
        · have := k6.own_lt hj
          omega
      have := lst_of_src (O := Own Z β h') (w := w.alloc (.cells vs'.toArray elem)) (blk := w.heap.size) (o := 0) (c := len) (es := es) (full := true) hsz hnO (by simp)
        ((SrcAt.mono G2.stay k4).congr fun k hk => by
          rw [cell_of_row _ _ _ _ _ _ hnew]; simp) (fun _ => hlen.symm) (by omega)
      rw [hlen] at this
      exact this
  · cases ho

/-- make of a slice. -/
def okMks (P : Program) (t : TypeId) (sz bytes : Nat) (zero : AV) : Bool :=
  decide (0 < sz) && match P.underlying t with
  | some (.slice elem) => sizeIs P elem sz && bytesIs P elem bytes && zeroV P elem zero && zero.cells.length == sz
  | _ => false

theorem nat?_inv {x : AV} {n : Nat} (hn : nat? x = some n) {v : Value} (hv : VR β (Own Z β h) w x v) : ∃ k i, v = .int k i ∧ 0 ≤ i ∧ i.toNat = n := by
  cases x with
  | int k i =>
    simp only [nat?] at hn
    split at hn
    · rename_i h0
      cases hn
      exact ⟨k, i, hv.int_inv, h0, rfl⟩
    · cases hn
  | _ => simp [nat?] at hn

theorem wrap_small {n : Int} (h1 : 0 ≤ n) (h2 : n ≤ 9223372036854775807) : IntKind.i64.wrap n = n := by
  have e : IntKind.i64.wrap n = if decide (n % 18446744073709551616 ≥ 9223372036854775808) = true then n % 18446744073709551616 - 18446744073709551616 else n % 18446744073709551616 := rfl
  rw [e, Int.emod_eq_of_lt h1 (by omega), if_neg (by simp; omega)]

theorem mks_rel (R : Rel Z β h w) {t : TypeId} {sz bytes : Nat} {zero : AV} (ho : okMks P t sz bytes zero = true) {l c : AV} {n m : Nat} (hl : nat? l = some n) (hc : nat? c = some m) (hnm : n ≤ m)
    (hb : m * bytes ≤ 140737488355328) (hm : m ≤ 140737488355328) {u v : Value} (hu : VR β (Own Z β h) w l u) (hv : VR β (Own Z β h) w c v) :
    Makes P Z β h w (Instr.makeSlice t u v) (.own h.length 0 0 n) (h ++ [.row 0 sz (List.replicate n zero)]) := by
  obtain ⟨k1, i1, rfl, p1, p2⟩ := nat?_inv hl hu
  obtain ⟨k2, i2, rfl, p3, p4⟩ := nat?_inv hc hv
  unfold okMks at ho
  simp only [Bool.and_eq_true, decide_eq_true_eq] at ho
  obtain ⟨hsz, ho⟩ := ho
  split at ho
  · rename_i elem hel
    simp only [Bool.and_eq_true, beq_iff_eq] at ho
    obtain ⟨⟨⟨hs, hby⟩, hz⟩, hzl⟩ := ho
    obtain ⟨i, z, hi, hz, he⟩ := zeroV_inv hz
    have hby' : i.bytes = bytes := by simpa [bytesIs, hi] using hby
    obtain ⟨z1, z2, z3⟩ := src_zeros (O := Own Z β h) (w := w) he n
    obtain ⟨y1, y2, y3⟩ := src_zeros (O := Own Z β h) (w := w) he m
    have hzs : z.cells.size = sz := by omega
    have hsizeM : (Builtin.zeroCells z.cells m).size = m * sz := by rw [size_zeroCells, hzs]
    have w1 : IntKind.i64.wrap i1 = i1 := wrap_small p1 (by omega)
    have w2 : IntKind.i64.wrap i2 = i2 := wrap_small p3 (by omega)
    have hc0 : m * sz = 0 → (Array.range (m * sz)).map (fun x => (#[] : Array Value)[x % (#[] : Array Value).size]!) = Builtin.zeroCells z.cells m := by
      intro h0; unfold Builtin.zeroCells; rw [hzs, h0]; simp
    have hc1 : (Array.range (m * sz)).map (fun x => z.cells[x % z.cells.size]!) = Builtin.zeroCells z.cells m := by
      unfold Builtin.zeroCells; rw [hzs]
    obtain ⟨β', q1, q2, q3⟩ := R.push_row (w' := w.alloc (.cells (Builtin.zeroCells z.cells m) elem)) sz hsz (List.replicate n zero) (Builtin.zeroCells z.cells m) elem rfl rfl rfl rfl
      (by rw [hsizeM]; simp; exact Nat.mul_le_mul_right _ hnm) (by
        have : List.replicate n zero = (List.replicate m zero).take n := by simp [List.take_replicate]; omega
        rw [this]
        rw [hzs] at y1
        exact (SrcAt.take y1 n).congr fun k _ => by simp)
    refine ⟨.slice (some ⟨w.heap.size, 0, none⟩) n m, _, β', ?_, q1, q2, q3 n m hnm (by rw [hsizeM]; exact Nat.le_refl _)⟩
    have t1 : ¬ ((i.bytes : Int) * i2 > 2 ^ 48) := by
      rw [hby', ← Int.toNat_of_nonneg p3, p4]
      have : ((bytes : Int) * (m : Int)) = ((m * bytes : Nat) : Int) := by rw [Nat.mul_comm]; rfl
      rw [this]; omega
    have t2 : ¬ i2 < 0 := by omega
    have t3 : ¬ i1 < 0 := by omega
    have t4 : ¬ i1 > i2 := by omega
    have tl : (decide (i2 < 0) || decide ((i.bytes : Int) * i2 > 2 ^ 48) || decide (i1 < 0) || decide (i1 > i2)) = false := by
      simp only [t1, t2, t3, t4, decide_false, Bool.or_false]
    have e1 : (asInt (.int k1 i1)).run P w = .ok i1 w := rfl
    have e2 : (asInt (.int k2 i2)).run P w = .ok i2 w := rfl
    simp only [Instr.makeSlice, Sem.run_bind, run_underlying hel, Result.andThen_ok, e1, e2, typeInfo, run_program, hi, Sem.run_pure, w1, w2]
    rw [if_neg (by rw [tl]; simp)]
    simp only [Sem.run_bind, Result.andThen_ok, run_askRoom, p4, run_sizeOf' hs, p2]
    by_cases h0 : m * sz = 0
    · rw [if_pos h0]
      simp only [Sem.run_bind, Sem.run_pure, Result.andThen_ok, hc0 h0]
      simp [newRow]
    · rw [if_neg h0]
      simp only [Sem.run_bind, Sem.run_pure, Result.andThen_ok, run_zeroValue' hi hz, hc1]
      simp [newRow]
  · cases ho
end
end Go.Am
