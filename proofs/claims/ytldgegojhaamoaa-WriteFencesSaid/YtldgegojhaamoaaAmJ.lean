/-
  The abstract machine: structs, literals, conversions, addresses.
-/
import Derived.Test.YtldgegojhaamoaaAmI
set_option linter.unusedSimpArgs false
set_option linter.unusedVariables false
namespace Go.Am

/-- Cells laid over a row of cells. -/
theorem foldl_over (off : Nat) : ∀ (l : List Value) (k : Nat) (cs : Array Value), off + k + l.length ≤ cs.size →
    (l.zipIdx k).foldl (fun (cs : Array Value) (x : Value × Nat) => cs.setIfInBounds (off + x.2) x.1) cs = (over cs.toList (off + k) l).toArray
  | [], k, cs, _ => by simp [over]
  | v :: l, k, cs, hl => by
    simp only [List.zipIdx_cons, List.foldl_cons]
    rw [foldl_over off l (k + 1) _ (by simp at hl ⊢; omega)]
    congr 1
    apply List.ext_getElem?
    intro j
    have h1 : off + (k + 1) + l.length ≤ (cs.setIfInBounds (off + k) v).toList.length := by simp at hl ⊢; omega
    have h2 : off + k + (v :: l).length ≤ cs.toList.length := by simpa using hl
    rw [over_get _ _ _ h1, over_get _ _ _ h2]
    simp only [List.length_cons, Array.toList_setIfInBounds]
    by_cases hj : j = off + k
    · subst hj
      simp at hl
      rw [if_neg (by omega), if_pos (by omega)]
      simp [List.getElem?_set]
      omega
    · by_cases hj2 : off + k ≤ j ∧ j < off + k + (l.length + 1)
      · rw [if_pos (by omega), if_pos hj2]
        obtain ⟨m, rfl⟩ : ∃ m, j = off + (k + 1) + m := ⟨j - (off + (k + 1)), by omega⟩
        have e1 : off + (k + 1) + m - (off + (k + 1)) = m := by omega
        have e2 : off + (k + 1) + m - (off + k) = m + 1 := by omega
        rw [e1, e2]; rfl
      · rw [if_neg (by omega), if_neg hj2, List.getElem?_set_ne (by omega)]

/-- One part of a literal. -/
theorem fill_cons (place : Nat → Option (Nat × Nat)) (cells : Array Value) (i : Nat) (v : Value) (rest : List (Nat × Value)) {off size : Nat} (hp : place i = some (off, size)) (hs : v.cells.size = size) (hf : off + size ≤ cells.size) :
    Instr.fill place cells ((i, v) :: rest) = Instr.fill place (over cells.toList off v.cells.toList).toArray rest := by
  have h1 : ¬ (v.cells.size ≠ size || decide (off + v.cells.size > cells.size)) = true := by simp [hs]; omega
  simp only [Instr.fill, hp]
  rw [if_neg (by simpa using h1)]
  congr 1
  have := foldl_over off v.cells.toList 0 cells (by simp [hs]; omega)
  rw [← Array.foldl_toList, Array.toList_zipIdx]
  simpa using this

section
variable {P : Program} {Z : Nat → Prop} {β : Bds} {h : AH} {w : World}

def okO : Operand → AO → Bool
  | .tmp i, .t j => i == j
  | .const v, .c a => eqV v a
  | .func f, .c (.fn (.func g) [] []) => f == g
  | _, _ => false

theorem okO_rel {e : Env} {a : Act} {n : Nat} (E : EnvR Z β h w e a n) {x : Operand} {y : AO} (ho : okO x y = true) : VR β (Own Z β h) w (y.get e) (a.eval x) := by
  unfold okO at ho
  split at ho
  · simp at ho; subst ho; exact E.2 _
  · exact .pure _ _ (eqV_rel ho).1
  · simp at ho; subst ho
    exact .fn (.func _) [] [] [] [] rfl rfl (by simp) (by simp)
  · cases ho

def okFieldParts (P : Program) (fs : Array Field) : List (Nat × Operand) → List (Nat × Nat × AO) → Bool
  | [], [] => true
  | (i, x) :: l, (off, size, y) :: l' => (match fs[i]? with
      | some f => f.offset == off && sizeIs P f.type size
      | none => false) && okO x y && okFieldParts P fs l l'
  | _, _ => false
def okElemParts (sz : Nat) : List (Nat × Operand) → List (Nat × Nat × AO) → Bool
  | [], [] => true
  | (i, x) :: l, (off, size, y) :: l' => off == i * sz && size == sz && okO x y && okElemParts sz l l'
  | _, _ => false

theorem parts_rel {e : Env} {a : Act} {n : Nat} (E : EnvR Z β h w e a n) (place : Nat → Option (Nat × Nat)) : ∀ (ps : List (Nat × Operand)) (qs : List (Nat × Nat × AO)) (cs : List AV) (vs : List Value) (cs' : List AV),
    (∀ (k : Nat) p q, ps[k]? = some p → qs[k]? = some q → place p.1 = some (q.1, q.2.1) ∧ okO p.2 q.2.2 = true) → ps.length = qs.length → parts e qs cs = some cs' →
    cs.length = vs.length → (∀ u ∈ vs, u.oneCell' = true) → (∀ (j : Nat) (y : AV) (u : Value), cs[j]? = some y → vs[j]? = some u → VR β (Own Z β h) w y u) →
    ∃ vs' : List Value, Instr.fill place vs.toArray (ps.map fun p => (p.1, a.eval p.2)) = some vs'.toArray ∧ cs'.length = vs'.length ∧ (∀ u ∈ vs', u.oneCell' = true) ∧
      ∀ (j : Nat) (y : AV) (u : Value), cs'[j]? = some y → vs'[j]? = some u → VR β (Own Z β h) w y u
  | [], [], cs, vs, cs', _, _, hp, hl, h1, h2 => by
    simp only [parts] at hp
    cases hp
    exact ⟨vs, by simp [Instr.fill], hl, h1, h2⟩
  | [], _ :: _, _, _, _, _, hlen, _, _, _, _ => by simp at hlen
  | _ :: _, [], _, _, _, _, hlen, _, _, _, _ => by simp at hlen
  | (i, x) :: ps, (off, size, y) :: qs, cs, vs, cs', hpl, hlen, hp, hl, h1, h2 => by
    simp only [parts] at hp
    split at hp
    · rename_i hcond
      obtain ⟨hok, hsz, hfit⟩ := hcond
      obtain ⟨hplace, hoo⟩ := hpl 0 (i, x) (off, size, y) rfl rfl
      obtain ⟨us, e1, e2, e3, e4⟩ := (okO_rel E hoo).cells hok
      have hg : us.length = size := e2.symm.trans hsz
      have hover : off + us.length ≤ vs.length := by omega
      have ho2 : off + (y.get e).cells.length ≤ cs.length := by omega
      obtain ⟨vs', k1, k2, k3, k4⟩ := parts_rel E place ps qs (over cs off (y.get e).cells) (over vs off us) cs' (fun k p q hk1 hk2 => hpl (k + 1) p q (by simpa using hk1) (by simpa using hk2)) (by simpa using hlen) hp
        (by rw [over_length _ _ _ ho2, over_length _ _ _ hover, hl])
        (fun u hu => by
          unfold over at hu
          simp only [List.mem_append] at hu
          rcases hu with (hu | hu) | hu
          · exact h1 u (List.mem_of_mem_take hu)
          · exact e3 u hu
          · exact h1 u (List.mem_of_mem_drop hu))
        (fun j y' u hy hu => by
          rw [over_get _ _ _ ho2] at hy
          rw [over_get _ _ _ hover, ← e2] at hu
          split at hy
          · rename_i hj
            rw [if_pos hj] at hu
            exact e4 _ y' u hy hu
          · rename_i hj
            rw [if_neg hj] at hu
            exact h2 j y' u hy hu)
      refine ⟨vs', ?_, k2, k3, k4⟩
      simp only [List.map_cons]
      rw [fill_cons place vs.toArray i (a.eval x) _ hplace (by rw [e1]; simp; omega) (by simp; omega)]
      rw [e1]
      exact k1
    · cases hp

theorem okFieldParts_spec {fs : Array Field} : ∀ {ps : List (Nat × Operand)} {qs : List (Nat × Nat × AO)}, okFieldParts P fs ps qs = true → ps.length = qs.length ∧
    ∀ (k : Nat) (p : Nat × Operand) (q : Nat × Nat × AO), ps[k]? = some p → qs[k]? = some q → ∃ f, fs[p.1]? = some f ∧ f.offset = q.1 ∧ sizeIs P f.type q.2.1 = true ∧ okO p.2 q.2.2 = true
  | [], [], _ => ⟨rfl, by simp⟩
  | (i, x) :: ps, (off, size, y) :: qs, ho => by
    simp only [okFieldParts, Bool.and_eq_true] at ho
    obtain ⟨⟨h1, h2⟩, h3⟩ := ho
    obtain ⟨q1, q2⟩ := okFieldParts_spec h3
    refine ⟨by simp [q1], fun k p q hp hq => ?_⟩
    cases k with
    | zero =>
      simp at hp hq
      subst hp hq
      split at h1
      · rename_i f hf
        simp only [Bool.and_eq_true, beq_iff_eq] at h1
        exact ⟨f, hf, h1.1, h1.2, h2⟩
      · cases h1
    | succ k => exact q2 k p q (by simpa using hp) (by simpa using hq)
  | [], _ :: _, ho => by simp [okFieldParts] at ho
  | _ :: _, [], ho => by simp [okFieldParts] at ho
theorem okElemParts_spec {sz : Nat} : ∀ {ps : List (Nat × Operand)} {qs : List (Nat × Nat × AO)}, okElemParts sz ps qs = true → ps.length = qs.length ∧
    ∀ (k : Nat) (p : Nat × Operand) (q : Nat × Nat × AO), ps[k]? = some p → qs[k]? = some q → q.1 = p.1 * sz ∧ q.2.1 = sz ∧ okO p.2 q.2.2 = true
  | [], [], _ => ⟨rfl, by simp⟩
  | (i, x) :: ps, (off, size, y) :: qs, ho => by
    simp only [okElemParts, Bool.and_eq_true, beq_iff_eq] at ho
    obtain ⟨⟨⟨h1, h1'⟩, h2⟩, h3⟩ := ho
    obtain ⟨q1, q2⟩ := okElemParts_spec h3
    refine ⟨by simp [q1], fun k p q hp hq => ?_⟩
    cases k with
    | zero =>
      simp at hp hq
      subst hp hq
      exact ⟨h1, h1', h2⟩
    | succ k => exact q2 k p q (by simpa using hp) (by simpa using hq)
  | [], _ :: _, ho => by simp [okElemParts] at ho
  | _ :: _, [], ho => by simp [okElemParts] at ho

/-- The places of a struct's fields. -/
theorem run_places (fs : Array Field) (hfs : ∀ f ∈ fs, (P.info? f.type).isSome = true) (w : World) :
    (fs.mapM fun f => do pure (f.offset, ← sizeOf f.type) : Sem (Array (Nat × Nat))).run P w = .ok (fs.map fun f => (f.offset, ((P.info? f.type).map (·.size)).getD 0)) w := by
  rw [Array.mapM_eq_mapM_toList]
  simp only [Sem.run_map]
  have key : ∀ l : List Field, (∀ f ∈ l, (P.info? f.type).isSome = true) → (l.mapM (fun f => do pure (f.offset, ← sizeOf f.type)) : Sem (List (Nat × Nat))).run P w = .ok (l.map fun f => (f.offset, ((P.info? f.type).map (·.size)).getD 0)) w := by
    intro l
    induction l with
    | nil => intro _; simp
    | cons f l ih =>
      intro hl
      obtain ⟨i, hi⟩ := Option.isSome_iff_exists.1 (hl f (by simp))
      rw [List.mapM_cons]
      simp only [Sem.run_bind, sizeOf, typeInfo, run_program, Result.andThen_ok, hi, Sem.run_pure, List.map_cons, Option.map_some, Option.getD_some]
      have := ih fun g hg => hl g (by simp [hg])
      simp only [sizeOf, typeInfo] at this
      rw [this]
      simp
  rw [key fs.toList (fun f hf => hfs f (by simpa using hf))]
  simp only [Result.andThen_ok]
  congr 1
  apply Array.ext'
  simp

/-- A struct's, or an array's, literal. -/
def okBuild (P : Program) (t : TypeId) (ps : Array (Nat × Operand)) (zero : List AV) (qs : List (Nat × Nat × AO)) : Bool :=
  zeroIs P t zero && match P.underlying t with
  | some (.struct fs) => fs.toList.all (fun f => (P.info? f.type).isSome) && okFieldParts P fs ps.toList qs
  | some (.array _ elem) => match P.info? elem with
    | some i => okElemParts i.size ps.toList qs
    | none => false
  | _ => false

theorem build_rel (R : Rel Z β h w) {e : Env} {a : Act} {n : Nat} (E : EnvR Z β h w e a n) {t : TypeId} {ps : Array (Nat × Operand)} {zero : List AV} {qs : List (Nat × Nat × AO)} (ho : okBuild P t ps zero qs = true)
    {cs : List AV} (hp : parts e qs zero = some cs) : Makes P Z β h w (Instr.build t (ps.map fun (i, x) => (i, a.eval x))) (.agg cs) h := by
  unfold okBuild at ho
  simp only [Bool.and_eq_true] at ho
  obtain ⟨hz, ho⟩ := ho
  obtain ⟨i, z, hi, hz, he⟩ := zeroIs_inv hz
  obtain ⟨q1, q2, q3, _⟩ := eqCs_rel (O := Own Z β h) (w := w) he
  have hmap : (ps.map fun (i, x) => (i, a.eval x)).toList = ps.toList.map fun p => (p.1, a.eval p.2) := by simp
  split at ho
  · rename_i fs hfs
    simp only [Bool.and_eq_true] at ho
    obtain ⟨hinfo, hparts⟩ := ho
    obtain ⟨s1, s2⟩ := okFieldParts_spec hparts
    obtain ⟨vs', k1, k2, k3, k4⟩ := parts_rel E (fun k => (fs.map fun f => (f.offset, ((P.info? f.type).map (·.size)).getD 0))[k]?) ps.toList qs zero z.cells.toList cs (fun k p q hpk hqk => by
      obtain ⟨f, f1, f2, f3, f4⟩ := s2 k p q hpk hqk
      refine ⟨?_, f4⟩
      unfold sizeIs at f3
      split at f3
      · rename_i i' hi'
        simp at f3
        simp [f1, f2, hi', f3]
      · cases f3) s1 hp q1 q2 (fun j y u hy hu => .pure _ _ (q3 j y u hy hu))
    refine Makes.of R (v := .agg vs'.toArray) ?_ (.agg cs vs' k2 k3 k4)
    simp only [Instr.build, Sem.run_bind, run_zeroValue' hi hz, Result.andThen_ok, run_underlying hfs]
    rw [run_places fs (fun f hf => by have := List.all_eq_true.1 hinfo f (by simpa using hf); exact this)]
    simp only [Result.andThen_ok, hmap]
    simp only [Array.toArray_toList] at k1
    rw [k1]
    simp
  · rename_i len elem hel
    split at ho
    · rename_i i' hi'
      obtain ⟨s1, s2⟩ := okElemParts_spec ho
      obtain ⟨vs', k1, k2, k3, k4⟩ := parts_rel E (fun k => some (k * i'.size, i'.size)) ps.toList qs zero z.cells.toList cs (fun k p q hpk hqk => by
        obtain ⟨f1, f2, f3⟩ := s2 k p q hpk hqk
        exact ⟨by rw [f1, f2], f3⟩) s1 hp q1 q2 (fun j y u hy hu => .pure _ _ (q3 j y u hy hu))
      refine Makes.of R (v := .agg vs'.toArray) ?_ (.agg cs vs' k2 k3 k4)
      simp only [Instr.build, Sem.run_bind, run_zeroValue' hi hz, Result.andThen_ok, run_underlying hel, sizeOf, typeInfo, run_program, hi', Sem.run_pure, hmap]
      simp only [Array.toArray_toList] at k1
      rw [k1]
      simp
    · cases ho
  · cases ho
end
end Go.Am
