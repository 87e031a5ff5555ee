/-
  The abstract machine: the other operations, one by one.
-/
import Derived.Test.YtldgegojhaamoaaAmH
set_option linter.unusedSimpArgs false
set_option linter.unusedVariables false
namespace Go.Am

section
variable {P : Program} {Z : Nat → Prop} {β : Bds} {h : AH} {w : World}

/-- New blocks that are not one's own, and draws. -/
theorem Rel.grown (R : Rel Z β h w) {w' : World} (hos : w'.os = w.os) (htape : w'.tape = w.tape) (hout : w'.output = w.output) (hsize : w.heap.size ≤ w'.heap.size)
    (hkeep : ∀ b, b < w.heap.size → w'.heap[b]? = w.heap[b]?) : Rel Z β h w' ∧ Fr Z β h w β h w' := by
  have hst : Stay (Own Z β h) w (Own Z β h) w' := ⟨hsize, fun b hb hO => ⟨hkeep b hb, hO⟩⟩
  exact ⟨⟨fun c hc => Nat.lt_of_lt_of_le (R.xlt c hc) hsize, R.xap, R.fresh, R.later, fun i X hX => (R.blk i X hX).mono hst (fun _ _ _ e => e) (fun c hc => hkeep c (R.own_lt ⟨X, hX, hc⟩)), R.apart⟩, ⟨fun b hb _ => hkeep b hb, hos, htape, hout, fun _ _ _ e => e, hst⟩⟩

theorem Rel.grown_alloc (R : Rel Z β h w) (o : Obj) : Rel Z β h (w.alloc o) ∧ Fr Z β h w β h (w.alloc o) :=
  R.grown rfl rfl rfl (by simp) fun b hb => heap_alloc_old w o b hb

theorem run_zeroValue' {t : TypeId} {i : TypeInfo} {z : Value} (hi : P.info? t = some i) (hz : i.zero = some z) (w : World) : (zeroValue t).run P w = .ok z w := by
  simp [zeroValue, typeInfo, hi, hz]

theorem zeroIs_inv {t : TypeId} {cs : List AV} (hz : zeroIs P t cs = true) : ∃ i z, P.info? t = some i ∧ i.zero = some z ∧ eqCs z.cells.toList cs = true := by
  unfold zeroIs at hz
  split at hz
  · rename_i i hi
    split at hz
    · rename_i z hz'
      exact ⟨i, z, hi, hz', hz⟩
    · cases hz
  · cases hz
theorem zeroV_inv {t : TypeId} {a : AV} (hz : zeroV P t a = true) : ∃ i z, P.info? t = some i ∧ i.zero = some z ∧ eqV z a = true := by
  unfold zeroV at hz
  split at hz
  · rename_i i hi
    split at hz
    · rename_i z hz'
      exact ⟨i, z, hi, hz', hz⟩
    · cases hz
  · cases hz

theorem alloc_rel (R : Rel Z β h w) {t : TypeId} {zero : List AV} (hz : zeroIs P t zero = true) : Makes P Z β h w (Instr.alloc t true (.tuple #[])) (.ptr h.length 0 0 0) (h ++ [.var zero]) := by
  obtain ⟨i, z, hi, hz, he⟩ := zeroIs_inv hz
  obtain ⟨q1, q2, q3, _⟩ := eqCs_rel (O := Own Z β h) (w := w) he
  obtain ⟨β', k1, k2, k3⟩ := R.push_var t zero z.cells.toList q1 q2 (fun j y u hy hu => .pure _ _ (q3 j y u hy hu))
  refine ⟨_, _, β', ?_, k1, k2, k3⟩
  simp [Instr.alloc, run_zeroValue' hi hz, newVar, newRow]

theorem box_rel (R : Rel Z β h w) (t : TypeId) {x : AV} (hok : x.cells.all AV.okc = true) {v : Value} (hv : VR β (Own Z β h) w x v) :
    Makes P Z β h w (Instr.box t v) (.ptr h.length 0 0 0) (h ++ [.var x.cells]) := by
  obtain ⟨vs, e1, e2, e3, e4⟩ := hv.cells hok
  obtain ⟨β', k1, k2, k3⟩ := R.push_var t x.cells vs e2 e3 e4
  refine ⟨_, _, β', ?_, k1, k2, k3⟩
  simp [Instr.box, newVar, newRow, e1]

/-! #### '==' -/
theorem beq_rel (R : Rel Z β h w) {t : TypeId} (ht : P.underlying t = some .bool) (neg : Bool) {a b : Bool} {u v : Value} (hu : VR β (Own Z β h) w (.bool a) u) (hv : VR β (Own Z β h) w (.bool b) v) :
    Makes P Z β h w (binOp (if neg then .neq else .eql) t u v) (.bool (if neg then !decide (a = b) else decide (a = b))) h ∧ ∀ op ox oy, (eqGuard op t ox oy u v).run P w = .ok () w := by
  have := hu.bool_inv; subst this
  have := hv.bool_inv; subst this
  refine ⟨?_, fun op ox oy => by cases op <;> simp [eqGuard]⟩
  refine Makes.of R (v := .bool _) ?_ (.of_bool _)
  have hbeq : (a == b) = decide (a = b) := by rw [Bool.eq_iff_iff]; simp
  cases neg <;> simp [binOp, Op.equal, Op.maxDepth, run_equalIn_bool w _ t a b ht, hbeq]

def kindIs (P : Program) (t : TypeId) (k : Nat) : Bool :=
  match P.underlying t with
  | some (.int _) => k == 0
  | some .string => k == 1
  | some .bool => k == 2
  | _ => false
/-- Which fields a struct has, if they are plain, one behind the other. -/
def plainFields (P : Program) : List Field → List Nat → Nat → Bool
  | [], [], _ => true
  | f :: fs, k :: ks, n => f.offset == n && f.name != "_" && kindIs P f.type k && plainFields P fs ks (n + 1)
  | _, _, _ => false

theorem run_part_plain {t : TypeId} {d : TypeDesc} (hd : P.underlying t = some d) (hn : (match d with | .struct _ | .array _ _ => False | _ => True)) (cs : Array Value) (k : Nat) (u : Value) (hu : cs[k]? = some u) (w : World) :
    (part t cs k).run P w = .ok u w := by
  have : (isAgg t).run P w = .ok false w := by
    unfold isAgg
    simp only [Sem.run_bind, run_underlying hd, Result.andThen_ok]
    cases d <;> simp_all
  simp [part, this, hu]

theorem equalIn_rel {O : Nat → Prop} (d : Nat) {t : TypeId} {k : Nat} (hk : kindIs P t k = true) {ks : List Nat} {a b : AV} {as bs : List AV} {r : Bool} (he : cellsEq (k :: ks) (a :: as) (b :: bs) = some r) {u v : Value} (ha : VR β O w a u) (hb : VR β O w b v) :
    ∃ q : Bool, (∀ n xs, xs[n]? = some u → (part t xs n).run P w = .ok u w) ∧ (∀ n xs, xs[n]? = some v → (part t xs n).run P w = .ok v w) ∧ (Op.equalIn (d + 1) t u v).run P w = .ok q w ∧ ((q = false ∧ r = false) ∨ (q = true ∧ cellsEq ks as bs = some r)) := by
  unfold kindIs at hk
  split at hk
  · rename_i k' hk'
    simp at hk
    subst hk
    cases a <;> cases b <;> first | (simp [cellsEq] at he; done) | skip
    rename_i k1 n1 k2 n2
    have := ha.int_inv; subst this
    have := hb.int_inv; subst this
    simp only [cellsEq] at he
    split at he
    · rename_i hkk
      subst hkk
      refine ⟨n1 == n2, fun n xs hx => run_part_plain hk' trivial xs n _ hx w, fun n xs hx => run_part_plain hk' trivial xs n _ hx w, run_equalIn_int w d t k1 k' n1 n2 hk', ?_⟩
      split at he
      · rename_i hn; exact .inr ⟨by simpa using hn, he⟩
      · rename_i hn; exact .inl ⟨by simpa using hn, by simpa using he.symm⟩
    · cases he
  · rename_i hk'
    simp at hk
    subst hk
    cases a <;> cases b <;> first | (simp [cellsEq] at he; done) | skip
    rename_i s1 s2
    obtain ⟨b1, rfl, e1⟩ := ha.str_inv
    obtain ⟨b2, rfl, e2⟩ := hb.str_inv
    simp only [cellsEq] at he
    refine ⟨s1 == s2, fun n xs hx => run_part_plain hk' trivial xs n _ hx w, fun n xs hx => run_part_plain hk' trivial xs n _ hx w, by rw [run_equalIn_string w d t b1 b2 hk', toList_data, toList_data, e1, e2], ?_⟩
    split at he
    · rename_i hn; exact .inr ⟨by simpa using hn, he⟩
    · rename_i hn; exact .inl ⟨by simpa using hn, by simpa using he.symm⟩
  · rename_i hk'
    simp at hk
    subst hk
    cases a <;> cases b <;> first | (simp [cellsEq] at he; done) | skip
    rename_i s1 s2
    have := ha.bool_inv; subst this
    have := hb.bool_inv; subst this
    simp only [cellsEq] at he
    refine ⟨s1 == s2, fun n xs hx => run_part_plain hk' trivial xs n _ hx w, fun n xs hx => run_part_plain hk' trivial xs n _ hx w, run_equalIn_bool w d t s1 s2 hk', ?_⟩
    split at he
    · rename_i hn; exact .inr ⟨by simpa using hn, he⟩
    · rename_i hn; exact .inl ⟨by simpa using hn, by simpa using he.symm⟩
  · cases hk

theorem eqFields_rel {O : Nat → Prop} (d : Nat) : ∀ (fs : List Field) (ks : List Nat) (k : Nat) (as bs : List AV) (xs ys : List Value) (r : Bool), plainFields P fs ks k = true → cellsEq ks as bs = some r →
    as.length = ks.length → bs.length = ks.length → (∀ (j : Nat) (y : AV) (u : Value), as[j]? = some y → xs[k + j]? = some u → VR β O w y u) → (∀ (j : Nat) (y : AV) (u : Value), bs[j]? = some y → ys[k + j]? = some u → VR β O w y u) →
    k + as.length ≤ xs.length → k + bs.length ≤ ys.length → (Op.eqFields (d + 1) xs.toArray ys.toArray fs).run P w = .ok r w
  | [], [], k, as, bs, xs, ys, r, _, he, hl, hl', _, _, _, _ => by
    have h1 : as = [] := List.eq_nil_of_length_eq_zero hl
    have h2 : bs = [] := List.eq_nil_of_length_eq_zero hl'
    subst h1 h2
    simp [cellsEq] at he; subst he; simp [Op.eqFields]
  | [], _ :: _, _, _, _, _, _, _, hf, _, _, _, _, _, _, _ => by simp [plainFields] at hf
  | _ :: _, [], _, _, _, _, _, _, hf, _, _, _, _, _, _, _ => by simp [plainFields] at hf
  | f :: fs, kk :: ks, k, as, bs, xs, ys, r, hf, he, hl, hl', ha, hb, hx, hy => by
    cases as with
    | nil => simp at hl
    | cons a as =>
      cases bs with
      | nil => simp at hl'
      | cons b bs =>
        simp only [plainFields, Bool.and_eq_true, beq_iff_eq, bne_iff_ne] at hf
        obtain ⟨⟨⟨hoff, hname⟩, hty⟩, hrest⟩ := hf
        simp at hl hl' hx hy
        have hkx : k < xs.length := by omega
        have hky : k < ys.length := by omega
        have va := ha 0 a xs[k] rfl (by simp [hkx])
        have vb := hb 0 b ys[k] rfl (by simp [hky])
        obtain ⟨q, p1, p2, p3, p4⟩ := equalIn_rel d hty he va vb
        have px := p1 f.offset xs.toArray (by simp [hoff, hkx])
        have py := p2 f.offset ys.toArray (by simp [hoff, hky])
        simp only [Op.eqFields, hname, ne_eq, not_false_eq_true, if_true, Sem.run_bind, px, py, p3, Result.andThen_ok]
        rcases p4 with ⟨rfl, rfl⟩ | ⟨rfl, p5⟩
        · simp
        · simp only [Bool.not_true, Bool.false_eq_true, if_false]
          exact eqFields_rel d fs ks (k + 1) as bs xs ys r hrest p5 (by omega) (by omega) (fun j y u h1 h2 => ha (j + 1) y u (by simpa using h1) (by rw [← h2]; congr 1; omega))
            (fun j y u h1 h2 => hb (j + 1) y u (by simpa using h1) (by rw [← h2]; congr 1; omega)) (by omega) (by omega)

/-- A struct of plain fields, that '==' goes through. -/
def structIs (P : Program) (t : TypeId) (ks : List Nat) : Bool :=
  match P.underlying t with
  | some (.struct fs) => plainFields P fs.toList ks 0 && !P.stoodInHeld t && !P.eqGuardType P.depth t
  | _ => false

theorem seq_rel (R : Rel Z β h w) {t : TypeId} {ks : List Nat} (ht : structIs P t ks = true) (neg : Bool) {a b : List AV} {r : Bool} (ha : a.length = ks.length) (hb : b.length = ks.length) (he : cellsEq ks a b = some r)
    {u v : Value} (hu : VR β (Own Z β h) w (.agg a) u) (hv : VR β (Own Z β h) w (.agg b) v) :
    Makes P Z β h w (binOp (if neg then .neq else .eql) t u v) (.bool (if neg then !r else r)) h ∧ ∀ op ox oy, (eqGuard op t ox oy u v).run P w = .ok () w := by
  unfold structIs at ht
  split at ht
  · rename_i fs hfs
    simp only [Bool.and_eq_true, Bool.not_eq_true'] at ht
    obtain ⟨⟨hplain, hstood⟩, hguard⟩ := ht
    obtain ⟨xs, rfl, hl1, h1, h2⟩ := hu.agg_inv
    obtain ⟨ys, rfl, hl2, h3, h4⟩ := hv.agg_inv
    have hft : P.fieldsOf t = fs := by simp [Program.fieldsOf, hfs]
    refine ⟨?_, fun op ox oy => run_eqGuard_agg w op t ox oy _ _ hguard⟩
    have hrun : (Op.equalIn 10000 t (.agg xs.toArray) (.agg ys.toArray)).run P w = .ok r w := by
      rw [run_equalIn_struct w 9999 t _ _ (by rw [hft]; exact hfs) hstood, hft]
      exact eqFields_rel (O := Own Z β h) 9998 fs.toList ks 0 a b xs ys r hplain he ha hb (fun j y u e1 e2 => h2 j y u e1 (by simpa using e2)) (fun j y u e1 e2 => h4 j y u e1 (by simpa using e2)) (by omega) (by omega)
    refine Makes.of R (v := .bool _) ?_ (.of_bool _)
    cases neg
    · simp only [Bool.false_eq_true, if_false]
      rw [run_eql_struct, hrun]; rfl
    · simp only [if_true]
      rw [run_neq_struct, hrun]; rfl
  · cases ht

end
end Go.Am
