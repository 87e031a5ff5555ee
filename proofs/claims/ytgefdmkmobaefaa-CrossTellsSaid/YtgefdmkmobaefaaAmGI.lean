/-
 The abstract machine: the other operations, one by one.
-/
import Derived.ChangeKeysEq
import Derived.Test.YtgefdmkmobaefaaAmGC
import Derived.Laws.BytesString
import Derived.Laws.Slices
import Derived.MapFrom
import Derived.Carry
set_option linter.unusedSimpArgs false
set_option linter.unusedVariables false
namespace Go.Am
section
variable {P : Program} {Z : Nat → Prop} {β : Bds} {h : AH} {w : World}
theorem Rel.grown (R : Rel Z β h w) {w' : World} (hos : w'.os = w.os) (htape : w'.tape = w.tape) (hout : w'.output = w.output) (hsize : w.heap.size ≤ w'.heap.size)
  (hkeep : ∀ b, b < w.heap.size → w'.heap[b]? = w.heap[b]?) : Rel Z β h w' ∧ Fr Z β h w β h w' := by
 have hst : Stay (Own Z β h) w (Own Z β h) w' := ⟨hsize, fun b hb hO => ⟨hkeep b hb, hO⟩⟩
 exact ⟨⟨fun c hc => Nat.lt_of_lt_of_le (R.xlt c hc) hsize, R.xap, R.fresh, R.later, fun i X hX => (R.blk i X hX).mono hst (fun _ _ _ e => e) (fun c hc => hkeep c (R.own_lt ⟨X, hX, hc⟩)), R.apart⟩, ⟨fun b hb _ => hkeep b hb, hos, htape, hout, fun _ _ _ e => e, hst⟩⟩
theorem Rel.grown_alloc (R : Rel Z β h w) (o : Obj) : Rel Z β h (w.alloc o) ∧ Fr Z β h w β h (w.alloc o) :=
 R.grown rfl rfl rfl (by simp) fun b hb => heap_alloc_old w o b hb
theorem run_zeroValue' {t : TypeId} {i : TypeInfo} {z : Value} (hi : P.info? t = some i) (hz : i.zero = some z) (w : World) : (zeroValue t).run P w = .ok z w := by
 simp [zeroValue, typeInfo, hi, hz]
theorem zeroIs_inv {t : TypeId} {cs : List AV} (hz : zeroIs P t cs = true) : ∃ i z, P.info? t = some i ∧ i.zero = some z ∧ eqCs z.cells.toList cs = true := by
 unfold zeroIs at hz
 split at hz
 ·rename_i i hi
  split at hz
  ·rename_i z hz'
   exact ⟨i, z, hi, hz', hz⟩
  ·cases hz
 ·cases hz
theorem zeroV_inv {t : TypeId} {a : AV} (hz : zeroV P t a = true) : ∃ i z, P.info? t = some i ∧ i.zero = some z ∧ eqV z a = true := by
 unfold zeroV at hz
 split at hz
 ·rename_i i hi
  split at hz
  ·rename_i z hz'
   exact ⟨i, z, hi, hz', hz⟩
  ·cases hz
 ·cases hz
theorem alloc_rel (R : Rel Z β h w) {t : TypeId} {zero : List AV} (hz : zeroIs P t zero = true) : Makes P Z β h w (Instr.alloc t true (.tuple #[])) (.ptr h.length 0 0 0) (h ++ [.var zero]) := by
 obtain ⟨i, z, hi, hz, he⟩ := zeroIs_inv hz
 obtain ⟨q1, q2, q3, _⟩ := eqCs_rel (O := Own Z β h) (w := w) he
 obtain ⟨β', k1, k2, k3⟩ := R.push_var t zero z.cells.toList q1 q2 (fun j y u hy hu => .pure _ _ (q3 j y u hy hu))
 refine ⟨_, _, β', ?_, k1, k2, k3⟩
 simp [Instr.alloc, run_zeroValue' hi hz, newVar, newRow]
theorem box_rel (R : Rel Z β h w) (t : TypeId) {x : AV} (hok : x.cells.all AV.okc = true) {v : Value} (hv : VR β (Own Z β h) w x v) :
  Makes P Z β h w (Instr.box t v) (.ptr h.length 0 0 0) (h ++ [.var x.cells]) := by
 obtain ⟨vs, e1, e2, e3, e4⟩ := hv.cells hok
 obtain ⟨β', k1, k2, k3⟩ := R.push_var t x.cells vs e2 e3 e4
 refine ⟨_, _, β', ?_, k1, k2, k3⟩
 simp [Instr.box, newVar, newRow, e1]
theorem rbox_rel (R : Rel Z β h w) (t : TypeId) {x : AV} (hok : x.cells.all AV.isS = true) {v : Value} (hv : VR β (Own Z β h) w x v) :
  Makes P Z β h w (Instr.box t v) (.rptr x.cells) h := by
 have hokc : x.cells.all AV.okc = true := by
  rw [List.all_eq_true] at hok ⊢
  exact fun y hy => okc_of_isS (hok y hy)
 obtain ⟨vs, e1, e2, e3, e4⟩ := hv.cells hokc
 obtain ⟨R1, F1⟩ := R.grown_alloc (.cells vs.toArray t (0, 0))
 refine ⟨.pointer (some ⟨w.heap.size, 0, none⟩), w.alloc (.cells vs.toArray t (0, 0)), β, by simp [Instr.box, newVar, newRow, e1], R1, F1, ?_⟩
 have hnew : (w.alloc (.cells vs.toArray t (0, 0))).heap[w.heap.size]? = some (.cells vs.toArray t (0, 0)) := heap_alloc_new w _
 have hnO : ¬ Own Z β h w.heap.size := by
  rintro (hz | ⟨i, hz⟩)
  ·have := R.xlt _ hz; omega
  ·have := R.own_lt hz; omega
 refine .rptr x.cells w.heap.size 0 (fun j => vs.getD j undef) hnO (by simp) (fun j y hy => ?_) (fun j y hy => ?_) (fun j y hy => ?_)
 all_goals
  have hj : j < vs.length := by rw [← e2]; exact (List.getElem?_eq_some_iff.1 hy).1
  have hg : vs[j]? = some vs[j] := List.getElem?_eq_getElem hj
  simp only [List.getD_eq_getElem?_getD, hg, Option.getD_some]
 ·simp only [World.cell?, hnew]
  simp [hj]
 ·exact e3 _ (List.getElem_mem hj)
 ·have h1 := e4 j y _ hy hg
  exact (h1.pureS (List.all_eq_true.1 hok y (List.mem_of_getElem? hy))).mono F1.stay
/-! #### '==' -/
theorem beq_rel (R : Rel Z β h w) {t : TypeId} (ht : P.underlying t = some .bool) (neg : Bool) {a b : Bool} {u v : Value} (hu : VR β (Own Z β h) w (.bool a) u) (hv : VR β (Own Z β h) w (.bool b) v) :
  Makes P Z β h w (binOp (if neg then .neq else .eql) t u v) (.bool (if neg then !decide (a = b) else decide (a = b))) h ∧ ∀ op ox oy, (eqGuard op t ox oy u v).run P w = .ok () w := by
 have := hu.bool_inv; subst this
 have := hv.bool_inv; subst this
 refine ⟨?_, fun op ox oy => by cases op <;> simp [eqGuard]⟩
 refine Makes.of R (v := .bool _) ?_ (.of_bool _)
 have hbeq : (a == b) = decide (a = b) := by rw [Bool.eq_iff_iff]; simp
 cases neg <;> simp [binOp, Op.equal, Op.maxDepth, run_equalIn_bool w _ t a b ht, hbeq]
def kindIs (P : Program) (t : TypeId) (k : Nat) : Bool :=
 match P.underlying t with
 | some (.int _) => k == 0
 | some .string => k == 1
 | some .bool => k == 2
 | _ => false
def plainFields (P : Program) : List Field → List Nat → Nat → Bool
 | [], [], _ => true
 | f :: fs, k :: ks, n => f.offset == n && f.name != "_" && kindIs P f.type k && plainFields P fs ks (n + 1)
 | _, _, _ => false
theorem run_part_plain {t : TypeId} {d : TypeDesc} (hd : P.underlying t = some d) (hn : (match d with | .struct _ | .array _ _ => False | _ => True)) (cs : Array Value) (k : Nat) (u : Value) (hu : cs[k]? = some u) (w : World) :
  (part t cs k).run P w = .ok u w := by
 have : (isAgg t).run P w = .ok false w := by
  unfold isAgg
  simp only [Sem.run_bind, run_underlying hd, Result.andThen_ok]
  cases d <;> simp_all
 simp [part, this, hu]
theorem equalIn_rel {O : Nat → Prop} (d : Nat) {t : TypeId} {k : Nat} (hk : kindIs P t k = true) {ks : List Nat} {a b : AV} {as bs : List AV} {r : Bool} (he : cellsEq (k :: ks) (a :: as) (b :: bs) = some r) {u v : Value} (ha : VR β O w a u) (hb : VR β O w b v) :
  ∃ q : Bool, (∀ n xs, xs[n]? = some u → (part t xs n).run P w = .ok u w) ∧ (∀ n xs, xs[n]? = some v → (part t xs n).run P w = .ok v w) ∧ (Op.equalIn (d + 1) t u v).run P w = .ok q w ∧ ((q = false ∧ r = false) ∨ (q = true ∧ cellsEq ks as bs = some r)) := by
 unfold kindIs at hk
 split at hk
 ·rename_i k' hk'
  simp at hk
  subst hk
  cases a <;> cases b <;> first | (simp [cellsEq] at he; done) | skip
  rename_i k1 n1 k2 n2
  have := ha.int_inv; subst this
  have := hb.int_inv; subst this
  simp only [cellsEq] at he
  split at he
  ·rename_i hkk
   subst hkk
   refine ⟨n1 == n2, fun n xs hx => run_part_plain hk' trivial xs n _ hx w, fun n xs hx => run_part_plain hk' trivial xs n _ hx w, run_equalIn_int w d t k1 k' n1 n2 hk', ?_⟩
   split at he
   ·rename_i hn; exact .inr ⟨by simpa using hn, he⟩
   ·rename_i hn; exact .inl ⟨by simpa using hn, by simpa using he.symm⟩
  ·cases he
 ·rename_i hk'
  simp at hk
  subst hk
  cases a <;> cases b <;> first | (simp [cellsEq] at he; done) | skip
  rename_i s1 s2
  obtain ⟨b1, rfl, e1⟩ := ha.str_inv
  obtain ⟨b2, rfl, e2⟩ := hb.str_inv
  simp only [cellsEq] at he
  refine ⟨s1 == s2, fun n xs hx => run_part_plain hk' trivial xs n _ hx w, fun n xs hx => run_part_plain hk' trivial xs n _ hx w, by rw [run_equalIn_string w d t b1 b2 hk', toList_data, toList_data, e1, e2], ?_⟩
  split at he
  ·rename_i hn; exact .inr ⟨by simpa using hn, he⟩
  ·rename_i hn; exact .inl ⟨by simpa using hn, by simpa using he.symm⟩
 ·rename_i hk'
  simp at hk
  subst hk
  cases a <;> cases b <;> first | (simp [cellsEq] at he; done) | skip
  rename_i s1 s2
  have := ha.bool_inv; subst this
  have := hb.bool_inv; subst this
  simp only [cellsEq] at he
  refine ⟨s1 == s2, fun n xs hx => run_part_plain hk' trivial xs n _ hx w, fun n xs hx => run_part_plain hk' trivial xs n _ hx w, run_equalIn_bool w d t s1 s2 hk', ?_⟩
  split at he
  ·rename_i hn; exact .inr ⟨by simpa using hn, he⟩
  ·rename_i hn; exact .inl ⟨by simpa using hn, by simpa using he.symm⟩
 ·cases hk
theorem eqFields_rel {O : Nat → Prop} (d : Nat) : ∀ (fs : List Field) (ks : List Nat) (k : Nat) (as bs : List AV) (xs ys : List Value) (r : Bool), plainFields P fs ks k = true → cellsEq ks as bs = some r →
  as.length = ks.length → bs.length = ks.length → (∀ (j : Nat) (y : AV) (u : Value), as[j]? = some y → xs[k + j]? = some u → VR β O w y u) → (∀ (j : Nat) (y : AV) (u : Value), bs[j]? = some y → ys[k + j]? = some u → VR β O w y u) →
  k + as.length ≤ xs.length → k + bs.length ≤ ys.length → (Op.eqFields (d + 1) xs.toArray ys.toArray fs).run P w = .ok r w
 | [], [], k, as, bs, xs, ys, r, _, he, hl, hl', _, _, _, _ => by
  have h1 : as = [] := List.eq_nil_of_length_eq_zero hl
  have h2 : bs = [] := List.eq_nil_of_length_eq_zero hl'
  subst h1 h2
  simp [cellsEq] at he; subst he; simp [Op.eqFields]
 | [], _ :: _, _, _, _, _, _, _, hf, _, _, _, _, _, _, _ => by simp [plainFields] at hf
 | _ :: _, [], _, _, _, _, _, _, hf, _, _, _, _, _, _, _ => by simp [plainFields] at hf
 | f :: fs, kk :: ks, k, as, bs, xs, ys, r, hf, he, hl, hl', ha, hb, hx, hy => by
  cases as with
  | nil => simp at hl
  | cons a as =>
   cases bs with
   | nil => simp at hl'
   | cons b bs =>
    simp only [plainFields, Bool.and_eq_true, beq_iff_eq, bne_iff_ne] at hf
    obtain ⟨⟨⟨hoff, hname⟩, hty⟩, hrest⟩ := hf
    simp at hl hl' hx hy
    have hkx : k < xs.length := by omega
    have hky : k < ys.length := by omega
    have va := ha 0 a xs[k] rfl (by simp [hkx])
    have vb := hb 0 b ys[k] rfl (by simp [hky])
    obtain ⟨q, p1, p2, p3, p4⟩ := equalIn_rel d hty he va vb
    have px := p1 f.offset xs.toArray (by simp [hoff, hkx])
    have py := p2 f.offset ys.toArray (by simp [hoff, hky])
    simp only [Op.eqFields, hname, ne_eq, not_false_eq_true, if_true, Sem.run_bind, px, py, p3, Result.andThen_ok]
    rcases p4 with ⟨rfl, rfl⟩ | ⟨rfl, p5⟩
    ·simp
    ·simp only [Bool.not_true, Bool.false_eq_true, if_false]
     exact eqFields_rel d fs ks (k + 1) as bs xs ys r hrest p5 (by omega) (by omega) (fun j y u h1 h2 => ha (j + 1) y u (by simpa using h1) (by rw [← h2]; congr 1; omega))
      (fun j y u h1 h2 => hb (j + 1) y u (by simpa using h1) (by rw [← h2]; congr 1; omega)) (by omega) (by omega)
def structIs (P : Program) (t : TypeId) (ks : List Nat) : Bool :=
 match P.underlying t with
 | some (.struct fs) => plainFields P fs.toList ks 0 && !P.stoodInHeld t && !P.eqGuardType P.depth t
 | some (.array n e) => decide (n = ks.length) && ks.all (kindIs P e) && (P.info? e).isSome && decide (P.cellsOf e = 1) && !P.eqGuardType P.depth t
 | _ => false
theorem eqItems_rel {O : Nat → Prop} (d : Nat) {e : TypeId} : ∀ (ks : List Nat) (k : Nat) (as bs : List AV) (xs ys : List Value) (r : Bool), ks.all (kindIs P e) = true → cellsEq ks as bs = some r →
  as.length = ks.length → bs.length = ks.length → (∀ (j : Nat) (y : AV) (u : Value), as[j]? = some y → xs[k + j]? = some u → VR β O w y u) → (∀ (j : Nat) (y : AV) (u : Value), bs[j]? = some y → ys[k + j]? = some u → VR β O w y u) →
  k + as.length ≤ xs.length → k + bs.length ≤ ys.length → (Op.eqItems (d + 1) e 1 xs.toArray ys.toArray (List.range' k ks.length)).run P w = .ok r w
 | [], k, as, bs, xs, ys, r, _, he, hl, hl', _, _, _, _ => by
  have h1 : as = [] := List.eq_nil_of_length_eq_zero hl
  have h2 : bs = [] := List.eq_nil_of_length_eq_zero hl'
  subst h1 h2
  simp [cellsEq] at he; subst he; simp [Op.eqItems]
 | kk :: ks, k, as, bs, xs, ys, r, hf, he, hl, hl', ha, hb, hx, hy => by
  cases as with
  | nil => simp at hl
  | cons a as =>
   cases bs with
   | nil => simp at hl'
   | cons b bs =>
    rw [List.all_cons, Bool.and_eq_true] at hf
    obtain ⟨hty, hrest⟩ := hf
    simp at hl hl' hx hy
    have hkx : k < xs.length := by omega
    have hky : k < ys.length := by omega
    have va := ha 0 a xs[k] rfl (by simp [hkx])
    have vb := hb 0 b ys[k] rfl (by simp [hky])
    obtain ⟨q, p1, p2, p3, p4⟩ := equalIn_rel d hty he va vb
    have px := p1 (k * 1) xs.toArray (by simp [hkx])
    have py := p2 (k * 1) ys.toArray (by simp [hky])
    rw [List.length_cons, List.range'_succ]
    simp only [Op.eqItems, Sem.run_bind, px, py, p3, Result.andThen_ok]
    rcases p4 with ⟨rfl, rfl⟩ | ⟨rfl, p5⟩
    ·simp
    ·simp only [Bool.not_true, Bool.false_eq_true, if_false]
     exact eqItems_rel d ks (k + 1) as bs xs ys r hrest p5 (by omega) (by omega) (fun j y u h1 h2 => ha (j + 1) y u (by simpa using h1) (by rw [← h2]; congr 1; omega))
      (fun j y u h1 h2 => hb (j + 1) y u (by simpa using h1) (by rw [← h2]; congr 1; omega)) (by omega) (by omega)
theorem seq_rel (R : Rel Z β h w) {t : TypeId} {ks : List Nat} (ht : structIs P t ks = true) (neg : Bool) {a b : List AV} {r : Bool} (ha : a.length = ks.length) (hb : b.length = ks.length) (he : cellsEq ks a b = some r)
  {u v : Value} (hu : VR β (Own Z β h) w (.agg a) u) (hv : VR β (Own Z β h) w (.agg b) v) :
  Makes P Z β h w (binOp (if neg then .neq else .eql) t u v) (.bool (if neg then !r else r)) h ∧ ∀ op ox oy, (eqGuard op t ox oy u v).run P w = .ok () w := by
 unfold structIs at ht
 split at ht
 ·rename_i fs hfs
  simp only [Bool.and_eq_true, Bool.not_eq_true'] at ht
  obtain ⟨⟨hplain, hstood⟩, hguard⟩ := ht
  obtain ⟨xs, rfl, hl1, h1, h2⟩ := hu.agg_inv
  obtain ⟨ys, rfl, hl2, h3, h4⟩ := hv.agg_inv
  have hft : P.fieldsOf t = fs := by simp [Program.fieldsOf, hfs]
  refine ⟨?_, fun op ox oy => run_eqGuard_agg w op t ox oy _ _ hguard⟩
  have hrun : (Op.equalIn 10000 t (.agg xs.toArray) (.agg ys.toArray)).run P w = .ok r w := by
   rw [run_equalIn_struct w 9999 t _ _ (by rw [hft]; exact hfs) hstood, hft]
   exact eqFields_rel (O := Own Z β h) 9998 fs.toList ks 0 a b xs ys r hplain he ha hb (fun j y u e1 e2 => h2 j y u e1 (by simpa using e2)) (fun j y u e1 e2 => h4 j y u e1 (by simpa using e2)) (by omega) (by omega)
  refine Makes.of R (v := .bool _) ?_ (.of_bool _)
  cases neg
  ·simp only [Bool.false_eq_true, if_false]
   rw [run_eql_struct, hrun]; rfl
  ·simp only [if_true]
   rw [run_neq_struct, hrun]; rfl
 ·rename_i n e hfs
  simp only [Bool.and_eq_true, Bool.not_eq_true', decide_eq_true_eq] at ht
  obtain ⟨⟨⟨⟨hn, hall⟩, hinfo⟩, hcells⟩, hguard⟩ := ht
  obtain ⟨ti, hti⟩ := Option.isSome_iff_exists.1 hinfo
  obtain ⟨xs, rfl, hl1, h1, h2⟩ := hu.agg_inv
  obtain ⟨ys, rfl, hl2, h3, h4⟩ := hv.agg_inv
  refine ⟨?_, fun op ox oy => run_eqGuard_agg w op t ox oy _ _ hguard⟩
  have hrun : (Op.equalIn 10000 t (.agg xs.toArray) (.agg ys.toArray)).run P w = .ok r w := by
   rw [run_equalIn_array w 9999 _ _ hfs hti, hcells, hn, List.range_eq_range']
   exact eqItems_rel (O := Own Z β h) 9998 ks 0 a b xs ys r hall he ha hb (fun j y u e1 e2 => h2 j y u e1 (by simpa using e2)) (fun j y u e1 e2 => h4 j y u e1 (by simpa using e2)) (by omega) (by omega)
  refine Makes.of R (v := .bool _) ?_ (.of_bool _)
  cases neg
  ·simp only [Bool.false_eq_true, if_false]
   rw [run_eql_struct, hrun]; rfl
  ·simp only [if_true]
   rw [run_neq_struct, hrun]; rfl
 ·cases ht
end
end Go.Am

/-
 The abstract machine: structs, literals, conversions, addresses.
-/
namespace Go.Am
theorem foldl_over (off : Nat) : ∀ (l : List Value) (k : Nat) (cs : Array Value), off + k + l.length ≤ cs.size →
  (l.zipIdx k).foldl (fun (cs : Array Value) (x : Value × Nat) => cs.setIfInBounds (off + x.2) x.1) cs = (over cs.toList (off + k) l).toArray
 | [], k, cs, _ => by simp [over]
 | v :: l, k, cs, hl => by
  simp only [List.zipIdx_cons, List.foldl_cons]
  rw [foldl_over off l (k + 1) _ (by simp at hl ⊢; omega)]
  congr 1
  apply List.ext_getElem?
  intro j
  have h1 : off + (k + 1) + l.length ≤ (cs.setIfInBounds (off + k) v).toList.length := by simp at hl ⊢; omega
  have h2 : off + k + (v :: l).length ≤ cs.toList.length := by simpa using hl
  rw [over_get _ _ _ h1, over_get _ _ _ h2]
  simp only [List.length_cons, Array.toList_setIfInBounds]
  by_cases hj : j = off + k
  ·subst hj
   simp at hl
   rw [if_neg (by omega), if_pos (by omega)]
   simp [List.getElem?_set]
   omega
  ·by_cases hj2 : off + k ≤ j ∧ j < off + k + (l.length + 1)
   ·rw [if_pos (by omega), if_pos hj2]
    obtain ⟨m, rfl⟩ : ∃ m, j = off + (k + 1) + m := ⟨j - (off + (k + 1)), by omega⟩
    have e1 : off + (k + 1) + m - (off + (k + 1)) = m := by omega
    have e2 : off + (k + 1) + m - (off + k) = m + 1 := by omega
    rw [e1, e2]; rfl
   ·rw [if_neg (by omega), if_neg hj2, List.getElem?_set_ne (by omega)]
theorem fill_cons (place : Nat → Option (Nat × Nat)) (cells : Array Value) (i : Nat) (v : Value) (rest : List (Nat × Value)) {off size : Nat} (hp : place i = some (off, size)) (hs : v.cells.size = size) (hf : off + size ≤ cells.size) :
  Instr.fill place cells ((i, v) :: rest) = Instr.fill place (over cells.toList off v.cells.toList).toArray rest := by
 have h1 : ¬ (v.cells.size ≠ size || decide (off + v.cells.size > cells.size)) = true := by simp [hs]; omega
 simp only [Instr.fill, hp]
 rw [if_neg (by simpa using h1)]
 congr 1
 have := foldl_over off v.cells.toList 0 cells (by simp [hs]; omega)
 rw [← Array.foldl_toList, Array.toList_zipIdx]
 simpa using this
section
variable {P : Program} {Z : Nat → Prop} {β : Bds} {h : AH} {w : World}
def okO : Operand → AO → Bool
 | .tmp i, .t j => i == j
 | .const v, .c a => eqV v a
 | .func f, .c (.fn (.func g) [] []) => f == g
 | _, _ => false
theorem okO_rel {e : Env} {a : Act} {n : Nat} (E : EnvR Z β h w e a n) {x : Operand} {y : AO} (ho : okO x y = true) : VR β (Own Z β h) w (y.get e) (a.eval x) := by
 unfold okO at ho
 split at ho
 ·simp at ho; subst ho; exact E.2 _
 ·exact .pure _ _ (eqV_rel ho).1
 ·simp at ho; subst ho
  exact .fn (.func _) [] [] [] [] rfl rfl (by simp) (by simp)
 ·cases ho
def okFieldParts (P : Program) (fs : Array Field) : List (Nat × Operand) → List (Nat × Nat × AO) → Bool
 | [], [] => true
 | (i, x) :: l, (off, size, y) :: l' => (match fs[i]? with
   | some f => f.offset == off && sizeIs P f.type size
   | none => false) && okO x y && okFieldParts P fs l l'
 | _, _ => false
def okElemParts (sz : Nat) : List (Nat × Operand) → List (Nat × Nat × AO) → Bool
 | [], [] => true
 | (i, x) :: l, (off, size, y) :: l' => off == i * sz && size == sz && okO x y && okElemParts sz l l'
 | _, _ => false
theorem parts_rel {e : Env} {a : Act} {n : Nat} (E : EnvR Z β h w e a n) (place : Nat → Option (Nat × Nat)) : ∀ (ps : List (Nat × Operand)) (qs : List (Nat × Nat × AO)) (cs : List AV) (vs : List Value) (cs' : List AV),
  (∀ (k : Nat) p q, ps[k]? = some p → qs[k]? = some q → place p.1 = some (q.1, q.2.1) ∧ okO p.2 q.2.2 = true) → ps.length = qs.length → parts e qs cs = some cs' →
  cs.length = vs.length → (∀ u ∈ vs, u.oneCell' = true) → (∀ (j : Nat) (y : AV) (u : Value), cs[j]? = some y → vs[j]? = some u → VR β (Own Z β h) w y u) →
  ∃ vs' : List Value, Instr.fill place vs.toArray (ps.map fun p => (p.1, a.eval p.2)) = some vs'.toArray ∧ cs'.length = vs'.length ∧ (∀ u ∈ vs', u.oneCell' = true) ∧
   ∀ (j : Nat) (y : AV) (u : Value), cs'[j]? = some y → vs'[j]? = some u → VR β (Own Z β h) w y u
 | [], [], cs, vs, cs', _, _, hp, hl, h1, h2 => by
  simp only [parts] at hp
  cases hp
  exact ⟨vs, by simp [Instr.fill], hl, h1, h2⟩
 | [], _ :: _, _, _, _, _, hlen, _, _, _, _ => by simp at hlen
 | _ :: _, [], _, _, _, _, hlen, _, _, _, _ => by simp at hlen
 | (i, x) :: ps, (off, size, y) :: qs, cs, vs, cs', hpl, hlen, hp, hl, h1, h2 => by
  simp only [parts] at hp
  split at hp
  ·rename_i hcond
   obtain ⟨hok, hsz, hfit⟩ := hcond
   obtain ⟨hplace, hoo⟩ := hpl 0 (i, x) (off, size, y) rfl rfl
   obtain ⟨us, e1, e2, e3, e4⟩ := (okO_rel E hoo).cells hok
   have hg : us.length = size := e2.symm.trans hsz
   have hover : off + us.length ≤ vs.length := by omega
   have ho2 : off + (y.get e).cells.length ≤ cs.length := by omega
   obtain ⟨vs', k1, k2, k3, k4⟩ := parts_rel E place ps qs (over cs off (y.get e).cells) (over vs off us) cs' (fun k p q hk1 hk2 => hpl (k + 1) p q (by simpa using hk1) (by simpa using hk2)) (by simpa using hlen) hp
    (by rw [over_length _ _ _ ho2, over_length _ _ _ hover, hl])
    (fun u hu => by
     unfold over at hu
     simp only [List.mem_append] at hu
     rcases hu with (hu | hu) | hu
     ·exact h1 u (List.mem_of_mem_take hu)
     ·exact e3 u hu
     ·exact h1 u (List.mem_of_mem_drop hu))
    (fun j y' u hy hu => by
     rw [over_get _ _ _ ho2] at hy
     rw [over_get _ _ _ hover, ← e2] at hu
     split at hy
     ·rename_i hj
      rw [if_pos hj] at hu
      exact e4 _ y' u hy hu
     ·rename_i hj
      rw [if_neg hj] at hu
      exact h2 j y' u hy hu)
   refine ⟨vs', ?_, k2, k3, k4⟩
   simp only [List.map_cons]
   rw [fill_cons place vs.toArray i (a.eval x) _ hplace (by rw [e1]; simp; omega) (by simp; omega)]
   rw [e1]
   exact k1
  ·cases hp
theorem okFieldParts_spec {fs : Array Field} : ∀ {ps : List (Nat × Operand)} {qs : List (Nat × Nat × AO)}, okFieldParts P fs ps qs = true → ps.length = qs.length ∧
  ∀ (k : Nat) (p : Nat × Operand) (q : Nat × Nat × AO), ps[k]? = some p → qs[k]? = some q → ∃ f, fs[p.1]? = some f ∧ f.offset = q.1 ∧ sizeIs P f.type q.2.1 = true ∧ okO p.2 q.2.2 = true
 | [], [], _ => ⟨rfl, by simp⟩
 | (i, x) :: ps, (off, size, y) :: qs, ho => by
  simp only [okFieldParts, Bool.and_eq_true] at ho
  obtain ⟨⟨h1, h2⟩, h3⟩ := ho
  obtain ⟨q1, q2⟩ := okFieldParts_spec h3
  refine ⟨by simp [q1], fun k p q hp hq => ?_⟩
  cases k with
  | zero =>
   simp at hp hq
   subst hp hq
   split at h1
   ·rename_i f hf
    simp only [Bool.and_eq_true, beq_iff_eq] at h1
    exact ⟨f, hf, h1.1, h1.2, h2⟩
   ·cases h1
  | succ k => exact q2 k p q (by simpa using hp) (by simpa using hq)
 | [], _ :: _, ho => by simp [okFieldParts] at ho
 | _ :: _, [], ho => by simp [okFieldParts] at ho
theorem okElemParts_spec {sz : Nat} : ∀ {ps : List (Nat × Operand)} {qs : List (Nat × Nat × AO)}, okElemParts sz ps qs = true → ps.length = qs.length ∧
  ∀ (k : Nat) (p : Nat × Operand) (q : Nat × Nat × AO), ps[k]? = some p → qs[k]? = some q → q.1 = p.1 * sz ∧ q.2.1 = sz ∧ okO p.2 q.2.2 = true
 | [], [], _ => ⟨rfl, by simp⟩
 | (i, x) :: ps, (off, size, y) :: qs, ho => by
  simp only [okElemParts, Bool.and_eq_true, beq_iff_eq] at ho
  obtain ⟨⟨⟨h1, h1'⟩, h2⟩, h3⟩ := ho
  obtain ⟨q1, q2⟩ := okElemParts_spec h3
  refine ⟨by simp [q1], fun k p q hp hq => ?_⟩
  cases k with
  | zero =>
   simp at hp hq
   subst hp hq
   exact ⟨h1, h1', h2⟩
  | succ k => exact q2 k p q (by simpa using hp) (by simpa using hq)
 | [], _ :: _, ho => by simp [okElemParts] at ho
 | _ :: _, [], ho => by simp [okElemParts] at ho
theorem run_places (fs : Array Field) (hfs : ∀ f ∈ fs, (P.info? f.type).isSome = true) (w : World) :
  (fs.mapM fun f => do pure (f.offset, ← sizeOf f.type) : Sem (Array (Nat × Nat))).run P w = .ok (fs.map fun f => (f.offset, ((P.info? f.type).map (·.size)).getD 0)) w := by
 rw [Array.mapM_eq_mapM_toList]
 simp only [Sem.run_map]
 have key : ∀ l : List Field, (∀ f ∈ l, (P.info? f.type).isSome = true) → (l.mapM (fun f => do pure (f.offset, ← sizeOf f.type)) : Sem (List (Nat × Nat))).run P w = .ok (l.map fun f => (f.offset, ((P.info? f.type).map (·.size)).getD 0)) w := by
  intro l
  induction l with
  | nil => intro _; simp
  | cons f l ih =>
   intro hl
   obtain ⟨i, hi⟩ := Option.isSome_iff_exists.1 (hl f (by simp))
   rw [List.mapM_cons]
   simp only [Sem.run_bind, sizeOf, typeInfo, run_program, Result.andThen_ok, hi, Sem.run_pure, List.map_cons, Option.map_some, Option.getD_some]
   have := ih fun g hg => hl g (by simp [hg])
   simp only [sizeOf, typeInfo] at this
   rw [this]
   simp
 rw [key fs.toList (fun f hf => hfs f (by simpa using hf))]
 simp only [Result.andThen_ok]
 congr 1
 apply Array.ext'
 simp
def okBuild (P : Program) (t : TypeId) (ps : Array (Nat × Operand)) (zero : List AV) (qs : List (Nat × Nat × AO)) : Bool :=
 zeroIs P t zero && match P.underlying t with
 | some (.struct fs) => fs.toList.all (fun f => (P.info? f.type).isSome) && okFieldParts P fs ps.toList qs
 | some (.array _ elem) => match P.info? elem with
  | some i => okElemParts i.size ps.toList qs
  | none => false
 | _ => false
theorem build_rel (R : Rel Z β h w) {e : Env} {a : Act} {n : Nat} (E : EnvR Z β h w e a n) {t : TypeId} {ps : Array (Nat × Operand)} {zero : List AV} {qs : List (Nat × Nat × AO)} (ho : okBuild P t ps zero qs = true)
  {cs : List AV} (hp : parts e qs zero = some cs) : Makes P Z β h w (Instr.build t (ps.map fun (i, x) => (i, a.eval x))) (.agg cs) h := by
 unfold okBuild at ho
 simp only [Bool.and_eq_true] at ho
 obtain ⟨hz, ho⟩ := ho
 obtain ⟨i, z, hi, hz, he⟩ := zeroIs_inv hz
 obtain ⟨q1, q2, q3, _⟩ := eqCs_rel (O := Own Z β h) (w := w) he
 have hmap : (ps.map fun (i, x) => (i, a.eval x)).toList = ps.toList.map fun p => (p.1, a.eval p.2) := by simp
 split at ho
 ·rename_i fs hfs
  simp only [Bool.and_eq_true] at ho
  obtain ⟨hinfo, hparts⟩ := ho
  obtain ⟨s1, s2⟩ := okFieldParts_spec hparts
  obtain ⟨vs', k1, k2, k3, k4⟩ := parts_rel E (fun k => (fs.map fun f => (f.offset, ((P.info? f.type).map (·.size)).getD 0))[k]?) ps.toList qs zero z.cells.toList cs (fun k p q hpk hqk => by
   obtain ⟨f, f1, f2, f3, f4⟩ := s2 k p q hpk hqk
   refine ⟨?_, f4⟩
   unfold sizeIs at f3
   split at f3
   ·rename_i i' hi'
    simp at f3
    simp [f1, f2, hi', f3]
   ·cases f3) s1 hp q1 q2 (fun j y u hy hu => .pure _ _ (q3 j y u hy hu))
  refine Makes.of R (v := .agg vs'.toArray) ?_ (.agg cs vs' k2 k3 k4)
  simp only [Instr.build, Sem.run_bind, run_zeroValue' hi hz, Result.andThen_ok, run_underlying hfs]
  rw [run_places fs (fun f hf => by have := List.all_eq_true.1 hinfo f (by simpa using hf); exact this)]
  simp only [Result.andThen_ok, hmap]
  simp only [Array.toArray_toList] at k1
  rw [k1]
  simp
 ·rename_i len elem hel
  split at ho
  ·rename_i i' hi'
   obtain ⟨s1, s2⟩ := okElemParts_spec ho
   obtain ⟨vs', k1, k2, k3, k4⟩ := parts_rel E (fun k => some (k * i'.size, i'.size)) ps.toList qs zero z.cells.toList cs (fun k p q hpk hqk => by
    obtain ⟨f1, f2, f3⟩ := s2 k p q hpk hqk
    exact ⟨by rw [f1, f2], f3⟩) s1 hp q1 q2 (fun j y u hy hu => .pure _ _ (q3 j y u hy hu))
   refine Makes.of R (v := .agg vs'.toArray) ?_ (.agg cs vs' k2 k3 k4)
   simp only [Instr.build, Sem.run_bind, run_zeroValue' hi hz, Result.andThen_ok, run_underlying hel, sizeOf, typeInfo, run_program, hi', Sem.run_pure, hmap]
   simp only [Array.toArray_toList] at k1
   rw [k1]
   simp
  ·cases ho
 ·cases ho
end
end Go.Am

/-
  The abstract machine: slices' literals, conversions, cuts.
-/
namespace Go.Am
theorem SrcAt.set {O : Nat → Prop} {w : World} {vs : List Value} {sz : Nat} {es : List AV} (hs : SrcAt O w (fun k => vs[k]?) sz es) (hl : vs.length = es.length * sz) {i : Nat} (hi : i < es.length) {x : AV} {us : List Value}
    (hx : x.cells.length = sz) (hu : us.length = sz) (h1 : ∀ u ∈ us, u.oneCell' = true) (h2 : ∀ (j : Nat) (y : AV) (u : Value), x.cells[j]? = some y → us[j]? = some u → PVR O w y u) :
    SrcAt O w (fun k => (over vs (i * sz) us)[k]?) sz (es.set i x) := by
  have hplace : i * sz + sz ≤ vs.length := by
    have : (i + 1) * sz ≤ es.length * sz := Nat.mul_le_mul_right _ hi
    rw [Nat.add_mul] at this
    omega
  have hover : i * sz + us.length ≤ vs.length := by omega
  intro i1 x1 hx1
  by_cases hi1 : i1 = i
  · subst hi1
    rw [List.getElem?_set_self hi] at hx1
    cases hx1
    refine ⟨hx, fun j y hy => ?_⟩
    have hj : j < sz := by rw [← hx]; exact (List.getElem?_eq_some_iff.1 hy).1
    dsimp only
    rw [over_get _ _ _ hover, if_pos (by omega)]
    have ej : i1 * sz + j - i1 * sz = j := by omega
    rw [ej]
    have hlt : j < us.length := by omega
    exact ⟨us[j], by simp [hlt], h1 _ (List.getElem_mem hlt), h2 j y us[j] hy (by simp [hlt])⟩
  · rw [List.getElem?_set_ne (Ne.symm hi1)] at hx1
    obtain ⟨k0, k⟩ := hs i1 x1 hx1
    refine ⟨k0, fun j y hy => ?_⟩
    obtain ⟨u', k1, k2, k3⟩ := k j y hy
    have hj : j < sz := by rw [← k0]; exact (List.getElem?_eq_some_iff.1 hy).1
    refine ⟨u', ?_, k2, k3⟩
    dsimp only
    rw [over_get _ _ _ hover, if_neg]
    · exact k1
    · rintro ⟨m1, m2⟩
      have hb2 := block_ne (j' := i1 * sz + j - i * sz) hi1 hj (by omega)
      omega
theorem src_zeros {O : Nat → Prop} {w : World} {z : Value} {a : AV} (he : eqV z a = true) (n : Nat) : SrcAt O w (fun k => (Builtin.zeroCells z.cells n)[k]?) z.cells.size (List.replicate n a) ∧ a.cells.length = z.cells.size ∧
    ((Builtin.zeroCells z.cells n).toList.all Value.oneCell' = true) := by
  have hcells : ∃ l, eqCs z.cells.toList l = true ∧ a.cells = l := by
    unfold eqV at he
    split at he
    · exact ⟨_, he, rfl⟩
    · obtain ⟨p1, p2, p3⟩ := eqS_rel (O := O) (w := w) he
      refine ⟨[a], ?_, ?_⟩
      · rw [cells_one p2]; simp [eqCs, he]
      · cases a <;> first | rfl | (simp [AV.isS] at p3; done)
  obtain ⟨l, hl, hal⟩ := hcells
  obtain ⟨q1, q2, q3, q4⟩ := eqCs_rel (O := O) (w := w) hl
  have hsz : a.cells.length = z.cells.size := by rw [hal, q1]; simp
  have hget : ∀ k, k < n * z.cells.size → (Builtin.zeroCells z.cells n)[k]? = some (z.cells[k % z.cells.size]!) := by
    intro k hk
    simp [Builtin.zeroCells, hk]
  refine ⟨?_, hsz, ?_⟩
  · intro i x hx
    have hi : i < n := by simpa using (List.getElem?_eq_some_iff.1 hx).1
    have hxa : x = a := by
      have := (List.getElem?_eq_some_iff.1 hx).2
      simpa using this.symm
    subst hxa
    refine ⟨hsz, fun j y hy => ?_⟩
    have hj : j < z.cells.size := by rw [← hsz]; exact (List.getElem?_eq_some_iff.1 hy).1
    have hlt : i * z.cells.size + j < n * z.cells.size := by
      have : (i + 1) * z.cells.size ≤ n * z.cells.size := Nat.mul_le_mul_right _ hi
      rw [Nat.add_mul] at this
      omega
    dsimp only
    rw [hget _ hlt]
    have hm : (i * z.cells.size + j) % z.cells.size = j := by rw [Nat.mul_comm, Nat.mul_add_mod, Nat.mod_eq_of_lt hj]
    rw [hm]
    have hzj : z.cells[j]! = z.cells[j] := by simp [hj]
    rw [hzj]
    refine ⟨_, rfl, q2 _ (by simp), q3 j y z.cells[j] (by rw [← hal]; exact hy) (by simp [hj])⟩
  · rw [List.all_eq_true]
    intro u hu
    obtain ⟨k, hk, rfl⟩ := List.getElem_of_mem hu
    have hk' : k < n * z.cells.size := by simpa [size_zeroCells] using hk
    have := hget k hk'
    rw [Array.getElem?_eq_getElem (by simpa using hk)] at this
    have e := Option.some.inj this
    have hpos : 0 < z.cells.size := by rcases Nat.eq_zero_or_pos z.cells.size with h0 | h0; · rw [h0] at hk'; omega
                                       · exact h0
    have hmod : k % z.cells.size < z.cells.size := Nat.mod_lt _ hpos
    simp only [Array.getElem_toList]
    rw [e, show z.cells[k % z.cells.size]! = z.cells[k % z.cells.size] by simp [hmod]]
    exact q2 _ (by simp)
theorem lst_of_src {O : Nat → Prop} {w : World} {blk o sz c : Nat} {es : List AV} (hsz : 0 < sz) (hO : ¬ O blk) (hb : blk < w.heap.size) (hs : SrcAt O w (fun k => w.cell? ⟨blk, o + k, none⟩) sz es) {full : Bool}
    (hf : full = true → c = es.length) (hc : es.length ≤ c) : PVR O w (.lst full es) (.slice (some ⟨blk, o, none⟩) es.length c) := by
  refine .lst full es _ c blk o sz (fun i j => (w.cell? ⟨blk, o + (i * sz + j), none⟩).getD Go.undef) hf hc (fun _ => ⟨rfl, hO, hb⟩) (fun i x hx => ⟨(hs i x hx).1, hsz⟩) ?_ ?_ ?_
  · intro i x hx j y hy
    obtain ⟨u, k1, _, _⟩ := (hs i x hx).2 j y hy
    dsimp only at k1
    rw [Nat.add_assoc, k1]; rfl
  · intro i x hx j y hy
    obtain ⟨u, k1, k2, _⟩ := (hs i x hx).2 j y hy
    dsimp only at k1
    simp only [k1, Option.getD_some]; exact k2
  · intro i x hx j y hy
    obtain ⟨u, k1, _, k3⟩ := (hs i x hx).2 j y hy
    dsimp only at k1
    simp only [k1, Option.getD_some]; exact k3
section
variable {P : Program} {Z : Nat → Prop} {β : Bds} {h : AH} {w : World}
theorem PVR.cells {O : Nat → Prop} {a : AV} {v : Value} (hv : PVR O w a v) (ha : a.isE = true) :
    ∃ vs : List Value, v.cells = vs.toArray ∧ a.cells.length = vs.length ∧ (∀ u ∈ vs, u.oneCell' = true) ∧ ∀ (j : Nat) (y : AV) (u : Value), a.cells[j]? = some y → vs[j]? = some u → PVR O w y u := by
  have hok : a.cells.all AV.isS = true := by
    by_cases hag : ∃ cs, a = .agg cs
    · obtain ⟨cs, rfl⟩ := hag; exact ha
    · have hc : a.cells = [a] := by cases a <;> first | rfl | (exact absurd ⟨_, rfl⟩ hag)
      rw [hc]
      cases a <;> first | rfl | (simp [AV.isE, AV.isS] at ha; done) | (exact absurd ⟨_, rfl⟩ hag)
  obtain ⟨vs, e1, e2, e3, e4⟩ := (VR.pure (β := fun _ _ => none) a v hv).cells (by
    rw [List.all_eq_true] at hok ⊢
    exact fun y hy => okc_of_isS (hok y hy))
  exact ⟨vs, e1, e2, e3, fun j y u hy hu => (e4 j y u hy hu).pureS (List.all_eq_true.1 hok y (List.mem_of_getElem? hy))⟩
def okSliceParts : List (Nat × Operand) → List (Nat × AO) → Bool
  | [], [] => true
  | (i, x) :: l, (j, y) :: l' => i == j && okO x y && okSliceParts l l'
  | _, _ => false
theorem bparts_rel {e : Env} {a : Act} {n : Nat} (sz : Nat) : ∀ (ps : List (Nat × Operand)) (qs : List (Nat × AO)) (es es' : List AV) (vs : List Value) {h h' : AH} (_ : Rel Z β h w) (_ : EnvR Z β h w e a n),
    okSliceParts ps qs = true → bparts e sz qs es h = some (es', h') → vs.length = es.length * sz → SrcAt (Own Z β h) w (fun k => vs[k]?) sz es → (∀ u ∈ vs, u.oneCell' = true) →
    ∃ vs' : List Value, Instr.fill (fun i => some (i * sz, sz)) vs.toArray (ps.map fun p => (p.1, a.eval p.2)) = some vs'.toArray ∧ vs'.length = es'.length * sz ∧ es'.length = es.length ∧ SrcAt (Own Z β h') w (fun k => vs'[k]?) sz es' ∧
      (∀ u ∈ vs', u.oneCell' = true) ∧ Rel Z β h' w ∧ Fr Z β h w β h' w
  | [], [], es, es', vs, h, h', R, _, _, hp, hl, hs, h1 => by
    simp only [bparts] at hp
    cases hp
    exact ⟨vs, by simp [Instr.fill], hl, rfl, hs, h1, R, Fr.refl _ _ _ _⟩
  | [], _ :: _, _, _, _, _, _, _, _, ho, _, _, _, _ => by simp [okSliceParts] at ho
  | _ :: _, [], _, _, _, _, _, _, _, ho, _, _, _, _ => by simp [okSliceParts] at ho
  | (i, x) :: ps, (j, y) :: qs, es, es', vs, h, h', R, E, ho, hp, hl, hs, h1 => by
    simp only [okSliceParts, Bool.and_eq_true, beq_iff_eq] at ho
    obtain ⟨⟨rfl, hoo⟩, ho⟩ := ho
    simp only [bparts, Option.bind_eq_some_iff] at hp
    obtain ⟨⟨x', h1'⟩, hp1, hp⟩ := hp
    obtain ⟨R1, F1, V1, S1⟩ := purE_rel R hp1 (okO_rel E hoo)
    dsimp only at hp
    split at hp
    · rename_i hcond
      obtain ⟨hlen, hi⟩ := hcond
      obtain ⟨us, e1, e2, e3, e4⟩ := (V1.pureE S1).cells S1
      have hplace : i * sz + sz ≤ vs.length := by
        have : (i + 1) * sz ≤ es.length * sz := Nat.mul_le_mul_right _ hi
        rw [Nat.add_mul] at this
        omega
      have hset := (hs.mono F1.stay).set hl hi hlen (e2.symm.trans hlen) e3 e4
      have hus : us.length = sz := e2.symm.trans hlen
      obtain ⟨vs', k1, k2, k3, k4, k5, k6, k7⟩ := bparts_rel sz ps qs (es.set i x') es' (over vs (i * sz) us) R1 (E.fr F1) ho hp
        (by rw [over_length _ _ _ (by omega)]; simpa using hl) hset (fun u hu => by
          unfold over at hu
          simp only [List.mem_append] at hu
          rcases hu with (hu | hu) | hu
          · exact h1 u (List.mem_of_mem_take hu)
          · exact e3 u hu
          · exact h1 u (List.mem_of_mem_drop hu))
      refine ⟨vs', ?_, k2, by simpa using k3, k4, k5, k6, F1.trans k7⟩
      simp only [List.map_cons]
      rw [fill_cons (fun i => some (i * sz, sz)) vs.toArray i (a.eval x) _ rfl (by rw [e1]; simp [hus]) (by simpa using hplace)]
      rw [e1]
      exact k1
    · cases hp
theorem bpartsP_bparts {e : Env} {sz : Nat} (h : AH) : ∀ (qs : List (Nat × AO)) (es es' : List AV), bpartsP e sz qs es = some es' → bparts e sz qs es h = some (es', h)
  | [], es, es', hp => by simp only [bpartsP] at hp; cases hp; rfl
  | (i, x) :: qs, es, es', hp => by
    simp only [bpartsP] at hp
    split at hp
    · rename_i hc
      simp only [bparts]
      have : purE h (x.get e) = some (x.get e, h) := by unfold purE; rw [if_pos hc.1]
      rw [this]
      simp only [Option.bind_some]
      rw [if_pos hc.2]
      exact bpartsP_bparts h qs _ es' hp
    · cases hp
def okBsl (P : Program) (t : TypeId) (len : Nat) (ps : Array (Nat × Operand)) (sz : Nat) (zero : AV) (len' : Nat) (qs : List (Nat × AO)) : Bool :=
  len == len' && decide (0 < sz) && decide (len * sz ≤ 16777216) && okSliceParts ps.toList qs && match P.underlying t with
  | some (.slice elem) => sizeIs P elem sz && zeroV P elem zero && zero.cells.length == sz
  | _ => false
theorem bsl_rel (R : Rel Z β h w) {e : Env} {a : Act} {n : Nat} (E : EnvR Z β h w e a n) {t : TypeId} {len : Nat} {ps : Array (Nat × Operand)} {sz : Nat} {zero : AV} {len' : Nat} {qs : List (Nat × AO)} (ho : okBsl P t len ps sz zero len' qs = true)
    {es : List AV} {h' : AH} (hp : bparts e sz qs (List.replicate len' zero) h = some (es, h')) : Makes P Z β h w (Instr.buildSlice t len (ps.map fun (i, x) => (i, a.eval x))) (.lst true es) h' := by
  unfold okBsl at ho
  simp only [Bool.and_eq_true, beq_iff_eq, decide_eq_true_eq] at ho
  obtain ⟨⟨⟨⟨rfl, hsz⟩, hbig⟩, hparts⟩, ho⟩ := ho
  have hmap : (ps.map fun (i, x) => (i, a.eval x)).toList = ps.toList.map fun p => (p.1, a.eval p.2) := by simp
  split at ho
  · rename_i elem hel
    simp only [Bool.and_eq_true, beq_iff_eq] at ho
    obtain ⟨⟨hs, hz⟩, hzl⟩ := ho
    obtain ⟨i, z, hi, hz, he⟩ := zeroV_inv hz
    obtain ⟨z1, z2, z3⟩ := src_zeros (O := Own Z β h) (w := w) he len
    have hzs : z.cells.size = sz := by omega
    rw [hzs] at z1
    have hc0 : len * sz = 0 → (Array.range (len * sz)).map (fun x => (#[] : Array Value)[x % (#[] : Array Value).size]!) = Builtin.zeroCells z.cells len := by
      intro h0; unfold Builtin.zeroCells; rw [hzs, h0]; simp
    have hc1 : (Array.range (len * sz)).map (fun x => z.cells[x % z.cells.size]!) = Builtin.zeroCells z.cells len := by
      unfold Builtin.zeroCells; rw [hzs]
    obtain ⟨vs', k1, k2, k3, k4, k5, k6, k7⟩ := bparts_rel sz ps.toList qs (List.replicate len zero) es (Builtin.zeroCells z.cells len).toList R E hparts hp (by simp [size_zeroCells, hzs]) (by simpa using z1)
      (fun u hu => List.all_eq_true.1 z3 u hu)
    simp at k3
    obtain ⟨G1, G2⟩ := k6.grown_alloc (.cells vs'.toArray elem)
    refine ⟨.slice (some ⟨w.heap.size, 0, none⟩) len len, w.alloc (.cells vs'.toArray elem), β, ?_, G1, k7.trans G2, ?_⟩
    · have hbig' : ¬ (len * sz > 2 ^ 24) := by omega
      simp only [Instr.buildSlice, Sem.run_bind, run_underlying hel, Result.andThen_ok, run_sizeOf' hs]
      rw [if_neg hbig']
      simp only [Array.toArray_toList] at k1
      by_cases h0 : len * sz = 0
      · rw [if_pos h0]
        simp only [Sem.run_bind, Sem.run_pure, Result.andThen_ok, hmap, hc0 h0]
        rw [k1]
        simp [newRow]
      · rw [if_neg h0]
        simp only [Sem.run_bind, Sem.run_pure, Result.andThen_ok, hmap, run_zeroValue' hi hz, hc1]
        rw [k1]
        simp [newRow]
    · have hlen : es.length = len := k3
      refine .pure _ _ ?_
      have hnew : (w.alloc (.cells vs'.toArray elem)).heap[w.heap.size]? = some (.cells vs'.toArray elem (0, 0)) := heap_alloc_new w _
      have hnO : ¬ Own Z β h' w.heap.size := by
        rintro (hz | ⟨j, hj⟩)
        · have := k6.xlt _ hz
          omega
        · have := k6.own_lt hj
          omega
      have := lst_of_src (O := Own Z β h') (w := w.alloc (.cells vs'.toArray elem)) (blk := w.heap.size) (o := 0) (c := len) (es := es) (full := true) hsz hnO (by simp)
        ((SrcAt.mono G2.stay k4).congr fun k hk => by
          rw [cell_of_row _ _ _ _ _ _ hnew]; simp) (fun _ => hlen.symm) (by omega)
      rw [hlen] at this
      exact this
  · cases ho
theorem bslo_rel (R : Rel Z β h w) {e : Env} {a : Act} {n : Nat} (E : EnvR Z β h w e a n) {t : TypeId} {len : Nat} {ps : Array (Nat × Operand)} {sz : Nat} {zero : AV} {len' : Nat} {qs : List (Nat × AO)} (ho : okBsl P t len ps sz zero len' qs = true)
    {es : List AV} {h' : AH} (hp : bparts e sz qs (List.replicate len' zero) h = some (es, h')) : Makes P Z β h w (Instr.buildSlice t len (ps.map fun (i, x) => (i, a.eval x))) (.own h'.length 0 0 es.length) (h' ++ [.row 0 sz es]) := by
  unfold okBsl at ho
  simp only [Bool.and_eq_true, beq_iff_eq, decide_eq_true_eq] at ho
  obtain ⟨⟨⟨⟨rfl, hsz⟩, hbig⟩, hparts⟩, ho⟩ := ho
  have hmap : (ps.map fun (i, x) => (i, a.eval x)).toList = ps.toList.map fun p => (p.1, a.eval p.2) := by simp
  split at ho
  · rename_i elem hel
    simp only [Bool.and_eq_true, beq_iff_eq] at ho
    obtain ⟨⟨hs, hz⟩, hzl⟩ := ho
    obtain ⟨i, z, hi, hz, he⟩ := zeroV_inv hz
    obtain ⟨z1, z2, z3⟩ := src_zeros (O := Own Z β h) (w := w) he len
    have hzs : z.cells.size = sz := by omega
    rw [hzs] at z1
    have hc0 : len * sz = 0 → (Array.range (len * sz)).map (fun x => (#[] : Array Value)[x % (#[] : Array Value).size]!) = Builtin.zeroCells z.cells len := by
      intro h0; unfold Builtin.zeroCells; rw [hzs, h0]; simp
    have hc1 : (Array.range (len * sz)).map (fun x => z.cells[x % z.cells.size]!) = Builtin.zeroCells z.cells len := by
      unfold Builtin.zeroCells; rw [hzs]
    obtain ⟨vs', k1, k2, k3, k4, k5, k6, k7⟩ := bparts_rel sz ps.toList qs (List.replicate len zero) es (Builtin.zeroCells z.cells len).toList R E hparts hp (by simp [size_zeroCells, hzs]) (by simpa using z1)
      (fun u hu => List.all_eq_true.1 z3 u hu)
    simp at k3
    have hlen : es.length = len := k3
    have hvl : vs'.length = es.length * sz := k2
    obtain ⟨β', q1, q2, q3⟩ := k6.push_row (w' := w.alloc (.cells vs'.toArray elem)) sz hsz es vs'.toArray elem rfl rfl rfl rfl (by rw [List.size_toArray, hvl]; exact Nat.le_refl _)
      (k4.congr fun k hk => by simp)
    have hv := q3 es.length es.length (Nat.le_refl _) (by rw [List.size_toArray, hvl]; exact Nat.le_refl _)
    refine ⟨_, w.alloc (.cells vs'.toArray elem), β', ?_, q1, k7.trans q2, hv⟩
    rw [hlen]
    have hbig' : ¬ (len * sz > 2 ^ 24) := by omega
    simp only [Instr.buildSlice, Sem.run_bind, run_underlying hel, Result.andThen_ok, run_sizeOf' hs]
    rw [if_neg hbig']
    simp only [Array.toArray_toList] at k1
    by_cases h0 : len * sz = 0
    · rw [if_pos h0]
      simp only [Sem.run_bind, Sem.run_pure, Result.andThen_ok, hmap, hc0 h0]
      rw [k1]
      simp [newRow]
    · rw [if_neg h0]
      simp only [Sem.run_bind, Sem.run_pure, Result.andThen_ok, hmap, run_zeroValue' hi hz, hc1]
      rw [k1]
      simp [newRow]
  · cases ho
def okMks (P : Program) (t : TypeId) (sz bytes : Nat) (zero : AV) : Bool :=
  decide (0 < sz) && match P.underlying t with
  | some (.slice elem) => sizeIs P elem sz && bytesIs P elem bytes && zeroV P elem zero && zero.cells.length == sz
  | _ => false
theorem nat?_inv {x : AV} {n : Nat} (hn : nat? x = some n) {v : Value} (hv : VR β (Own Z β h) w x v) : ∃ k i, v = .int k i ∧ 0 ≤ i ∧ i.toNat = n := by
  cases x with
  | int k i =>
    simp only [nat?] at hn
    split at hn
    · rename_i h0
      cases hn
      exact ⟨k, i, hv.int_inv, h0, rfl⟩
    · cases hn
  | _ => simp [nat?] at hn
theorem wrap_small {n : Int} (h1 : 0 ≤ n) (h2 : n ≤ 9223372036854775807) : IntKind.i64.wrap n = n := by
  have e : IntKind.i64.wrap n = if decide (n % 18446744073709551616 ≥ 9223372036854775808) = true then n % 18446744073709551616 - 18446744073709551616 else n % 18446744073709551616 := rfl
  rw [e, Int.emod_eq_of_lt h1 (by omega), if_neg (by simp; omega)]
theorem mks_rel (R : Rel Z β h w) {t : TypeId} {sz bytes : Nat} {zero : AV} (ho : okMks P t sz bytes zero = true) {l c : AV} {n m : Nat} (hl : nat? l = some n) (hc : nat? c = some m) (hnm : n ≤ m)
    (hb : m * bytes ≤ 140737488355328) (hm : m ≤ 140737488355328) {u v : Value} (hu : VR β (Own Z β h) w l u) (hv : VR β (Own Z β h) w c v) :
    Makes P Z β h w (Instr.makeSlice t u v) (.own h.length 0 0 n) (h ++ [.row 0 sz (List.replicate n zero)]) := by
  obtain ⟨k1, i1, rfl, p1, p2⟩ := nat?_inv hl hu
  obtain ⟨k2, i2, rfl, p3, p4⟩ := nat?_inv hc hv
  unfold okMks at ho
  simp only [Bool.and_eq_true, decide_eq_true_eq] at ho
  obtain ⟨hsz, ho⟩ := ho
  split at ho
  · rename_i elem hel
    simp only [Bool.and_eq_true, beq_iff_eq] at ho
    obtain ⟨⟨⟨hs, hby⟩, hz⟩, hzl⟩ := ho
    obtain ⟨i, z, hi, hz, he⟩ := zeroV_inv hz
    have hby' : i.bytes = bytes := by simpa [bytesIs, hi] using hby
    obtain ⟨z1, z2, z3⟩ := src_zeros (O := Own Z β h) (w := w) he n
    obtain ⟨y1, y2, y3⟩ := src_zeros (O := Own Z β h) (w := w) he m
    have hzs : z.cells.size = sz := by omega
    have hsizeM : (Builtin.zeroCells z.cells m).size = m * sz := by rw [size_zeroCells, hzs]
    have w1 : IntKind.i64.wrap i1 = i1 := wrap_small p1 (by omega)
    have w2 : IntKind.i64.wrap i2 = i2 := wrap_small p3 (by omega)
    have hc0 : m * sz = 0 → (Array.range (m * sz)).map (fun x => (#[] : Array Value)[x % (#[] : Array Value).size]!) = Builtin.zeroCells z.cells m := by
      intro h0; unfold Builtin.zeroCells; rw [hzs, h0]; simp
    have hc1 : (Array.range (m * sz)).map (fun x => z.cells[x % z.cells.size]!) = Builtin.zeroCells z.cells m := by
      unfold Builtin.zeroCells; rw [hzs]
    obtain ⟨β', q1, q2, q3⟩ := R.push_row (w' := w.alloc (.cells (Builtin.zeroCells z.cells m) elem)) sz hsz (List.replicate n zero) (Builtin.zeroCells z.cells m) elem rfl rfl rfl rfl
      (by rw [hsizeM]; simp; exact Nat.mul_le_mul_right _ hnm) (by
        have : List.replicate n zero = (List.replicate m zero).take n := by simp [List.take_replicate]; omega
        rw [this]
        rw [hzs] at y1
        exact (SrcAt.take y1 n).congr fun k _ => by simp)
    refine ⟨.slice (some ⟨w.heap.size, 0, none⟩) n m, _, β', ?_, q1, q2, q3 n m hnm (by rw [hsizeM]; exact Nat.le_refl _)⟩
    have t1 : ¬ ((i.bytes : Int) * i2 > 2 ^ 48) := by
      rw [hby', ← Int.toNat_of_nonneg p3, p4]
      have : ((bytes : Int) * (m : Int)) = ((m * bytes : Nat) : Int) := by rw [Nat.mul_comm]; rfl
      rw [this]; omega
    have t2 : ¬ i2 < 0 := by omega
    have t3 : ¬ i1 < 0 := by omega
    have t4 : ¬ i1 > i2 := by omega
    have tl : (decide (i2 < 0) || decide ((i.bytes : Int) * i2 > 2 ^ 48) || decide (i1 < 0) || decide (i1 > i2)) = false := by
      simp only [t1, t2, t3, t4, decide_false, Bool.or_false]
    have e1 : (asInt (.int k1 i1)).run P w = .ok i1 w := rfl
    have e2 : (asInt (.int k2 i2)).run P w = .ok i2 w := rfl
    simp only [Instr.makeSlice, Sem.run_bind, run_underlying hel, Result.andThen_ok, e1, e2, typeInfo, run_program, hi, Sem.run_pure, w1, w2]
    rw [if_neg (by rw [tl]; simp)]
    simp only [Sem.run_bind, Result.andThen_ok, run_askRoom, p4, run_sizeOf' hs, p2]
    by_cases h0 : m * sz = 0
    · rw [if_pos h0]
      simp only [Sem.run_bind, Sem.run_pure, Result.andThen_ok, hc0 h0]
      simp [newRow]
    · rw [if_neg h0]
      simp only [Sem.run_bind, Sem.run_pure, Result.andThen_ok, run_zeroValue' hi hz, hc1]
      simp [newRow]
  · cases ho
end
end Go.Am

/-
 The abstract machine: conversions, cuts, addresses, lengths.
-/
namespace Go.Am
section
variable {P : Program} {Z : Nat → Prop} {β : Bds} {h : AH} {w : World}
theorem conv_rel (R : Rel Z β h w) {s d : TypeId} {k : IntKind} (hs : (P.underlying s).isSome = true) (hd : P.underlying d = some (.int k)) {kk : IntKind} {n : Int} {v : Value} (hv : VR β (Own Z β h) w (.int kk n) v) :
  Makes P Z β h w (convert s d v) (.int k (k.wrap n)) h := by
 have := hv.int_inv; subst this
 obtain ⟨ds, hs⟩ := Option.isSome_iff_exists.1 hs
 refine Makes.of R (v := .int k (k.wrap n)) ?_ (.of_int _ _)
 simp only [convert, Sem.run_bind, run_underlying hs, run_underlying hd, Result.andThen_ok]
 cases ds <;> rfl
theorem cstr_rel (R : Rel Z β h w) {s d : TypeId} (hs : P.underlying s = some .string) (hd : P.underlying d = some .string) {l : List UInt8} {v : Value} (hv : VR β (Own Z β h) w (.str l) v) :
  Makes P Z β h w (convert s d v) (.str l) h := by
 obtain ⟨b, rfl, e⟩ := hv.str_inv
 refine Makes.of R (v := .string b) ?_ (.of_str e)
 simp only [convert, Sem.run_bind, run_underlying hs, run_underlying hd, Result.andThen_ok, Sem.run_pure]
theorem toBytes_inv : ∀ {es : List AV} {s : List UInt8}, toBytes es = some s → ∃ ns : List Int, es = ns.map (AV.int .u8) ∧ s = ns.map fun n => UInt8.ofNat n.toNat
 | [], s, hb => by simp only [toBytes] at hb; cases hb; exact ⟨[], rfl, rfl⟩
 | a :: es, s, hb => by
  cases a with
  | int k n =>
   cases k <;> simp only [toBytes] at hb <;> try (cases hb; done)
   simp only [Option.bind_eq_some_iff] at hb
   obtain ⟨r, hr, hb⟩ := hb
   cases hb
   obtain ⟨ns, e1, e2⟩ := toBytes_inv hr
   exact ⟨n :: ns, by simp [e1], by simp [e2]⟩
  | _ => simp [toBytes] at hb
theorem foldl_push : ∀ (ns : List Int) (b : ByteArray), (ns.foldl (fun r n => r.push (UInt8.ofNat n.toNat)) b).data.toList = b.data.toList ++ ns.map fun n => UInt8.ofNat n.toNat
 | [], b => by simp
 | n :: ns, b => by
  simp only [List.foldl_cons]
  rw [foldl_push ns]
  simp [ByteArray.push]
theorem bts_rel (R : Rel Z β h w) {s d e : TypeId} (hs : P.underlying s = some (.slice e)) (he : P.underlying e = some (.int .u8)) (hd : P.underlying d = some .string) {x : AV} {es : List AV} {l : List UInt8}
  (hx : elems h x = some es) (hl : toBytes es = some l) {v : Value} (hv : VR β (Own Z β h) w x v) : Makes P Z β h w (convert s d v) (.str l) h := by
 obtain ⟨ad, c, rfl, hc, hne⟩ := elems_rel R hx hv
 obtain ⟨ns, rfl, rfl⟩ := toBytes_inv hl
 have hr := run_convert_bytes_string (P := P) w s d e ad (ns.map (AV.int .u8)).length c hs he hd
 by_cases h0 : ns = []
 ·subst h0
  refine Makes.of R (v := .string ByteArray.empty) ?_ (.of_str rfl)
  rw [hr]
  cases ad with
  | none => rfl
  | some a =>
   rw [run_bytesToString w a _ c [] (by simp [loadCells, loadCellsFrom])]
   rfl
 ·obtain ⟨blk, o, sz, hsz, rfl, hsrc⟩ := hne (by simpa using h0)
  have hszk : szOk 1 (ns.map (AV.int .u8)) = true := by simp [szOk, AV.cells]
  have hsrc1 := hsrc.szOk hszk
  have hcell : ∀ (j : Nat) (u : Value), (ns.map (Value.int .u8))[j]? = some u → w.cell? ((⟨blk, o, none⟩ : Addr).add j) = some u := by
   intro j u hu
   rw [addr_add]
   simp at hu
   obtain ⟨n, hn, rfl⟩ := hu
   obtain ⟨_, q⟩ := hsrc1 j (.int .u8 n) (by simp [hn])
   obtain ⟨u', q1, q2, q3⟩ := q 0 (.int .u8 n) rfl
   cases q3
   simpa using q1
  have hload := run_loadCells_list (P := P) w ⟨blk, o, none⟩ (ns.map (Value.int .u8)) hcell
  refine Makes.of R (v := .string (ns.foldl (fun r n => r.push (UInt8.ofNat n.toNat)) ByteArray.empty)) ?_ (.of_str ?_)
  ·rw [hr]
   have : (ns.map (AV.int .u8)).length = (ns.map (Value.int .u8)).length := by simp
   rw [this]
   exact run_bytesToString w _ _ c ns hload
  ·rw [foldl_push]; simp
/-! #### Cuts -/
theorem run_bound {y : AO} {e : Env} {a : Act} {n k : Nat} {x : Operand} (E : EnvR Z β h w e a n) (ho : okO x y = true) (hk : nat? (y.get e) = some k) (top : Nat) (hle : k ≤ top) (code : BoundsCode) (w' : World) :
  (Instr.sliceBound (a.eval x) top code).run P w' = .ok k w' := by
 obtain ⟨kk, i, e1, e2, e3⟩ := nat?_inv hk (okO_rel E ho)
 rw [e1, run_sliceBound w' kk i top code e2 (by omega), e3]
def okOpt : Option Operand → Option AO → Bool
 | none, none => true
 | some x, some y => okO x y
 | _, _ => false
theorem bounds_rel {e : Env} {a : Act} {n : Nat} (E : EnvR Z β h w e a n) {lo hi : Option Operand} {lo' hi' : Option AO} (h1 : okOpt lo lo' = true) (h2 : okOpt hi hi' = true) {len cap x y : Nat} (hlo : optNat 0 e lo' = some x) (hhi : optNat len e hi' = some y)
  (hxy : x ≤ y) (hyc : y ≤ cap) (isSlice : Bool) (w' : World) : (Instr.sliceBounds isSlice len cap (lo.map a.eval) (hi.map a.eval) none).run P w' = .ok (x, y, cap) w' := by
 have key : ∀ b : Sem Nat, b.run P w' = .ok y w' → ∀ c : Nat → Sem Nat, (c y).run P w' = .ok x w' → True := fun _ _ _ _ => trivial
 have hH : ∀ code, (match hi.map a.eval with | some v => Instr.sliceBound v cap code | none => pure len : Sem Nat).run P w' = .ok y w' := by
  intro code
  cases hi with
  | none =>
   cases hi' with
   | none => simp only [optNat] at hhi; cases hhi; rfl
   | some _ => simp [okOpt] at h2
  | some p =>
   cases hi' with
   | none => simp [okOpt] at h2
   | some q => exact run_bound E h2 hhi cap hyc code w'
 have hL : ∀ code, (match lo.map a.eval with | some v => Instr.sliceBound v y code | none => pure 0 : Sem Nat).run P w' = .ok x w' := by
  intro code
  cases lo with
  | none =>
   cases lo' with
   | none => simp only [optNat] at hlo; cases hlo; rfl
   | some _ => simp [okOpt] at h1
  | some p =>
   cases lo' with
   | none => simp [okOpt] at h1
   | some q => exact run_bound E h1 hlo y hxy code w'
 unfold Instr.sliceBounds
 cases hi with
 | none =>
  have e1 := hH .sliceB
  simp only [Option.map_none, Sem.run_pure, Result.ok.injEq, and_true] at e1
  subst e1
  cases lo with
  | none => have e2 := hL .sliceB; simp only [Option.map_none, Sem.run_pure, Result.ok.injEq, and_true] at e2; subst e2; simp
  | some p => have e2 := hL .sliceB; simp only [Option.map_some] at e2; simp [e2]
 | some q =>
  have e1 := hH (if isSlice then .sliceAcap else .sliceAlen)
  simp only [Option.map_some] at e1
  cases lo with
  | none => have e2 := hL .sliceB; simp only [Option.map_none, Sem.run_pure, Result.ok.injEq, and_true] at e2; subst e2; simp [e1]
  | some p => have e2 := hL .sliceB; simp only [Option.map_some] at e2; simp [e1, e2]
theorem bounds_rel3 {e : Env} {a : Act} {n : Nat} (E : EnvR Z β h w e a n) {lo hi : Option Operand} {mx : Operand} {lo' hi' : Option AO} {mx' : AO} (h1 : okOpt lo lo' = true) (h2 : okOpt hi hi' = true) (h3 : okO mx mx' = true) {len cap x y m : Nat} (hhs : hi.isSome = true)
  (hlo : optNat 0 e lo' = some x) (hhi : optNat len e hi' = some y) (hm : nat? (mx'.get e) = some m) (hxy : x ≤ y) (hym : y ≤ m) (hmc : m ≤ cap) (isSlice : Bool) (w' : World) :
  (Instr.sliceBounds isSlice len cap (lo.map a.eval) (hi.map a.eval) (some (a.eval mx))).run P w' = .ok (x, y, m) w' := by
 unfold Instr.sliceBounds
 cases hi with
 | none => cases hhs
 | some q =>
  cases hi' with
  | none => simp [okOpt] at h2
  | some q' =>
   have e0 := run_bound (P := P) E h3 hm cap hmc (if isSlice then .slice3Acap else .slice3Alen) w'
   have e1 := run_bound (P := P) E h2 hhi m hym .slice3B w'
   cases lo with
   | none =>
    cases lo' with
    | none => simp only [optNat] at hlo; cases hlo; simp [e0, e1]
    | some _ => simp [okOpt] at h1
   | some p =>
    cases lo' with
    | none => simp [okOpt] at h1
    | some p' =>
     have e2 := run_bound (P := P) E h1 hlo y hxy .slice3C w'
     simp [e0, e1, e2]
theorem sls_rel (R : Rel Z β h w) {e : Env} {a : Act} {n : Nat} (E : EnvR Z β h w e a n) {t : TypeId} (ht : P.underlying t = some .string) {lo hi : Option Operand} {lo' hi' : Option AO} (h1 : okOpt lo lo' = true) (h2 : okOpt hi hi' = true)
  {s : List UInt8} {x y : Nat} (hlo : optNat 0 e lo' = some x) (hhi : optNat s.length e hi' = some y) (hxy : x ≤ y) (hys : y ≤ s.length) {v : Value} (hv : VR β (Own Z β h) w (.str s) v) :
  Makes P Z β h w (Instr.sliceAt t v (lo.map a.eval) (hi.map a.eval) none) (.str ((s.take y).drop x)) h := by
 obtain ⟨b, rfl, hb⟩ := hv.str_inv
 have hsz : b.size = s.length := by rw [← hb]; rfl
 refine Makes.of R (v := .string (b.extract x y)) ?_ (.of_str ?_)
 ·have hbd := bounds_rel (P := P) E h1 h2 (len := b.size) (cap := b.size) hlo (by rw [hsz]; exact hhi) hxy (by omega) false w
  simp only [Instr.sliceAt, Instr.slice, Sem.run_bind, run_underlying ht, Result.andThen_ok, hbd, Sem.run_pure, Option.isSome_none, Bool.false_eq_true, if_false]
 ·rw [ByteArray.data_extract, Array.toList_extract, hb, List.extract_eq_take_drop, List.take_drop]
  congr 1; congr 1; omega
theorem sll_rel {e : Env} {a : Act} {n : Nat} (E : EnvR Z β h w e a n) {t elem : TypeId} (ht : P.underlying t = some (.slice elem)) {sz : Nat} (hsz : sizeIs P elem sz = true) {lo hi mx : Option Operand} {lo' hi' mx' : Option AO}
  (h1 : okOpt lo lo' = true) (h2 : okOpt hi hi' = true) (h3 : okOpt mx mx' = true) (hmx : mx.isSome = true → hi.isSome = true)
  {len x y m : Nat} {ad : Option Addr} {cap : Nat} (hlo : optNat 0 e lo' = some x) (hhi : optNat len e hi' = some y) (hm : optNat cap e mx' = some m) (hxy : x ≤ y) (hym : y ≤ m) (hmc : m ≤ cap) :
  (Instr.sliceAt t (.slice ad len cap) (lo.map a.eval) (hi.map a.eval) (mx.map a.eval)).run P w = .ok (.slice (if m = x then ad else ad.map (·.add (x * sz))) (y - x) (m - x)) w := by
 have hbd : (Instr.sliceBounds true len cap (lo.map a.eval) (hi.map a.eval) (mx.map a.eval)).run P w = .ok (x, y, m) w := by
  cases mx with
  | none =>
   cases mx' with
   | none =>
    simp only [optNat] at hm; cases hm
    exact bounds_rel (P := P) E h1 h2 hlo hhi hxy hym true w
   | some _ => simp [okOpt] at h3
  | some p =>
   cases mx' with
   | none => simp [okOpt] at h3
   | some p' => exact bounds_rel3 (P := P) E h1 h2 h3 (hmx rfl) hlo hhi hm hxy hym hmc true w
 simp only [Instr.sliceAt, Instr.slice, Sem.run_bind, run_underlying ht, Result.andThen_ok, hbd, run_sizeOf' hsz, Sem.run_pure]
theorem lst_cut {O : Nat → Prop} {full : Bool} {es : List AV} {ad : Option Addr} {c sz : Nat} (hv : PVR O w (.lst full es) (.slice ad es.length c)) (hszk : szOk sz es = true) (hsz0 : 0 < sz) {x y m : Nat} (hxy : x ≤ y) (hym : y ≤ m) (hy : y ≤ es.length) {full' : Bool}
  (hf : full' = true → m = y) : PVR O w (.lst full' ((es.take y).drop x)) (.slice (if m = x then ad else ad.map (·.add (x * sz))) (y - x) (m - x)) := by
 have hlen : ((es.take y).drop x).length = y - x := by simp; omega
 by_cases h0 : (es.take y).drop x = []
 ·rw [h0] at hlen ⊢
  rw [← hlen]
  simp at hlen
  refine .lst full' [] _ (m - x) 0 0 0 (fun _ _ => .bool true) (fun hft => ?_) (by simp) (by simp) (by simp) (by simp) (by simp) (by simp)
  have := hf hft
  simp; omega
 ·have hx : x < y := by
   rcases Nat.lt_or_ge x y with h' | h'
   ·exact h'
   ·exact absurd (List.eq_nil_of_length_eq_zero (by omega)) h0
  have hne : es ≠ [] := by rintro rfl; simp at h0
  generalize hce : es.length = ce at hv
  cases hv with
  | lst _ _ ad' c' blk o sz' f hf' hc' ha hs q1 q3 q2 =>
   have hszz : sz' = sz := by
    obtain ⟨z, l, hzl⟩ := List.exists_cons_of_ne_nil hne
    have e1 := (hs 0 z (by rw [hzl]; rfl)).1
    rw [hzl] at hszk
    simp only [szOk, List.all_cons, Bool.and_eq_true, beq_iff_eq] at hszk
    omega
   subst hszz
   obtain ⟨rfl, hO, hb⟩ := ha hne
   rw [if_neg (by omega), ← hlen]
   simp only [Option.map_some, addr_add]
   refine lst_of_src hsz0 hO hb ?_ (fun hft => ?_) (by omega)
   ·have hsrc : SrcAt O w (fun k => w.cell? ⟨blk, o + k, none⟩) sz' es := fun i z hz => ⟨(hs i z hz).1, fun j yy hyy => ⟨f i j, by have := q1 i z hz j yy hyy; rw [Nat.add_assoc] at this; exact this, q3 i z hz j yy hyy, q2 i z hz j yy hyy⟩⟩
    refine ((hsrc.take y).drop x).congr fun k _ => ?_
    rw [Nat.add_assoc]
   ·have := hf hft; omega
/-! #### Addresses -/
theorem fad_ptr {t : TypeId} {fs : Array Field} {k off : Nat} {f : Field} (ht : P.underlying t = some (.struct fs)) (hf : fs[k]? = some f) (hoff : f.offset = off) (hsz : ∃ i, P.info? f.type = some i ∧ i.size ≠ 0) (b o : Nat) (w : World) :
  (Instr.fieldAt t (.pointer (some ⟨b, o, none⟩)) k).run P w = .ok (.pointer (some ⟨b, o + off, none⟩)) w := by
 obtain ⟨i, hi, h0⟩ := hsz
 simp only [Instr.fieldAt, Sem.run_bind, run_underlying ht, Result.andThen_ok, hf, Instr.sureAddr, Sem.run_pure, fieldPlace, sizeOf, typeInfo, run_program, hi]
 rw [if_neg h0]
 simp [hoff, addr_add]
theorem shape_part {O : Nat → Prop} {sz off : Nat} {agg : Bool} {cs : List AV} {av : AV} (hs : shape sz agg (cs.drop off) = some av) {t : TypeId} (hsz : sizeIs P t sz = true) (hag : aggIs P t agg = true) {vs : List Value} (hl : cs.length = vs.length)
  (h1 : ∀ u ∈ vs, u.oneCell' = true) (h2 : ∀ (j : Nat) (y : AV) (u : Value), cs[j]? = some y → vs[j]? = some u → VR β O w y u) : ∃ v, (part t vs.toArray off).run P w = .ok v w ∧ VR β O w av v := by
 unfold shape at hs
 split at hs
 ·cases hs
 ·rename_i hlen
  simp at hlen
  split at hs
  ·rename_i hagg
   subst hagg
   cases hs
   refine ⟨.agg (vs.toArray.extract off (off + sz)), by simp [part, run_isAgg hag, run_sizeOf' hsz], ?_⟩
   have : vs.toArray.extract off (off + sz) = ((vs.drop off).take sz).toArray := by
    apply Array.ext'
    simp [List.extract_eq_take_drop]
   rw [this]
   refine .agg _ _ (by simp; omega) (fun u hu => h1 u (List.mem_of_mem_drop (List.mem_of_mem_take hu))) fun j y u hy hu => ?_
   rw [List.getElem?_take] at hy hu
   split at hy
   ·rename_i hj
    rw [if_pos hj] at hu
    rw [List.getElem?_drop] at hy hu
    exact h2 _ y u hy hu
   ·cases hy
  ·rename_i hagg
   have hagg' : agg = false := by simpa using hagg
   subst hagg'
   split at hs
   ·rename_i hsz1
    have hoff : off < vs.length := by omega
    refine ⟨vs[off], by simp [part, run_isAgg hag, hoff], h2 off av _ ?_ (by simp [hoff])⟩
    rw [List.head?_eq_getElem?, List.getElem?_drop] at hs
    simpa using hs
   ·cases hs
end
end Go.Am

/-
  The abstract machine: append and copy.
-/
namespace Go.Am
section
variable {P : Program} {Z : Nat → Prop} {β : Bds} {h : AH} {w : World}
theorem rowSz_inv (R : Rel Z β h w) {b v sz : Nat} (hr : rowSz h b v = some sz) {bd : Bd} (hb : β b v = some bd) : bd.sz = sz ∧ 0 < sz := by
  unfold rowSz at hr
  split at hr
  · rename_i v' sz' es hes
    split at hr
    · rename_i hv; subst hv; cases hr
      obtain ⟨h0, bd', e1, e2, _⟩ := R.blk b _ hes
      rw [hb] at e1; cases e1
      exact ⟨e2, h0⟩
    · cases hr
  · rename_i v' sz' es hes
    split at hr
    · rename_i hv; subst hv; cases hr
      obtain ⟨h0, bd', e1, e2, _⟩ := R.blk b _ hes
      rw [hb] at e1; cases e1
      exact ⟨e2, h0⟩
    · cases hr
  · cases hr
def Brings (P : Program) (w : World) (argTypes : Array TypeId) (x : Value) (size n : Nat) (news : List Value) : Prop :=
  (∃ u d, argTypes[1]? = some u ∧ P.underlying u = some d ∧ (match d with | .int _ => False | _ => True) ∧ (Builtin.lenOf x).run P w = .ok n w ∧
    (∀ w' : World, w'.heap = w.heap → (Builtin.firstCells size n x).run P w' = .ok news.toArray w')) ∨
  (∃ u k kk i, argTypes[1]? = some u ∧ P.underlying u = some (.int k) ∧ x = .int kk i ∧ 0 ≤ i ∧ i.toNat = n ∧ i ≤ 140737488355328)
theorem run_append (t ty e : TypeId) (i : TypeInfo) (z : Value) (ht : P.underlying t = some (.slice e)) (hi : P.info? e = some i) (hz : i.zero = some z) (hzs : z.cells.size = i.size)
    (argTypes : Array TypeId) (hat : argTypes[0]? = some t) (ad : Option Addr) (sLen sCap : Nat) (x : Value) (n : Nat) (news olds : List Value) (hbr : Brings P w argTypes x i.size n news)
    (hnews : (∃ u d, argTypes[1]? = some u ∧ P.underlying u = some d ∧ (match d with | .int _ => False | _ => True)) ∨ news = (Builtin.zeroCells z.cells n).toList)
    (hold : ∀ w' : World, w'.heap = w.heap → (Builtin.firstCells i.size sLen (.slice ad sLen sCap)).run P w' = .ok olds.toArray w')
    (h63 : sLen + n ≤ 140737488355328) (hbytes : (sLen + n) * i.bytes ≤ 140737488355328) :
    (sLen + n ≤ sCap → (Builtin.append_ argTypes ty #[.slice ad sLen sCap, x]).run P w = ((match ad with | some a => storeCells (a.add (sLen * i.size)) news | none => pure () : Sem Unit).run P w).andThen fun _ w' => .ok (.slice ad (sLen + n) sCap) w') ∧
    (¬ sLen + n ≤ sCap → (Builtin.append_ argTypes ty #[.slice ad sLen sCap, x]).run P w = .ok (.slice (some ⟨w.heap.size, 0, none⟩) (sLen + n) (grownCap w (sLen + n) sCap e))
        (w.drew.alloc (.cells (olds.toArray ++ news.toArray ++ Builtin.zeroCells z.cells (grownCap w (sLen + n) sCap e - (sLen + n))) e))) := by
  have hdraw : ∀ x : World, x.drew.heap = x.heap := fun _ => rfl
  have h48 : ¬ (sLen + n ≤ sCap) → ¬ (Builtin.nextslicecap (sLen + n) sCap * i.bytes > 2 ^ 48) := by
    intro hg
    have := growslice_fits (need := sLen + n) (old := sCap) (by omega) hbytes
    omega
  have h63' : ¬ (((sLen + n : Nat) : Int) > IntKind.i64.max) := by
    have : IntKind.i64.max = 9223372036854775807 := by rfl
    rw [this]; omega
  have hfin : ∀ (q : Question), q = .appendCap (sLen + n) sCap e → q.forced = false := by rintro _ rfl; rfl
  rcases hbr with ⟨u, d, hu, hd, hdi, hlen, hfc⟩ | ⟨u, k, kk, ii, hu, hd, rfl, h0, hin, hsmall⟩
  · constructor
    · intro hfit
      have hf := hfc w rfl
      cases d <;> first
        | exact hdi.elim
        | (simp only [Builtin.append_, hat, List.getElem?_toArray, List.getElem?_cons_zero, List.getElem?_cons_succ, Sem.run_bind, run_underlying ht, Result.andThen_ok, sizeOf, typeInfo, run_program, hi, Sem.run_pure, hu, run_underlying hd,
            Bool.false_eq_true, if_false, hlen, Bool.not_false, if_true, hfit, hf]
           cases ad <;> simp)
    · intro hfit
      have hf := hfc { w with drawn := w.drawn + 1 } rfl
      have ho := hold { w with drawn := w.drawn + 1 } rfl
      have hc := hfin _ rfl
      have h4 := h48 hfit
      cases d <;> first
        | exact hdi.elim
        | (simp only [Builtin.append_, hat, List.getElem?_toArray, List.getElem?_cons_zero, List.getElem?_cons_succ, Sem.run_bind, run_underlying ht, Result.andThen_ok, sizeOf, typeInfo, run_program, hi, Sem.run_pure, hu, run_underlying hd,
            Bool.false_eq_true, if_false, hlen, Bool.not_false, if_true, hfit, h63', false_and, h4, run_choose, hc, run_askRoom, ho, hf, run_zeroValue' hi hz, newRow, run_newObj]
           simp [grownCap]; rfl)
  · have hnews' : news = (Builtin.zeroCells z.cells n).toList := by
      rcases hnews with ⟨u', d', e1, e2, e3⟩ | hnews
      · rw [hu] at e1; cases e1
        rw [hd] at e2; cases e2
        exact e3.elim
      · exact hnews
    subst hnews'
    have hw : IntKind.i64.wrap ii = ii := wrap_small h0 (by omega)
    have hneg : ¬ ii < 0 := by omega
    have hi48 : ¬ (ii * (i.bytes : Int) > 2 ^ 48) := by
      have e1 : ii = (n : Int) := by omega
      rw [e1]
      have e2 : (n * i.bytes : Nat) ≤ (sLen + n) * i.bytes := Nat.mul_le_mul_right _ (by omega)
      have e3 : ((n : Int) * (i.bytes : Int)) = ((n * i.bytes : Nat) : Int) := by simp
      rw [e3]; omega
    have e1 : ∀ w', (asInt (.int kk ii)).run P w' = .ok ii w' := fun _ => rfl
    have happ : ∀ w' : World, ((if n * i.size = 0 then pure #[] else do pure (Builtin.zeroCells (← zeroValue e).cells n)) : Sem (Array Value)).run P w' = .ok (Builtin.zeroCells z.cells n) w' := by
      intro w'
      by_cases hz0 : n * i.size = 0
      · have : Builtin.zeroCells z.cells n = #[] := by
          apply Array.eq_empty_of_size_eq_zero
          rw [size_zeroCells, hzs]; exact hz0
        simp [hz0, this]
      · simp [hz0, run_zeroValue' hi hz]
    constructor
    · intro hfit
      simp only [Builtin.append_, hat, List.getElem?_toArray, List.getElem?_cons_zero, List.getElem?_cons_succ, Sem.run_bind, run_underlying ht, Result.andThen_ok, sizeOf, typeInfo, run_program, hi, Sem.run_pure, hu, run_underlying hd,
        if_true, e1, hw, hneg, if_false, hi48, hin, Bool.not_true, Bool.false_eq_true, hfit, happ]
      cases ad with
      | none => simp
      | some a => simp
    · intro hfit
      simp only [Builtin.append_, hat, List.getElem?_toArray, List.getElem?_cons_zero, List.getElem?_cons_succ, Sem.run_bind, run_underlying ht, Result.andThen_ok, sizeOf, typeInfo, run_program, hi, Sem.run_pure, hu, run_underlying hd,
        if_true, e1, hw, hneg, if_false, hi48, hin, Bool.not_true, Bool.false_eq_true, hfit]
      simp only [h63', false_and, if_false, Sem.run_bind, Sem.run_pure, Result.andThen_ok, run_program, hi, h48 hfit, run_choose, hfin _ rfl, Bool.false_eq_true, run_askRoom, hold { w with drawn := w.drawn + 1 } rfl, happ,
        run_zeroValue' hi hz, newRow, run_newObj]
      simp [grownCap]; rfl
theorem run_first {O : Nat → Prop} {ad : Option Addr} {n c sz : Nat} {es : List AV} (hlen : es.length = n) (hsrc : es ≠ [] → ∃ blk o, ad = some ⟨blk, o, none⟩ ∧ SrcAt O w (fun k => w.cell? ⟨blk, o + k, none⟩) sz es) :
    ∃ olds : List Value, olds.length = n * sz ∧ (∀ u ∈ olds, u.oneCell' = true) ∧ SrcAt O w (fun k => olds[k]?) sz es ∧ ∀ w' : World, w'.heap = w.heap → (Builtin.firstCells sz n (.slice ad n c)).run P w' = .ok olds.toArray w' := by
  by_cases h0 : es = []
  · subst h0
    simp at hlen
    subst hlen
    refine ⟨[], by simp, by simp, .nil, fun w' _ => ?_⟩
    cases ad <;> simp [Builtin.firstCells, loadCells, loadCellsFrom]
  · obtain ⟨blk, o, rfl, hs⟩ := hsrc h0
    obtain ⟨vs, l1, l2, l3, l4⟩ := hs.list
    refine ⟨vs, by rw [l1, hlen], l3, l4, fun w' hw' => ?_⟩
    exact run_firstCells_some w' sz n ⟨blk, o, none⟩ n c vs (by rw [l1, hlen]) (fun j u hu => by
      rw [addr_add]
      have := l2 j u hu
      simpa [World.cell?, hw'] using this)
theorem SrcAt.app {O : Nat → Prop} {vs us : List Value} {sz : Nat} {es es' : List AV} (h1 : SrcAt O w (fun k => vs[k]?) sz es) (hl : vs.length = es.length * sz) (h2 : SrcAt O w (fun k => us[k]?) sz es') : SrcAt O w (fun k => (vs ++ us)[k]?) sz (es ++ es') := by
  have hl2 : ∀ {us' : List Value}, SrcAt O w (fun k => us'[k]?) sz es' → True := fun _ => trivial
  refine SrcAt.append (h1.congr fun k hk => ?_) (h2.congr fun k _ => ?_)
  · rw [List.getElem?_append_left (by omega)]
  · rw [List.getElem?_append_right (by omega), hl]
    congr 1; omega
theorem append_rel (R : Rel Z β h w) {t ty e : TypeId} {sz bytes : Nat} (ht : P.underlying t = some (.slice e)) {i : TypeInfo} {z : Value} (hi : P.info? e = some i) (hz : i.zero = some z) (hzs : z.cells.size = i.size) (hsz : i.size = sz) (hby : i.bytes = bytes) (hsz0 : 0 < sz)
    {argTypes : Array TypeId} (hat : argTypes[0]? = some t) {s av : AV} {newsA : List AV} {h' : AH} (hap : append h sz bytes s newsA = some (av, h')) {v x : Value} (hv : VR β (Own Z β h) w s v) {news : List Value}
    (hbr : Brings P w argTypes x sz newsA.length news) (hnews : (∃ u d, argTypes[1]? = some u ∧ P.underlying u = some d ∧ (match d with | .int _ => False | _ => True)) ∨ news = (Builtin.zeroCells z.cells newsA.length).toList)
    (hnl : news.length = newsA.length * sz) (hns : SrcAt (Own Z β h) w (fun k => news[k]?) sz newsA) (hn1 : ∀ u ∈ news, u.oneCell' = true) : Makes P Z β h w (Builtin.append_ argTypes ty #[v, x]) av h' := by
  cases s with
  | lst full es =>
    cases full with
    | false => simp [append] at hap
    | true =>
      simp only [append] at hap
      split at hap
      · rename_i hcond
        obtain ⟨hne, hszk, hszk2, hb, h63⟩ := hcond
        cases hap
        obtain ⟨ad, c, rfl, hc, hsrc⟩ := elems_rel R (a := .lst true es) rfl hv
        have hfull : c = es.length := by
          generalize hce : es.length = ce at hv
          cases hv.lst_inv with
          | lst _ _ _ _ _ _ _ _ hf => have := hf rfl; omega
        subst hfull
        obtain ⟨olds, o1, o2, o3, o4⟩ := run_first (P := P) (O := Own Z β h) (w := w) (ad := ad) (c := es.length) (sz := sz) (es := es) rfl (fun hne' => by
          obtain ⟨blk, o, sz', _, e1, e2⟩ := hsrc hne'
          exact ⟨blk, o, e1, e2.szOk hszk⟩)
        obtain ⟨r1, r2⟩ := run_append (P := P) (w := w) t ty e i z ht hi hz hzs argTypes hat ad es.length es.length x newsA.length news olds (by rw [hsz]; exact hbr) hnews (by rw [hsz]; exact o4) h63 (by rw [hby]; exact hb)
        by_cases hfit : es.length + newsA.length ≤ es.length
        · have hn0 : newsA = [] := List.eq_nil_of_length_eq_zero (by omega)
          subst hn0
          have hes : es = [] := by
            rcases hne with h0 | h0
            · exact h0
            · exact absurd rfl h0
          subst hes
          have hnews0 : news = [] := List.eq_nil_of_length_eq_zero (by simpa using hnl)
          subst hnews0
          obtain ⟨β', k1, k2, k3⟩ := R.push_none sz hsz0
          refine ⟨.slice ad 0 0, w, β', ?_, by simpa using k1, by simpa using k2, by simpa using k3 ad⟩
          have := r1 hfit
          simp only [List.length_nil, Nat.add_zero] at this
          simp only [List.length_nil]
          rw [this]
          cases ad <;> simp [storeCells]
        · have hr := r2 hfit
          have hge := grownCap_ge w (es.length + newsA.length) es.length e
          have hsize : (olds.toArray ++ news.toArray ++ Builtin.zeroCells z.cells (grownCap w (es.length + newsA.length) es.length e - (es.length + newsA.length))).size = grownCap w (es.length + newsA.length) es.length e * sz := by
            simp only [Array.size_append, List.size_toArray, size_zeroCells, hzs, hsz, o1, hnl, ← Nat.add_mul]
            congr 1; omega
          obtain ⟨β', k1, k2, k3⟩ := R.push_row (w' := w.drew.alloc (.cells (olds.toArray ++ news.toArray ++ Builtin.zeroCells z.cells (grownCap w (es.length + newsA.length) es.length e - (es.length + newsA.length))) e)) sz hsz0 (es ++ newsA) _ e rfl rfl rfl rfl
            (by rw [hsize]; simp only [List.length_append]; exact Nat.mul_le_mul_right _ hge)
            ((o3.app o1 hns).congr fun k hk => by
              have hlt : k < (olds ++ news).length := by simp only [List.length_append, o1, hnl, ← Nat.add_mul] at hk ⊢; exact hk
              have e2 : olds.toArray ++ news.toArray = (olds ++ news).toArray := by simp
              rw [e2, Nat.zero_add, Array.getElem?_append_left (by simpa using hlt)]
              simp)
          exact ⟨_, _, β', hr, k1, k2, k3 _ _ hge (by rw [hsize]; exact Nat.le_refl _)⟩
      · cases hap
  | own b vv o n =>
    simp only [append] at hap
    split at hap
    · rename_i v' sz' es hes
      split at hap
      · rename_i hcond
        obtain ⟨rfl, rfl, hszk2, hon, hb, h63⟩ := hcond
        cases hap
        obtain ⟨bd, ad, c, hbd, rfl, h2⟩ := hv.own_inv
        obtain ⟨_, bd', q1, q2, q3⟩ := R.blk b _ hes
        rw [hbd] at q1; cases q1
        obtain ⟨ad', c', e1, hc, hsrc⟩ := elems_rel R (a := .own b vv o n) (es := (es.drop o).take n) (by simp [elems, hes, hon]) hv
        have hlen : ((es.drop o).take n).length = n := by simp; omega
        rw [hlen] at e1
        cases e1
        obtain ⟨olds, o1, o2, o3, o4⟩ := run_first (P := P) (O := Own Z β h) (w := w) (ad := ad) (c := c) (sz := sz') (es := (es.drop o).take n) hlen (fun hne' => by
          obtain ⟨blk, oo, sz2, _, e1, e2⟩ := hsrc hne'
          rcases h2 with ⟨_, h2⟩ | ⟨cb, p1, p2, _, _⟩
          · subst h2; simp at hne'
          · rcases q3 with ⟨q3, _⟩ | ⟨c2, cur, elem, g1, g2, g3, g4, g5⟩
            · rw [p1] at q3; cases q3
            · rw [p1] at g1; cases g1
              rw [q2] at p2
              exact ⟨cb, _, p2, row_src g2 g5⟩)
        obtain ⟨r1, r2⟩ := run_append (P := P) (w := w) t ty e i z ht hi hz hzs argTypes hat ad n c x newsA.length news olds (by rw [hsz]; exact hbr) hnews (by rw [hsz]; exact o4) h63 (by rw [hby]; exact hb)
        by_cases hfit : n + newsA.length ≤ c
        · have hr := r1 hfit
          rcases h2 with ⟨hc0, hn0⟩ | ⟨cb, p1, p2, p3, p4⟩
          · subst hc0 hn0
            have hnA : newsA = [] := List.eq_nil_of_length_eq_zero (by omega)
            subst hnA
            have hnews0 : news = [] := List.eq_nil_of_length_eq_zero (by simpa using hnl)
            subst hnews0
            obtain ⟨β', k1, k2, k3⟩ := R.append_none hes
            refine ⟨.slice ad 0 0, w, β', ?_, by simpa using k1, by simpa using k2, by simpa using k3 ad⟩
            rw [hr]
            cases ad <;> simp [storeCells]
          · rcases q3 with ⟨q3, _⟩ | ⟨c2, cur, elem, g1, g2, g3, g4, g5⟩
            · rw [p1] at q3; cases q3
            rw [p1] at g1; cases g1
            subst q2
            subst p2
            have hroom : bd.base + o * bd.sz + c * bd.sz ≤ cur.size := by rw [g3]; rw [Nat.add_mul] at p4; omega
            have hroom2 : (n + newsA.length) * bd.sz ≤ c * bd.sz := Nat.mul_le_mul_right _ hfit
            have hnl' : news.length = newsA.length * bd.sz := hnl
            rw [Nat.add_mul] at hroom2
            have hover : bd.base + o * bd.sz + n * bd.sz + news.length ≤ cur.toList.length := by simp; omega
            have hcur : SrcAt (Own Z β h) w (fun k => (over cur.toList (bd.base + o * bd.sz + n * bd.sz) news)[bd.base + o * bd.sz + k]?) bd.sz ((es.drop o).take n ++ newsA) := by
              refine SrcAt.append (((SrcAt.drop g5 o).take n).congr fun k hk => ?_) (hns.congr fun k hk => ?_)
              · rw [hlen] at hk
                rw [over_get _ _ _ hover, if_neg (by omega)]
                simp only [Array.getElem?_toList]
                congr 1; omega
              · rw [over_get _ _ _ hover, hlen, if_pos (by omega)]
                congr 1; omega
            obtain ⟨β', k1, k2, k3⟩ := R.append_there hes hbd p1 g2 (over cur.toList (bd.base + o * bd.sz + n * bd.sz) news) (by rw [over_length _ _ _ hover]; simp) o (es' := (es.drop o).take n ++ newsA)
              (by simp only [List.length_append, hlen, Nat.add_mul]; omega) (hcur.congr fun k _ => by simp)
            refine ⟨_, _, β', ?_, k1, k2, k3 (n + newsA.length) c hfit hroom⟩
            rw [hr]
            have hst := run_storeCells_at P cb (bd.base + o * bd.sz + n * bd.sz) elem news 0 cur w g2 (by simpa using hover) hn1
            simp only [Nat.add_zero] at hst
            simp only [addr_add, hsz]
            rw [hst]
            rfl
        · have hr := r2 hfit
          have hge := grownCap_ge w (n + newsA.length) c e
          have hsize : (olds.toArray ++ news.toArray ++ Builtin.zeroCells z.cells (grownCap w (n + newsA.length) c e - (n + newsA.length))).size = grownCap w (n + newsA.length) c e * sz' := by
            simp only [Array.size_append, List.size_toArray, size_zeroCells, hzs, hsz, o1, hnl, ← Nat.add_mul]
            congr 1; omega
          obtain ⟨β', k1, k2, k3⟩ := R.append_new (w' := w.drew.alloc (.cells (olds.toArray ++ news.toArray ++ Builtin.zeroCells z.cells (grownCap w (n + newsA.length) c e - (n + newsA.length))) e)) (cur := olds.toArray ++ news.toArray ++ Builtin.zeroCells z.cells (grownCap w (n + newsA.length) c e - (n + newsA.length))) (elem := e) hes (es' := (es.drop o).take n ++ newsA) rfl rfl rfl rfl
            (by rw [hsize]; simp only [List.length_append, hlen]; exact Nat.mul_le_mul_right _ hge)
            ((o3.app (by rw [o1, hlen]) hns).congr fun k hk => by
              have hlt : k < (olds ++ news).length := by simp only [List.length_append, o1, hnl, hlen, ← Nat.add_mul] at hk ⊢; exact hk
              have e2 : olds.toArray ++ news.toArray = (olds ++ news).toArray := by simp
              rw [e2, Nat.zero_add, Array.getElem?_append_left (by simpa using hlt)]
              simp)
          exact ⟨_, _, β', hr, k1, k2, k3 _ _ hge (by rw [hsize]; exact Nat.le_refl _)⟩
      · cases hap
    · cases hap
  | _ => simp [append] at hap
end
end Go.Am

/-
 The abstract machine: copy; which operation of the program an abstract one is; that it makes what the program's makes.
-/
namespace Go.Am
section
variable {P : Program} {Z : Nat → Prop} {β : Bds} {h : AH} {w : World}
theorem over_nil {α : Type} (l : List α) (o : Nat) : over l o [] = l := by simp [over]
theorem SrcAt.over {O : Nat → Prop} {vs us : List Value} {base sz : Nat} {es es' : List AV} {o : Nat} (h1 : SrcAt O w (fun k => vs[base + k]?) sz es) (h2 : SrcAt O w (fun k => us[k]?) sz es') (hu : us.length = es'.length * sz) (ho : o + es'.length ≤ es.length)
  (hl : base + es.length * sz ≤ vs.length) : SrcAt O w (fun k => (Am.over vs (base + o * sz) us)[base + k]?) sz (Am.over es o es') := by
 have hle : (o + es'.length) * sz ≤ es.length * sz := Nat.mul_le_mul_right _ ho
 rw [Nat.add_mul] at hle
 have hover : base + o * sz + us.length ≤ vs.length := by omega
 have e0 : Am.over es o es' = es.take o ++ (es' ++ es.drop (o + es'.length)) := by simp [Am.over]
 rw [e0]
 have hto : (es.take o).length = o := by simp; omega
 refine SrcAt.append ((h1.take o).congr fun k hk => ?_) (SrcAt.append (h2.congr fun k hk => ?_) ((SrcAt.drop h1 (o + es'.length)).congr fun k hk => ?_))
 ·rw [hto] at hk
  rw [over_get _ _ _ hover, if_neg (by omega)]
 ·rw [hto, over_get _ _ _ hover, if_pos (by omega)]
  congr 1; omega
 ·rw [hto, over_get _ _ _ hover, if_neg (by omega), Nat.add_mul]
  congr 1; omega
theorem copy_rel (R : Rel Z β h w) {dT elem ty : TypeId} {argTypes : Array TypeId} (hat : argTypes[0]? = some dT) (hd : P.underlying dT = some (.slice elem)) {sz : Nat} (hsz : sizeIs P elem sz = true) {x : AV} {src : List AV} (hs : elems h x = some src) {u v : Value} (hu : VR β (Own Z β h) w x u)
  {b vv o n vv' sz' : Nat} {es : List AV} (hv : VR β (Own Z β h) w (.own b vv o n) v) (hes : h[b]? = some (.row vv' sz' es)) (hvv : vv = vv') (hszs : sz' = sz) (hok : szOk sz src = true) (hon : o + n ≤ es.length) :
  Makes P Z β h w (Builtin.copy_ argTypes ty #[v, u]) (.int .i64 (min src.length n : Nat)) (h.set b (.row vv' sz' (Am.over es o (src.take n)))) := by
 subst hvv hszs
 obtain ⟨ad, c, rfl, hc, hsrc⟩ := elems_rel R hs hu
 obtain ⟨bd, ad', c', hbd, rfl, h2⟩ := hv.own_inv
 obtain ⟨hsz0, bd', q1, q2, q3⟩ := R.blk b _ hes
 rw [hbd] at q1; cases q1
 have hm : (src.take n).length = min src.length n := by simp [Nat.min_comm]
 obtain ⟨news, o1, o2, o3, o4⟩ := run_first (P := P) (O := Own Z β h) (w := w) (ad := ad) (c := c) (sz := sz') (es := src.take n) hm (fun hne => by
  have hne' : src ≠ [] := by rintro rfl; simp at hne
  obtain ⟨blk, oo, sz2, _, e1, e2⟩ := hsrc hne'
  exact ⟨blk, oo, e1, (e2.szOk hok).take n⟩)
 have hf : (Builtin.firstCells sz' (min src.length n) (.slice ad src.length c)).run P w = .ok news.toArray w := by
  have := o4 w rfl
  cases ad <;> simpa [Builtin.firstCells] using this
 have hrun : (Builtin.copy_ argTypes ty #[.slice ad' n c', .slice ad src.length c]).run P w = ((match ad' with | some a => storeCells a news | none => pure () : Sem Unit).run P w).andThen fun _ w' => .ok (goInt (min src.length n : Nat)) w' := by
  simp only [Builtin.copy_, hat, List.getElem?_toArray, List.getElem?_cons_zero, List.getElem?_cons_succ, Sem.run_bind, run_underlying hd, Result.andThen_ok, run_sizeOf' hsz, Builtin.lenOf, Sem.run_pure]
  have e1 : Nat.min src.length n = min src.length n := rfl
  rw [e1, hf]
  cases ad' <;> simp
 by_cases hm0 : min src.length n = 0
 ·have hnil : src.take n = [] := List.eq_nil_of_length_eq_zero (by omega)
  have hnews0 : news = [] := List.eq_nil_of_length_eq_zero (by rw [o1, hm0]; simp)
  subst hnews0
  rw [hnil, over_nil]
  have hset : h.set b (.row vv sz' es) = h := by
   apply List.ext_getElem?
   intro k
   by_cases hk : k = b
   ·subst hk; rw [List.getElem?_set_self (List.getElem?_eq_some_iff.1 hes).1, hes]
   ·rw [List.getElem?_set_ne (Ne.symm hk)]
  rw [hset]
  refine Makes.of R (v := goInt (min src.length n : Nat)) ?_ (.of_int _ _)
  rw [hrun]
  cases ad' <;> simp [storeCells]
 ·rcases h2 with ⟨_, hn0⟩ | ⟨cb, p1, p2, p3, p4⟩
  ·omega
  ·rcases q3 with ⟨q3, _⟩ | ⟨c2, cur, elem', g1, g2, g3, g4, g5⟩
   ·rw [p1] at q3; cases q3
   rw [p1] at g1; cases g1
   subst q2 p2
   have hle : (o + min src.length n) * bd.sz ≤ es.length * bd.sz := Nat.mul_le_mul_right _ (by omega)
   rw [Nat.add_mul] at hle
   have hover : bd.base + o * bd.sz + news.length ≤ cur.toList.length := by simp; omega
   have hsa := SrcAt.over (vs := cur.toList) (base := bd.base) (o := o) (es' := src.take n) (SrcAt.congr g5 fun k _ => by simp) o3 (by rw [o1, hm]) (by rw [hm]; omega) (by simp; omega)
   obtain ⟨W1, W2⟩ := R.write_row hes hbd p1 g2 (Am.over cur.toList (bd.base + o * bd.sz) news) (by rw [over_length _ _ _ hover]; simp) (es' := Am.over es o (src.take n)) (by rw [over_length _ _ _ (by rw [hm]; omega)]) (SrcAt.congr hsa fun k _ => by simp)
   refine ⟨goInt (min src.length n : Nat), _, β, ?_, W1, W2, .of_int _ _⟩
   rw [hrun]
   have hst := run_storeCells_at P cb (bd.base + o * bd.sz) elem' news 0 cur w g2 (by simpa using hover) o2
   simp only [Nat.add_zero] at hst
   dsimp only
   rw [hst]
   rfl
theorem clr_rel (R : Rel Z β h w) {t elem ty : TypeId} (hd : P.underlying t = some (.slice elem)) {sz : Nat} (hsz : sizeIs P elem sz = true) {zero : AV} {i : TypeInfo} {z : Value} (hi : P.info? elem = some i) (hzi : i.zero = some z) (hzs0 : z.cells.size = i.size) (hev : eqV z zero = true)
  {b vv o n vv' sz' : Nat} {es : List AV} {v : Value} (hv : VR β (Own Z β h) w (.own b vv o n) v) (hes : h[b]? = some (.row vv' sz' es)) (hvv : vv = vv') (hszs : sz' = sz) (hon : o + n ≤ es.length) :
  Makes P Z β h w (Builtin.clear_ #[t] ty #[v]) (.tup []) (h.set b (.row vv' sz' (Am.over es o (List.replicate n zero)))) := by
 subst hvv hszs
 obtain ⟨bd, ad', c', hbd, rfl, h2⟩ := hv.own_inv
 obtain ⟨hsz0, bd', q1, q2, q3⟩ := R.blk b _ hes
 rw [hbd] at q1; cases q1
 have hisz : i.size = sz' := by
  unfold sizeIs at hsz
  rw [hi] at hsz
  simpa using hsz
 obtain ⟨z1, z2, z3⟩ := src_zeros (O := Own Z β h) (w := w) hev n
 have htup : VR β (Own Z β h) w (.tup []) (.tuple #[]) := .tup [] [] rfl (fun j y u hy => by simp at hy)
 by_cases hn0 : n = 0
 ·subst hn0
  have hset : h.set b (.row vv sz' es) = h := by
   apply List.ext_getElem?
   intro k
   by_cases hk : k = b
   ·subst hk; rw [List.getElem?_set_self (List.getElem?_eq_some_iff.1 hes).1, hes]
   ·rw [List.getElem?_set_ne (Ne.symm hk)]
  rw [List.replicate_zero, over_nil, hset]
  refine Makes.of R (v := .tuple #[]) ?_ htup
  cases ad' <;> simp [Builtin.clear_, run_underlying hd]
 ·rcases h2 with ⟨_, h2⟩ | ⟨cb, p1, p2, p3, p4⟩
  ·omega
  ·rcases q3 with ⟨q3, _⟩ | ⟨c2, cur, elem', g1, g2, g3, g4, g5⟩
   ·rw [p1] at q3; cases q3
   rw [p1] at g1; cases g1
   subst q2 p2
   have hle : (o + n) * bd.sz ≤ es.length * bd.sz := Nat.mul_le_mul_right _ (by omega)
   rw [Nat.add_mul] at hle
   obtain ⟨news, hnews⟩ : ∃ news, news = (Builtin.zeroCells z.cells n).toList := ⟨_, rfl⟩
   have hzs : z.cells.size = bd.sz := by rw [hzs0, hisz]
   ·have o1 : news.length = n * bd.sz := by rw [hnews]; simp [size_zeroCells, hzs]
    have hover : bd.base + o * bd.sz + news.length ≤ cur.toList.length := by simp; omega
    have z1' : SrcAt (Own Z β h) w (fun k => news[k]?) bd.sz (List.replicate n zero) := by
     rw [hzs] at z1
     exact z1.congr fun k _ => by rw [hnews]; simp
    have hsa := SrcAt.over (vs := cur.toList) (base := bd.base) (o := o) (es' := List.replicate n zero) (SrcAt.congr g5 fun k _ => by simp) z1' (by rw [o1]; simp) (by simp; omega) (by simp; omega)
    obtain ⟨W1, W2⟩ := R.write_row hes hbd p1 g2 (Am.over cur.toList (bd.base + o * bd.sz) news) (by rw [over_length _ _ _ hover]; simp) (es' := Am.over es o (List.replicate n zero)) (by rw [over_length _ _ _ (by simp; omega)]) (SrcAt.congr hsa fun k _ => by simp)
    refine ⟨.tuple #[], _, β, ?_, W1, W2, .tup [] [] rfl (fun j y u hy => by simp at hy)⟩
    have hst := run_storeCells_at P cb (bd.base + o * bd.sz) elem' news 0 cur w g2 (by simpa using hover) (fun u hu => List.all_eq_true.1 z3 u (hnews ▸ hu))
    simp only [Nat.add_zero] at hst
    obtain ⟨n', rfl⟩ : ∃ n', n = n' + 1 := ⟨n - 1, by omega⟩
    simp only [Builtin.clear_, List.getElem?_toArray, List.getElem?_cons_zero, Sem.run_bind, run_underlying hd, Result.andThen_ok, run_zeroValue' hi hzi, ← hnews, hst, Sem.run_pure]
    rfl
theorem clr_rel0 (R : Rel Z β h w) {t elem ty : TypeId} (hd : P.underlying t = some (.slice elem)) {v : Value} {full : Bool} (hv : VR β (Own Z β h) w (.lst full []) v) : Makes P Z β h w (Builtin.clear_ #[t] ty #[v]) (.tup []) h := by
 have hp := hv.lst_inv
 generalize hes : ([] : List AV) = es at hp
 cases hp with
 | lst _ _ a c blk o sz f hf hc ha hs h1 h3 h2 =>
  subst hes
  refine Makes.of R (v := .tuple #[]) ?_ (.tup [] [] rfl (fun j y u hy => by simp at hy))
  cases a <;> simp [Builtin.clear_, run_underlying hd]
theorem copy_rel0 (R : Rel Z β h w) {dT elem ty : TypeId} {argTypes : Array TypeId} (hat : argTypes[0]? = some dT) (hd : P.underlying dT = some (.slice elem)) {sz : Nat} (hsz : sizeIs P elem sz = true) {x : AV} {src : List AV} (hs : elems h x = some src) {u v : Value} (hu : VR β (Own Z β h) w x u)
  {full : Bool} (hv : VR β (Own Z β h) w (.lst full []) v) : Makes P Z β h w (Builtin.copy_ argTypes ty #[v, u]) (.int .i64 0) h := by
 obtain ⟨ad, c, rfl, hc, hsrc⟩ := elems_rel R hs hu
 obtain ⟨ad', c', rfl, hc', _⟩ := elems_rel R (a := .lst full []) rfl hv
 refine Makes.of R (v := goInt 0) ?_ (.of_int _ _)
 have hf : (Builtin.firstCells sz 0 (.slice ad src.length c)).run P w = .ok #[] w := by
  cases ad <;> simp [Builtin.firstCells, loadCells, loadCellsFrom]
 simp only [Builtin.copy_, hat, List.getElem?_toArray, List.getElem?_cons_zero, List.getElem?_cons_succ, Sem.run_bind, run_underlying hd, Result.andThen_ok, run_sizeOf' hsz, Builtin.lenOf, Sem.run_pure]
 have e1 : Nat.min src.length ([] : List AV).length = 0 := by simp
 rw [e1, hf]
 cases ad' <;> simp [storeCells]
theorem mm2_rel {isMax : Bool} {x y av : AV} (hx : mm2 isMax x y = some av) {u v : Value} (hu : VR β (Own Z β h) w x u) (hv : VR β (Own Z β h) w y v) :
  ∃ q, ((if isMax then Builtin.max2 u v else Builtin.min2 u v) : Sem Value).run P w = .ok q w ∧ VR β (Own Z β h) w av q := by
 cases x <;> cases y <;> simp only [mm2] at hx <;> try (cases hx; done)
 cases hx
 rw [hu.int_inv, hv.int_inv]
 refine ⟨_, ?_, .of_int _ _⟩
 cases isMax <;> simp [Builtin.max2, Builtin.min2]
theorem mm_rel {isMax : Bool} : ∀ (xs : List AV) (us : List Value) {x av : AV} {u : Value}, mmAll isMax x xs = some av → VR β (Own Z β h) w x u → xs.length = us.length → (∀ (j : Nat) (y : AV) (q : Value), xs[j]? = some y → us[j]? = some q → VR β (Own Z β h) w y q) →
  ∃ q, (us.foldlM (if isMax then Builtin.max2 else Builtin.min2) u : Sem Value).run P w = .ok q w ∧ VR β (Own Z β h) w av q
 | [], us, x, av, u, hx, hu, hl, _ => by
  have : us = [] := List.eq_nil_of_length_eq_zero (by simpa using hl.symm)
  subst this
  simp only [mmAll] at hx; cases hx
  exact ⟨u, by simp, hu⟩
 | y :: xs, us, x, av, u, hx, hu, hl, hall => by
  cases us with
  | nil => simp at hl
  | cons q us =>
   simp only [mmAll, Option.bind_eq_some_iff] at hx
   obtain ⟨z, hz, hx⟩ := hx
   obtain ⟨p, p1, p2⟩ := mm2_rel (P := P) hz hu (hall 0 y q rfl rfl)
   obtain ⟨r, r1, r2⟩ := mm_rel xs us hx p2 (by simpa using hl) (fun j y q h1 h2 => hall (j + 1) y q (by simpa using h1) (by simpa using h2))
   refine ⟨r, ?_, r2⟩
   rw [List.foldlM_cons]
   simp only [Sem.run_bind]
   have : ((if isMax then Builtin.max2 else Builtin.min2) u q : Sem Value).run P w = .ok p w := by
    cases isMax <;> simpa using p1
   rw [this]
   exact r1
def okArgs : List Operand → List AO → Bool
 | [], [] => true
 | x :: l, y :: l' => okO x y && okArgs l l'
 | _, _ => false
theorem getAll_rel {e : Env} {a : Act} {n : Nat} (E : EnvR Z β h w e a n) : ∀ {xs : List Operand} {ys : List AO}, okArgs xs ys = true → (getAll e ys).length = (xs.map a.eval).length ∧ ∀ (j : Nat) (y : AV) (u : Value), (getAll e ys)[j]? = some y → (xs.map a.eval)[j]? = some u → VR β (Own Z β h) w y u
 | [], [], _ => ⟨rfl, by simp [getAll]⟩
 | x :: xs, y :: ys, ho => by
  simp only [okArgs, Bool.and_eq_true] at ho
  obtain ⟨h1, h2⟩ := ho
  obtain ⟨q1, q2⟩ := getAll_rel E h2
  refine ⟨by simp [getAll, q1], fun j y' u hy hu => ?_⟩
  cases j with
  | zero => simp [getAll] at hy hu; subst hy hu; exact okO_rel E h1
  | succ j => exact q2 j y' u (by simpa [getAll] using hy) (by simpa using hu)
 | [], _ :: _, ho => by simp [okArgs] at ho
 | _ :: _, [], ho => by simp [okArgs] at ho
end
end Go.Am

/-
 The abstract machine: maps from numbers.
-/
namespace Go.Am
open Go.Instr
section
variable {P : Program} {Z : Nat → Prop} {β : Bds} {h : AH} {w : World}
def EntR (β : Bds) (O : Nat → Prop) (w : World) (l : List MapEntry) (es : List (Int × AV)) : Prop :=
 ∀ (j : Nat) (p : Int × AV), es[j]? = some p → ∃ e : MapEntry, l[j]? = some e ∧ e.key = .int .i64 p.1 ∧ e.val.oneCell' = true ∧ VR β O w p.2 e.val
theorem EntR.tail {O : Nat → Prop} {e : MapEntry} {l : List MapEntry} {p : Int × AV} {es : List (Int × AV)} (h : EntR β O w (e :: l) (p :: es)) : EntR β O w l es := fun j q hq => by
 have := h (j + 1) q (by simpa using hq)
 simpa using this
theorem find_rel {O : Nat → Prop} (n : Int) : ∀ (l : List MapEntry) (es : List (Int × AV)) (i : Nat), l.length = es.length → EntR β O w l es →
  (findNow (.int .i64) (.int .i64 n) l i = some none ∧ (∀ zero, lookM es n zero = zero) ∧ ∀ v, putM es n v = es ++ [(n, v)]) ∨
  ∃ (j : Nat) (e : MapEntry) (p : Int × AV), es[j]? = some p ∧ l[j]? = some e ∧ p.1 = n ∧ findNow (.int .i64) (.int .i64 n) l i = some (some (i + j, e.val)) ∧ (∀ zero, lookM es n zero = p.2) ∧ ∀ v, putM es n v = es.set j (n, v)
 | [], [], i, _, _ => .inl ⟨rfl, fun _ => rfl, fun _ => rfl⟩
 | e :: l, p :: es, i, hl, hr => by
  obtain ⟨e', h1, h2, h3, h4⟩ := hr 0 p rfl
  simp only [List.getElem?_cons_zero, Option.some.injEq] at h1
  subst h1
  have hs : sameNow (.int .i64) (.int .i64 n) e.key = some (n == p.1) := by
   rw [h2]
   simp [sameNow]
  by_cases hn : p.1 = n
  ·refine .inr ⟨0, e, p, rfl, rfl, hn, ?_, fun zero => ?_, fun v => ?_⟩
   ·simp [findNow, hs, hn]
   ·simp [lookM, hn]
   ·simp [putM, hn]
  ·have hs' : (n == p.1) = false := by simpa using fun e => hn e.symm
   rw [hs'] at hs
   have hf : findNow (.int .i64) (.int .i64 n) (e :: l) i = findNow (.int .i64) (.int .i64 n) l (i + 1) := by
    simp [findNow, hs]
   have hk : ∀ zero, lookM (p :: es) n zero = lookM es n zero := fun zero => by simp [lookM, hn]
   have hp : ∀ v, putM (p :: es) n v = p :: putM es n v := fun v => by simp [putM, hn]
   rcases find_rel n l es (i + 1) (by simpa using hl) hr.tail with ⟨a1, a2, a3⟩ | ⟨j, e', q, a1, a2, a3, a4, a5, a6⟩
   ·exact .inl ⟨hf.trans a1, fun zero => (hk zero).trans (a2 zero), fun v => by rw [hp, a3]; rfl⟩
   ·exact .inr ⟨j + 1, e', q, by simpa using a1, by simpa using a2, a3, by rw [hf, a4]; congr 3; omega, fun zero => (hk zero).trans (a5 zero), fun v => by rw [hp, a6]; rfl⟩
 | [], _ :: _, _, hl, _ => by simp at hl
 | _ :: _, [], _, hl, _ => by simp at hl
theorem mapAt_inv {a : AV} {b : Nat} {es : List (Int × AV)} (hm : mapAt h a = some (b, es)) : a = .mpv b ∧ h[b]? = some (.mp es) := by
 unfold mapAt at hm
 split at hm
 ·split at hm
  ·rename_i hb
   cases hm
   exact ⟨rfl, hb⟩
  ·cases hm
 ·cases hm
theorem keyM_inv {a : AV} {n : Int} (hk : keyM a = some n) : a = .int .i64 n := by
 unfold keyM at hk
 split at hk
 ·split at hk
  ·rename_i he; cases hk; rw [he]
  ·cases hk
 ·cases hk
theorem map_blk (R : Rel Z β h w) {b : Nat} {es : List (Int × AV)} (hb : h[b]? = some (.mp es)) {v : Value} (hv : VR β (Own Z β h) w (.mpv b) v) :
  ∃ c arr clock, v = .map (some c) ∧ β b 0 = some ⟨some c, 0, 0, 0⟩ ∧ w.heap[c]? = some (.map arr clock) ∧ arr.size = es.length ∧ EntR β (Own Z β h) w arr.toList es := by
 obtain ⟨bd, c, h1, h2, rfl⟩ := hv.mpv_inv
 obtain ⟨c', arr, clock, e1, e2, e3, e4⟩ := R.blk b _ hb
 rw [h1] at e1
 cases e1
 cases h2
 refine ⟨c, arr, clock, rfl, h1, e2, e3, fun j p hp => ?_⟩
 obtain ⟨e, g1, g2⟩ := e4 j p hp
 exact ⟨e, by simpa using g1, g2⟩
theorem mkm_rel (R : Rel Z β h w) (t : TypeId) : Makes P Z β h w (Instr.makeMap t none) (.mpv h.length) (h ++ [.mp []]) := by
 have key := R.push (X := .mp []) (bd := ⟨some w.heap.size, 0, 0, 0⟩) (w' := w.alloc (.map #[] 0)) rfl rfl rfl rfl (by simp) (by simp) (by simp)
  (fun b hb => heap_alloc_old w _ b hb) (fun hst => ⟨w.heap.size, #[], 0, by simp, heap_alloc_new w _, rfl, fun j p hp => by simp at hp⟩)
 obtain ⟨k1, k2⟩ := key
 refine ⟨.map (some w.heap.size), w.alloc (.map #[] 0), _, ?_, k1, k2, .mpv h.length ⟨some w.heap.size, 0, 0, 0⟩ w.heap.size (by simp) rfl⟩
 rfl
theorem isKey_i64 (n : Int) : MapKept.IsKey (.int .i64) (.int .i64 n) := by simp [MapKept.IsKey]
theorem mget_rel (R : Rel Z β h w) {t kt et : TypeId} (ht : P.underlying t = some (.map kt et)) (hk : P.underlying kt = some (.int .i64)) {zero : AV} (hz : zeroV P et zero = true) {b : Nat} {es : List (Int × AV)} (hb : h[b]? = some (.mp es)) {n : Int}
  {v u : Value} (hv : VR β (Own Z β h) w (.mpv b) v) (hu : VR β (Own Z β h) w (.int .i64 n) u) : Makes P Z β h w (Instr.lookup t v u false) (lookM es n zero) h := by
 obtain ⟨c, arr, clock, rfl, h1, h2, h3, h4⟩ := map_blk R hb hv
 rw [hu.int_inv]
 obtain ⟨i, z, hi, hzz, he⟩ := zeroV_inv hz
 rcases find_rel n arr.toList es 0 (by simpa using h3) h4 with ⟨a1, a2, _⟩ | ⟨j, e, p, a1, a2, a3, a4, a5, _⟩
 ·rw [a2]
  refine Makes.of R (v := z) ?_ (.pure _ _ (eqV_rel he).1)
  simp [Instr.lookup, run_underlying ht, MapKept.run_getObj_map h2, MapKept.run_checkKey hk (isKey_i64 n), MapKept.run_findKey hk a1, run_zeroValue' hi hzz, Result.andThen]
 ·rw [a5]
  obtain ⟨e', g1, g2, g3, g4⟩ := h4 j p a1
  rw [a2] at g1
  cases g1
  refine Makes.of R (v := e.val) ?_ g4
  simp [Instr.lookup, run_underlying ht, MapKept.run_getObj_map h2, MapKept.run_checkKey hk (isKey_i64 n), MapKept.run_findKey hk a4, Result.andThen]
theorem mlen_rel (R : Rel Z β h w) {t kt et ty : TypeId} (ht : P.underlying t = some (.map kt et)) {b : Nat} {es : List (Int × AV)} (hb : h[b]? = some (.mp es)) {v : Value} (hv : VR β (Own Z β h) w (.mpv b) v) :
  Makes P Z β h w (Builtin.len_ #[t] ty #[v]) (.int .i64 es.length) h := by
 obtain ⟨c, arr, clock, rfl, h1, h2, h3, h4⟩ := map_blk R hb hv
 refine Makes.of R (v := .int .i64 es.length) ?_ (.pure _ _ (.int _ _))
 simp [Builtin.len_, run_underlying ht, MapKept.run_getObj_map h2, goInt, h3, Result.andThen]
theorem mput_rel (R : Rel Z β h w) {t kt et : TypeId} (ht : P.underlying t = some (.map kt et)) (hk : P.underlying kt = some (.int .i64)) {b : Nat} {es : List (Int × AV)} (hb : h[b]? = some (.mp es)) {n : Int} {x : AV} (hx : x.okc = true)
  {v u y : Value} (hv : VR β (Own Z β h) w (.mpv b) v) (hu : VR β (Own Z β h) w (.int .i64 n) u) (hy : VR β (Own Z β h) w x y) :
  ∃ w', (Instr.mapUpdate t v u y).run P w = .ok () w' ∧ Rel Z β (h.set b (.mp (putM es n x))) w' ∧ Fr Z β h w β (h.set b (.mp (putM es n x))) w' := by
 obtain ⟨c, arr, clock, rfl, h1, h2, h3, h4⟩ := map_blk R hb hv
 rw [hu.int_inv]
 have hlt : c < w.heap.size := (Array.getElem?_eq_some_iff.1 h2).1
 have hblt : b < h.length := (List.getElem?_eq_some_iff.1 hb).1
 have hown : owned β h b c := ⟨_, hb, _, rfl, h1⟩
 have go : ∀ (arr' : Array MapEntry) (clock' : Nat), arr'.size = (putM es n x).length → (∀ (j : Nat) (p : Int × AV), (putM es n x)[j]? = some p → ∃ e : MapEntry, arr'[j]? = some e ∧ e.key = .int .i64 p.1 ∧ e.val.oneCell' = true ∧ VR β (Own Z β h) w p.2 e.val) →
   Rel Z β (h.set b (.mp (putM es n x))) { w with heap := w.heap.setIfInBounds c (.map arr' clock') } ∧ Fr Z β h w β (h.set b (.mp (putM es n x))) { w with heap := w.heap.setIfInBounds c (.map arr' clock') } := by
  intro arr' clock' hs he
  refine R.upd (X' := .mp (putM es n x)) hblt rfl rfl rfl (fun _ _ _ => rfl) (fun _ _ e => e) (fun _ _ _ _ e => by cases e) (fun c' hc => ?_) (by simp) (fun b' hb' hno => ?_) (fun hst => ?_)
  ·obtain ⟨bd, q1, q2⟩ := hc
   exact .inl ⟨_, hb, bd, q1, q2⟩
  ·have hne : c ≠ b' := fun e => hno (by rw [← e]; exact hown)
   simp [Array.getElem?_setIfInBounds_ne hne]
  ·refine ⟨c, arr', clock', h1, by simp [hlt], hs, fun j p hp => ?_⟩
   obtain ⟨e, g1, g2, g3, g4⟩ := he j p hp
   exact ⟨e, g1, g2, g3, g4.mono (fun _ _ _ e => e) hst⟩
 rcases find_rel n arr.toList es 0 (by simpa using h3) h4 with ⟨a1, _, a3⟩ | ⟨j, e, p, a1, a2, a3, a4, _, a6⟩
 ·refine ⟨_, ?_, go (arr.push { key := .int .i64 n, val := y, born := clock }) (clock + 1) (by rw [a3 x]; simp [h3]) fun j p hp => ?_⟩
  ·simp [Instr.mapUpdate, run_underlying ht, MapKept.run_getObj_map h2, MapKept.run_checkKey hk (isKey_i64 n), MapKept.run_findKey hk a1, MapKept.run_setObj_map _ h2, Result.andThen]
  ·rw [a3 x] at hp
   by_cases hj : j < es.length
   ·rw [List.getElem?_append_left hj] at hp
    obtain ⟨e, g1, g2⟩ := h4 j p hp
    refine ⟨e, ?_, g2⟩
    rw [Array.getElem?_push, if_neg (by omega)]
    simpa using g1
   ·have hje : j = es.length := by
     have := (List.getElem?_eq_some_iff.1 hp).1
     simp at this
     omega
    subst hje
    simp at hp
    subst hp
    exact ⟨{ key := .int .i64 n, val := y, born := clock }, by rw [← h3]; simp, rfl, hy.okc hx, hy⟩
 ·have hj : arr[j]? = some e := by simpa using a2
  obtain ⟨e', g1, g2, _⟩ := h4 j p a1
  rw [a2] at g1
  cases g1
  have hkey : e.key = .int .i64 n := by rw [g2, a3]
  refine ⟨_, ?_, go (arr.modify j fun e => { e with key := .int .i64 n, val := y }) clock (by rw [a6 x]; simp [h3]) fun k q hq => ?_⟩
  ·simp [Instr.mapUpdate, run_underlying ht, MapKept.run_getObj_map h2, MapKept.run_checkKey hk (isKey_i64 n), MapKept.run_findKey hk a4, hj, hkey, MapKept.run_keyThatStays (isKey_i64 n), MapKept.run_setObj_map _ h2, Result.andThen]
  ·rw [a6 x] at hq
   rw [Array.getElem?_modify]
   by_cases hjk : j = k
   ·subst hjk
    rw [List.getElem?_set_self (by have := (List.getElem?_eq_some_iff.1 a1).1; omega)] at hq
    cases hq
    rw [if_pos rfl, hj]
    exact ⟨_, rfl, rfl, hy.okc hx, hy⟩
   ·rw [List.getElem?_set_ne hjk] at hq
    obtain ⟨e1, q1, q2⟩ := h4 k q hq
    rw [if_neg hjk]
    exact ⟨e1, by simpa using q1, q2⟩
end
end Go.Am
