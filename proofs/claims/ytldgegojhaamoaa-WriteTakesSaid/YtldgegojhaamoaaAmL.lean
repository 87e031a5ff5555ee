/-
  The abstract machine: conversions, cuts, addresses, lengths.
-/
import Derived.Test.YtldgegojhaamoaaAmK
set_option linter.unusedSimpArgs false
set_option linter.unusedVariables false
namespace Go.Am

section
variable {P : Program} {Z : Nat → Prop} {β : Bds} {h : AH} {w : World}

theorem conv_rel (R : Rel Z β h w) {s d : TypeId} {k : IntKind} (hs : (P.underlying s).isSome = true) (hd : P.underlying d = some (.int k)) {kk : IntKind} {n : Int} {v : Value} (hv : VR β (Own Z β h) w (.int kk n) v) :
    Makes P Z β h w (convert s d v) (.int k (k.wrap n)) h := by
  have := hv.int_inv; subst this
  obtain ⟨ds, hs⟩ := Option.isSome_iff_exists.1 hs
  refine Makes.of R (v := .int k (k.wrap n)) ?_ (.of_int _ _)
  simp only [convert, Sem.run_bind, run_underlying hs, run_underlying hd, Result.andThen_ok]
  cases ds <;> rfl

theorem cstr_rel (R : Rel Z β h w) {s d : TypeId} (hs : P.underlying s = some .string) (hd : P.underlying d = some .string) {l : List UInt8} {v : Value} (hv : VR β (Own Z β h) w (.str l) v) :
    Makes P Z β h w (convert s d v) (.str l) h := by
  obtain ⟨b, rfl, e⟩ := hv.str_inv
  refine Makes.of R (v := .string b) ?_ (.of_str e)
  simp only [convert, Sem.run_bind, run_underlying hs, run_underlying hd, Result.andThen_ok, Sem.run_pure]

theorem toBytes_inv : ∀ {es : List AV} {s : List UInt8}, toBytes es = some s → ∃ ns : List Int, es = ns.map (AV.int .u8) ∧ s = ns.map fun n => UInt8.ofNat n.toNat
  | [], s, hb => by simp only [toBytes] at hb; cases hb; exact ⟨[], rfl, rfl⟩
  | a :: es, s, hb => by
    cases a with
    | int k n =>
      cases k <;> simp only [toBytes] at hb <;> try (cases hb; done)
      simp only [Option.bind_eq_some_iff] at hb
      obtain ⟨r, hr, hb⟩ := hb
      cases hb
      obtain ⟨ns, e1, e2⟩ := toBytes_inv hr
      exact ⟨n :: ns, by simp [e1], by simp [e2]⟩
    | _ => simp [toBytes] at hb

theorem foldl_push : ∀ (ns : List Int) (b : ByteArray), (ns.foldl (fun r n => r.push (UInt8.ofNat n.toNat)) b).data.toList = b.data.toList ++ ns.map fun n => UInt8.ofNat n.toNat
  | [], b => by simp
  | n :: ns, b => by
    simp only [List.foldl_cons]
    rw [foldl_push ns]
    simp [ByteArray.push]

theorem bts_rel (R : Rel Z β h w) {s d e : TypeId} (hs : P.underlying s = some (.slice e)) (he : P.underlying e = some (.int .u8)) (hd : P.underlying d = some .string) {x : AV} {es : List AV} {l : List UInt8}
    (hx : elems h x = some es) (hl : toBytes es = some l) {v : Value} (hv : VR β (Own Z β h) w x v) : Makes P Z β h w (convert s d v) (.str l) h := by
  obtain ⟨ad, c, rfl, hc, hne⟩ := elems_rel R hx hv
  obtain ⟨ns, rfl, rfl⟩ := toBytes_inv hl
  have hr := run_convert_bytes_string (P := P) w s d e ad (ns.map (AV.int .u8)).length c hs he hd
  by_cases h0 : ns = []
  · subst h0
    refine Makes.of R (v := .string ByteArray.empty) ?_ (.of_str rfl)
    rw [hr]
    cases ad with
    | none => rfl
    | some a =>
      rw [run_bytesToString w a _ c [] (by simp [loadCells, loadCellsFrom])]
      rfl
  · obtain ⟨blk, o, sz, hsz, rfl, hsrc⟩ := hne (by simpa using h0)
    have hszk : szOk 1 (ns.map (AV.int .u8)) = true := by simp [szOk, AV.cells]
    have hsrc1 := hsrc.szOk hszk
    have hcell : ∀ (j : Nat) (u : Value), (ns.map (Value.int .u8))[j]? = some u → w.cell? ((⟨blk, o, none⟩ : Addr).add j) = some u := by
      intro j u hu
      rw [addr_add]
      simp at hu
      obtain ⟨n, hn, rfl⟩ := hu
      obtain ⟨_, q⟩ := hsrc1 j (.int .u8 n) (by simp [hn])
      obtain ⟨u', q1, q2, q3⟩ := q 0 (.int .u8 n) rfl
      cases q3
      simpa using q1
    have hload := run_loadCells_list (P := P) w ⟨blk, o, none⟩ (ns.map (Value.int .u8)) hcell
    refine Makes.of R (v := .string (ns.foldl (fun r n => r.push (UInt8.ofNat n.toNat)) ByteArray.empty)) ?_ (.of_str ?_)
    · rw [hr]
      have : (ns.map (AV.int .u8)).length = (ns.map (Value.int .u8)).length := by simp
      rw [this]
      exact run_bytesToString w _ _ c ns hload
    · rw [foldl_push]; simp

/-! #### Cuts -/
theorem run_bound {y : AO} {e : Env} {a : Act} {n k : Nat} {x : Operand} (E : EnvR Z β h w e a n) (ho : okO x y = true) (hk : nat? (y.get e) = some k) (top : Nat) (hle : k ≤ top) (code : BoundsCode) (w' : World) :
    (Instr.sliceBound (a.eval x) top code).run P w' = .ok k w' := by
  obtain ⟨kk, i, e1, e2, e3⟩ := nat?_inv hk (okO_rel E ho)
  rw [e1, run_sliceBound w' kk i top code e2 (by omega), e3]

def okOpt : Option Operand → Option AO → Bool
  | none, none => true
  | some x, some y => okO x y
  | _, _ => false

/-- The three bounds. -/
theorem bounds_rel {e : Env} {a : Act} {n : Nat} (E : EnvR Z β h w e a n) {lo hi : Option Operand} {lo' hi' : Option AO} (h1 : okOpt lo lo' = true) (h2 : okOpt hi hi' = true) {len cap x y : Nat} (hlo : optNat 0 e lo' = some x) (hhi : optNat len e hi' = some y)
    (hxy : x ≤ y) (hyc : y ≤ cap) (isSlice : Bool) (w' : World) : (Instr.sliceBounds isSlice len cap (lo.map a.eval) (hi.map a.eval) none).run P w' = .ok (x, y, cap) w' := by
  have key : ∀ b : Sem Nat, b.run P w' = .ok y w' → ∀ c : Nat → Sem Nat, (c y).run P w' = .ok x w' → True := fun _ _ _ _ => trivial
  have hH : ∀ code, (match hi.map a.eval with | some v => Instr.sliceBound v cap code | none => pure len : Sem Nat).run P w' = .ok y w' := by
    intro code
    cases hi with
    | none =>
      cases hi' with
      | none => simp only [optNat] at hhi; cases hhi; rfl
      | some _ => simp [okOpt] at h2
    | some p =>
      cases hi' with
      | none => simp [okOpt] at h2
      | some q => exact run_bound E h2 hhi cap hyc code w'
  have hL : ∀ code, (match lo.map a.eval with | some v => Instr.sliceBound v y code | none => pure 0 : Sem Nat).run P w' = .ok x w' := by
    intro code
    cases lo with
    | none =>
      cases lo' with
      | none => simp only [optNat] at hlo; cases hlo; rfl
      | some _ => simp [okOpt] at h1
    | some p =>
      cases lo' with
      | none => simp [okOpt] at h1
      | some q => exact run_bound E h1 hlo y hxy code w'
  unfold Instr.sliceBounds
  cases hi with
  | none =>
    have e1 := hH .sliceB
    simp only [Option.map_none, Sem.run_pure, Result.ok.injEq, and_true] at e1
    subst e1
    cases lo with
    | none => have e2 := hL .sliceB; simp only [Option.map_none, Sem.run_pure, Result.ok.injEq, and_true] at e2; subst e2; simp
    | some p => have e2 := hL .sliceB; simp only [Option.map_some] at e2; simp [e2]
  | some q =>
    have e1 := hH (if isSlice then .sliceAcap else .sliceAlen)
    simp only [Option.map_some] at e1
    cases lo with
    | none => have e2 := hL .sliceB; simp only [Option.map_none, Sem.run_pure, Result.ok.injEq, and_true] at e2; subst e2; simp [e1]
    | some p => have e2 := hL .sliceB; simp only [Option.map_some] at e2; simp [e1, e2]

theorem bounds_rel3 {e : Env} {a : Act} {n : Nat} (E : EnvR Z β h w e a n) {lo hi : Option Operand} {mx : Operand} {lo' hi' : Option AO} {mx' : AO} (h1 : okOpt lo lo' = true) (h2 : okOpt hi hi' = true) (h3 : okO mx mx' = true) {len cap x y m : Nat} (hhs : hi.isSome = true)
    (hlo : optNat 0 e lo' = some x) (hhi : optNat len e hi' = some y) (hm : nat? (mx'.get e) = some m) (hxy : x ≤ y) (hym : y ≤ m) (hmc : m ≤ cap) (isSlice : Bool) (w' : World) :
    (Instr.sliceBounds isSlice len cap (lo.map a.eval) (hi.map a.eval) (some (a.eval mx))).run P w' = .ok (x, y, m) w' := by
  unfold Instr.sliceBounds
  cases hi with
  | none => cases hhs
  | some q =>
    cases hi' with
    | none => simp [okOpt] at h2
    | some q' =>
      have e0 := run_bound (P := P) E h3 hm cap hmc (if isSlice then .slice3Acap else .slice3Alen) w'
      have e1 := run_bound (P := P) E h2 hhi m hym .slice3B w'
      cases lo with
      | none =>
        cases lo' with
        | none => simp only [optNat] at hlo; cases hlo; simp [e0, e1]
        | some _ => simp [okOpt] at h1
      | some p =>
        cases lo' with
        | none => simp [okOpt] at h1
        | some p' =>
          have e2 := run_bound (P := P) E h1 hlo y hxy .slice3C w'
          simp [e0, e1, e2]

theorem sls_rel (R : Rel Z β h w) {e : Env} {a : Act} {n : Nat} (E : EnvR Z β h w e a n) {t : TypeId} (ht : P.underlying t = some .string) {lo hi : Option Operand} {lo' hi' : Option AO} (h1 : okOpt lo lo' = true) (h2 : okOpt hi hi' = true)
    {s : List UInt8} {x y : Nat} (hlo : optNat 0 e lo' = some x) (hhi : optNat s.length e hi' = some y) (hxy : x ≤ y) (hys : y ≤ s.length) {v : Value} (hv : VR β (Own Z β h) w (.str s) v) :
    Makes P Z β h w (Instr.sliceAt t v (lo.map a.eval) (hi.map a.eval) none) (.str ((s.take y).drop x)) h := by
  obtain ⟨b, rfl, hb⟩ := hv.str_inv
  have hsz : b.size = s.length := by rw [← hb]; rfl
  refine Makes.of R (v := .string (b.extract x y)) ?_ (.of_str ?_)
  · have hbd := bounds_rel (P := P) E h1 h2 (len := b.size) (cap := b.size) hlo (by rw [hsz]; exact hhi) hxy (by omega) false w
    simp only [Instr.sliceAt, Instr.slice, Sem.run_bind, run_underlying ht, Result.andThen_ok, hbd, Sem.run_pure, Option.isSome_none, Bool.false_eq_true, if_false]
  · rw [ByteArray.data_extract, Array.toList_extract, hb, List.extract_eq_take_drop, List.take_drop]
    congr 1; congr 1; omega

/-- A slice's cut. -/
theorem sll_rel {e : Env} {a : Act} {n : Nat} (E : EnvR Z β h w e a n) {t elem : TypeId} (ht : P.underlying t = some (.slice elem)) {sz : Nat} (hsz : sizeIs P elem sz = true) {lo hi mx : Option Operand} {lo' hi' mx' : Option AO}
    (h1 : okOpt lo lo' = true) (h2 : okOpt hi hi' = true) (h3 : okOpt mx mx' = true) (hmx : mx.isSome = true → hi.isSome = true)
    {len x y m : Nat} {ad : Option Addr} {cap : Nat} (hlo : optNat 0 e lo' = some x) (hhi : optNat len e hi' = some y) (hm : optNat cap e mx' = some m) (hxy : x ≤ y) (hym : y ≤ m) (hmc : m ≤ cap) :
    (Instr.sliceAt t (.slice ad len cap) (lo.map a.eval) (hi.map a.eval) (mx.map a.eval)).run P w = .ok (.slice (if m = x then ad else ad.map (·.add (x * sz))) (y - x) (m - x)) w := by
  have hbd : (Instr.sliceBounds true len cap (lo.map a.eval) (hi.map a.eval) (mx.map a.eval)).run P w = .ok (x, y, m) w := by
    cases mx with
    | none =>
      cases mx' with
      | none =>
        simp only [optNat] at hm; cases hm
        exact bounds_rel (P := P) E h1 h2 hlo hhi hxy hym true w
      | some _ => simp [okOpt] at h3
    | some p =>
      cases mx' with
      | none => simp [okOpt] at h3
      | some p' => exact bounds_rel3 (P := P) E h1 h2 h3 (hmx rfl) hlo hhi hm hxy hym hmc true w
  simp only [Instr.sliceAt, Instr.slice, Sem.run_bind, run_underlying ht, Result.andThen_ok, hbd, run_sizeOf' hsz, Sem.run_pure]

/-- A cut of a slice that nobody writes. -/
theorem lst_cut {O : Nat → Prop} {full : Bool} {es : List AV} {ad : Option Addr} {c sz : Nat} (hv : PVR O w (.lst full es) (.slice ad es.length c)) (hszk : szOk sz es = true) (hsz0 : 0 < sz) {x y m : Nat} (hxy : x ≤ y) (hym : y ≤ m) (hy : y ≤ es.length) {full' : Bool}
    (hf : full' = true → m = y) : PVR O w (.lst full' ((es.take y).drop x)) (.slice (if m = x then ad else ad.map (·.add (x * sz))) (y - x) (m - x)) := by
  have hlen : ((es.take y).drop x).length = y - x := by simp; omega
  by_cases h0 : (es.take y).drop x = []
  · rw [h0] at hlen ⊢
    rw [← hlen]
    simp at hlen
    refine .lst full' [] _ (m - x) 0 0 0 (fun _ _ => .bool true) (fun hft => ?_) (by simp) (by simp) (by simp) (by simp) (by simp) (by simp)
    have := hf hft
    simp; omega
  · have hx : x < y := by
      rcases Nat.lt_or_ge x y with h' | h'
      · exact h'
      · exact absurd (List.eq_nil_of_length_eq_zero (by omega)) h0
    have hne : es ≠ [] := by rintro rfl; simp at h0
    generalize hce : es.length = ce at hv
    cases hv with
    | lst _ _ ad' c' blk o sz' f hf' hc' ha hs q1 q3 q2 =>
      have hszz : sz' = sz := by
        obtain ⟨z, l, hzl⟩ := List.exists_cons_of_ne_nil hne
        have e1 := (hs 0 z (by rw [hzl]; rfl)).1
        rw [hzl] at hszk
        simp only [szOk, List.all_cons, Bool.and_eq_true, beq_iff_eq] at hszk
        omega
      subst hszz
      obtain ⟨rfl, hO, hb⟩ := ha hne
      rw [if_neg (by omega), ← hlen]
      simp only [Option.map_some, addr_add]
      refine lst_of_src hsz0 hO hb ?_ (fun hft => ?_) (by omega)
      · have hsrc : SrcAt O w (fun k => w.cell? ⟨blk, o + k, none⟩) sz' es := fun i z hz => ⟨(hs i z hz).1, fun j yy hyy => ⟨f i j, by have := q1 i z hz j yy hyy; rw [Nat.add_assoc] at this; exact this, q3 i z hz j yy hyy, q2 i z hz j yy hyy⟩⟩
        refine ((hsrc.take y).drop x).congr fun k _ => ?_
        rw [Nat.add_assoc]
      · have := hf hft; omega

/-! #### Addresses -/
theorem fad_ptr {t : TypeId} {fs : Array Field} {k off : Nat} {f : Field} (ht : P.underlying t = some (.struct fs)) (hf : fs[k]? = some f) (hoff : f.offset = off) (hsz : ∃ i, P.info? f.type = some i ∧ i.size ≠ 0) (b o : Nat) (w : World) :
    (Instr.fieldAt t (.pointer (some ⟨b, o, none⟩)) k).run P w = .ok (.pointer (some ⟨b, o + off, none⟩)) w := by
  obtain ⟨i, hi, h0⟩ := hsz
  simp only [Instr.fieldAt, Sem.run_bind, run_underlying ht, Result.andThen_ok, hf, Instr.sureAddr, Sem.run_pure, fieldPlace, sizeOf, typeInfo, run_program, hi]
  rw [if_neg h0]
  simp [hoff, addr_add]

theorem shape_part {O : Nat → Prop} {sz off : Nat} {agg : Bool} {cs : List AV} {av : AV} (hs : shape sz agg (cs.drop off) = some av) {t : TypeId} (hsz : sizeIs P t sz = true) (hag : aggIs P t agg = true) {vs : List Value} (hl : cs.length = vs.length)
    (h1 : ∀ u ∈ vs, u.oneCell' = true) (h2 : ∀ (j : Nat) (y : AV) (u : Value), cs[j]? = some y → vs[j]? = some u → VR β O w y u) : ∃ v, (part t vs.toArray off).run P w = .ok v w ∧ VR β O w av v := by
  unfold shape at hs
  split at hs
  · cases hs
  · rename_i hlen
    simp at hlen
    split at hs
    · rename_i hagg
      subst hagg
      cases hs
      refine ⟨.agg (vs.toArray.extract off (off + sz)), by simp [part, run_isAgg hag, run_sizeOf' hsz], ?_⟩
      have : vs.toArray.extract off (off + sz) = ((vs.drop off).take sz).toArray := by
        apply Array.ext'
        simp [List.extract_eq_take_drop]
      rw [this]
      refine .agg _ _ (by simp; omega) (fun u hu => h1 u (List.mem_of_mem_drop (List.mem_of_mem_take hu))) fun j y u hy hu => ?_
      rw [List.getElem?_take] at hy hu
      split at hy
      · rename_i hj
        rw [if_pos hj] at hu
        rw [List.getElem?_drop] at hy hu
        exact h2 _ y u hy hu
      · cases hy
    · rename_i hagg
      have hagg' : agg = false := by simpa using hagg
      subst hagg'
      split at hs
      · rename_i hsz1
        have hoff : off < vs.length := by omega
        refine ⟨vs[off], by simp [part, run_isAgg hag, hoff], h2 off av _ ?_ (by simp [hoff])⟩
        rw [List.head?_eq_getElem?, List.getElem?_drop] at hs
        simpa using hs
      · cases hs

end
end Go.Am
