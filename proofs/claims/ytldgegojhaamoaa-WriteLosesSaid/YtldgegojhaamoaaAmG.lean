/-
  The abstract machine: rows that are read-only from here on; operations that write no memory.
-/
import Derived.Test.YtldgegojhaamoaaAmF
set_option linter.unusedSimpArgs false
set_option linter.unusedVariables false
namespace Go.Am

section
variable {Z : Nat → Prop} {β : Bds} {h : AH} {w : World}

theorem purS_rel (R : Rel Z β h w) {a a' : AV} {h' : AH} (hp : purS h a = some (a', h')) {v : Value} (hv : VR β (Own Z β h) w a v) :
    Rel Z β h' w ∧ Fr Z β h w β h' w ∧ VR β (Own Z β h') w a' v ∧ a'.isS = true := by
  have pure : ∀ {a : AV}, VR β (Own Z β h) w a v → (if a.isS = true then some (a, h) else none) = some (a', h') → Rel Z β h' w ∧ Fr Z β h w β h' w ∧ VR β (Own Z β h') w a' v ∧ a'.isS = true := by
    intro a hv hp
    split at hp
    · rename_i hs
      cases hp
      exact ⟨R, Fr.refl _ _ _ _, hv, hs⟩
    · cases hp
  cases a with
  | own b vv o n =>
    simp only [purS] at hp
    split at hp
    · rename_i v' sz es hes
      split at hp
      · rename_i hcond
        obtain ⟨rfl, hn⟩ := hcond
        cases hp
        obtain ⟨R', F⟩ := R.freeze hes
        exact ⟨R', F, lst_of_fro R' (sz := sz) (es := es) (by simp [(List.getElem?_eq_some_iff.1 hes).1]) hn (hv.fr F), rfl⟩
      · cases hp
    · rename_i v' sz es hes
      split at hp
      · rename_i hcond
        obtain ⟨rfl, hn⟩ := hcond
        cases hp
        exact ⟨R, Fr.refl _ _ _ _, lst_of_fro R hes hn hv, rfl⟩
      · cases hp
    · cases hp
  | _ => exact pure hv hp

theorem purL_rel : ∀ (cs : List AV) {h : AH} (_ : Rel Z β h w) {cs' : List AV} {h' : AH} (_ : purL h cs = some (cs', h')) {vs : List Value} (_ : cs.length = vs.length)
    (_ : ∀ (j : Nat) (y : AV) (u : Value), cs[j]? = some y → vs[j]? = some u → VR β (Own Z β h) w y u),
    Rel Z β h' w ∧ Fr Z β h w β h' w ∧ cs'.length = vs.length ∧ (∀ (j : Nat) (y : AV) (u : Value), cs'[j]? = some y → vs[j]? = some u → VR β (Own Z β h') w y u) ∧ ∀ y ∈ cs', y.isS = true
  | [], h, R, cs', h', hp, vs, hl, _ => by
    simp only [purL] at hp
    cases hp
    exact ⟨R, Fr.refl _ _ _ _, hl, fun j y u hy => by simp at hy, by simp⟩
  | a :: cs, h, R, cs', h', hp, vs, hl, hv => by
    simp only [purL, Option.bind_eq_some_iff] at hp
    obtain ⟨⟨a1, h1⟩, hp1, ⟨l2, h2⟩, hp2, hp3⟩ := hp
    cases hp3
    cases vs with
    | nil => simp at hl
    | cons v vs =>
      obtain ⟨R1, F1, V1, S1⟩ := purS_rel R hp1 (hv 0 a v rfl rfl)
      obtain ⟨R2, F2, L2, V2, S2⟩ := purL_rel cs R1 hp2 (vs := vs) (by simpa using hl) (fun j y u hy hu => (hv (j + 1) y u (by simpa using hy) (by simpa using hu)).fr F1)
      refine ⟨R2, F1.trans F2, by simp [L2], fun j y u hy hu => ?_, fun y hy => ?_⟩
      · cases j with
        | zero => simp at hy hu; subst hy hu; exact V1.fr F2
        | succ j => exact V2 j y u (by simpa using hy) (by simpa using hu)
      · rcases List.mem_cons.1 hy with rfl | hy
        · exact S1
        · exact S2 y hy

theorem purE_rel (R : Rel Z β h w) {a a' : AV} {h' : AH} (hp : purE h a = some (a', h')) {v : Value} (hv : VR β (Own Z β h) w a v) :
    Rel Z β h' w ∧ Fr Z β h w β h' w ∧ VR β (Own Z β h') w a' v ∧ a'.isE = true := by
  unfold purE at hp
  split at hp
  · rename_i hE
    cases hp
    exact ⟨R, Fr.refl _ _ _ _, hv, hE⟩
  · split at hp
    · rename_i cs _
      simp only [Option.bind_eq_some_iff] at hp
      obtain ⟨⟨cs', h2⟩, hp1, hp2⟩ := hp
      cases hp2
      obtain ⟨vs, rfl, hl, h1, h2'⟩ := hv.agg_inv
      obtain ⟨R2, F2, L2, V2, S2⟩ := purL_rel cs R hp1 hl h2'
      exact ⟨R2, F2, .agg cs' vs L2 h1 V2, by simpa [AV.isE] using S2⟩
    · obtain ⟨R2, F2, V2, S2⟩ := purS_rel R hp hv
      refine ⟨R2, F2, V2, ?_⟩
      cases a' <;> simp_all [AV.isS, AV.isE]

theorem purEs_rel : ∀ (cs : List AV) {h : AH} (_ : Rel Z β h w) {cs' : List AV} {h' : AH} (_ : purEs h cs = some (cs', h')) {vs : List Value} (_ : cs.length = vs.length)
    (_ : ∀ (j : Nat) (y : AV) (u : Value), cs[j]? = some y → vs[j]? = some u → VR β (Own Z β h) w y u),
    Rel Z β h' w ∧ Fr Z β h w β h' w ∧ cs'.length = vs.length ∧ (∀ (j : Nat) (y : AV) (u : Value), cs'[j]? = some y → vs[j]? = some u → VR β (Own Z β h') w y u) ∧ ∀ y ∈ cs', y.isE = true
  | [], h, R, cs', h', hp, vs, hl, _ => by
    simp only [purEs] at hp
    cases hp
    exact ⟨R, Fr.refl _ _ _ _, hl, fun j y u hy => by simp at hy, by simp⟩
  | a :: cs, h, R, cs', h', hp, vs, hl, hv => by
    simp only [purEs, Option.bind_eq_some_iff] at hp
    obtain ⟨⟨a1, h1⟩, hp1, ⟨l2, h2⟩, hp2, hp3⟩ := hp
    cases hp3
    cases vs with
    | nil => simp at hl
    | cons v vs =>
      obtain ⟨R1, F1, V1, S1⟩ := purE_rel R hp1 (hv 0 a v rfl rfl)
      obtain ⟨R2, F2, L2, V2, S2⟩ := purEs_rel cs R1 hp2 (vs := vs) (by simpa using hl) (fun j y u hy hu => (hv (j + 1) y u (by simpa using hy) (by simpa using hu)).fr F1)
      refine ⟨R2, F1.trans F2, by simp [L2], fun j y u hy hu => ?_, fun y hy => ?_⟩
      · cases j with
        | zero => simp at hy hu; subst hy hu; exact V1.fr F2
        | succ j => exact V2 j y u (by simpa using hy) (by simpa using hu)
      · rcases List.mem_cons.1 hy with rfl | hy
        · exact S1
        · exact S2 y hy

theorem purP_rel (R : Rel Z β h w) {a a' : AV} {h' : AH} (hp : purP h a = some (a', h')) {v : Value} (hv : VR β (Own Z β h) w a v) :
    Rel Z β h' w ∧ Fr Z β h w β h' w ∧ VR β (Own Z β h') w a' v ∧ a'.isP = true := by
  unfold purP at hp
  split at hp
  · rename_i hE
    cases hp
    exact ⟨R, Fr.refl _ _ _ _, hv, hE⟩
  · split at hp
    · rename_i cs _
      simp only [Option.bind_eq_some_iff] at hp
      obtain ⟨⟨cs', h2⟩, hp1, hp2⟩ := hp
      cases hp2
      obtain ⟨vs, rfl, hl, h2'⟩ := hv.tup_inv
      obtain ⟨R2, F2, L2, V2, S2⟩ := purEs_rel cs R hp1 hl h2'
      exact ⟨R2, F2, .tup cs' vs L2 V2, by simpa [AV.isP] using S2⟩
    · obtain ⟨R2, F2, V2, S2⟩ := purE_rel R hp hv
      refine ⟨R2, F2, V2, ?_⟩
      cases a' <;> simp_all [AV.isP, AV.isE, AV.isS]
end

/-! ### Operations -/

/-- An operation's reckoning makes a value that the abstract one stands for. -/
def Makes (P : Program) (Z : Nat → Prop) (β : Bds) (h : AH) (w : World) (s : Sem Value) (av : AV) (h' : AH) : Prop :=
  ∃ v w' β', s.run P w = .ok v w' ∧ Rel Z β' h' w' ∧ Fr Z β h w β' h' w' ∧ VR β' (Own Z β' h') w' av v

section
variable {P : Program} {Z : Nat → Prop} {β : Bds} {h : AH} {w : World}

theorem Makes.of (R : Rel Z β h w) {s : Sem Value} {av : AV} {v : Value} (hr : s.run P w = .ok v w) (hv : VR β (Own Z β h) w av v) : Makes P Z β h w s av h :=
  ⟨v, w, β, hr, R, Fr.refl _ _ _ _, hv⟩

theorem VR.of_int {O : Nat → Prop} (k : IntKind) (n : Int) : VR β O w (.int k n) (.int k n) := .pure _ _ (.int k n)
theorem VR.of_bool {O : Nat → Prop} (b : Bool) : VR β O w (.bool b) (.bool b) := .pure _ _ (.bool b)
theorem VR.of_str {O : Nat → Prop} {b : ByteArray} {s : List UInt8} (hb : b.data.toList = s) : VR β O w (.str s) (.string b) := by subst hb; exact .pure _ _ (.str b)

theorem toList_data (b : ByteArray) : b.toList = b.data.toList := ByteArray.toList_eq b

theorem sLess_eq : ∀ x y : List UInt8, Op.bytesLess x y = sLess x y
  | _, [] => by simp [Op.bytesLess, sLess]
  | [], _ :: _ => rfl
  | a :: x, b :: y => by simp only [Op.bytesLess, sLess, sLess_eq x y]

theorem strBin_rel (R : Rel Z β h w) {x y : List UInt8} {op : BinOp} {av : AV} (hx : strBin x y op = some av) {a b : ByteArray} (ha : a.data.toList = x) (hb : b.data.toList = y) :
    Makes P Z β h w (Op.stringOp op a b) av h := by
  have e1 : a.toList = x := (toList_data a).trans ha
  have e2 : b.toList = y := (toList_data b).trans hb
  have hab : (a ++ b).data.toList = x ++ y := by rw [ByteArray.data_append, Array.toList_append, ha, hb]
  have ea : a.size = x.length := by rw [← ha]; rfl
  have eb : b.size = y.length := by rw [← hb]; rfl
  have hbeq : (x == y) = decide (x = y) := by rw [Bool.eq_iff_iff]; simp
  cases op <;> simp only [strBin] at hx <;> try (cases hx; done)
  case add =>
    split at hx
    · rename_i hl
      cases hx
      refine Makes.of R (v := .string (a ++ b)) ?_ (.of_str hab)
      have : ¬ ((a.size + b.size : Nat) : Int) > IntKind.i64.max := by
        have : IntKind.i64.max = 9223372036854775807 := by rfl
        rw [this, ea, eb]; omega
      simp only [Op.stringOp, this, if_false, Sem.run_pure]
    · cases hx
  all_goals
    cases hx
    refine Makes.of R (v := .bool _) ?_ (.of_bool _)
    simp only [Op.stringOp, Sem.run_pure, e1, e2, sLess_eq, hbeq]

theorem intBin_rel (R : Rel Z β h w) {k : IntKind} {x y : Int} {op : BinOp} {av : AV} (hx : intBin k x y op = some av) (t : TypeId) :
    Makes P Z β h w (binOp op t (.int k x) (.int k y)) av h := by
  have hbeq : (x == y) = decide (x = y) := by rw [Bool.eq_iff_iff]; simp
  cases op <;> simp only [intBin] at hx <;> try (cases hx; done)
  case quo =>
    split at hx
    · cases hx
    · rename_i hy
      cases hx
      exact Makes.of R (v := .int k _) (by simp [binOp, Op.intDiv, hy]) (.of_int _ _)
  case rem =>
    split at hx
    · cases hx
    · rename_i hy
      cases hx
      exact Makes.of R (v := .int k _) (by simp [binOp, Op.intDiv, hy]) (.of_int _ _)
  all_goals
    cases hx
    first
      | exact Makes.of R (v := .int k _) (by simp [binOp, Op.intArith, Op.intBits]; done) (.of_int _ _)
      | exact Makes.of R (v := .bool _) (by simp [binOp, Op.intCmp, hbeq, bne]; done) (.of_bool _)

theorem bin_rel (R : Rel Z β h w) {op : BinOp} {x y av : AV} (hx : bin op x y = some av) {a b : Value} (ha : VR β (Own Z β h) w x a) (hb : VR β (Own Z β h) w y b) (t : TypeId) :
    Makes P Z β h w (binOp op t a b) av h ∧ ∀ ox oy, (eqGuard op t ox oy a b).run P w = .ok () w := by
  cases x with
  | int k x =>
    cases y with
    | int k' y =>
      have := ha.int_inv; subst this
      have := hb.int_inv; subst this
      have hg : ∀ ox oy, (eqGuard op t ox oy (.int k x) (.int k' y)).run P w = .ok () w := by
        intro ox oy
        cases op <;> simp [eqGuard]
      refine ⟨?_, hg⟩
      simp only [bin] at hx
      cases op
      case shl =>
        dsimp only at hx
        split at hx
        · cases hx
        · rename_i hy
          cases hx
          exact Makes.of R (v := .int k _) (by simp [binOp, Op.shift, hy]) (.of_int _ _)
      case shr =>
        dsimp only at hx
        split at hx
        · cases hx
        · rename_i hy
          cases hx
          exact Makes.of R (v := .int k _) (by simp [binOp, Op.shift, hy]) (.of_int _ _)
      all_goals
        dsimp only at hx
        split at hx
        · rename_i hk
          subst hk
          exact intBin_rel R hx t
        · cases hx
    | _ => simp [bin] at hx
  | str x =>
    cases y with
    | str y =>
      obtain ⟨a', rfl, ha'⟩ := ha.str_inv
      obtain ⟨b', rfl, hb'⟩ := hb.str_inv
      refine ⟨?_, fun ox oy => by cases op <;> simp [eqGuard]⟩
      have : binOp op t (.string a') (.string b') = Op.stringOp op a' b' := by cases op <;> rfl
      rw [this]
      exact strBin_rel R hx ha' hb'
    | _ => simp [bin] at hx
  | _ => simp [bin] at hx

theorem un_rel (R : Rel Z β h w) {op : UnOp} {x av : AV} (hx : un op x = some av) {a : Value} (ha : VR β (Own Z β h) w x a) : Makes P Z β h w (Op.unary op a) av h := by
  cases x with
  | bool b =>
    have := ha.bool_inv; subst this
    cases op <;> simp [un] at hx
    subst hx
    exact Makes.of R (v := .bool (!b)) (by simp [Op.unary]) (.of_bool _)
  | int k n =>
    have := ha.int_inv; subst this
    cases op <;> simp [un] at hx
    subst hx
    exact Makes.of R (v := .int k _) (by simp [Op.unary, Op.intArith]) (.of_int _ _)
  | _ => simp [un] at hx

end
end Go.Am
