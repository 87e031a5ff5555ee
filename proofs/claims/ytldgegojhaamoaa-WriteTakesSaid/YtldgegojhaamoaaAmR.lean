/-
  The abstract machine: what an operation looks at.
-/
import Derived.Test.YtldgegojhaamoaaAmQ
set_option linter.unusedSimpArgs false
set_option linter.unusedVariables false
namespace Go.Am

def oper? : Option AO → List AO
  | none => []
  | some x => [x]

/-- The operands of an operation. -/
def AOp.ops : AOp → List AO
  | .mv x => [x]
  | .pick c a b => [c, a, b]
  | .alloc _ => []
  | .box x => [x]
  | .build _ ps => ps.map fun p => p.2.2
  | .bsl _ _ _ ps => ps.map fun p => p.2
  | .bslh _ _ _ ps => ps.map fun p => p.2
  | .load _ _ a => [a]
  | .store _ a x => [a, x]
  | .nck x => [x]
  | .bin _ x y => [x, y]
  | .beq _ x y => [x, y]
  | .seq _ _ x y => [x, y]
  | .un _ x => [x]
  | .conv _ x => [x]
  | .cstr x => [x]
  | .bts x => [x]
  | .mki _ x => [x]
  | .mkf _ a c => a ++ c
  | .mks _ _ _ l c => [l, c]
  | .sls x lo hi => x :: (oper? lo ++ oper? hi)
  | .sll _ x lo hi mx => x :: (oper? lo ++ (oper? hi ++ oper? mx))
  | .fad _ x => [x]
  | .fld _ _ _ x => [x]
  | .iad _ x i => [x, i]
  | .iada _ _ x i => [x, i]
  | .idxs x i => [x, i]
  | .idxa _ _ _ x i => [x, i]
  | .ext x _ => [x]
  | .call _ as => as
  | .callp _ as => as
  | .callv f as => f :: as
  | .app _ _ s x => [s, x]
  | .appz _ _ _ s x => [s, x]
  | .apps _ s x => [s, x]
  | .copy _ d s => [d, s]
  | .len _ x => [x]
  | .lena _ => []
  | .mm _ xs => xs
  | .no => []
  | .isnil _ _ x => [x]

section
variable {Γ : Tab} {e e' : Env} {h : AH}

theorem getAll_congr : ∀ (l : List AO), (∀ x ∈ l, x.get e = x.get e') → getAll e l = getAll e' l
  | [], _ => rfl
  | x :: l, hl => by
    simp only [getAll]
    rw [hl x (by simp), getAll_congr l fun y hy => hl y (by simp [hy])]
theorem parts_congr : ∀ (l : List (Nat × Nat × AO)) (cs : List AV), (∀ p ∈ l, p.2.2.get e = p.2.2.get e') → parts e l cs = parts e' l cs
  | [], _, _ => rfl
  | (off, size, x) :: l, cs, hl => by
    have hx : x.get e = x.get e' := hl (off, size, x) (by simp)
    simp only [parts, hx]
    rw [parts_congr l _ fun y hy => hl y (by simp [hy])]
theorem bparts_congr (sz : Nat) : ∀ (l : List (Nat × AO)) (es : List AV) (h : AH), (∀ p ∈ l, p.2.get e = p.2.get e') → bparts e sz l es h = bparts e' sz l es h
  | [], _, _, _ => rfl
  | (i, x) :: l, es, h, hl => by
    have hx : x.get e = x.get e' := hl (i, x) (by simp)
    simp only [bparts, hx]
    congr 1
    funext r
    rw [bparts_congr sz l _ _ fun y hy => hl y (by simp [hy])]
theorem bpartsP_congr (sz : Nat) : ∀ (l : List (Nat × AO)) (es : List AV), (∀ p ∈ l, p.2.get e = p.2.get e') → bpartsP e sz l es = bpartsP e' sz l es
  | [], _, _ => rfl
  | (i, x) :: l, es, hl => by
    have hx : x.get e = x.get e' := hl (i, x) (by simp)
    simp only [bpartsP, hx]
    rw [bpartsP_congr sz l _ fun y hy => hl y (by simp [hy])]
theorem optNat_congr (d : Nat) (x : Option AO) (hx : ∀ y ∈ oper? x, y.get e = y.get e') : optNat d e x = optNat d e' x := by
  cases x with
  | none => rfl
  | some y => simp only [optNat, hx y (by simp [oper?])]

theorem exec_congr (op : AOp) (ho : ∀ x ∈ op.ops, x.get e = x.get e') : exec Γ e h op = exec Γ e' h op := by
  cases op with
  | build zero ps => simp only [exec]; rw [parts_congr ps _ fun p hp => ho p.2.2 (by simp only [AOp.ops, List.mem_map]; exact ⟨p, hp, rfl⟩)]
  | bsl sz zero len ps => simp only [exec]; rw [bpartsP_congr _ ps _ fun p hp => ho p.2 (by simp only [AOp.ops, List.mem_map]; exact ⟨p, hp, rfl⟩)]
  | bslh sz zero len ps => simp only [exec]; rw [bparts_congr _ ps _ _ fun p hp => ho p.2 (by simp only [AOp.ops, List.mem_map]; exact ⟨p, hp, rfl⟩)]
  | mkf f a c => simp only [exec]; rw [getAll_congr a fun y hy => ho y (by simp [AOp.ops, hy]), getAll_congr c fun y hy => ho y (by simp [AOp.ops, hy])]
  | call f as => simp only [exec]; rw [getAll_congr as ho]
  | callp f as => simp only [exec]; rw [getAll_congr as ho]
  | callv f as =>
    simp only [exec]
    rw [getAll_congr as fun y hy => ho y (by simp [AOp.ops, hy]), ho f (by simp [AOp.ops])]
  | mm m xs => simp only [exec]; rw [getAll_congr xs ho]
  | sls x lo hi =>
    simp only [exec]
    rw [ho x (by simp [AOp.ops])]
    have h1 := fun d => optNat_congr (e := e) (e' := e') d lo fun y hy => ho y (by simp [AOp.ops, hy])
    have h2 := fun d => optNat_congr (e := e) (e' := e') d hi fun y hy => ho y (by simp [AOp.ops, hy])
    simp only [h1, h2]
  | sll sz x lo hi mx =>
    simp only [exec]
    rw [ho x (by simp [AOp.ops])]
    have h1 := fun d => optNat_congr (e := e) (e' := e') d lo fun y hy => ho y (by simp [AOp.ops, hy])
    have h2 := fun d => optNat_congr (e := e) (e' := e') d hi fun y hy => ho y (by simp [AOp.ops, hy])
    cases mx with
    | none => simp only [h1, h2]
    | some m => simp only [h1, h2, ho m (by simp [AOp.ops, oper?])]
  | _ => simp only [AOp.ops, List.mem_cons, List.not_mem_nil, or_false, forall_eq_or_imp, forall_eq] at ho <;> simp only [exec, ho]

/-- It looks at no row and changes none. -/
def AOp.isN : AOp → Bool
  | .mv _ | .pick .. | .build .. | .bsl .. | .nck _ | .bin .. | .beq .. | .seq .. | .un .. | .conv .. | .cstr _ | .mki .. | .mkf .. | .sls .. | .fad .. | .fld .. | .iada .. | .idxs .. | .idxa .. | .ext .. | .callp .. | .len .. | .lena _ | .mm .. | .no | .isnil .. => true
  | _ => false
/-- It changes none. -/
def AOp.isR : AOp → Bool
  | .load .. | .bts _ | .sll .. | .iad .. => true
  | x => x.isN

/-- It looks at rows' versions alone. -/
def AOp.isVer : AOp → Bool
  | .sll .. | .iad .. => true
  | _ => false
/-- It changes none of these. -/
def AOp.isW0 : AOp → Bool
  | .store .. | .alloc _ | .box _ => true
  | _ => false

theorem exec_N (op : AOp) (hn : op.isN = true) : exec Γ e h op = (exec Γ e [] op).map fun r => (r.1, h) := by
  cases op <;> first | (cases hn; done) | skip
  case mv => rfl
  case no => rfl
  case isnil => simp only [exec]; generalize isNil _ _ _ = q; cases q <;> rfl
  case mkf => rfl
  case mki => rfl
  case lena => rfl
  case pick => simp only [exec]; split <;> rfl
  case build => simp only [exec]; rename_i zero ps; cases parts e ps zero <;> rfl
  case bsl => simp only [exec]; rename_i sz zero len ps; cases bpartsP e sz ps (List.replicate len zero) <;> rfl
  case nck => simp only [exec]; split <;> first | rfl | (split <;> rfl)
  case bin => simp only [exec]; generalize Am.bin _ _ _ = q; cases q <;> rfl
  case beq => simp only [exec]; split <;> rfl
  case seq => simp only [exec]; split <;> first | rfl | (generalize cellsEq _ _ _ = q; cases q <;> simp only [Option.bind_none, Option.bind_some, Option.map_none] <;> split <;> rfl)
  case un => simp only [exec]; generalize Am.un _ _ = q; cases q <;> rfl
  case conv => simp only [exec]; split <;> rfl
  case cstr => simp only [exec]; split <;> rfl
  case sls =>
    simp only [exec]; split <;> first | rfl | skip
    generalize optNat _ _ _ = q1; cases q1 <;> first | rfl | skip
    simp only [Option.bind_some]
    generalize optNat _ _ _ = q2; cases q2 <;> first | rfl | skip
    simp only [Option.bind_some]; split <;> rfl
  case fad => simp only [exec]; split <;> first | rfl | (split <;> rfl)
  case fld => simp only [exec]; split <;> first | rfl | (split <;> first | rfl | (generalize shape _ _ _ = q; cases q <;> rfl))
  case iada =>
    simp only [exec]
    generalize nat? _ = q; cases q <;> first | rfl | skip
    simp only [Option.bind_some]; split <;> first | rfl | (split <;> first | rfl | (split <;> rfl))
  case idxs =>
    simp only [exec]; split <;> first | rfl | skip
    generalize nat? _ = q; cases q <;> first | rfl | skip
    simp only [Option.bind_some]
    generalize ((_ : List UInt8)[(_ : Nat)]? : Option UInt8) = q; cases q <;> rfl
  case idxa =>
    simp only [exec]; split <;> first | rfl | skip
    generalize nat? _ = q; cases q <;> first | rfl | skip
    simp only [Option.bind_some]; split <;> first | rfl | (generalize shape _ _ _ = q; cases q <;> rfl)
  case ext =>
    simp only [exec]; split <;> first | rfl | skip
    generalize ((_ : List AV)[(_ : Nat)]? : Option AV) = q; cases q <;> rfl
  case callp => simp only [exec]; split <;> first | rfl | (generalize Γ.p _ _ = q; cases q <;> rfl)
  case len => simp only [exec]; generalize slen _ _ = q; cases q <;> rfl
  case mm =>
    simp only [exec]; split <;> first | rfl | (generalize mmAll _ _ _ = q; cases q <;> rfl)

theorem exec_R (op : AOp) (hr : op.isR = true) {v : AV} {h' : AH} (hx : exec Γ e h op = some (v, h')) : h' = h := by
  by_cases hn : op.isN = true
  · rw [exec_N op hn] at hx
    cases hq : exec Γ e [] op with
    | none => rw [hq] at hx; cases hx
    | some r => rw [hq] at hx; cases hx; rfl
  · cases op <;> first | (exact absurd rfl hn) | (exact absurd hr hn) | skip
    case load =>
      simp only [exec, keepH, Option.bind_eq_some_iff] at hx
      obtain ⟨_, _, _, _, hx⟩ := hx
      cases hx; rfl
    case bts =>
      simp only [exec, Option.bind_eq_some_iff] at hx
      obtain ⟨_, _, _, _, hx⟩ := hx
      cases hx; rfl
    case sll =>
      simp only [exec] at hx
      split at hx <;> first | (cases hx; done) | skip
      all_goals
        simp only [Option.bind_eq_some_iff] at hx
        obtain ⟨_, _, _, _, hx⟩ := hx
        split at hx
        · split at hx
          · cases hx; rfl
          · cases hx
        · simp only [Option.bind_eq_some_iff] at hx
          obtain ⟨_, _, hx⟩ := hx
          split at hx
          · cases hx; rfl
          · cases hx
    case iad =>
      simp only [exec] at hx
      split at hx <;> first | (cases hx; done) | skip
      · simp only [Option.bind_eq_some_iff] at hx
        obtain ⟨_, _, _, _, hx⟩ := hx
        split at hx
        · cases hx; rfl
        · cases hx
      · simp only [Option.bind_eq_some_iff] at hx
        obtain ⟨_, _, hx⟩ := hx
        split at hx
        · cases hx; rfl
        · cases hx

theorem exec_ver (op : AOp) (hs : op.isVer = true) {h2 : AH} (hr : ∀ b v, rowSz h2 b v = rowSz h b v) {v : AV} {h' : AH} (hx : exec Γ e h op = some (v, h')) : exec Γ e h2 op = some (v, h2) := by
  cases op <;> first | (cases hs; done) | skip
  case sll sz x lo hi mx =>
    simp only [exec] at hx ⊢
    split at hx
    · simp only [Option.bind_eq_some_iff] at hx
      obtain ⟨a, ha, b, hb, hx⟩ := hx
      simp only [ha, hb, Option.bind_some]
      split at hx
      · split at hx
        · rename_i hc; cases hx; rw [if_pos hc]
        · cases hx
      · simp only [Option.bind_eq_some_iff] at hx
        obtain ⟨c, hc, hx⟩ := hx
        simp only [hc, Option.bind_some]
        split at hx
        · rename_i hc; cases hx; rw [if_pos hc]
        · cases hx
    · simp only [Option.bind_eq_some_iff] at hx
      obtain ⟨a, ha, b, hb, hx⟩ := hx
      simp only [ha, hb, Option.bind_some, hr]
      split at hx
      · split at hx
        · rename_i hc; cases hx; rw [if_pos hc]
        · cases hx
      · simp only [Option.bind_eq_some_iff] at hx
        obtain ⟨c, hc, hx⟩ := hx
        simp only [hc, Option.bind_some]
        split at hx
        · rename_i hc; cases hx; rw [if_pos hc]
        · cases hx
    · cases hx
  case iad sz x i =>
    simp only [exec] at hx ⊢
    split at hx
    · simp only [Option.bind_eq_some_iff] at hx
      obtain ⟨a, ha, b, hb, hx⟩ := hx
      simp only [ha, hb, Option.bind_some]
      split at hx
      · rename_i hc; cases hx; rw [if_pos hc]
      · cases hx
    · simp only [Option.bind_eq_some_iff] at hx
      obtain ⟨a, ha, hx⟩ := hx
      simp only [ha, Option.bind_some, hr]
      split at hx
      · rename_i hc; cases hx; rw [if_pos hc]
      · cases hx
    · cases hx

theorem rowSz_set {b : Nat} {X Y : AB} (hX : h[b]? = some X) (hs : ∀ v, (match Y with | .row v' sz _ => if v = v' then some sz else none | .fro v' sz _ => if v = v' then some sz else none | _ => none) =
    (match X with | .row v' sz _ => if v = v' then some sz else none | .fro v' sz _ => if v = v' then some sz else none | _ => none)) (i v : Nat) : rowSz (h.set b Y) i v = rowSz h i v := by
  have hlt : b < h.length := (List.getElem?_eq_some_iff.1 hX).1
  unfold rowSz
  by_cases hi : i = b
  · subst hi
    rw [List.getElem?_set_self hlt, hX]
    have := hs v
    cases X <;> cases Y <;> exact this
  · rw [List.getElem?_set_ne (fun e => hi e.symm)]

theorem rowSz_push {cs : List AV} (i v : Nat) : rowSz (h ++ [.var cs]) i v = rowSz h i v := by
  unfold rowSz
  by_cases hi : i < h.length
  · rw [List.getElem?_append_left hi]
  · rw [List.getElem?_append_right (by omega), List.getElem?_eq_none (l := h) (by omega)]
    cases hj : i - h.length with
    | zero => rfl
    | succ j => rfl

theorem purS_rowSz {h h' : AH} {a a' : AV} (hp : purS h a = some (a', h')) (i v : Nat) : rowSz h' i v = rowSz h i v := by
  cases a <;> simp only [purS] at hp
  case own b vv o n =>
    split at hp
    · rename_i v' sz es hX
      split at hp
      · cases hp; exact rowSz_set hX (fun _ => rfl) i v
      · cases hp
    · split at hp
      · cases hp; rfl
      · cases hp
    · cases hp
  all_goals
    split at hp
    · cases hp; rfl
    · cases hp
theorem purL_rowSz : ∀ {l l' : List AV} {h h' : AH}, purL h l = some (l', h') → ∀ (i v : Nat), rowSz h' i v = rowSz h i v
  | [], l', h, h', hp, i, v => by simp only [purL] at hp; cases hp; rfl
  | a :: l, l', h, h', hp, i, v => by
    simp only [purL, Option.bind_eq_some_iff] at hp
    obtain ⟨⟨a', h1⟩, h1e, ⟨l2, h2⟩, h2e, hp⟩ := hp
    cases hp
    rw [purL_rowSz h2e, purS_rowSz h1e]
theorem purE_rowSz {h h' : AH} {a a' : AV} (hp : purE h a = some (a', h')) (i v : Nat) : rowSz h' i v = rowSz h i v := by
  unfold purE at hp
  split at hp
  · cases hp; rfl
  · split at hp
    · simp only [Option.bind_eq_some_iff] at hp
      obtain ⟨⟨l, h1⟩, h1e, hp⟩ := hp
      cases hp
      exact purL_rowSz h1e i v
    · exact purS_rowSz hp i v

theorem exec_W0 (op : AOp) (hs : op.isW0 = true) {v : AV} {h' : AH} (hx : exec Γ e h op = some (v, h')) (i u : Nat) : rowSz h' i u = rowSz h i u := by
  cases op <;> first | (cases hs; done) | skip
  case alloc zero => simp only [exec] at hx; cases hx; exact rowSz_push i u
  case box x =>
    simp only [exec] at hx
    split at hx
    · cases hx; exact rowSz_push i u
    · cases hx
  case store sz a x =>
    simp only [exec, Option.bind_eq_some_iff] at hx
    obtain ⟨h1, hst, hx⟩ := hx
    cases hx
    unfold storeAt at hst
    split at hst
    · split at hst
      · rename_i hX
        split at hst
        · cases hst; exact rowSz_set hX (fun _ => rfl) i u
        · cases hst
      · simp only [Option.bind_eq_some_iff] at hst
        obtain ⟨⟨x', h2⟩, hp, hst⟩ := hst
        split at hst
        · rename_i hX
          simp only [Option.bind_eq_some_iff] at hst
          obtain ⟨y, hy, hst⟩ := hst
          split at hst
          · cases hst
            rw [rowSz_set hX (fun _ => rfl) i u, purE_rowSz hp]
          · cases hst
        · cases hst
      · cases hst
    · cases hst
end
end Go.Am
