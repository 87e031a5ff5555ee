/-
 The abstract machine: from a law's evaluation to its statement.
-/
import Derived.Test.YtgefdmkmobaefaaAmIn
set_option linter.unusedSimpArgs false
set_option linter.unusedVariables false
namespace Go.Am
open Go.ChangeShapes Go.WideShapes Go.ChangeAt Go.RowKit
def isStr (P : Program) (t : TypeId) : Bool := match P.underlying t with | some (.struct _) => true | some (.array _ _) => true | _ => false
def ArgT (str : Bool) (tds : List TD) (a : AV) : Prop :=
 if str then ∃ cs, a = .agg cs ∧ cs.length = tds.length ∧ ∀ (j : Nat) (y : AV) (td : TD), cs[j]? = some y → tds[j]? = some td → HasT td y
 else ∃ td, tds = [td] ∧ HasT td a
theorem HasT.isS {td : TD} {a : AV} (h : HasT td a) : a.isS = true := by cases h <;> rfl
theorem ArgT.isE {str : Bool} {tds : List TD} {a : AV} (h : ArgT str tds a) : a.isE = true := by
 unfold ArgT at h
 split at h
 ·obtain ⟨cs, rfl, hl, hc⟩ := h
  show cs.all AV.isS = true
  rw [List.all_eq_true]
  intro y hy
  obtain ⟨j, hj⟩ := List.getElem?_of_mem hy
  have hlt : j < tds.length := by rw [← hl]; exact (List.getElem?_eq_some_iff.1 hj).1
  exact (hc j y _ hj (List.getElem?_eq_getElem hlt)).isS
 ·obtain ⟨td, _, h⟩ := h
  cases h <;> rfl
section
variable {H : Type} {enc : TypeId × Value → H} {P : Program} {w : World}
theorem arg_good {n : Nat} {t : TypeId} {tds : List TD} (ht : rowTD P n t = some tds) {base : Nat} {v : Value} (hv : Value.okWide P w .any base t v) {d : DataW H} {ps : List MemPlace}
  (hr : DataW.Trod enc P w 0 (fun _ => true) true t v d ps) : ∃ a, PVR (fun _ => False) w a v ∧ ArgT (isStr P t) tds a := by
 obtain ⟨fuel, hr⟩ := hr
 have hg := trod_good n t tds ht fuel _ _ hr
 obtain ⟨as, k1, k2, k3⟩ := hg.list
 unfold isStr ArgT
 cases n with
 | zero => cases ht
 | succ n =>
  simp only [rowTD] at ht
  unfold Value.okWide at hv
  have one : v.cells = #[v] → (∃ td, tds = [td]) → ∃ a, PVR (fun _ => False) w a v ∧ ∃ td, tds = [td] ∧ HasT td a := by
   rintro hc ⟨td, rfl⟩
   rw [hc] at k1 k2
   obtain ⟨a, rfl⟩ := List.length_eq_one_iff.1 (show as.length = 1 by simpa using k1)
   exact ⟨a, (k2 0 a v rfl rfl).1, td, rfl, k3 0 a td rfl rfl⟩
  split at ht
  ·rename_i hu
   simp only [hu] at hv ⊢
   cases ht
   simp only [Cell.okWide, hu] at hv
   refine one ?_ ⟨_, rfl⟩
   cases v <;> first | rfl | (simp [Cell.ok, hu] at hv; done)
  ·rename_i k hu
   simp only [hu] at hv ⊢
   cases ht
   simp only [Cell.okWide, hu] at hv
   refine one ?_ ⟨_, rfl⟩
   cases v <;> first | rfl | (simp [Cell.ok, hu] at hv; done)
  ·rename_i hu
   simp only [hu] at hv ⊢
   cases ht
   simp only [Cell.okWide, hu] at hv
   refine one ?_ ⟨_, rfl⟩
   cases v <;> first | rfl | (simp [Cell.ok, hu] at hv; done)
  ·rename_i e hu
   simp only [hu] at hv ⊢
   simp only [Cell.okWide, hu] at hv
   refine one ?_ ?_
   ·cases v <;> first | rfl | (simp [Cell.ok, hu] at hv; done)
   ·simp only [Option.bind_eq_some_iff] at ht
    obtain ⟨cs, _, ht⟩ := ht
    split at ht
    ·split at ht
     ·cases ht; exact ⟨_, rfl⟩
     ·split at ht
      ·cases ht; exact ⟨_, rfl⟩
      ·cases ht
    ·cases ht
  ·rename_i fs hu
   simp only [hu] at hv ⊢
   obtain ⟨cs, rfl, _, _⟩ := hv
   refine ⟨.agg as, ?_, as, rfl, by rw [k1]; exact hg.1.symm, k3⟩
   have : Value.agg cs = .agg cs.toList.toArray := by simp
   rw [this]
   refine .agg as cs.toList (by rw [k1]; rfl) (fun u hu => ?_) (fun j y u hy hu => (k2 j y u hy hu).1)
   obtain ⟨j, hj⟩ := List.getElem?_of_mem hu
   have hlt : j < as.length := by rw [k1]; exact (List.getElem?_eq_some_iff.1 hj).1
   exact (k2 j _ u (List.getElem?_eq_getElem hlt) hj).2
  ·rename_i m e hu
   simp only [hu] at hv ⊢
   obtain ⟨cs, rfl, _, _⟩ := hv
   refine ⟨.agg as, ?_, as, rfl, by rw [k1]; exact hg.1.symm, k3⟩
   have : Value.agg cs = .agg cs.toList.toArray := by simp
   rw [this]
   refine .agg as cs.toList (by rw [k1]; rfl) (fun u hu => ?_) (fun j y u hy hu => (k2 j y u hy hu).1)
   obtain ⟨j, hj⟩ := List.getElem?_of_mem hu
   have hlt : j < as.length := by rw [k1]; exact (List.getElem?_eq_some_iff.1 hj).1
   exact (k2 j _ u (List.getElem?_eq_getElem hlt) hj).2
  ·cases ht
def paramTDs (P : Program) (n : Nat) : List TypeId → Option (List (Bool × List TD))
 | [] => some []
 | t :: l => (rowTD P n t).bind fun tds => (paramTDs P n l).bind fun r => some ((isStr P t, tds) :: r)
inductive ArgsT : List (Bool × List TD) → List AV → Prop where
 | nil : ArgsT [] []
 | cons {p : Bool × List TD} {l : List (Bool × List TD)} {a : AV} {as : List AV} (h : ArgT p.1 p.2 a) (t : ArgsT l as) : ArgsT (p :: l) (a :: as)
theorem ArgsT.isE {l : List (Bool × List TD)} {as : List AV} (h : ArgsT l as) : as.all AV.isE = true := by
 induction h with
 | nil => rfl
 | cons h t ih => simp [h.isE, ih]
theorem args_good {n : Nat} {base : Nat} : ∀ (ts : List TypeId) (vs : List Value) (ds : List (DataW H)) (ps : List MemPlace) (l : List (Bool × List TD)), paramTDs P n ts = some l →
  (∀ (j : Nat) t v, ts[j]? = some t → vs[j]? = some v → Value.okWide P w .any base t v) → DataW.TrodAll enc P w 0 (fun _ => true) true ts vs ds ps →
  ∃ as : List AV, ArgsT l as ∧ as.length = vs.length ∧ ds.length = ts.length ∧ ∀ (j : Nat) (y : AV) (u : Value), as[j]? = some y → vs[j]? = some u → PVR (fun _ => False) w y u
 | [], [], [], ps, l, hl, _, _ => by
  simp only [paramTDs] at hl
  cases hl
  exact ⟨[], .nil, rfl, rfl, fun j y u hy => by simp at hy⟩
 | [], [], _ :: _, _, _, _, _, h => h.elim
 | [], _ :: _, _, _, _, _, _, h => h.elim
 | _ :: _, [], _, _, _, _, _, h => h.elim
 | _ :: _, _ :: _, [], _, _, _, _, h => h.elim
 | t :: ts, v :: vs, d :: ds, ps, l, hl, hv, h => by
  obtain ⟨p, q, h1, h2, _⟩ := h
  simp only [paramTDs, Option.bind_eq_some_iff] at hl
  obtain ⟨tds, htd, r, hr, hl⟩ := hl
  cases hl
  obtain ⟨a, ha, hat⟩ := arg_good htd (hv 0 t v rfl rfl) h1
  obtain ⟨as, k1, k2, k3, k4⟩ := args_good ts vs ds q r hr (fun j t v ht hv' => hv (j + 1) t v (by simpa using ht) (by simpa using hv')) h2
  refine ⟨a :: as, .cons hat k1, by simp [k2], by simp [k3], fun j y u hy hu => ?_⟩
  cases j with
  | zero => simp at hy hu; subst hy; subst hu; exact ha
  | succ j => exact k4 j y u (by simpa using hy) (by simpa using hu)
theorem trodAll_below (hl : laidOutB P = true) {W W' : World} (hb : Below W.heap.size W W') : ∀ {ts : List TypeId} {vs : List Value} {ds : List (DataW H)} {ps : List MemPlace}, ts.all (fun t => P.readableRec t && decide (t < P.types.size)) = true →
  DataW.TrodAll enc P W 0 (fun _ => true) true ts vs ds ps → (∀ x ∈ ps, x.block < W.heap.size) → DataW.TrodAll enc P W' 0 (fun b => decide (b < W.heap.size)) true ts vs ds ps
 | [], [], [], _, _, h, _ => h
 | [], [], _ :: _, _, _, h, _ => h.elim
 | [], _ :: _, _, _, _, h, _ => h.elim
 | _ :: _, [], _, _, _, h, _ => h.elim
 | _ :: _, _ :: _, [], _, _, h, _ => h.elim
 | t :: ts, v :: vs, d :: ds, ps, hr, h, hlt => by
  obtain ⟨p, q, h1, h2, rfl⟩ := h
  simp only [List.all_cons, Bool.and_eq_true, decide_eq_true_eq] at hr
  exact ⟨p, q, Below.trod hl hr.1.1 hr.1.2 h1 hb (fun x hx => hlt x (by simp [hx])), trodAll_below hl hb hr.2 h2 (fun x hx => hlt x (by simp [hx])), rfl⟩
theorem keptBut_below {W W' : World} (hb : Below W.heap.size W W') (may : MemPlace → Prop) : W.keptBut W' may := by
 refine ⟨hb.os, hb.output, fun i hi => ?_⟩
 rw [hb.block i hi]
 cases hq : W.heap[i]? with
 | none => rfl
 | some o => cases o <;> simp
theorem law_contract {Γ : Tab} (hm : P.follows .mixedOrders = true) (hΓ : TabOK P Γ) (hlaid : laidOutB P = true) {f : FuncId} {F : AF} (ok : okF P f F = true) {fn : Func} {s : ChangeSpec} (hsv : s.vars = [])
  (hread : fn.params.toList.all (fun t => P.readableRec t && decide (t < P.types.size)) = true) {n : Nat} {l : List (Bool × List TD)} (htd : paramTDs P n fn.params.toList = some l)
  {tb : TypeId} (hrt : fn.resultTypes = #[tb]) (htb : P.underlying tb = some .bool) (hs : ∀ (H : Type) (ds : List (DataW H)), ds.length = fn.params.size → s.fn H ds = { results := [.lit (.bool true)], args := ds })
  (law : ∀ args, ArgsT l args → runP Γ F args = some (.bool true))
  {W : World} {base : Nat} {args : Array Value} {ds gs : List (DataW H)} {before : List MemPlace} (hval : ∀ (j : Nat) t v, fn.params[j]? = some t → args[j]? = some v → Value.okWide P W .any base t v)
  (hW : DataW.Whole enc P fn.params.toList s.vars false W args.toList ds gs before) :
  Calls P f args W fun e W' => ∃ v, e = .returned v ∧ s.post enc P fn false true false false W args v W' := by
 have hW' := hW
 obtain ⟨p, q, hA, hV, rfl, hfz, hnd⟩ := hW
 rw [hsv] at hV
 have hgq : gs = [] ∧ q = [] := by
  cases gs with
  | nil => exact ⟨rfl, hV⟩
  | cons g gs => exact hV.elim
 obtain ⟨rfl, rfl⟩ := hgq
 obtain ⟨as, k1, k2, k3, k4⟩ := args_good fn.params.toList args.toList ds p l htd (fun j t v ht hv => hval j t v (by simpa using ht) (by simpa using hv)) hA
 obtain ⟨_, hcall⟩ := runP_snd hm hΓ ok k1.isE (law as k1) []
 let β0 : Bds := fun _ _ => none
 have own0 : ∀ c, ¬ Own (fun _ => False) β0 [] c := by
  rintro c (h | ⟨i, X, hX, _⟩)
  ·exact h
  ·simp at hX
 have R0 : Rel (fun _ => False) β0 [] W := ⟨fun c h => h.elim, fun i c _ h => h, fun _ _ _ => rfl, fun i v sz es v' h => by simp at h, fun i b h => by simp at h, fun i j c ⟨X, hX, _⟩ => by simp at hX⟩
 have hc := hcall (fun _ => False) β0 W args.toList R0 (by simpa using k2) fun j y u hy hu => .pure _ _ ((k4 j y u hy hu).mono ⟨Nat.le_refl _, fun b _ _ => ⟨rfl, own0 b⟩⟩)
 rw [Array.toArray_toList] at hc
 refine hc.mono ?_
 rintro e W' ⟨v, β', rfl, R1, F1, V1⟩
 have hv := V1.bool_inv
 subst hv
 have hb : Below W.heap.size W W' := ⟨F1.os, F1.tape, F1.output, F1.stay.1, fun k hk => (F1.stay.2 k hk (own0 k)).1⟩
 have hlt : ∀ x ∈ p, x.block < W.heap.size := fun x hx => by have := hW'.lt x (by simpa using hx); simpa using this
 have hfn := hs H (ds ++ []) (by simpa using k3)
 refine ⟨_, rfl, ds, [], p ++ [], [], p, [], hW', ?_, ?_, ?_, keptBut_below hb _, fun h => by cases h⟩
 ·rw [hfn, hrt]
  exact ⟨[], [], ⟨1, by simp [DataW.trod, htb, Value.cells]⟩, rfl, rfl⟩
 ·rw [hfn, List.append_nil]
  exact trodAll_below hlaid hb hread hA hlt
 ·rw [hfn, hsv]
  exact rfl
end
end Go.Am
