/-
 The abstract machine: loops over lists; small rules.
-/
import Derived.Test.YtgefdmkmobaefaaAmGS
set_option linter.unusedSimpArgs false
set_option linter.unusedVariables false
namespace Go.Am
theorem wrap_of {n : Int} (h1 : -9223372036854775808 ≤ n) (h2 : n ≤ 9223372036854775807) : IntKind.i64.wrap n = n := by
 have e : IntKind.i64.wrap n = if decide (n % 18446744073709551616 ≥ 9223372036854775808) = true then n % 18446744073709551616 - 18446744073709551616 else n % 18446744073709551616 := rfl
 rw [e]
 by_cases h : 0 ≤ n
 ·rw [Int.emod_eq_of_lt h (by omega)]
  rw [if_neg (by simp; omega)]
 ·have : n % 18446744073709551616 = n + 18446744073709551616 := by omega
  rw [this, if_pos (by simp; omega)]; omega
def foldE {α σ τ : Type} (g : σ → α → σ ⊕ τ) : List α → σ → σ ⊕ τ
 | [], s => .inl s
 | a :: l, s => match g s a with
  | .inl s' => foldE g l s'
  | .inr t => .inr t
section
variable {α σ X Y : Type} {f : X → Option (X ⊕ Y)}
theorem for_from (emb : Nat → σ → X) (l : List α) (g : σ → α → σ) (fin : σ → Y) (I : Nat → σ → Prop)
  (hstep : ∀ i (hi : i < l.length) s, I i s → I (i + 1) (g s l[i]) ∧ f (emb i s) = some (.inl (emb (i + 1) (g s l[i]))))
  (hend : ∀ s, I l.length s → f (emb l.length s) = some (.inr (fin s))) : ∀ n i s, l.length - i = n → i ≤ l.length → I i s → iter f (emb i s) = some (fin ((l.drop i).foldl g s))
 | 0, i, s, hn, hi, h => by
  have : i = l.length := by omega
  subst this
  rw [iter_eq, hend s h, List.drop_length]
  rfl
 | n + 1, i, s, hn, hi, h => by
  have hlt : i < l.length := by omega
  obtain ⟨h1, h2⟩ := hstep i hlt s h
  rw [iter_eq, h2, List.drop_eq_getElem_cons hlt]
  exact for_from emb l g fin I hstep hend n (i + 1) _ (by omega) hlt h1
theorem for_list (emb : Nat → σ → X) (l : List α) (g : σ → α → σ) (fin : σ → Y) (I : Nat → σ → Prop)
  (hstep : ∀ i (hi : i < l.length) s, I i s → I (i + 1) (g s l[i]) ∧ f (emb i s) = some (.inl (emb (i + 1) (g s l[i]))))
  (hend : ∀ s, I l.length s → f (emb l.length s) = some (.inr (fin s))) (s : σ) (h0 : I 0 s) : iter f (emb 0 s) = some (fin (l.foldl g s)) :=
 for_from emb l g fin I hstep hend _ 0 s rfl (Nat.zero_le _) h0
theorem for_fromE (emb : Nat → σ → X) (l : List α) (g : σ → α → σ ⊕ Y) (fin : σ → Y) (I : Nat → σ → Prop)
  (hstep : ∀ i (hi : i < l.length) s, I i s → match g s l[i] with
   | .inl s' => I (i + 1) s' ∧ f (emb i s) = some (.inl (emb (i + 1) s'))
   | .inr y => f (emb i s) = some (.inr y))
  (hend : ∀ s, I l.length s → f (emb l.length s) = some (.inr (fin s))) : ∀ n i s, l.length - i = n → i ≤ l.length → I i s → iter f (emb i s) = some (match foldE g (l.drop i) s with | .inl s' => fin s' | .inr y => y)
 | 0, i, s, hn, hi, h => by
  have : i = l.length := by omega
  subst this
  rw [iter_eq, hend s h, List.drop_length]
  rfl
 | n + 1, i, s, hn, hi, h => by
  have hlt : i < l.length := by omega
  have h1 := hstep i hlt s h
  rw [List.drop_eq_getElem_cons hlt]
  simp only [foldE]
  split at h1
  ·rename_i s' hs
   obtain ⟨h1, h2⟩ := h1
   rw [iter_eq, h2]
   exact for_fromE emb l g fin I hstep hend n (i + 1) _ (by omega) hlt h1
  ·rename_i y hs
   rw [iter_eq, h1]
theorem for_listE (emb : Nat → σ → X) (l : List α) (g : σ → α → σ ⊕ Y) (fin : σ → Y) (I : Nat → σ → Prop)
  (hstep : ∀ i (hi : i < l.length) s, I i s → match g s l[i] with
   | .inl s' => I (i + 1) s' ∧ f (emb i s) = some (.inl (emb (i + 1) s'))
   | .inr y => f (emb i s) = some (.inr y))
  (hend : ∀ s, I l.length s → f (emb l.length s) = some (.inr (fin s))) (s : σ) (h0 : I 0 s) : iter f (emb 0 s) = some (match foldE g l s with | .inl s' => fin s' | .inr y => y) :=
 for_fromE emb l g fin I hstep hend _ 0 s rfl (Nat.zero_le _) h0
theorem for_cmpF {β : Type} (emb : Nat → X) (a : List α) (b : List β) (hl : a.length = b.length) (p : α → β → Bool) (yes no : Y)
  (hstep : ∀ i (h : i < a.length) (h' : i < b.length), f (emb i) = if p a[i] b[i] = true then some (.inl (emb (i + 1))) else some (.inr no))
  (hend : f (emb a.length) = some (.inr yes)) : ∀ n i, a.length - i = n → i ≤ a.length → iter f (emb i) = some (if ((a.drop i).zip (b.drop i)).all (fun x => p x.1 x.2) = true then yes else no)
 | 0, i, hn, hi => by
  have : i = a.length := by omega
  subst this
  rw [iter_eq, hend, List.drop_length]
  rfl
 | n + 1, i, hn, hi => by
  have h1 : i < a.length := by omega
  have h2 : i < b.length := by omega
  rw [iter_eq, hstep i h1 h2, List.drop_eq_getElem_cons h1, List.drop_eq_getElem_cons h2, List.zip_cons_cons, List.all_cons]
  cases hp : p a[i] b[i] with
  | true =>
   simp only [if_true, Bool.true_and]
   exact for_cmpF emb a b hl p yes no hstep hend n (i + 1) (by omega) h1
  | false => simp only [Bool.false_eq_true, if_false, Bool.false_and]
theorem for_cmp {β : Type} (emb : Nat → X) (a : List α) (b : List β) (hl : a.length = b.length) (p : α → β → Bool) (yes no : Y)
  (hstep : ∀ i (h : i < a.length) (h' : i < b.length), f (emb i) = if p a[i] b[i] = true then some (.inl (emb (i + 1))) else some (.inr no))
  (hend : f (emb a.length) = some (.inr yes)) : iter f (emb 0) = some (if (a.zip b).all (fun x => p x.1 x.2) = true then yes else no) :=
 for_cmpF emb a b hl p yes no hstep hend _ 0 rfl (Nat.zero_le _)
theorem for_allF (emb : Nat → X) (a : List α) (p : α → Bool) (yes no : Y)
  (hstep : ∀ i (h : i < a.length), f (emb i) = if p a[i] = true then some (.inl (emb (i + 1))) else some (.inr no))
  (hend : f (emb a.length) = some (.inr yes)) : ∀ n i, a.length - i = n → i ≤ a.length → iter f (emb i) = some (if (a.drop i).all p = true then yes else no)
 | 0, i, hn, hi => by
  have : i = a.length := by omega
  subst this
  rw [iter_eq, hend, List.drop_length]
  rfl
 | n + 1, i, hn, hi => by
  have h1 : i < a.length := by omega
  rw [iter_eq, hstep i h1, List.drop_eq_getElem_cons h1, List.all_cons]
  cases hp : p a[i] with
  | true =>
   simp only [if_true, Bool.true_and]
   exact for_allF emb a p yes no hstep hend n (i + 1) (by omega) h1
  | false => simp only [Bool.false_eq_true, if_false, Bool.false_and]
theorem for_all (emb : Nat → X) (a : List α) (p : α → Bool) (yes no : Y)
  (hstep : ∀ i (h : i < a.length), f (emb i) = if p a[i] = true then some (.inl (emb (i + 1))) else some (.inr no))
  (hend : f (emb a.length) = some (.inr yes)) : iter f (emb 0) = some (if a.all p = true then yes else no) :=
 for_allF emb a p yes no hstep hend _ 0 rfl (Nat.zero_le _)
end
@[simp] theorem okc_bool (b : Bool) : (AV.bool b).okc = true := rfl
@[simp] theorem okc_int (k : IntKind) (n : Int) : (AV.int k n).okc = true := rfl
@[simp] theorem okc_str (s : List UInt8) : (AV.str s).okc = true := rfl
@[simp] theorem okc_lst (f : Bool) (es : List AV) : (AV.lst f es).okc = true := rfl
@[simp] theorem okc_own (b v o n : Nat) : (AV.own b v o n).okc = true := rfl
@[simp] theorem okc_mpv (b : Nat) : (AV.mpv b).okc = true := rfl
@[simp] theorem okc_ptr (b v i o : Nat) : (AV.ptr b v i o).okc = true := rfl
@[simp] theorem okc_fn (f : Fn) (a c : List AV) : (AV.fn f a c).okc = true := rfl
@[simp] theorem okc_nilp : AV.nilp.okc = true := rfl
@[simp] theorem okc_nilm : AV.nilm.okc = true := rfl
@[simp] theorem okc_nilf : AV.nilf.okc = true := rfl
@[simp] theorem okc_nili : AV.nili.okc = true := rfl
@[simp] theorem over_ccons {α : Type} (a x : α) (l xs : List α) : over (a :: l) 0 (x :: xs) = x :: over l 0 xs := by simp [over]
@[simp] theorem over_csucc {α : Type} (a : α) (l xs : List α) (o : Nat) : over (a :: l) (o + 1) xs = a :: over l o xs := by
 have : o + 1 + xs.length = (o + xs.length) + 1 := by omega
 simp [over, this]
@[simp] theorem over_znil {α : Type} (l : List α) : over l 0 [] = l := by simp [over]
@[simp] theorem mm2_int (m : Bool) (k k' : IntKind) (x y : Int) : mm2 m (.int k x) (.int k' y) = some (.int k (if m then max x y else min x y)) := by
 simp only [mm2, Option.some.injEq, AV.int.injEq, true_and]
 cases m
 ·simp only [Bool.false_eq_true, if_false]; split <;> omega
 ·simp only [if_true]; split <;> omega
@[simp] theorem normB_row (L : Nat) (R : List Nat) (h : AH) (i v sz : Nat) (es : List AV) : normB L R h i (.row v sz es) = .row (if R.contains i then 0 else v) sz es := rfl
@[simp] theorem normB_fro (L : Nat) (R : List Nat) (h : AH) (i v sz : Nat) (es : List AV) : normB L R h i (.fro v sz es) = .fro (if R.contains i then 0 else v) sz es := rfl
@[simp] theorem normB_gone (L : Nat) (R : List Nat) (h : AH) (i : Nat) : normB L R h i .gone = .gone := rfl
@[simp] theorem normB_var (L : Nat) (R : List Nat) (h : AH) (i : Nat) (cs : List AV) : normB L R h i (.var cs) = .var (cs.map (normS L R h)) := rfl
@[simp] theorem ite_lt_cast (a b : Nat) : (if a < b then (a : Int) else (b : Int)) = ((min a b : Nat) : Int) := by split <;> omega
@[simp] theorem ite_lt_cast' (a b : Nat) : (if a < b then (b : Int) else (a : Int)) = ((max a b : Nat) : Int) := by split <;> omega
@[simp] theorem normV_bool (L : Nat) (R : List Nat) (h : AH) (b : Bool) : normV L R h (.bool b) = .bool b := rfl
@[simp] theorem normS_bool (L : Nat) (R : List Nat) (h : AH) (b : Bool) : normS L R h (.bool b) = .bool b := rfl
@[simp] theorem purE_bool (h : AH) (b : Bool) : purE h (.bool b) = some (.bool b, h) := rfl
@[simp] theorem purS_bool (h : AH) (b : Bool) : purS h (.bool b) = some (.bool b, h) := rfl
@[simp] theorem purP_bool (h : AH) (b : Bool) : purP h (.bool b) = some (.bool b, h) := rfl
@[simp] theorem normV_int (L : Nat) (R : List Nat) (h : AH) (k : IntKind) (n : Int) : normV L R h (.int k n) = .int k n := rfl
@[simp] theorem normS_int (L : Nat) (R : List Nat) (h : AH) (k : IntKind) (n : Int) : normS L R h (.int k n) = .int k n := rfl
@[simp] theorem purE_int (h : AH) (k : IntKind) (n : Int) : purE h (.int k n) = some (.int k n, h) := rfl
@[simp] theorem purS_int (h : AH) (k : IntKind) (n : Int) : purS h (.int k n) = some (.int k n, h) := rfl
@[simp] theorem purP_int (h : AH) (k : IntKind) (n : Int) : purP h (.int k n) = some (.int k n, h) := rfl
@[simp] theorem normV_str (L : Nat) (R : List Nat) (h : AH) (x : List UInt8) : normV L R h (.str x) = .str x := rfl
@[simp] theorem normS_str (L : Nat) (R : List Nat) (h : AH) (x : List UInt8) : normS L R h (.str x) = .str x := rfl
@[simp] theorem purE_str (h : AH) (x : List UInt8) : purE h (.str x) = some (.str x, h) := rfl
@[simp] theorem purS_str (h : AH) (x : List UInt8) : purS h (.str x) = some (.str x, h) := rfl
@[simp] theorem purP_str (h : AH) (x : List UInt8) : purP h (.str x) = some (.str x, h) := rfl
@[simp] theorem normV_lst (L : Nat) (R : List Nat) (h : AH) (f : Bool) (es : List AV) : normV L R h (.lst f es) = .lst f es := rfl
@[simp] theorem normS_lst (L : Nat) (R : List Nat) (h : AH) (f : Bool) (es : List AV) : normS L R h (.lst f es) = .lst f es := rfl
@[simp] theorem purE_lst (h : AH) (f : Bool) (es : List AV) : purE h (.lst f es) = some (.lst f es, h) := rfl
@[simp] theorem purS_lst (h : AH) (f : Bool) (es : List AV) : purS h (.lst f es) = some (.lst f es, h) := rfl
@[simp] theorem purP_lst (h : AH) (f : Bool) (es : List AV) : purP h (.lst f es) = some (.lst f es, h) := rfl
@[simp] theorem normV_nilp (L : Nat) (R : List Nat) (h : AH)  : normV L R h (.nilp) = .nilp := rfl
@[simp] theorem normV_nilm (L : Nat) (R : List Nat) (h : AH)  : normV L R h (.nilm) = .nilm := rfl
@[simp] theorem normS_nilp (L : Nat) (R : List Nat) (h : AH)  : normS L R h (.nilp) = .nilp := rfl
@[simp] theorem normS_nilm (L : Nat) (R : List Nat) (h : AH)  : normS L R h (.nilm) = .nilm := rfl
@[simp] theorem purE_nilp (h : AH)  : purE h (.nilp) = some (.nilp, h) := rfl
@[simp] theorem purE_nilm (h : AH)  : purE h (.nilm) = some (.nilm, h) := rfl
@[simp] theorem purS_nilp (h : AH)  : purS h (.nilp) = some (.nilp, h) := rfl
@[simp] theorem purS_nilm (h : AH)  : purS h (.nilm) = some (.nilm, h) := rfl
@[simp] theorem purP_nilp (h : AH)  : purP h (.nilp) = some (.nilp, h) := rfl
@[simp] theorem purP_nilm (h : AH)  : purP h (.nilm) = some (.nilm, h) := rfl
@[simp] theorem isS_nilp : (AV.nilp).isS = true := rfl
@[simp] theorem isS_nilm : (AV.nilm).isS = true := rfl
@[simp] theorem isE_nilp : (AV.nilp).isE = true := rfl
@[simp] theorem isE_nilm : (AV.nilm).isE = true := rfl
@[simp] theorem cells_nilp : (AV.nilp).cells = [.nilp] := rfl
@[simp] theorem cells_nilm : (AV.nilm).cells = [.nilm] := rfl
@[simp] theorem isP_nilp : (AV.nilp).isP = true := rfl
@[simp] theorem isP_nilm : (AV.nilm).isP = true := rfl
@[simp] theorem dropR_nilp (R : List Nat) : dropR R .nilp = .nilp := rfl
@[simp] theorem dropR_nilm (R : List Nat) : dropR R .nilm = .nilm := rfl
@[simp] theorem normV_nilf (L : Nat) (R : List Nat) (h : AH)  : normV L R h (.nilf) = .nilf := rfl
@[simp] theorem normS_nilf (L : Nat) (R : List Nat) (h : AH)  : normS L R h (.nilf) = .nilf := rfl
@[simp] theorem purE_nilf (h : AH)  : purE h (.nilf) = some (.nilf, h) := rfl
@[simp] theorem purS_nilf (h : AH)  : purS h (.nilf) = some (.nilf, h) := rfl
@[simp] theorem purP_nilf (h : AH)  : purP h (.nilf) = some (.nilf, h) := rfl
@[simp] theorem isS_nilf : (AV.nilf).isS = true := rfl
@[simp] theorem isE_nilf : (AV.nilf).isE = true := rfl
@[simp] theorem cells_nilf : (AV.nilf).cells = [.nilf] := rfl
@[simp] theorem isP_nilf : (AV.nilf).isP = true := rfl
@[simp] theorem dropR_nilf (R : List Nat) : dropR R .nilf = .nilf := rfl
@[simp] theorem normV_nili (L : Nat) (R : List Nat) (h : AH)  : normV L R h (.nili) = .nili := rfl
@[simp] theorem normS_nili (L : Nat) (R : List Nat) (h : AH)  : normS L R h (.nili) = .nili := rfl
@[simp] theorem purE_nili (h : AH)  : purE h (.nili) = some (.nili, h) := rfl
@[simp] theorem purS_nili (h : AH)  : purS h (.nili) = some (.nili, h) := rfl
@[simp] theorem purP_nili (h : AH)  : purP h (.nili) = some (.nili, h) := rfl
@[simp] theorem isS_nili : (AV.nili).isS = true := rfl
@[simp] theorem isE_nili : (AV.nili).isE = true := rfl
@[simp] theorem cells_nili : (AV.nili).cells = [.nili] := rfl
@[simp] theorem isP_nili : (AV.nili).isP = true := rfl
@[simp] theorem dropR_nili (R : List Nat) : dropR R .nili = .nili := rfl
@[simp] theorem normV_agg (L : Nat) (R : List Nat) (h : AH) (cs : List AV) : normV L R h (.agg cs) = if cs.all AV.isS then .agg cs else .agg (cs.map (normS L R h)) := by unfold normV; simp only [isE_agg]
@[simp] theorem normV_mpv (L : Nat) (R : List Nat) (h : AH) (b : Nat) : normV L R h (.mpv b) = if b < L ∧ ¬ R.contains b then .mpv b else .dead := rfl
@[simp] theorem normS_mpv (L : Nat) (R : List Nat) (h : AH) (b : Nat) : normS L R h (.mpv b) = if b < L ∧ ¬ R.contains b then .mpv b else .dead := rfl
@[simp] theorem normB_mp (L : Nat) (R : List Nat) (h : AH) (i : Nat) (es : List (Int × AV)) : normB L R h i (.mp es) = .mp (es.map fun p => (p.1, normS L R h p.2)) := rfl
@[simp] theorem normV_ptr (L : Nat) (R : List Nat) (h : AH) (b v i o : Nat) : normV L R h (.ptr b v i o) = if b < L ∧ ¬ R.contains b then .ptr b v i o else .dead := rfl
@[simp] theorem normS_ptr (L : Nat) (R : List Nat) (h : AH) (b v i o : Nat) : normS L R h (.ptr b v i o) = if b < L ∧ ¬ R.contains b then .ptr b v i o else .dead := rfl
@[simp] theorem normV_fn (L : Nat) (R : List Nat) (h : AH) (f : Fn) (a c : List AV) : normV L R h (.fn f a c) = if (a ++ c).all (fun x => x.isE || match x with | .ptr b _ _ _ => decide (b < L) && !R.contains b | .mpv b => decide (b < L) && !R.contains b | _ => false) then .fn f a c else .dead := rfl
@[simp] theorem purE_agg (h : AH) (cs : List AV) : purE h (.agg cs) = if cs.all AV.isS then some (.agg cs, h) else @bnd _ _ (purL h cs) ⟨fun p => some (.agg p.1, p.2)⟩ := by unfold purE; simp only [isE_agg]; rfl
@[simp] theorem purE_own (h : AH) (b v o n : Nat) : purE h (.own b v o n) = purS h (.own b v o n) := rfl
@[simp] theorem purP_own' (h : AH) (b v o n : Nat) : purP h (.own b v o n) = purS h (.own b v o n) := rfl
@[simp] theorem purP_agg (h : AH) (cs : List AV) : purP h (.agg cs) = purE h (.agg cs) := by
 unfold purP
 simp only [isP_agg]
 split
 ·rename_i h1; unfold purE; simp only [isE_agg, h1, if_true]
 ·rfl
@[simp] theorem purP_tup (h : AH) (vs : List AV) : purP h (.tup vs) = if vs.all AV.isE then some (.tup vs, h) else @bnd _ _ (purEs h vs) ⟨fun p => some (.tup p.1, p.2)⟩ := by unfold purP; simp only [isP_tup]; rfl
@[simp] theorem purL_nil (h : AH) : purL h [] = some ([], h) := rfl
@[simp] theorem purL_cons (h : AH) (a : AV) (l : List AV) : purL h (a :: l) = @bnd _ _ (purS h a) ⟨fun p => @bnd _ _ (purL p.2 l) ⟨fun q => some (p.1 :: q.1, q.2)⟩⟩ := rfl
@[simp] theorem purEs_nil (h : AH) : purEs h [] = some ([], h) := rfl
@[simp] theorem purEs_cons (h : AH) (a : AV) (l : List AV) : purEs h (a :: l) = @bnd _ _ (purE h a) ⟨fun p => @bnd _ _ (purEs p.2 l) ⟨fun q => some (p.1 :: q.1, q.2)⟩⟩ := rfl
@[simp] theorem dropR_agg' (R : List Nat) (cs : List AV) : dropR R (.agg cs) = if cs.all (fun x => x.isE || match x with | .ptr b _ _ _ => !R.contains b | .own b _ _ _ => !R.contains b | .mpv b => !R.contains b | _ => false) then .agg cs else .dead := rfl
@[simp] theorem dropR_fn (R : List Nat) (f : Fn) (a c : List AV) : dropR R (.fn f a c) = if (a ++ c).all (fun x => x.isE || match x with | .ptr b _ _ _ => !R.contains b | .own b _ _ _ => !R.contains b | .mpv b => !R.contains b | _ => false) then .fn f a c else .dead := rfl
@[simp] theorem dropR_rptr (R : List Nat) (cs : List AV) : dropR R (.rptr cs) = .rptr cs := rfl
@[simp] theorem dropR_mpv (R : List Nat) (b : Nat) : dropR R (.mpv b) = if !R.contains b then .mpv b else .dead := by unfold dropR; simp
@[simp] theorem dropR_ptr (R : List Nat) (b v i o : Nat) : dropR R (.ptr b v i o) = if !R.contains b then .ptr b v i o else .dead := by unfold dropR; simp
@[simp] theorem dropR_own (R : List Nat) (b v i o : Nat) : dropR R (.own b v i o) = if !R.contains b then .own b v i o else .dead := by unfold dropR; simp
@[simp] theorem bin_add (k : IntKind) (x y : Int) : bin .add (.int k x) (.int k y) = some (.int k (k.wrap (x + y))) := by simp only [bin, intBin, if_true]
@[simp] theorem bin_sub (k : IntKind) (x y : Int) : bin .sub (.int k x) (.int k y) = some (.int k (k.wrap (x - y))) := by simp only [bin, intBin, if_true]
@[simp] theorem bin_mul (k : IntKind) (x y : Int) : bin .mul (.int k x) (.int k y) = some (.int k (k.wrap (x * y))) := by simp only [bin, intBin, if_true]
@[simp] theorem bin_quo (k : IntKind) (x y : Int) : bin .quo (.int k x) (.int k y) = if y = 0 then none else some (.int k (k.wrap (x.tdiv y))) := by simp only [bin, intBin, if_true]
@[simp] theorem bin_rem (k : IntKind) (x y : Int) : bin .rem (.int k x) (.int k y) = if y = 0 then none else some (.int k (x.tmod y)) := by simp only [bin, intBin, if_true]
@[simp] theorem bin_eql (k : IntKind) (x y : Int) : bin .eql (.int k x) (.int k y) = some (.bool (decide (x = y))) := by simp only [bin, intBin, if_true]
@[simp] theorem bin_neq (k : IntKind) (x y : Int) : bin .neq (.int k x) (.int k y) = some (.bool (!decide (x = y))) := by simp only [bin, intBin, if_true]
@[simp] theorem bin_lss (k : IntKind) (x y : Int) : bin .lss (.int k x) (.int k y) = some (.bool (decide (x < y))) := by simp only [bin, intBin, if_true]
@[simp] theorem bin_leq (k : IntKind) (x y : Int) : bin .leq (.int k x) (.int k y) = some (.bool (decide (x ≤ y))) := by simp only [bin, intBin, if_true]
@[simp] theorem bin_gtr (k : IntKind) (x y : Int) : bin .gtr (.int k x) (.int k y) = some (.bool (decide (y < x))) := by simp only [bin, intBin, if_true]
@[simp] theorem bin_geq (k : IntKind) (x y : Int) : bin .geq (.int k x) (.int k y) = some (.bool (decide (y ≤ x))) := by simp only [bin, intBin, if_true]
@[simp] theorem bin_str (op : BinOp) (x y : List UInt8) : bin op (.str x) (.str y) = strBin x y op := by cases op <;> rfl
@[simp] theorem un_not (b : Bool) : un .not (.bool b) = some (.bool (!b)) := rfl
@[simp] theorem un_neg (k : IntKind) (n : Int) : un .neg (.int k n) = some (.int k (k.wrap (0 - n))) := rfl
@[simp] theorem mmAll_one (m : Bool) (x : AV) : mmAll m x [] = some x := rfl
@[simp] theorem mmAll_cons (m : Bool) (x y : AV) (l : List AV) : mmAll m x (y :: l) = @bnd _ _ (mm2 m x y) ⟨fun z => mmAll m z l⟩ := rfl
@[simp] theorem lget0 {α : Type} (a : α) (l : List α) : (a :: l)[0]? = some a := rfl
theorem take_map_all {α β : Type} {F : α → β} {l : List α} {n : Nat} (h : l.length ≤ n) : (l.map F).take n = l.map F := List.take_of_length_le (by simpa using h)
theorem imin_l {a b : Int} (h : a ≤ b) : min a b = a := by omega
theorem imin_r {a b : Int} (h : b ≤ a) : min a b = b := by omega
theorem imax_l {a b : Int} (h : b ≤ a) : max a b = a := by omega
theorem imax_r {a b : Int} (h : a ≤ b) : max a b = b := by omega
@[simp] theorem withCells_agg (a cs : List AV) : (AV.agg a).withCells cs = .agg cs := rfl
@[simp] theorem withCells_int (k : IntKind) (n : Int) (cs : List AV) : (AV.int k n).withCells cs = cs.headD .dead := rfl
@[simp] theorem withCells_bool (b : Bool) (cs : List AV) : (AV.bool b).withCells cs = cs.headD .dead := rfl
@[simp] theorem withCells_str (b : List UInt8) (cs : List AV) : (AV.str b).withCells cs = cs.headD .dead := rfl
@[simp] theorem withCells_lst (f : Bool) (es cs : List AV) : (AV.lst f es).withCells cs = cs.headD .dead := rfl
@[simp] theorem lgetL {α : Type} (h : List α) (x : α) (l : List α) : (h ++ x :: l)[h.length]? = some x := by simp
@[simp] theorem lgetLk {α : Type} (h : List α) (l : List α) (k : Nat) : (h ++ l)[h.length + k]? = l[k]? := by rw [List.getElem?_append_right (by omega)]; congr 1; omega
@[simp] theorem lsetL {α : Type} (h : List α) (x y : α) (l : List α) : (h ++ x :: l).set h.length y = h ++ y :: l := by simp
@[simp] theorem lsetLk {α : Type} (h : List α) (l : List α) (k : Nat) (y : α) : (h ++ l).set (h.length + k) y = h ++ l.set k y := by rw [List.set_append_right _ _ (by omega)]; congr 2; omega
theorem take_app1 {α β : Type} {F : α → β} {l : List α} {x : β} {n : Nat} (h : l.length + 1 ≤ n) : (l.map F ++ [x]).take n = l.map F ++ [x] := List.take_of_length_le (by simpa using h)
theorem ilt_t {a b : Int} (h : a < b) : (a < b) = True := eq_true h
theorem ilt_f {a b : Int} (h : ¬ a < b) : (a < b) = False := eq_false h
theorem ile_t {a b : Int} (h : a ≤ b) : (a ≤ b) = True := eq_true h
theorem ile_f {a b : Int} (h : ¬ a ≤ b) : (a ≤ b) = False := eq_false h
theorem ieq_t {a b : Int} (h : a = b) : (a = b) = True := eq_true h
theorem ieq_f {a b : Int} (h : ¬ a = b) : (a = b) = False := eq_false h
theorem nlt_t {a b : Nat} (h : a < b) : (a < b) = True := eq_true h
theorem nlt_f {a b : Nat} (h : ¬ a < b) : (a < b) = False := eq_false h
theorem nle_t {a b : Nat} (h : a ≤ b) : (a ≤ b) = True := eq_true h
theorem nle_f {a b : Nat} (h : ¬ a ≤ b) : (a ≤ b) = False := eq_false h
@[simp] theorem toNat_add_cast (a b : Nat) : ((a : Int) + (b : Int)).toNat = a + b := by omega
def plainB : AB → Bool
 | .var cs => cs.all AV.isS
 | .mp es => es.all fun p => p.2.isS
 | _ => true
theorem normH_plain (L : Nat) (h0 : AH) : ∀ (h : AH) (i : Nat), h.all plainB = true → normH L [] h0 i h = h
 | [], _, _ => rfl
 | b :: h, i, hp => by
  simp only [List.all_cons, Bool.and_eq_true] at hp
  simp only [normH, normH_plain L h0 h (i + 1) hp.2]
  congr 1
  cases b with
  | gone => rfl
  | row v sz es => rfl
  | fro v sz es => rfl
  | var cs =>
   simp only [normB, AB.var.injEq]
   have h1 : cs.all AV.isS = true := hp.1
   rw [List.all_eq_true] at h1
   refine (List.map_congr_left fun x hx => ?_).trans (List.map_id _)
   have := h1 x hx
   cases x <;> first | rfl | (simp [AV.isS] at this; done)
  | mp es =>
   simp only [normB, AB.mp.injEq]
   have h1 : (es.all fun p => p.2.isS) = true := hp.1
   rw [List.all_eq_true] at h1
   refine (List.map_congr_left fun x hx => ?_).trans (List.map_id _)
   have := h1 x hx
   obtain ⟨k, y⟩ := x
   cases y <;> first | rfl | (simp [AV.isS] at this; done)
theorem list_of_emb {α : Type} (F : α → AV) (p : α → Prop) : ∀ es : List AV, (∀ x ∈ es, ∃ d, x = F d ∧ p d) → ∃ l : List α, es = l.map F ∧ ∀ d ∈ l, p d
 | [], _ => ⟨[], rfl, by simp⟩
 | x :: es, h => by
  obtain ⟨d, hd, hp⟩ := h x (by simp)
  obtain ⟨l, hl, hpl⟩ := list_of_emb F p es fun y hy => h y (by simp [hy])
  exact ⟨d :: l, by rw [hd, hl]; rfl, fun e he => by
   rcases List.mem_cons.1 he with rfl | he
   ·exact hp
   ·exact hpl e he⟩
end Go.Am

/-
 The abstract machine: blocks of a memory that has grown.
-/
namespace Go.Am
section
variable {X Y : AH} {A : AB} {k i : Nat}
theorem gsa_at (h : k < X.length) : (X.set k A ++ Y)[k]? = some A := by
 rw [List.getElem?_append_left (by simpa using h), List.getElem?_set_self h]
theorem gsa_ne (h : i < X.length) (hne : k ≠ i) : (X.set k A ++ Y)[i]? = X[i]? := by
 rw [List.getElem?_append_left (by simpa using h), List.getElem?_set_ne hne]
theorem gsa_ge (h : X.length ≤ i) : (X.set k A ++ Y)[i]? = Y[i - X.length]? := by
 rw [List.getElem?_append_right (by simpa using h), List.length_set]
theorem ssa_at (h : k < X.length) (B : AB) : (X.set k A ++ Y).set k B = X.set k B ++ Y := by
 rw [List.set_append_left _ _ (by simpa using h), List.set_set]
theorem ssa_ge (h : X.length ≤ i) (B : AB) : (X.set k A ++ Y).set i B = X.set k A ++ Y.set (i - X.length) B := by
 rw [List.set_append_right _ _ (by simpa using h), List.length_set]
theorem gap_l (h : i < X.length) : (X ++ Y)[i]? = X[i]? := List.getElem?_append_left h
theorem gap_r (h : X.length ≤ i) : (X ++ Y)[i]? = Y[i - X.length]? := List.getElem?_append_right h
theorem sap_l (h : i < X.length) (B : AB) : (X ++ Y).set i B = X.set i B ++ Y := List.set_append_left _ _ h
theorem sap_r (h : X.length ≤ i) (B : AB) : (X ++ Y).set i B = X ++ Y.set (i - X.length) B := List.set_append_right _ _ h
theorem normH_keep (L : Nat) (R : List Nat) (h0 : AH) : ∀ (h : AH) (i : Nat), h.all plainB = true → (∀ r ∈ R, i + h.length ≤ r) → normH L R h0 i h = h
 | [], _, _, _ => rfl
 | b :: h, i, hp, hR => by
  simp only [List.all_cons, Bool.and_eq_true] at hp
  simp only [normH, normH_keep L R h0 h (i + 1) hp.2 (fun r hr => by have := hR r hr; simp at this; omega)]
  have hi : R.contains i = false := by
   cases hc : R.contains i with
   | false => rfl
   | true =>
    have := hR i (by simpa using hc)
    simp at this
    omega
  congr 1
  cases b with
  | gone => rfl
  | var cs =>
   simp only [normB, AB.var.injEq]
   have hp1 : cs.all AV.isS = true := hp.1
   rw [List.all_eq_true] at hp1
   conv => rhs; rw [← List.map_id cs]
   refine List.map_congr_left fun x hx => ?_
   have := hp1 x hx
   cases x <;> simp_all [normS, AV.isS]
  | row v sz es => simp only [normB, hi]; rfl
  | fro v sz es => simp only [normB, hi]; rfl
  | mp es =>
   simp only [normB, AB.mp.injEq]
   have hp1 : (es.all fun p => p.2.isS) = true := hp.1
   rw [List.all_eq_true] at hp1
   conv => rhs; rw [← List.map_id es]
   refine List.map_congr_left fun x hx => ?_
   have := hp1 x hx
   obtain ⟨x1, x2⟩ := x
   cases x2 <;> simp_all [normS, AV.isS]
theorem take_tail (X Y : AH) (k : Nat) : (X ++ Y).take (X.length + k) = X ++ Y.take k := by
 rw [List.take_append, List.take_of_length_le (by omega), Nat.add_sub_cancel_left]
end
end Go.Am

/-
 The abstract machine: more loops.
-/
namespace Go.Am
section
variable {α σ X Y : Type} {f : X → Option (X ⊕ Y)}
theorem for_idxF (emb : Nat → X) (p : α → Bool) (hit : Nat → α → Y) (no : Y) : ∀ (l : List α) (k : Nat)
  (_ : ∀ i (h : i < l.length), f (emb (k + i)) = if p l[i] = true then some (.inr (hit (k + i) l[i])) else some (.inl (emb (k + i + 1))))
  (_ : f (emb (k + l.length)) = some (.inr no)), iter f (emb k) = some ((l.find? p).elim no (hit (k + l.findIdx p)))
 | [], k, _, hend => by
  rw [iter_eq]
  simp only [List.length_nil, Nat.add_zero] at hend
  rw [hend]; rfl
 | x :: l, k, hstep, hend => by
  have h0 := hstep 0 (by simp)
  simp only [Nat.add_zero, List.getElem_cons_zero] at h0
  rw [iter_eq, h0]
  cases hp : p x with
  | true =>
   simp [List.findIdx_cons, hp]
  | false =>
   simp only [Bool.false_eq_true, if_false]
   rw [for_idxF emb p hit no l (k + 1) (fun i hi => by
    have := hstep (i + 1) (by simpa using hi)
    simp only [List.getElem_cons_succ] at this
    rw [show k + 1 + i = k + (i + 1) by omega]
    exact this) (by rw [show k + 1 + l.length = k + (x :: l).length by simp; omega]; exact hend)]
   rw [List.find?_cons_of_neg (by simp [hp])]
   simp only [List.findIdx_cons, hp, cond_false]
   rw [show k + 1 + l.findIdx p = k + (l.findIdx p + 1) by omega]
theorem for_idx (emb : Nat → X) (l : List α) (p : α → Bool) (hit : Nat → α → Y) (no : Y)
  (hstep : ∀ i (h : i < l.length), f (emb i) = if p l[i] = true then some (.inr (hit i l[i])) else some (.inl (emb (i + 1))))
  (hend : f (emb l.length) = some (.inr no)) : iter f (emb 0) = some ((l.find? p).elim no (hit (l.findIdx p))) := by
 have := for_idxF emb p hit no l 0 (fun i hi => by rw [Nat.zero_add]; exact hstep i hi) (by rw [Nat.zero_add]; exact hend)
 simpa using this
theorem for_half (emb : Nat → Nat → X) (n c : Nat) (hc : c ≤ n) (fin : Nat → Y)
  (hstep : ∀ i j, i < j → j ≤ n → f (emb i j) = some (.inl (if (i + j) / 2 < c then emb ((i + j) / 2 + 1) j else emb i ((i + j) / 2))))
  (hend : ∀ i, i ≤ n → f (emb i i) = some (.inr (fin i))) : ∀ k i j, j - i = k → i ≤ c → c ≤ j → j ≤ n → iter f (emb i j) = some (fin c) := by
 intro k
 induction k using Nat.strongRecOn with
 | _ k ih =>
  intro i j hk hi hj hn
  by_cases h : i < j
  ·rw [iter_eq, hstep i j h hn]
   by_cases hm : (i + j) / 2 < c
   ·rw [if_pos hm]
    exact ih (j - ((i + j) / 2 + 1)) (by omega) _ _ rfl (by omega) hj hn
   ·rw [if_neg hm]
    exact ih ((i + j) / 2 - i) (by omega) _ _ rfl hi (by omega) (by omega)
  ·have : i = j := by omega
   subst this
   have : i = c := by omega
   subst this
   rw [iter_eq, hend i hc]
end
@[simp] theorem getElem?_findIdx {α : Type} (p : α → Bool) : ∀ l : List α, l[l.findIdx p]? = l.find? p
 | [] => rfl
 | x :: l => by
  cases hp : p x with
  | true => simp [List.findIdx_cons, hp]
  | false => simp [List.findIdx_cons, hp, getElem?_findIdx p l]
@[simp] theorem shape_agg7 (a b c d e f g : AV) : shape 7 true [a, b, c, d, e, f, g] = some (.agg [a, b, c, d, e, f, g]) := by simp [shape]
@[simp] theorem shape_agg8 (a b c d e f g h : AV) : shape 8 true [a, b, c, d, e, f, g, h] = some (.agg [a, b, c, d, e, f, g, h]) := by simp [shape]
@[simp] theorem shape_agg9 (a b c d e f g h i : AV) : shape 9 true [a, b, c, d, e, f, g, h, i] = some (.agg [a, b, c, d, e, f, g, h, i]) := by simp [shape]
@[simp] theorem shape_agg10 (a b c d e f g h i j : AV) : shape 10 true [a, b, c, d, e, f, g, h, i, j] = some (.agg [a, b, c, d, e, f, g, h, i, j]) := by simp [shape]
@[simp] theorem shape_agg1 (a : AV) : shape 1 true [a] = some (.agg [a]) := by simp [shape]
theorem wrap_u64 {n : Int} (h1 : 0 ≤ n) (h2 : n ≤ 9223372036854775807) : IntKind.u64.wrap n = n := by
 have : IntKind.u64.wrap n = n % 18446744073709551616 := by
  unfold IntKind.wrap
  simp [IntKind.bits, IntKind.signed]
 rw [this]; omega
end Go.Am
