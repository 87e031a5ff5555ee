/-
 The abstract machine: what is read of arguments.
-/
import Derived.Test.YtgefdmkmobaefaaAmGU
import Derived.Test.YtgefdmkmobaefaaAmGS
import Derived.ProofKit
import Derived.Deep.Slices
import Derived.DataReads
set_option linter.unusedSimpArgs false
set_option linter.unusedVariables false
namespace Go.Am
open Go.Deep
inductive TD where
 | b
 | i (k : IntKind)
 | s
 | l (agg : Bool) (cs : List TD)
 deriving Inhabited
inductive HasT : TD → AV → Prop where
 | b (x : Bool) : HasT .b (.bool x)
 | i (k : IntKind) (n : Int) (h1 : k.min ≤ n) (h2 : n ≤ k.max) : HasT (.i k) (.int k n)
 | s (l : List UInt8) (h : l.length ≤ maxLen) : HasT .s (.str l)
 | l1 (td : TD) (f : Bool) (es : List AV) (hl : es.length ≤ maxLen) (h : ∀ x ∈ es, HasT td x) : HasT (.l false [td]) (.lst f es)
 | la (tds : List TD) (f : Bool) (es : List AV) (hl : es.length ≤ maxLen) (g : Nat → List AV) (h0 : ∀ (i : Nat) (x : AV), es[i]? = some x → x = .agg (g i) ∧ (g i).length = tds.length)
   (h2 : ∀ (i : Nat) (x : AV), es[i]? = some x → ∀ (j : Nat) (y : AV) (td : TD), (g i)[j]? = some y → tds[j]? = some td → HasT td y) : HasT (.l true tds) (.lst f es)
def rowTD (P : Program) : Nat → TypeId → Option (List TD)
 | 0, _ => none
 | n + 1, t =>
  match P.underlying t with
  | some .bool => some [.b]
  | some (.int k) => some [.i k]
  | some .string => some [.s]
  | some (.slice e) => (rowTD P n e).bind fun cs =>
   if 0 < cs.length ∧ cs.length = P.cellsOf e then
    (match P.underlying e with
     | some (.struct _) => some [.l true cs]
     | _ => if cs.length = 1 then some [.l false cs] else none)
   else none
  | some (.struct fs) => (fs.toList.foldlM (fun acc f => (rowTD P n f.type).bind fun cs => if f.offset = acc.length ∧ cs.length = P.cellsOf f.type then some (acc ++ cs) else none) []).bind fun cs => if cs.length = P.cellsOf t then some cs else none
  | some (.array m e) => (rowTD P n e).bind fun cs => if cs.length = P.cellsOf e ∧ (List.replicate m cs).flatten.length = P.cellsOf t then some (List.replicate m cs).flatten else none
  | _ => none
section
variable {H : Type} {enc : TypeId × Value → H} {P : Program} {w : World} {O : Nat → Prop}
def GoodC (O : Nat → Prop) (w : World) (td : TD) (v : Value) : Prop := ∃ a, PVR O w a v ∧ HasT td a ∧ v.oneCell' = true
def GoodRow (O : Nat → Prop) (w : World) (tds : List TD) (cs : List Value) : Prop := tds.length = cs.length ∧ ∀ (j : Nat) (td : TD) (v : Value), tds[j]? = some td → cs[j]? = some v → GoodC O w td v
theorem GoodRow.one {td : TD} {v : Value} (h : GoodC O w td v) : GoodRow O w [td] [v] := by
 refine ⟨rfl, fun j td' v' h1 h2 => ?_⟩
 cases j with
 | zero => simp at h1 h2; subst h1; subst h2; exact h
 | succ j => simp at h1
theorem listA {α : Type} {p : Nat → α → Prop} (n : Nat) (hp : ∀ j, j < n → ∃ u, p j u) : ∃ vs : List α, vs.length = n ∧ ∀ (j : Nat) (u : α), vs[j]? = some u → p j u := by
 induction n with
 | zero => exact ⟨[], rfl, fun j u hu => by simp at hu⟩
 | succ n ih =>
  obtain ⟨vs, hl, hv⟩ := ih fun j hj => hp j (by omega)
  obtain ⟨u, hu⟩ := hp n (by omega)
  refine ⟨vs ++ [u], by simp [hl], fun j x hx => ?_⟩
  by_cases hj : j < n
  ·rw [List.getElem?_append_left (by omega)] at hx; exact hv j x hx
  ·rw [List.getElem?_append_right (by omega)] at hx
   have : j = n := by
    have := (List.getElem?_eq_some_iff.1 hx).1
    simp at this; omega
   subst this
   simp [hl] at hx
   subst hx; exact hu
theorem GoodRow.list {tds : List TD} {cs : List Value} (h : GoodRow O w tds cs) : ∃ as : List AV, as.length = cs.length ∧ (∀ (j : Nat) (a : AV) (v : Value), as[j]? = some a → cs[j]? = some v → PVR O w a v ∧ v.oneCell' = true) ∧ ∀ (j : Nat) (a : AV) (td : TD), as[j]? = some a → tds[j]? = some td → HasT td a := by
 obtain ⟨as, h1, h2⟩ := listA (p := fun j a => ∀ td v, tds[j]? = some td → cs[j]? = some v → PVR O w a v ∧ HasT td a ∧ v.oneCell' = true) cs.length (fun j hj => by
  have e1 : cs[j]? = some cs[j] := List.getElem?_eq_getElem hj
  have e2 : tds[j]? = some (tds[j]'(by rw [h.1]; exact hj)) := List.getElem?_eq_getElem _
  obtain ⟨a, k⟩ := h.2 j _ _ e2 e1
  refine ⟨a, fun td v f1 f2 => ?_⟩
  rw [e2] at f1; rw [e1] at f2
  cases f1; cases f2
  exact k)
 refine ⟨as, h1, fun j a v ha hv => ?_, fun j a td ha ht => ?_⟩
 ·have hj : j < tds.length := by rw [h.1]; exact (List.getElem?_eq_some_iff.1 hv).1
  obtain ⟨k1, _, k3⟩ := h2 j a ha _ v (List.getElem?_eq_getElem hj) hv
  exact ⟨k1, k3⟩
 ·have hj : j < cs.length := by rw [← h.1]; exact (List.getElem?_eq_some_iff.1 ht).1
  exact (h2 j a ha td _ ht (List.getElem?_eq_getElem hj)).2.1
theorem cell_spot {a : Addr} {v : Value} (h : w.cell? a = some v) : a.spot = none := by
 unfold World.cell? at h
 split at h
 ·split at h
  ·cases h
  ·rename_i hs; simpa using hs
 ·cases h
theorem trod_good : ∀ (n : Nat) (t : TypeId) (tds : List TD), rowTD P n t = some tds → ∀ (fuel : Nat) (cs : List Value) (x : DataW H × List MemPlace), DataW.trod enc P w 0 (fun _ => true) true fuel t cs = some x → GoodRow (fun _ => False) w tds cs := by
 intro n
 induction n with
 | zero => intro t tds h; cases h
 | succ n ih =>
  intro t tds htd fuel cs x hx
  simp only [rowTD] at htd
  split at htd
  ·rename_i hu
   cases htd
   cases fuel with
   | zero => cases hx
   | succ fuel =>
    simp only [DataW.trod, hu] at hx
    split at hx <;> first | (cases hx; done) | skip
    all_goals (rename_i heq; first | (cases heq; done) | skip)
    exact .one ⟨.bool _, .bool _, .b _, rfl⟩
  ·rename_i k hu
   cases htd
   obtain ⟨m, rfl, _, hw⟩ := DataW.trod_int hu hx
   simp only [Lit.wf, Bool.and_eq_true, decide_eq_true_eq] at hw
   exact .one ⟨.int k m, .int k m, .i k m hw.1 hw.2, rfl⟩
  ·rename_i hu
   cases htd
   cases fuel with
   | zero => cases hx
   | succ fuel =>
    simp only [DataW.trod, hu] at hx
    split at hx <;> first | (cases hx; done) | skip
    all_goals (rename_i heq; first | (cases heq; done) | skip)
    split at hx
    ·rename_i s hs
     exact .one ⟨.str _, .str s, .s _ (by simpa using hs), rfl⟩
    ·cases hx
  ·rename_i e hu
   simp only [Option.bind_eq_some_iff] at htd
   obtain ⟨ctd, hctd, htd⟩ := htd
   split at htd
   ·rename_i hlen
    obtain ⟨hpos, hce⟩ := hlen
    rcases open_slice hu hx with ⟨rfl, _⟩ | ⟨a, len, cap, m, nf, D, Pl, rfl, _, hle, hmax, hm, _, hel⟩
    ·have hv : PVR (fun _ => False) w (.lst true []) (.slice none 0 0) :=
      .lst true [] none 0 0 0 0 (fun _ _ => Go.undef) (fun _ => rfl) (Nat.le_refl _) (fun h => absurd rfl h) (fun i x hx => by simp at hx) (fun i x hx => by simp at hx) (fun i x hx => by simp at hx) (fun i x hx => by simp at hx)
     split at htd
     ·cases htd
      exact .one ⟨_, hv, .la ctd true [] (Nat.zero_le _) (fun _ => []) (fun i x hx => by simp at hx) (fun i x hx => by simp at hx), rfl⟩
     ·split at htd
      ·rename_i h1
       cases htd
       obtain ⟨td, rfl⟩ := List.length_eq_one_iff.1 h1
       exact .one ⟨_, hv, .l1 td true [] (Nat.zero_le _) (fun x hx => by simp at hx), rfl⟩
      ·cases htd
    · -- the elements
     have helems : ∀ i, i < len → ∃ r : List AV × List Value, r.2.length = ctd.length ∧ r.1.length = ctd.length ∧ (∀ j v, r.2[j]? = some v → w.cell? ((a.add (i * ctd.length)).add j) = some v) ∧
       (∀ (j : Nat) (y : AV) (v : Value), r.1[j]? = some y → r.2[j]? = some v → PVR (fun _ => False) w y v ∧ v.oneCell' = true) ∧ (∀ (j : Nat) (y : AV) (td : TD), r.1[j]? = some y → ctd[j]? = some td → HasT td y) := by
      intro i hi
      obtain ⟨cs', hc, ht⟩ := hel i (by rw [hm]; simp; omega)
      have hg := ih e ctd hctd nf cs' _ ht
      obtain ⟨as, k1, k2, k3⟩ := hg.list
      refine ⟨(as, cs'), hg.1.symm, by rw [k1]; exact hg.1.symm, fun j v hv => ?_, k2, k3⟩
      unfold World.cells? at hc
      split at hc
      ·have := mapM_some_get hc j j (by
        have : j < cs'.length := (List.getElem?_eq_some_iff.1 hv).1
        have e2 := mapM_some_length hc
        rw [List.length_range] at e2
        have e3 : j < P.cellsOf e := by omega
        simp [List.getElem?_range e3])
       rw [hv, ← hce] at this
       exact this
      ·cases hc
     obtain ⟨rows, hrl, hrows⟩ := listA len helems
     have hadd : ∀ (i j : Nat) (v : Value), w.cell? ((a.add (i * ctd.length)).add j) = some v → a.spot = none ∨ i * ctd.length + j ≠ 0 := by
      intro i j v hv
      by_cases h0 : i * ctd.length + j = 0
      ·left
       have hi0 : i * ctd.length = 0 := by omega
       have hj0 : j = 0 := by omega
       simp only [hi0, hj0, Addr.add, if_true] at hv
       exact cell_spot hv
      ·exact .inr h0
     have hspot : 0 < len → a.spot = none := by
      intro hl
      obtain ⟨r1, r2, r3, _, _⟩ := hrows 0 (rows[0]'(by omega)) (List.getElem?_eq_getElem (by omega))
      have hlt : 0 < (rows[0]'(by omega)).2.length := by rw [r1]; exact hpos
      have hc := r3 0 _ (List.getElem?_eq_getElem hlt)
      rcases hadd 0 0 _ hc with h | h
      ·exact h
      ·simp at h
     have hcell : ∀ (i j : Nat) (v : Value), 0 < len → w.cell? ((a.add (i * ctd.length)).add j) = some v → w.cell? ⟨a.block, a.off + i * ctd.length + j, none⟩ = some v := by
      intro i j v hl hv
      have hs := hspot hl
      have : (a.add (i * ctd.length)).add j = ⟨a.block, a.off + i * ctd.length + j, none⟩ := by
       obtain ⟨b, o, sp⟩ := a
       dsimp only at hs
       subst hs
       unfold Addr.add
       split <;> split <;> simp_all
      rw [this] at hv; exact hv
     have build : ∀ (mk : List AV → AV), (∀ (i : Nat) (r : List AV × List Value), rows[i]? = some r → (mk r.1).cells = r.1) → PVR (fun _ => False) w (.lst false (rows.map fun r => mk r.1)) (.slice (some a) len cap) := by
      intro mk hmk
      have hlen : (rows.map fun r => mk r.1).length = len := by simp [hrl]
      have hget : ∀ (i : Nat) (y : AV), (rows.map fun r => mk r.1)[i]? = some y → ∃ r, rows[i]? = some r ∧ y = mk r.1 ∧ i < len := by
       intro i y hy
       rw [List.getElem?_map] at hy
       cases hr : rows[i]? with
       | none => rw [hr] at hy; cases hy
       | some r =>
        rw [hr] at hy
        simp at hy
        exact ⟨r, rfl, hy.symm, by have := (List.getElem?_eq_some_iff.1 hr).1; omega⟩
      have hf : ∀ (i : Nat) (y : AV), (rows.map fun r => mk r.1)[i]? = some y → y.cells.length = ctd.length ∧ ∀ (j : Nat) (c : AV), y.cells[j]? = some c → ∃ v, w.cell? ⟨a.block, a.off + i * ctd.length + j, none⟩ = some v ∧ v.oneCell' = true ∧ PVR (fun _ => False) w c v := by
       intro i y hy
       obtain ⟨r, hr, rfl, hi⟩ := hget i y hy
       obtain ⟨r1, r2, r3, r4, r5⟩ := hrows i r hr
       rw [hmk i r hr]
       refine ⟨r2, fun j c hc => ?_⟩
       have hj : j < r.2.length := by rw [r1, ← r2]; exact (List.getElem?_eq_some_iff.1 hc).1
       have hv := List.getElem?_eq_getElem hj
       obtain ⟨q1, q2⟩ := r4 j c _ hc hv
       exact ⟨_, hcell i j _ (by omega) (r3 j _ hv), q2, q1⟩
      have := PVR.lst (O := fun _ => False) (w := w) false (rows.map fun r => mk r.1) (some a) cap a.block a.off ctd.length (fun i j => (w.cell? ⟨a.block, a.off + i * ctd.length + j, none⟩).getD Go.undef)
       (fun h => by cases h) (by rw [hlen]; exact hle) (fun hne => by
        have hl : 0 < len := by
         rcases Nat.eq_zero_or_pos len with h0 | h0
         ·exact absurd (List.eq_nil_of_length_eq_zero (by rw [hlen]; exact h0)) hne
         ·exact h0
        have hs := hspot hl
        refine ⟨by obtain ⟨b, o, sp⟩ := a; dsimp only at hs; subst hs; rfl, id, ?_⟩
        obtain ⟨y, hy⟩ : ∃ y, (rows.map fun r => mk r.1)[0]? = some y := ⟨_, List.getElem?_eq_getElem (by rw [hlen]; exact hl)⟩
        obtain ⟨f1, f2⟩ := hf 0 y hy
        obtain ⟨v, hv, _⟩ := f2 0 (y.cells[0]'(by rw [f1]; exact hpos)) (List.getElem?_eq_getElem _)
        exact cell_lt (a := ⟨a.block, a.off + 0 * ctd.length + 0, none⟩) hv)
       (fun i y hy => ⟨(hf i y hy).1, hpos⟩)
       (fun i y hy j c hc => by obtain ⟨v, h1, _⟩ := (hf i y hy).2 j c hc; rw [h1]; rfl)
       (fun i y hy j c hc => by obtain ⟨v, h1, h2, _⟩ := (hf i y hy).2 j c hc; rw [h1]; exact h2)
       (fun i y hy j c hc => by obtain ⟨v, h1, _, h3⟩ := (hf i y hy).2 j c hc; rw [h1]; exact h3)
      rw [hlen] at this
      exact this
     split at htd
     ·cases htd
      refine .one ⟨_, build AV.agg (fun _ _ _ => rfl), .la ctd false _ (by simp [hrl]; omega) (fun i => (rows.getD i ([], [])).1) (fun i y hy => ?_) (fun i y hy j c td hc ht => ?_), rfl⟩
      ·rw [List.getElem?_map] at hy
       cases hr : rows[i]? with
       | none => rw [hr] at hy; cases hy
       | some r =>
        rw [hr] at hy
        simp at hy
        have := hrows i r hr
        rw [List.getD_eq_getElem?_getD, hr]
        exact ⟨hy.symm, this.2.1⟩
      ·rw [List.getElem?_map] at hy
       cases hr : rows[i]? with
       | none => rw [hr] at hy; cases hy
       | some r =>
        rw [List.getD_eq_getElem?_getD, hr] at hc
        exact (hrows i r hr).2.2.2.2 j c td hc ht
     ·split at htd
      ·rename_i h1
       cases htd
       obtain ⟨td, rfl⟩ := List.length_eq_one_iff.1 h1
       have hagg : ∀ r ∈ rows, ∃ y, r.1 = [y] ∧ HasT td y := by
        intro r hr
        obtain ⟨i, hi⟩ := List.getElem?_of_mem hr
        obtain ⟨_, r2, _, _, r5⟩ := hrows i r hi
        obtain ⟨y, hy⟩ := List.length_eq_one_iff.1 (by simpa using r2)
        exact ⟨y, hy, r5 0 y td (by rw [hy]; rfl) rfl⟩
       refine .one ⟨_, build (fun l => l.headD .dead) (fun i r hi => ?_), .l1 td false _ (by simp [hrl]; omega) (fun y hy => ?_), rfl⟩
       ·obtain ⟨y, h1, h2⟩ := hagg r (List.mem_of_getElem? hi)
        rw [h1]
        cases h2 <;> rfl
       ·obtain ⟨r, hr, rfl⟩ := List.mem_map.1 hy
        obtain ⟨y, h1, h2⟩ := hagg r hr
        rw [h1]; exact h2
      ·cases htd
   ·cases htd
  ·rename_i fs hu
   simp only [Option.bind_eq_some_iff] at htd
   obtain ⟨ctd, hctd, htd⟩ := htd
   split at htd
   ·rename_i hlen
    cases htd
    cases fuel with
    | zero => cases hx
    | succ fuel =>
     have hx' : cs.length = P.cellsOf t ∧ ∃ xs, fs.toList.mapM (fun f => DataW.trod enc P w 0 (fun _ => true) true fuel f.type ((cs.drop f.offset).take (P.cellsOf f.type))) = some xs := by
      simp only [DataW.trod, hu] at hx
      split at hx
      ·rename_i hl
       simp only [Option.map_eq_some_iff] at hx
       obtain ⟨xs, hxs, _⟩ := hx
       exact ⟨hl, xs, hxs⟩
      ·cases hx
     obtain ⟨hl, xs, hxs⟩ := hx'
     have go : ∀ (l : List Field) (acc res : List TD) (ys : List (DataW H × List MemPlace)), l.foldlM (fun acc f => (rowTD P n f.type).bind fun cs => if f.offset = acc.length ∧ cs.length = P.cellsOf f.type then some (acc ++ cs) else none) acc = some res →
       l.mapM (fun f => DataW.trod enc P w 0 (fun _ => true) true fuel f.type ((cs.drop f.offset).take (P.cellsOf f.type))) = some ys →
       (acc.length ≤ cs.length ∧ ∀ (j : Nat) (td : TD) (v : Value), acc[j]? = some td → cs[j]? = some v → GoodC (fun _ => False) w td v) →
       (res.length ≤ cs.length ∧ ∀ (j : Nat) (td : TD) (v : Value), res[j]? = some td → cs[j]? = some v → GoodC (fun _ => False) w td v) := by
      intro l
      induction l with
      | nil =>
       intro acc res ys h1 _ h3
       simp only [List.foldlM_nil] at h1
       cases h1
       exact h3
      | cons f l ihl =>
       intro acc res ys h1 h2 h3
       rw [List.foldlM_cons] at h1
       rw [List.mapM_cons] at h2
       simp only [Option.bind_eq_bind, Option.bind_eq_some_iff] at h1 h2
       obtain ⟨acc', ⟨fc, hfc, hacc⟩, h1⟩ := h1
       obtain ⟨y, hy, ys', hys, _⟩ := h2
       split at hacc
       ·rename_i hc
        cases hacc
        have hg := ih f.type fc hfc fuel _ y hy
        have hgl : fc.length = ((cs.drop f.offset).take (P.cellsOf f.type)).length := hg.1
        rw [List.length_take, List.length_drop] at hgl
        refine ihl _ res ys' h1 hys ⟨by rw [List.length_append]; omega, fun j td v ht hv => ?_⟩
        by_cases hj : j < acc.length
        ·rw [List.getElem?_append_left hj] at ht
         exact h3.2 j td v ht hv
        ·rw [List.getElem?_append_right (by omega)] at ht
         refine hg.2 (j - acc.length) td v ht ?_
         have hlt : j - acc.length < fc.length := (List.getElem?_eq_some_iff.1 ht).1
         rw [List.getElem?_take, if_pos (by omega), List.getElem?_drop, hc.1, show acc.length + (j - acc.length) = j from by omega]
         exact hv
       ·cases hacc
     obtain ⟨_, k⟩ := go fs.toList [] _ xs hctd hxs ⟨Nat.zero_le _, fun j td v ht => by simp at ht⟩
     exact ⟨by rw [hlen, hl], k⟩
   ·cases htd
  ·rename_i m e hu
   simp only [Option.bind_eq_some_iff] at htd
   obtain ⟨ctd, hctd, htd⟩ := htd
   split at htd
   ·rename_i hlen
    cases htd
    cases fuel with
    | zero => cases hx
    | succ fuel =>
     have hx' : cs.length = P.cellsOf t ∧ ∃ xs, (List.range m).mapM (fun i => DataW.trod enc P w 0 (fun _ => true) true fuel e ((cs.drop (i * P.cellsOf e)).take (P.cellsOf e))) = some xs := by
      simp only [DataW.trod, hu] at hx
      split at hx
      ·rename_i hl
       simp only [Option.map_eq_some_iff] at hx
       obtain ⟨xs, hxs, _⟩ := hx
       exact ⟨hl, xs, hxs⟩
      ·cases hx
     obtain ⟨hl, xs, hxs⟩ := hx'
     have hxl := mapM_some_length hxs
     rw [List.length_range] at hxl
     have go : ∀ k, k ≤ m → (List.replicate k ctd).flatten.length = k * ctd.length ∧ ∀ (j : Nat) (td : TD) (v : Value), (List.replicate k ctd).flatten[j]? = some td → cs[j]? = some v → GoodC (fun _ => False) w td v := by
      intro k
      induction k with
      | zero => intro _; exact ⟨by simp, fun j td v ht => by simp at ht⟩
      | succ k ihk =>
       intro hk
       obtain ⟨h1, h2⟩ := ihk (by omega)
       have hy := mapM_some_get hxs k k (List.getElem?_range (by omega))
       rw [List.getElem?_eq_getElem (by omega)] at hy
       have hg := ih e ctd hctd fuel _ _ hy
       have hgl : ctd.length = ((cs.drop (k * P.cellsOf e)).take (P.cellsOf e)).length := hg.1
       rw [List.length_take, List.length_drop] at hgl
       have er : (List.replicate (k + 1) ctd).flatten = (List.replicate k ctd).flatten ++ ctd := by rw [List.replicate_succ', List.flatten_append]; simp
       rw [er]
       refine ⟨by rw [List.length_append, h1, Nat.succ_mul], fun j td v ht hv => ?_⟩
       by_cases hj : j < (List.replicate k ctd).flatten.length
       ·rw [List.getElem?_append_left hj] at ht
        exact h2 j td v ht hv
       ·rw [List.getElem?_append_right (by omega), h1] at ht
        rw [h1] at hj
        refine hg.2 (j - k * ctd.length) td v ht ?_
        have hlt : j - k * ctd.length < ctd.length := (List.getElem?_eq_some_iff.1 ht).1
        rw [List.getElem?_take, if_pos (by omega), List.getElem?_drop, ← hlen.1, show k * ctd.length + (j - k * ctd.length) = j from by omega]
        exact hv
     obtain ⟨_, k⟩ := go m (Nat.le_refl _)
     exact ⟨by rw [hlen.2, hl], k⟩
   ·cases htd
  ·cases htd
end
end Go.Am
