/-
 slices.Insert, for the abstract machine.
-/
import Derived.Test.YtgefdmkmobaefaaAmInsA
import Derived.Test.YtgefdmkmobaefaaAmGU
import Derived.Test.YtgefdmkmobaefaaAmGS
import Derived.Test.YtgefdmkmobaefaaAmIn
set_option linter.unusedSimpArgs false
set_option linter.unusedVariables false
namespace Go.Am
open Go.Lib
section
variable {P : Program} {Z : Nat → Prop} {Γ : Tab} {β : Bds} {h : AH} {w : World}
theorem setCells_row (b o : Nat) (cur : Array Value) (elem : TypeId) (vs : List Value) (w : World) (hcur : w.heap[b]? = some (.cells cur elem (0, 0))) (hl : o + vs.length ≤ cur.size) (h1 : ∀ v ∈ vs, v.oneCell' = true) :
  w.setCells b o vs = w.setRow b (over cur.toList o vs).toArray := by
 have e1 := run_storeCells_at (P := default) b o elem vs 0 cur w hcur (by omega) h1
 have e2 := run_storeCells_cells (P := default) b o vs 0 w
  (fun c hc => by
   unfold World.cell?
   simp only [hcur, Nat.add_zero]
   simp; omega)
  (fun c hc => by
   unfold World.frozen?
   simp only [hcur]
   simp) h1
 rw [e1] at e2
 injection e2 with _ e3
 simp only [Nat.add_zero] at e3
 rw [← e3]
 rfl
theorem run_overlaps_own (w : World) (tS tR e : TypeId) (ht : P.underlying tS = some (.slice e)) (size : Nat) (hz : ∀ w, (Go.sizeOf e).run P w = .ok size w)
  (a b : Addr) (la ca lb cb : Nat) (hne : a.block ≠ b.block) {x : Value} (hx : w.cell? a = some x) {cur : Array Value} {elem : TypeId} (hb : w.heap[b.block]? = some (.cells cur elem (0, 0))) :
  (Extern.SlicesOverlaps.overlaps #[tS, tS] #[tR] #[.slice (some a) la ca, .slice (some b) lb cb]).run P w = .ok (.bool false) w := by
 have hnb : (a.block != b.block) = true := by simpa using hne
 have hnb' : (a.block == b.block) = false := by simpa using hne
 obtain ⟨ca', ea', fa', hha, hlt⟩ : ∃ c e f, w.heap[a.block]? = some (.cells c e f) ∧ a.off < c.size := by
  unfold World.cell? at hx
  split at hx
  ·rename_i c e f hh
   refine ⟨c, e, f, hh, ?_⟩
   split at hx
   ·cases hx
   ·exact (Array.getElem?_eq_some_iff.1 hx).1
  ·cases hx
 have hsa : w.shape? a.block = some (ea', ca'.size) := by simp [World.shape?, hha]
 have hsb : w.shape? b.block = some (elem, cur.size) := by simp [World.shape?, hb]
 have hfb : w.frozen? b = false := by simp [World.frozen?, hb]
 have hfe : w.frozen? { block := b.block, off := cur.size } = false := by simp [World.frozen?, hb]
 have hk : ca'.size ≠ 0 := by omega
 change Sem.run P (α := Value) (do
  let some t := (#[tS, tS] : Array TypeId)[0]? | stuck "slices.overlaps: no parameter types"
  let .slice elem ← underlying t | stuck "slices.overlaps: slice type expected"
  let size ← sizeOf elem
  match (some a : Option Addr), (some b : Option Addr) with
  | some a, some b =>
   if la = 0 ∨ lb = 0 ∨ size = 0 then pure (Value.bool false)
   else if a.block != b.block && (← frozen a) && (← frozen b) then unsupported .addressObserved
   else do
    if a.block != b.block then do
     noView a; noView b
     if ← mayBeOne a b then return Value.bool ((← choose (.extern "sameAddr.stringBytes" 2)) == 1)
    pure (Value.bool (a.block == b.block && a.off < b.off + lb * size && b.off < a.off + la * size))
  | _, _ => pure (Value.bool false)) w = _
 by_cases h0 : la = 0 ∨ lb = 0 ∨ size = 0
 ·simp [run_underlying ht, hz, h0]
 ·cases hca : ca'.size with
  | zero => exact absurd hca hk
  | succ k =>
   rw [hca] at hsa
   cases hfa : w.frozen? a <;> cases hfa2 : w.frozen? { block := a.block, off := k + 1 } <;>
   simp [run_underlying ht, hz, h0, hnb, hnb', frozen, noView, viewAt, mayBeOne, stringish, shape, Sem.run, hsa, hsb, hfa, hfa2, hfb, hfe]
theorem setRow_setRow (w : World) (b : Nat) (cur : Array Value) (elem : TypeId) (X Y : Array Value) (hcur : w.heap[b]? = some (.cells cur elem (0, 0))) : (w.setRow b X).setRow b Y = w.setRow b Y := by
 unfold World.setRow
 congr 1
 apply Array.ext_getElem?
 intro i
 rw [Array.getElem?_modify, Array.getElem?_modify, Array.getElem?_modify]
 by_cases h : b = i
 ·subst h; simp [hcur]
 ·simp [h]
theorem setCells2_row (b o o' : Nat) (cur : Array Value) (elem : TypeId) (vs us : List Value) (w : World) (hcur : w.heap[b]? = some (.cells cur elem (0, 0))) (hl : o + vs.length ≤ cur.size) (h1 : ∀ v ∈ vs, v.oneCell' = true)
  (hl' : o' + us.length ≤ cur.size) (h1' : ∀ v ∈ us, v.oneCell' = true) :
  (w.setCells b o vs).setCells b o' us = w.setRow b (over (over cur.toList o vs) o' us).toArray := by
 rw [setCells_row b o cur elem vs w hcur hl h1]
 have hlen : (over cur.toList o vs).length = cur.size := by rw [over_length _ _ _ (by simpa using hl)]; simp
 rw [setCells_row b o' (over cur.toList o vs).toArray elem us _ (setRow_heap w b cur _ elem (0, 0) hcur) (by simpa [hlen] using hl') h1', setRow_setRow w b cur elem _ _ hcur]
def insertH (sz bytes : Nat) (args : List AV) (h : AH) : Option (AV × AH) := match args with
 | [.own b v o n, .int .i64 i, .lst _ [x]] =>
  match h[b]? with
  | some (.row v' sz' es) =>
   if v = v' ∧ sz' = sz ∧ x.cells.length = sz ∧ o + n ≤ es.length ∧ 0 ≤ i ∧ i ≤ n ∧ (n + 1) * bytes ≤ 140737488355328 ∧ n + 1 ≤ 140737488355328 then
    some (.own b (v + 1) 0 (n + 1), h.set b (.row (v + 1) sz ((((es.drop o).take n).take i.toNat) ++ x :: ((es.drop o).take n).drop i.toNat)))
   else none
  | _ => none
 | _ => none
theorem insert_snd {f tS tI tB tE t0 fO fR : Nat} {i0 : TypeInfo} {z : Value} (L : InsL P f tS tI tB tE t0 fO fR i0 z) {args : List AV} {r : AV} {h' : AH} (hr : insertH i0.size i0.bytes args h = some (r, h')) : Snd P f args h r h' := by
 unfold insertH at hr
 split at hr
 ·rename_i b v o n i fl x
  split at hr
  ·rename_i v' sz' es hes
   split at hr
   ·rename_i hcond
    obtain ⟨rfl, rfl, hxl, hon, hi0, hin, hby, h63⟩ := hcond
    cases hr
    obtain ⟨k, rfl⟩ : ∃ k : Nat, i = (k : Int) := ⟨i.toNat, by omega⟩
    have hkn : k ≤ n := by omega
    simp only [Int.toNat_natCast]
    have hpos := L.pos
    refine ⟨by obtain ⟨nm, ta, hf, hn⟩ := L.f; exact ⟨_, hf, rfl, hn⟩, fun Z β w vs R hl hv => ?_⟩
    obtain ⟨v1, v2, v3, rfl⟩ : ∃ a b c, vs = [a, b, c] := by
     match vs, hl with
     | [a, b, c], _ => exact ⟨a, b, c, rfl⟩
    have hv1 := hv 0 _ _ rfl rfl
    have hv2 := (hv 1 _ _ rfl rfl).int_inv
    subst hv2
    have hv3 := hv 2 _ _ rfl rfl
    obtain ⟨ad3, cc3, e3, hcc3, _⟩ := elems_rel R (a := .lst fl [x]) rfl hv3
    subst e3
    obtain ⟨bd, ad, c, hbd, rfl, h2⟩ := hv1.own_inv
    have hnc : n ≤ c := by
     rcases h2 with ⟨_, h2⟩ | ⟨_, _, _, h2, _⟩
     ·omega
     ·exact h2
    have hsrc3 : ∃ blk oo, ad3 = some ⟨blk, oo, none⟩ ∧ ¬ Own Z β h blk ∧ SrcAt (Own Z β h) w (fun k => w.cell? ⟨blk, oo + k, none⟩) i0.size [x] := by
     have hp := hv3.lst_inv
     generalize hlen : ([x] : List AV).length = len at hp
     cases hp with
     | lst _ _ _ _ blk oo sz f hf hc ha hs h1 h3 h2 =>
      obtain ⟨e1, e2, _⟩ := ha (by simp)
      refine ⟨blk, oo, e1, e2, fun j y hy => ?_⟩
      obtain ⟨e4, _⟩ := hs j y hy
      have hyx : y = x := by
       cases j with
       | zero => simpa using hy.symm
       | succ j => simp at hy
      have hsz : sz = i0.size := by rw [← e4, hyx, hxl]
      subst hsz
      refine ⟨e4, fun q u hu => ⟨f j q, ?_, h3 j y hy q u hu, h2 j y hy q u hu⟩⟩
      have := h1 j y hy q u hu
      rw [Nat.add_assoc] at this
      exact this
    obtain ⟨blk, oo, rfl, hnown, hs3⟩ := hsrc3
    obtain ⟨us, u1, u2, u3, u4⟩ := hs3.list
    simp only [List.length_singleton, Nat.one_mul] at u1
    obtain ⟨_, bd', q1, q2, q3⟩ := R.blk b _ hes
    rw [hbd] at q1; cases q1
    by_cases hkn' : k = n
    · -- at the end
     subst hkn'
     have hlen : ((es.drop o).take k).length = k := by simp; omega
     have hap : append h i0.size i0.bytes (.own b v o k) [x] = some (.own b (v + 1) 0 (k + 1), h.set b (.row (v + 1) i0.size ((es.drop o).take k ++ [x]))) := by
      simp only [append, hes]
      rw [if_pos ⟨trivial, trivial, by simp [szOk, hxl], hon, by simpa using hby, by simpa using h63⟩]
      rfl
     have hM : ∀ ty, Makes P Z β h w (Builtin.append_ #[tS, tS] ty #[.slice ad k c, .slice (some ⟨blk, oo, none⟩) 1 cc3]) (.own b (v + 1) 0 (k + 1)) (h.set b (.row (v + 1) i0.size ((es.drop o).take k ++ [x]))) := fun ty => by
      refine append_rel R L.tS L.i L.iz L.zs rfl rfl hpos rfl hap hv1 (news := us) (.inl ⟨tS, _, rfl, L.tS, trivial, rfl, fun w' hw' => ?_⟩) (.inl ⟨tS, _, rfl, L.tS, trivial⟩) (by simpa using u1) u4 u3
      exact run_firstCells_some w' i0.size 1 ⟨blk, oo, none⟩ 1 cc3 us (by simpa using u1) (fun j u hu => by
       rw [addr_add]
       have := u2 j u hu
       simpa [World.cell?, hw'] using this)
     obtain ⟨rv, w1, β1, e1, k1, k2, k3⟩ := hM tS
     have hall : ∀ ty, (Builtin.append_ #[tS, tS] ty #[.slice ad k c, .slice (some ⟨blk, oo, none⟩) 1 cc3]).run P w = .ok rv w1 := fun ty => e1
     refine (ins_end L ad k c (some ⟨blk, oo, none⟩) cc3 w hnc hall).mono ?_
     rintro e w' ⟨rfl, rfl⟩
     have e0 : ∀ l : List AV, l.length = k → l.take k ++ x :: l.drop k = l ++ [x] := fun l hl => by
      rw [List.take_of_length_le (by omega), List.drop_of_length_le (by omega)]
     rw [e0 _ hlen]
     exact ⟨rv, β1, rfl, k1, k2, k3⟩
    ·have hlt : k < n := by omega
     rcases h2 with ⟨_, h2⟩ | ⟨cb, p1, p2, _, p4⟩
     ·omega
     rcases q3 with ⟨q3, _⟩ | ⟨c2, cur, elem, g1, g2, g3, g4, g5⟩
     ·rw [p1] at q3; cases q3
     rw [p1] at g1; cases g1
     subst p2
     have hlen : ((es.drop o).take n).length = n := by simp; omega
     have hsrc := row_src (o := o) (n := n) g2 g5
     rw [q2] at p4
     obtain ⟨olds, o1, o2, o3, o4⟩ := hsrc.list
     rw [hlen] at o1
     have hdist : k * i0.size + (n - k) * i0.size = n * i0.size := by rw [← Nat.add_mul]; congr 1; omega
     have hk1 : (k + 1) * i0.size = k * i0.size + i0.size := by rw [Nat.add_mul, Nat.one_mul]
     have hn1 : (n + 1) * i0.size = n * i0.size + i0.size := by rw [Nat.add_mul, Nat.one_mul]
     rw [Nat.add_mul] at p4
     have hnb : blk ≠ cb := fun e => hnown (.inr ⟨b, e ▸ ⟨_, hes, bd, p1, hbd⟩⟩)
     have c2l : (olds.drop (k * i0.size)).length = (n - k) * i0.size := by rw [List.length_drop, o1]; omega
     have c1l : (olds.take (k * i0.size)).length = k * i0.size := by rw [List.length_take, o1]; omega
     have sA : SrcAt (Own Z β h) w (fun j => (olds.take (k * i0.size))[j]?) i0.size (((es.drop o).take n).take k) := (o4.take k).congr fun j hj => by
      rw [List.length_take, hlen, Nat.min_eq_left hkn] at hj
      rw [List.getElem?_take, if_pos hj]
     have sB : SrcAt (Own Z β h) w (fun j => (olds.drop (k * i0.size))[j]?) i0.size (((es.drop o).take n).drop k) := (o4.drop k).congr fun j hj => by rw [List.getElem?_drop]
     have hlA : (((es.drop o).take n).take k).length = k := by rw [List.length_take, hlen, Nat.min_eq_left hkn]
     have hcell : ∀ j u, olds[j]? = some u → w.cell? ⟨cb, bd.base + o * i0.size + j, none⟩ = some u := o2
     rw [q2]
     by_cases hroom : n + 1 ≤ c
     ·have hmc : (n + 1) * i0.size ≤ c * i0.size := Nat.mul_le_mul_right _ hroom
      have hfits : bd.base + o * i0.size + (n + 1) * i0.size ≤ cur.size := by rw [g3]; omega
      have hx0 : ∃ u, w.cell? ⟨blk, oo, none⟩ = some u := by
       have : us[0]? = some (us[0]'(by omega)) := List.getElem?_eq_getElem _
       exact ⟨_, u2 0 _ this⟩
      obtain ⟨x0, hx0⟩ := hx0
      obtain ⟨fo, f1, f2, f3, f4, f5⟩ := L.o
      have hsh := ins_shift L cb (bd.base + o * i0.size) n c k blk oo cc3 (olds.drop (k * i0.size)) us w hlt hroom (by omega) hnb c2l u1
        (fun j u hj => by rw [List.getElem?_drop] at hj; have := hcell _ _ hj; rwa [← Nat.add_assoc] at this)
        (fun j hj => by unfold World.cell?; simp [g2]; omega) (fun j hj => by simp [World.frozen?, g2])
        u2 (fun u hu => o3 u (List.mem_of_mem_drop hu)) u3
        (fun lb cb' => by
        rw [run_callFunc_extern f1 f3 (by rw [f2]; rfl) f4 f5, run_overlaps_own w tS tB tE L.tS i0.size (run_size L.i) ⟨blk, oo, none⟩ ⟨cb, _, none⟩ 1 cc3 lb cb' hnb hx0 g2]
        rfl)
      refine hsh.mono ?_
      rintro e w' ⟨rfl, q, rfl⟩
      have hl1 : bd.base + o * i0.size + (k + 1) * i0.size + (olds.drop (k * i0.size)).length ≤ cur.toList.length := by rw [c2l]; simp; omega
      have hl2 : bd.base + o * i0.size + k * i0.size + us.length ≤ (over cur.toList (bd.base + o * i0.size + (k + 1) * i0.size) (olds.drop (k * i0.size))).length := by
       rw [over_length _ _ _ hl1, u1]; simp; omega
      rw [setCells2_row cb _ _ cur elem _ _ { w with drawn := q } g2 (by simpa using hl1) (fun u hu => o3 u (List.mem_of_mem_drop hu)) (by rw [over_length _ _ _ hl1] at hl2; simpa using hl2) u3]
      obtain ⟨β1, k1, k2, k3⟩ := R.append_there hes hbd p1 g2 (over (over cur.toList (bd.base + o * i0.size + (k + 1) * i0.size) (olds.drop (k * i0.size))) (bd.base + o * i0.size + k * i0.size) us)
       (by rw [over_length _ _ _ hl2, over_length _ _ _ hl1]; simp) o (es' := ((es.drop o).take n).take k ++ x :: ((es.drop o).take n).drop k)
       (by simp only [List.length_append, List.length_cons, List.length_drop, hlA, hlen]; rw [show k + (n - k + 1) = n + 1 by omega]; exact hfits)
       (SrcAt.append (sA.congr fun j hj => by
         rw [hlA] at hj
         simp only [List.getElem?_toArray]
         rw [over_get _ _ _ hl2, if_neg (by omega), over_get _ _ _ hl1, if_neg (by omega), List.getElem?_take, if_pos hj]
         have : olds[j]? = some (olds[j]'(by omega)) := List.getElem?_eq_getElem _
         rw [this]
         have := hcell _ _ this
         unfold World.cell? at this
         simp only [g2] at this
         simpa using this.symm)
        (SrcAt.append (es := [x]) (u4.congr fun j hj => by
         simp only [List.length_singleton, Nat.one_mul] at hj
         simp only [List.getElem?_toArray, hlA]
         rw [over_get _ _ _ hl2, if_pos (by omega)]
         congr 1; omega)
        (sB.congr fun j hj => by
         rw [List.length_drop, hlen] at hj
         simp only [List.getElem?_toArray, hlA, List.length_singleton, Nat.one_mul]
         rw [over_get _ _ _ hl2, if_neg (by omega), over_get _ _ _ hl1, if_pos (by rw [c2l]; omega)]
         congr 1; omega)))
      obtain ⟨m1, m2⟩ := k1.drawn q
      exact ⟨_, β1, rfl, m1, k2.trans m2, (k3 (n + 1) c hroom (by rw [g3]; omega)).fr m2⟩
     ·have hcn : c = n := by omega
      subst hcn
      have hgr := ins_grow L cb (bd.base + o * i0.size) c k blk oo cc3 (olds.take (k * i0.size)) (olds.drop (k * i0.size)) us w hlt hby h63 c1l c2l u1
        (fun j u hj => by
        rw [List.getElem?_take] at hj
        split at hj
        ·exact hcell _ _ hj
        ·cases hj)
        (fun j u hj => by rw [List.getElem?_drop] at hj; have := hcell _ _ hj; rwa [← Nat.add_assoc] at this)
        u2 (fun u hu => o3 u (List.mem_of_mem_drop hu)) u3
      refine hgr.mono ?_
      rintro e w' ⟨G, q, ROW, hG, hRs, hR1, rfl, rfl⟩
      have hGm : (c + 1) * i0.size ≤ G * i0.size := Nat.mul_le_mul_right _ hG
      have hl1 : k * i0.size + us.length ≤ ROW.toList.length := by rw [u1]; simp; omega
      have hl2 : (k + 1) * i0.size + (olds.drop (k * i0.size)).length ≤ (over ROW.toList (k * i0.size) us).length := by
       rw [over_length _ _ _ hl1, c2l]; simp; omega
      have hnew : ({ w with drawn := q }.alloc (.cells ROW tE)).heap[w.heap.size]? = some (.cells ROW tE (0, 0)) := heap_alloc_new { w with drawn := q } _
      rw [setCells2_row w.heap.size _ _ ROW tE _ _ _ hnew (by simpa using hl1) u3 (by rw [over_length _ _ _ hl1] at hl2; simpa using hl2) (fun u hu => o3 u (List.mem_of_mem_drop hu))]
      have hX : (over (over ROW.toList (k * i0.size) us) ((k + 1) * i0.size) (olds.drop (k * i0.size))).toArray.size = G * i0.size := by
       rw [List.size_toArray, over_length _ _ _ hl2, over_length _ _ _ hl1]; simpa using hRs
      obtain ⟨β1, k1, k2, k3⟩ := R.append_new hes (es' := ((es.drop o).take c).take k ++ x :: ((es.drop o).take c).drop k) (w' := ({ w with drawn := q }.alloc (.cells ROW tE)).setRow w.heap.size (over (over ROW.toList (k * i0.size) us) ((k + 1) * i0.size) (olds.drop (k * i0.size))).toArray)
       (cur := (over (over ROW.toList (k * i0.size) us) ((k + 1) * i0.size) (olds.drop (k * i0.size))).toArray) (elem := tE) rfl rfl rfl
       (by
        unfold World.setRow
        apply Array.ext_getElem?
        intro j
        show ((w.heap.push (.cells ROW tE)).modify w.heap.size _)[j]? = _
        rw [Array.getElem?_modify, Array.getElem?_push, Array.getElem?_push]
        by_cases hj : j = w.heap.size
        ·subst hj; simp
        ·have : w.heap.size ≠ j := fun e => hj e.symm
         simp [hj, this])
       (by simp only [List.length_append, List.length_cons, List.length_drop, hlA, hlen]; rw [hX, show k + (c - k + 1) = c + 1 by omega]; exact hGm)
       (SrcAt.append (sA.congr fun j hj => by
         rw [hlA] at hj
         simp only [List.getElem?_toArray, Nat.zero_add]
         rw [over_get _ _ _ hl2, if_neg (by omega), over_get _ _ _ hl1, if_neg (by omega), ← hR1 j hj]
         simp)
        (SrcAt.append (es := [x]) (u4.congr fun j hj => by
         simp only [List.length_singleton, Nat.one_mul] at hj
         simp only [List.getElem?_toArray, hlA, Nat.zero_add]
         rw [over_get _ _ _ hl2, if_neg (by omega), over_get _ _ _ hl1, if_pos (by omega)]
         congr 1; omega)
        (sB.congr fun j hj => by
         rw [List.length_drop, hlen] at hj
         simp only [List.getElem?_toArray, hlA, List.length_singleton, Nat.one_mul, Nat.zero_add]
         rw [over_get _ _ _ hl2, if_pos (by rw [c2l]; omega)]
         congr 1; omega)))
      exact ⟨_, β1, rfl, k1, k2, k3 (c + 1) G hG (by rw [hX]; exact Nat.le_refl _)⟩
   ·cases hr
  ·cases hr
 ·cases hr
end
end Go.Am
