/-
 slices.Delete, for elements of any number of cells: its text; what it does to a row of its own.
-/
import Derived.Test.YtgefdmkmobaefaaAmInsB
import Derived.Deep.RegionLaw
import Derived.Deep.LoopGhost
import Derived.WalkKit
set_option linter.unusedSimpArgs false
set_option linter.unusedVariables false
set_option linter.unusedVariables false
set_option linter.unusedSimpArgs false
namespace Go.Am
open Go.Shelf Go.RowKit Go.Lib
variable {P : Program}
def delFn (nm : String) (ta : Array TypeId) (tS tI tB t0 tE : TypeId) : Func :=
 { name := nm, origin := "slices.Delete", targs := ta, params := #[tS, tI, tI], resultTypes := #[tS], nfree := 0, ntmps := 33, results := #[ResultVar.tmp 6], body := some ((Code.region 0 #[{ dst := some 6, op := Op.assign (Operand.const (Value.slice none 0 0)), type := tS, pos := "slices.go:224", after := #[], guard := none }] false).seq ((Code.region 1 #[{ dst := some 8, op := Op.move (Operand.tmp 0), type := tS, pos := "slices.go:225", after := #[], guard := none }, { dst := some 9, op := Op.move (Operand.tmp 1), type := tI, pos := "slices.go:225", after := #[], guard := none }, { dst := some 10, op := Op.move (Operand.tmp 2), type := tI, pos := "slices.go:225", after := #[], guard := none }, { dst := some 11, op := Op.move (Operand.tmp 0), type := tS, pos := "slices.go:225", after := #[], guard := none }, { dst := some 12, op := Op.call { callee := Callee.builtin Builtin.len, args := #[Operand.tmp 11], argTypes := #[tS] }, type := tI, pos := "slices.go:225", after := #[{ on := 3, ground := Ground.data }], guard := none }, { dst := some 13, op := Op.slice tS (Operand.tmp 8) (some (Operand.tmp 9)) (some (Operand.tmp 10)) (some (Operand.tmp 12)), type := tS, pos := "slices.go:225", after := #[{ on := 0, ground := Ground.data }, { on := 1, ground := Ground.data }, { on := 2, ground := Ground.data }, { on := 4, ground := Ground.data }], guard := none }] false).seq (((Code.region 2 #[{ dst := some 14, op := Op.move (Operand.tmp 1), type := tI, pos := "slices.go:227", after := #[], guard := none }, { dst := some 15, op := Op.move (Operand.tmp 2), type := tI, pos := "slices.go:227", after := #[], guard := none }, { dst := some 16, op := Op.binOp BinOp.eql tI (Operand.tmp 14) (Operand.tmp 15) tI, type := tB, pos := "slices.go:227", after := #[{ on := 0, ground := Ground.data }, { on := 1, ground := Ground.data }], guard := none }] false).seq (Code.cond (Operand.tmp 16) ((Code.region 3 #[{ dst := some 17, op := Op.move (Operand.tmp 0), type := tS, pos := "slices.go:228", after := #[], guard := none }, { dst := some 6, op := Op.assign (Operand.tmp 17), type := tS, pos := "slices.go:228", after := #[{ on := 0, ground := Ground.data }, { on := 0, ground := Ground.phase }], guard := none }] false).seq Code.ret) Code.skip)).seq ((Code.region 4 #[{ dst := some 18, op := Op.move (Operand.tmp 0), type := tS, pos := "slices.go:231", after := #[], guard := none }, { dst := some 19, op := Op.call { callee := Callee.builtin Builtin.len, args := #[Operand.tmp 18], argTypes := #[tS] }, type := tI, pos := "slices.go:231", after := #[{ on := 0, ground := Ground.data }], guard := none }, { dst := some 7, op := Op.assign (Operand.tmp 19), type := tI, pos := "slices.go:231", after := #[{ on := 1, ground := Ground.data }, { on := 0, ground := Ground.phase }, { on := 1, ground := Ground.phase }], guard := none }] false).seq ((Code.region 5 #[{ dst := some 20, op := Op.move (Operand.tmp 0), type := tS, pos := "slices.go:232", after := #[], guard := none }, { dst := some 21, op := Op.move (Operand.tmp 1), type := tI, pos := "slices.go:232", after := #[], guard := none }, { dst := some 22, op := Op.slice tS (Operand.tmp 20) none (some (Operand.tmp 21)) none, type := tS, pos := "slices.go:232", after := #[{ on := 0, ground := Ground.data }, { on := 1, ground := Ground.data }], guard := none }, { dst := some 23, op := Op.move (Operand.tmp 0), type := tS, pos := "slices.go:232", after := #[], guard := none }, { dst := some 24, op := Op.move (Operand.tmp 2), type := tI, pos := "slices.go:232", after := #[], guard := none }, { dst := some 25, op := Op.slice tS (Operand.tmp 23) (some (Operand.tmp 24)) none none, type := tS, pos := "slices.go:232", after := #[{ on := 3, ground := Ground.data }, { on := 4, ground := Ground.data }], guard := none }, { dst := some 26, op := Op.call { callee := Callee.builtin Builtin.append, args := #[Operand.tmp 22, Operand.tmp 25], argTypes := #[tS, tS] }, type := tS, pos := "slices.go:232", after := #[{ on := 2, ground := Ground.data }, { on := 5, ground := Ground.data }], guard := none }, { dst := some 0, op := Op.assign (Operand.tmp 26), type := tS, pos := "slices.go:232", after := #[{ on := 6, ground := Ground.data }, { on := 6, ground := Ground.chain }, { on := 0, ground := Ground.phase }, { on := 1, ground := Ground.phase }, { on := 2, ground := Ground.phase }, { on := 3, ground := Ground.phase }, { on := 4, ground := Ground.phase }, { on := 5, ground := Ground.phase }, { on := 6, ground := Ground.phase }], guard := none }] true).seq ((Code.region 6 #[{ dst := some 27, op := Op.move (Operand.tmp 0), type := tS, pos := "slices.go:233", after := #[], guard := none }, { dst := some 28, op := Op.move (Operand.tmp 0), type := tS, pos := "slices.go:233", after := #[], guard := none }, { dst := some 29, op := Op.call { callee := Callee.builtin Builtin.len, args := #[Operand.tmp 28], argTypes := #[tS] }, type := tI, pos := "slices.go:233", after := #[{ on := 1, ground := Ground.data }], guard := none }, { dst := some 30, op := Op.move (Operand.tmp 7), type := tI, pos := "slices.go:233", after := #[], guard := none }, { dst := some 31, op := Op.slice tS (Operand.tmp 27) (some (Operand.tmp 29)) (some (Operand.tmp 30)) none, type := tS, pos := "slices.go:233", after := #[{ on := 0, ground := Ground.data }, { on := 2, ground := Ground.data }, { on := 3, ground := Ground.data }], guard := none }, { dst := none, op := Op.call { callee := Callee.builtin Builtin.clear, args := #[Operand.tmp 31], argTypes := #[tS] }, type := t0, pos := "slices.go:233", after := #[{ on := 4, ground := Ground.data }], guard := none }] false).seq ((Code.region 7 #[{ dst := some 32, op := Op.move (Operand.tmp 0), type := tS, pos := "slices.go:234", after := #[], guard := none }, { dst := some 6, op := Op.assign (Operand.tmp 32), type := tS, pos := "slices.go:234", after := #[{ on := 0, ground := Ground.data }, { on := 0, ground := Ground.phase }], guard := none }] false).seq Code.ret))))))), norace := false, file := "slices/slices.go", endLine := 235, tmpNames := #["s", "i", "j", "s", "i", "j", "", "oldlen", "", "", "", "", "", "", "", "", "", "", "", "", "", "", "", "", "", "", "", "", "", "", "", "", ""] }
theorem delFn_ntmps (nm : String) (ta : Array TypeId) (tS tI tB t0 tE : TypeId) : (delFn nm ta tS tI tB t0 tE).ntmps = 33 := rfl
structure DelL (P : Program) (f : FuncId) (tS tI tB tE t0 : TypeId) (i0 : TypeInfo) (z : Value) : Prop where
 mixed : P.follows .mixedOrders = true
 f : ∃ nm ta, P.funcs[f]? = some (delFn nm ta tS tI tB t0 tE) ∧ (nm == "runtime.NumGoroutine") = false
 tS : P.underlying tS = some (.slice tE)
 tI : P.underlying tI = some (.int .i64)
 tB : P.underlying tB = some .bool
 t0 : P.underlying t0 = some (.tuple #[])
 i : P.info? tE = some i0
 iz : i0.zero = some z
 zs : z.cells.size = i0.size
 z1 : z.cells.toList.all Value.oneCell' = true
 pos : 0 < i0.size
theorem run_clear_K (w : World) (t e ty : TypeId) (i : TypeInfo) (z : Value) (ht : P.underlying t = some (.slice e)) (hi : P.info? e = some i) (hz : i.zero = some z) (b o n c : Nat) (hn : 0 < n)
  (hc : ∀ j, j < (Builtin.zeroCells z.cells n).toList.length → (w.cell? ⟨b, o + j, none⟩).isSome = true) (hf : ∀ j, j < (Builtin.zeroCells z.cells n).toList.length → w.frozen? ⟨b, o + j, none⟩ = false) (h1 : ∀ u ∈ (Builtin.zeroCells z.cells n).toList, u.oneCell' = true) :
  (Builtin.clear_ #[t] ty #[.slice (some ⟨b, o, none⟩) n c]).run P w = .ok (.tuple #[]) (w.setCells b o (Builtin.zeroCells z.cells n).toList) := by
 have hst := run_storeCells_cells (P := P) b o (Builtin.zeroCells z.cells n).toList 0 w (by simpa using hc) (by simpa using hf) h1
 simp only [Nat.add_zero] at hst
 obtain ⟨m, rfl⟩ : ∃ m, n = m + 1 := ⟨n - 1, by omega⟩
 simp only [Builtin.clear_, List.getElem?_toArray, List.getElem?_cons_zero, Sem.run_bind, run_underlying ht, Result.andThen_ok, run_zeroValue' hi hz, hst, Sem.run_pure]
theorem zero_one {z : Value} (h1 : z.cells.toList.all Value.oneCell' = true) (n : Nat) : ∀ u ∈ (Builtin.zeroCells z.cells n).toList, u.oneCell' = true := by
 intro u hu
 unfold Builtin.zeroCells at hu
 simp at hu
 obtain ⟨a, ha, rfl⟩ := hu
 have hp : 0 < z.cells.size := by
  rcases Nat.eq_zero_or_pos z.cells.size with h | h
  ·rw [h] at ha; omega
  ·exact h
 have hlt := Nat.mod_lt a hp
 rw [getElem!_pos z.cells _ hlt]
 exact List.all_eq_true.1 h1 _ (by simp)
variable {f tS tI tB tE t0 : Nat} {i0 : TypeInfo} {z : Value}
set_option maxHeartbeats 4000000 in
set_option maxRecDepth 100000 in
theorem del_calls (L : DelL P f tS tI tB tE t0 i0 z) (b off n c i j : Nat) (olds : List Value) (w : World) (hij : i < j) (hjn : j ≤ n) (hnc : n ≤ c) (ho : olds.length = n * i0.size)
  (hcs : ∀ q u, olds[q]? = some u → w.cell? ⟨b, off + q, none⟩ = some u) (hfz : ∀ q, q < n * i0.size → w.frozen? ⟨b, off + q, none⟩ = false) (h1 : ∀ u ∈ olds, u.oneCell' = true) :
  Calls P f #[.slice (some ⟨b, off, none⟩) n c, .int .i64 i, .int .i64 j] w fun e w' =>
   e = .returned (.slice (some ⟨b, off, none⟩) (i + (n - j)) c) ∧ ∃ q, w' = ({ w with drawn := q }.setCells b (off + i * i0.size) (olds.drop (j * i0.size))).setCells b (off + (i + (n - j)) * i0.size) (Builtin.zeroCells z.cells (j - i)).toList := by
 have mixed := L.mixed; have tS' := L.tS; have tI' := L.tI; have tB' := L.tB; have t0' := L.t0
 have uS := run_underlying (w := w) L.tS
 have zE := run_size L.i
 obtain ⟨nm, ta, hf, _⟩ := L.f
 obtain ⟨news, hnews⟩ : ∃ news, news = olds.drop (j * i0.size) := ⟨_, rfl⟩
 have hmulS : j * i0.size + (n - j) * i0.size = n * i0.size := by rw [← Nat.add_mul]; congr 1; omega
 have hlen : news.length = (n - j) * i0.size := by rw [hnews, List.length_drop, ho]; omega
 obtain ⟨A, hA, hsrc⟩ : ∃ A : Addr, (if c = j then some (⟨b, off, none⟩ : Addr) else some ⟨b, off + j * i0.size, none⟩) = some A ∧ Hid (∀ t u, news[t]? = some u → w.drew.cell? (A.add t) = some u) := by
  by_cases h : c = j
  ·refine ⟨⟨b, off, none⟩, by simp [h], fun t u hu => ?_⟩
   have h0 : news.length = 0 := by rw [hlen, show n - j = 0 by omega, Nat.zero_mul]
   rw [List.length_eq_zero_iff.1 h0] at hu
   simp at hu
  ·refine ⟨⟨b, off + j * i0.size, none⟩, by simp [h], fun t u hu => ?_⟩
   rw [hnews, List.getElem?_drop] at hu
   rw [Addr.add_lit, show off + j * i0.size + t = off + (j * i0.size + t) by omega]
   exact hcs _ _ hu
 have s2 : Hid (∀ u ∈ news, u.oneCell' = true) := fun u hu => h1 u (List.mem_of_mem_drop (hnews ▸ hu))
 have himul : i * i0.size + (n - j) * i0.size ≤ n * i0.size := by rw [← Nat.add_mul]; exact Nat.mul_le_mul_right _ (by omega)
 have hsp : ∀ q, q < n * i0.size → (w.cell? ⟨b, off + q, none⟩).isSome = true := fun q hq => by
  rw [hcs q _ (List.getElem?_eq_getElem (by omega))]; rfl
 have s3 : Hid (∀ t, t < news.length → (w.drew.cell? ⟨b, off + i * i0.size + t, none⟩).isSome = true ∧ w.drew.frozen? ⟨b, off + i * i0.size + t, none⟩ = false) := by
  intro t ht
  rw [hlen] at ht
  rw [Nat.add_assoc]
  exact ⟨hsp _ (by omega), hfz _ (by omega)⟩
 have s1 : Hid (news.length = (n - j) * i0.size) := hlen
 obtain ⟨W1, hW1⟩ : ∃ W1, W1 = w.drew.setCells b (off + i * i0.size) news := ⟨_, rfl⟩
 have hzl : (Builtin.zeroCells z.cells (j - i)).toList.length = (j - i) * i0.size := by simp [size_zeroCells, L.zs]
 have hzmul : (i + (n - j)) * i0.size + (j - i) * i0.size = n * i0.size := by rw [← Nat.add_mul]; congr 1; omega
 have hcl0 : n - (i + (n - j)) = j - i := by omega
 have hcl : ∀ ty, (Builtin.clear_ #[tS] ty #[.slice (some ⟨b, off + (i + (n - j)) * i0.size, none⟩) (j - i) (c - (i + (n - j)))]).run P W1 = .ok (.tuple #[]) (W1.setCells b (off + (i + (n - j)) * i0.size) (Builtin.zeroCells z.cells (j - i)).toList) := fun ty => by
  exact run_clear_K W1 tS tE ty i0 z L.tS L.i L.iz b _ (j - i) _ (by omega)
   (fun t ht => by
    rw [hzl] at ht
    rw [hW1, Nat.add_assoc]
    exact isSome_setCells b _ _ _ (fun j hj => by rw [hlen] at hj; rw [Nat.add_assoc]; exact hsp _ (by omega)) _ (hsp _ (by omega)))
   (fun t ht => by
    rw [hzl] at ht
    rw [hW1, World.frozen?_setCells, Nat.add_assoc]
    exact hfz _ (by omega)) (zero_one L.z1 _)
 have hW : Hid (W1 = w.drew.setCells b (off + i * i0.size) news) := hW1
 have hic : i ≤ c := by omega
 have hjc : j ≤ c := by omega
 have hne : ¬ ((i : Int) = (j : Int)) := by omega
 rw [← hnews]
 clear hW1 hsp hfz hcs hnews hlen ho h1 hzl
 go_enter hf, delFn_ntmps _ _ _ _ _ _ _
 go_wp2_with fail
 go_region_law_o (refine step_append_room rfl (.tmp 22) (.tmp 25) tS rfl tE i0 i0.size tS' L.i rfl b off i c (by simp [Act.eval, Act.put]) A (n - j) (c - j) news (by simp [Act.eval, Act.put]) s1.out hsrc.out s2.out (by omega) s3.out ?_; rw [← hW.out])
 go_wp2_with (simp only [hcl])
 all_goals (go_ret; refine ⟨rfl, w.drawn + 1, ?_⟩; rw [hW.out])
 ·rfl
 ·have hzc : z.cells = #[z] := by
   unfold Value.cells
   split
   ·simp_all
   ·rfl
  rw [hzc]; rfl
def deleteH (sz : Nat) (args : List AV) (h : AH) : Option (AV × AH) := match args with
 | [.own b v o n, .int .i64 i, .int .i64 j] =>
  match h[b]? with
  | some (.row v' sz' es) =>
   if v = v' ∧ sz' = sz ∧ o + n ≤ es.length ∧ 0 ≤ i ∧ i < j ∧ j ≤ n then
    some (.own b (v + 1) 0 (i.toNat + (n - j.toNat)), h.set b (.row (v + 1) sz ((((es.drop o).take n).take i.toNat) ++ ((es.drop o).take n).drop j.toNat)))
   else none
  | _ => none
 | _ => none
theorem delete_snd {h : AH} (L : DelL P f tS tI tB tE t0 i0 z) {args : List AV} {r : AV} {h' : AH} (hr : deleteH i0.size args h = some (r, h')) : Snd P f args h r h' := by
 unfold deleteH at hr
 split at hr
 ·rename_i b v o n i j
  split at hr
  ·rename_i v' sz' es hes
   split at hr
   ·rename_i hcond
    obtain ⟨rfl, rfl, hon, hi0, hij, hjn⟩ := hcond
    cases hr
    obtain ⟨k, rfl⟩ : ∃ k : Nat, i = (k : Int) := ⟨i.toNat, by omega⟩
    obtain ⟨m, rfl⟩ : ∃ k : Nat, j = (k : Int) := ⟨j.toNat, by omega⟩
    have hkm : k < m := by omega
    have hmn : m ≤ n := by omega
    simp only [Int.toNat_natCast]
    have hpos := L.pos
    refine ⟨by obtain ⟨nm, ta, hf, hn⟩ := L.f; exact ⟨_, hf, rfl, hn⟩, fun Z β w vs R hl hv => ?_⟩
    obtain ⟨v1, v2, v3, rfl⟩ : ∃ a b c, vs = [a, b, c] := by
     match vs, hl with
     | [a, b, c], _ => exact ⟨a, b, c, rfl⟩
    have hv1 := hv 0 _ _ rfl rfl
    have hv2 := (hv 1 _ _ rfl rfl).int_inv
    have hv3 := (hv 2 _ _ rfl rfl).int_inv
    subst hv2 hv3
    obtain ⟨bd, ad, c, hbd, rfl, h2⟩ := hv1.own_inv
    obtain ⟨_, bd', q1, q2, q3⟩ := R.blk b _ hes
    rw [hbd] at q1; cases q1
    rcases h2 with ⟨_, h2⟩ | ⟨cb, p1, p2, hnc, p4⟩
    ·omega
    rcases q3 with ⟨q3, _⟩ | ⟨c2, cur, elem, g1, g2, g3, g4, g5⟩
    ·rw [p1] at q3; cases q3
    rw [p1] at g1; cases g1
    subst p2
    have hlen : ((es.drop o).take n).length = n := by simp; omega
    have hsrc := row_src (o := o) (n := n) g2 g5
    rw [q2] at p4
    obtain ⟨olds, o1, o2, o3, o4⟩ := hsrc.list
    rw [hlen] at o1
    have hmulS : m * i0.size + (n - m) * i0.size = n * i0.size := by rw [← Nat.add_mul]; congr 1; omega
    have hkmS : k * i0.size + (n - m) * i0.size = (k + (n - m)) * i0.size := by rw [← Nat.add_mul]
    have hkle : k * i0.size ≤ m * i0.size := Nat.mul_le_mul_right _ (by omega)
    have hzS : (k + (n - m)) * i0.size + (m - k) * i0.size = n * i0.size := by rw [← Nat.add_mul]; congr 1; omega
    have hncS : n * i0.size ≤ c * i0.size := Nat.mul_le_mul_right _ hnc
    rw [Nat.add_mul] at p4
    rw [q2]
    have hcall := del_calls L cb (bd.base + o * i0.size) n c k m olds w hkm hmn hnc o1 (fun q u hq => o2 q u hq) (fun q _ => by simp [World.frozen?, g2]) o3
    refine hcall.mono ?_
    rintro e w' ⟨rfl, q, rfl⟩
    have c2l : (olds.drop (m * i0.size)).length = (n - m) * i0.size := by rw [List.length_drop, o1]; omega
    have hzl : (Builtin.zeroCells z.cells (m - k)).toList.length = (m - k) * i0.size := by simp [size_zeroCells, L.zs]
    have hl1 : bd.base + o * i0.size + k * i0.size + (olds.drop (m * i0.size)).length ≤ cur.toList.length := by rw [c2l]; simp; omega
    have hl2 : bd.base + o * i0.size + (k + (n - m)) * i0.size + (Builtin.zeroCells z.cells (m - k)).toList.length ≤ (over cur.toList (bd.base + o * i0.size + k * i0.size) (olds.drop (m * i0.size))).length := by
     rw [over_length _ _ _ hl1, hzl]; simp; omega
    rw [setCells2_row cb _ _ cur elem _ _ { w with drawn := q } g2 (by simpa using hl1) (fun u hu => o3 u (List.mem_of_mem_drop hu)) (by rw [over_length _ _ _ hl1] at hl2; simpa using hl2) (zero_one L.z1 _)]
    have hlA : (((es.drop o).take n).take k).length = k := by rw [List.length_take, hlen, Nat.min_eq_left (by omega)]
    have sA : SrcAt (Own Z β h) w (fun j => (olds.take (k * i0.size))[j]?) i0.size (((es.drop o).take n).take k) := (o4.take k).congr fun j hj => by
     rw [hlA] at hj
     rw [List.getElem?_take, if_pos hj]
    have sB : SrcAt (Own Z β h) w (fun j => (olds.drop (m * i0.size))[j]?) i0.size (((es.drop o).take n).drop m) := (o4.drop m).congr fun j hj => by rw [List.getElem?_drop]
    obtain ⟨β1, k1, k2, k3⟩ := R.append_there hes hbd p1 g2 (over (over cur.toList (bd.base + o * i0.size + k * i0.size) (olds.drop (m * i0.size))) (bd.base + o * i0.size + (k + (n - m)) * i0.size) (Builtin.zeroCells z.cells (m - k)).toList)
     (by rw [over_length _ _ _ hl2, over_length _ _ _ hl1]; simp) o (es' := ((es.drop o).take n).take k ++ ((es.drop o).take n).drop m)
     (by simp only [List.length_append, List.length_drop, hlA, hlen]; rw [g3]; omega)
     (SrcAt.append (sA.congr fun j hj => by
       rw [hlA] at hj
       simp only [List.getElem?_toArray]
       rw [over_get _ _ _ hl2, if_neg (by omega), over_get _ _ _ hl1, if_neg (by omega), List.getElem?_take, if_pos hj]
       have : olds[j]? = some (olds[j]'(by omega)) := List.getElem?_eq_getElem _
       rw [this]
       have := o2 _ _ this
       unfold World.cell? at this
       simp only [g2] at this
       simpa using this.symm)
      (sB.congr fun j hj => by
       rw [List.length_drop, hlen] at hj
       simp only [List.getElem?_toArray, hlA]
       rw [over_get _ _ _ hl2, if_neg (by omega), over_get _ _ _ hl1, if_pos (by rw [c2l]; omega)]
       congr 1; omega))
    obtain ⟨m1, m2⟩ := k1.drawn q
    exact ⟨_, β1, rfl, m1, k2.trans m2, (k3 (k + (n - m)) c (by omega) (by rw [g3]; omega)).fr m2⟩
   ·cases hr
  ·cases hr
 ·cases hr
end Go.Am
