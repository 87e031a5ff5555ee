/-
  member.Peers: a group's seats, by its log: what it makes.
-/
import Derived.Test.YtjblbmcgpdmahaaAmBw
set_option linter.unusedSimpArgs false
set_option linter.unusedVariables false
namespace Go.Am.Pr
open Go.Am Go.RowKit Go.Am.Nm Go.Am.Bw

/-! The text's pieces; fB: slices.Backward, fO: member.Of. -/
def r0 : AC := .ops (.op (some 2) (.rbox (.t 0)) (.op (some 4) (.alloc [.lst true []]) (.op (some 5) (.alloc [.int .i64 0]) (.nil))))
def r1 (fB : FuncId) : AC := .ops (.op (some 10) (.mv (.t 1)) (.op (some 11) (.call fB [(.t 10)]) (.nil)))
def aA : AC := .seq (.ops (.op (some 6) (.mv (.t 12)) (.nil))) (.ops (.op (some 7) (.alloc [.int .i64 0, .lst true []]) (.op none (.store 2 (.t 7) (.t 13)) (.nil))))
def bA (fO : FuncId) : AC := .block 1 (.seq (.ops (.op (some 15) (.loadr 2 true (.t 7)) (.op (some 16) (.call fO [(.t 15)]) (.op (some 14) (.mv (.t 16)) (.op (some 17) (.ext (.t 14) 0) (.op (some 18) (.ext (.t 14) 1) (.op (some 8) (.mv (.t 17)) (.op (some 9) (.mv (.t 18)) (.nil)))))))))
 (.seq (.ops (.op (some 19) (.mv (.t 9)) (.nil)))
 (.cond (.t 19) (.seq (.ops (.op (some 20) (.mv (.t 8)) (.op (some 21) (.fad 0 (.t 2)) (.op (some 22) (.loadr 1 false (.t 21)) (.op (some 23) (.mv (.t 6)) (.op (some 24) (.bin .add (.t 22) (.t 23)) (.op (some 25) (.bin .add (.t 24) (.c (.int .i64 1))) (.op none (.store 1 (.t 4) (.t 20)) (.op none (.store 1 (.t 5) (.t 25)) (.nil))))))))))
 (.ret)) (.skip))))
def post : AC := .seq (.ops (.op (some 26) (.fad 2 (.t 2)) (.op (some 27) (.loadr 1 false (.t 26)) (.op none (.store 1 (.t 4) (.t 27)) (.op none (.store 1 (.t 5) (.c (.int .i64 0))) (.nil))))))
 (.ret)

/-- Is it member.Peers? -/
def peersOK (P : Program) (f fB fO : FuncId) : Bool := match P.funcs[f]? with
  | some fn => match fn.body with
    | some (.seq R0 (.seq (.seq R1 (.block 0 (.rangeFunc (.tmp 11) ps AS BD))) PO)) =>
      decide (fn.ntmps = 28) && okRes P fn.results.toList [.cell 4 1 false, .cell 5 1 false] && okCode P 28 R0 r0 && okCode P 28 R1 (r1 fB) && okCode P 28 AS aA && ndC AS && okCode P 28 BD (bA fO) && ndC BD && okCode P 28 PO post &&
      (match ps.toList with | [12, 13] => true | _ => false) && (fn.name == "runtime.NumGoroutine") == false
    | _ => false
  | none => false

section
variable {P : Program} {Γ : Tab}

/-- An entry: a term, and bytes. -/
def entB : AV → Bool
  | .agg cs => cs.all AV.isS && decide (cs.length = 2)
  | _ => false
theorem entB_inv {y : AV} (h : entB y = true) : ∃ a b, y = .agg [a, b] ∧ a.isS = true ∧ b.isS = true := by
  cases y <;> first | (cases h; done) | skip
  rename_i cs
  simp only [entB, Bool.and_eq_true, decide_eq_true_eq] at h
  obtain ⟨h1, h2⟩ := h
  match cs, h2 with
  | [a, b], _ =>
    simp at h1
    exact ⟨a, b, rfl, h1.1, h1.2⟩
theorem entB_whole {y : AV} (h : entB y = true) : Whole 2 true y := by
  obtain ⟨a, b, rfl, h1, h2⟩ := entB_inv h
  exact ⟨by simp [h1, h2], rfl, by simp [shape]⟩
/-- The last entry of which it is so, of the first k. -/
noncomputable def prGo (Γ : Tab) (fO : FuncId) (many : Int) (peers : AV) (es : List AV) : Nat → Option AV
  | 0 => some (.tup [peers, .int .i64 0])
  | k + 1 => match es[k]? with
    | some y => match Γ.p fO [y] with
      | some (.tup [.lst g s, .bool b]) => if b then some (.tup [.lst g s, .int .i64 (IntKind.i64.wrap (IntKind.i64.wrap (many + k) + 1))]) else prGo Γ fO many peers es k
      | _ => none
    | none => none

theorem ev_r0 {V : Nat → Bool} {e : Env} {cs : List AV} (h0 : e 0 = .agg cs) (hc : cs.all AV.isS = true) : eval Γ r0 V (AX × St) (fun x s => some (x, s)) ⟨e, []⟩ =
    some (.normal, ⟨((e.put 2 (.rptr cs)).put 4 (.ptr 0 0 0 0)).put 5 (.ptr 1 0 0 0), [.var [.lst true []], .var [.int .i64 0]]⟩) := by
  simp -implicitDefEqProofs (disch := omega) [wrap_of, ilt_t, ilt_f, ile_t, ile_f, nlt_t, nlt_f, nle_t, nle_f, ieq_t, ieq_f, imin_l, imin_r, imax_l, imax_r, take_app1, take_map_all, r0, h0, hc]
theorem ev_r1 {V : Nat → Bool} {e : Env} {f : Bool} {es : List AV} {fB fIt : FuncId} (hB : ∀ h, callA Γ fB [.lst f es] h = some (.fn (.func fIt) [] [.ptr h.length 0 0 0], h ++ [.var [.lst f es]])) (h1 : e 1 = .lst f es) :
    eval Γ (r1 fB) V (AX × St) (fun x s => some (x, s)) ⟨e, [.var [.lst true []], .var [.int .i64 0]]⟩ =
    some (.normal, ⟨(e.put 10 (.lst f es)).put 11 (.fn (.func fIt) [] [.ptr 2 0 0 0]), [.var [.lst true []], .var [.int .i64 0], .var [.lst f es]]⟩) := by
  simp -implicitDefEqProofs (disch := omega) [wrap_of, ilt_t, ilt_f, ile_t, ile_f, nlt_t, nlt_f, nle_t, nle_f, ieq_t, ieq_f, imin_l, imin_r, imax_l, imax_r, take_app1, take_map_all, r1, h1, hB]
theorem ev_aA {V : Nat → Bool} {e : Env} {k : Int} {a b : AV} (h12 : e 12 = .int .i64 k) (h13 : e 13 = .agg [a, b]) (ha : a.isS = true) (hb : b.isS = true) :
    eval Γ aA V (AX × St) (fun x s => some (x, s)) ⟨e, []⟩ = some (.normal, ⟨(e.put 6 (.int .i64 k)).put 7 (.ptr 0 0 0 0), [.var [a, b]]⟩) := by
  have h1 := okc_of_isS ha
  have h2 := okc_of_isS hb
  simp -implicitDefEqProofs (disch := omega) [wrap_of, ilt_t, ilt_f, ile_t, ile_f, nlt_t, nlt_f, nle_t, nle_f, ieq_t, ieq_f, imin_l, imin_r, imax_l, imax_r, take_app1, take_map_all, aA, h12, h13, h1, h2]
def hp : AH := [.var [.lst true []], .var [.int .i64 0], .gone]
theorem ev_bA {V : Nat → Bool} {e : Env} {fO : FuncId} {m0 : Int} {cs : List AV} {k : Int} {a b : AV} {g is : Bool} {s : List AV} (ha : a.isS = true) (hb : b.isS = true) (hO : Γ.p fO [.agg [a, b]] = some (.tup [.lst g s, .bool is])) (h2 : e 2 = .rptr (.int .i64 m0 :: cs)) (h4 : e 4 = .ptr 0 0 0 0) (h5 : e 5 = .ptr 1 0 0 0)
    (h6 : e 6 = .int .i64 k) (h7 : e 7 = .rptr [a, b]) :
    eval Γ (bA fO) V (AX × AH) (fun ex s => some (ex, s.h)) ⟨e, hp⟩ = some (if is then (.ret, [.var [.lst g s], .var [.int .i64 (IntKind.i64.wrap (IntKind.i64.wrap (m0 + k) + 1))], .gone]) else (.normal, hp)) := by
  have hc := fun h => callA_p (Γ := Γ) (f := fO) (args := [.agg [a, b]]) (h := h) (by simp [ha, hb]) hO
  cases is with
  | true => simp -implicitDefEqProofs (disch := omega) [wrap_of, ilt_t, ilt_f, ile_t, ile_f, nlt_t, nlt_f, nle_t, nle_f, ieq_t, ieq_f, imin_l, imin_r, imax_l, imax_r, take_app1, take_map_all, bA, hp, h2, h4, h5, h6, h7, hc]
  | false => simp -implicitDefEqProofs (disch := omega) [wrap_of, ilt_t, ilt_f, ile_t, ile_f, nlt_t, nlt_f, nle_t, nle_f, ieq_t, ieq_f, imin_l, imin_r, imax_l, imax_r, take_app1, take_map_all, bA, hp, h2, h4, h5, h6, h7, hc]
theorem ev_post {V : Nat → Bool} {e : Env} {c0 c1 c3 : AV} {fb : Bool} {ps : List AV} (h2 : e 2 = .rptr [c0, c1, .lst fb ps, c3]) (h4 : e 4 = .ptr 0 0 0 0) (h5 : e 5 = .ptr 1 0 0 0) :
    ∃ e', eval Γ post V (AX × St) (fun x s => some (x, s)) ⟨e, hp⟩ = some (.ret, ⟨e', [.var [.lst fb ps], .var [.int .i64 0], .gone]⟩) ∧ e' 4 = .ptr 0 0 0 0 ∧ e' 5 = .ptr 1 0 0 0 := by
  refine ⟨(e.put 26 (.rptr [.lst fb ps, c3])).put 27 (.lst fb ps), ?_, h4, h5⟩
  simp -implicitDefEqProofs (disch := omega) [wrap_of, ilt_t, ilt_f, ile_t, ile_f, nlt_t, nlt_f, nle_t, nle_f, ieq_t, ieq_f, imin_l, imin_r, imax_l, imax_r, take_app1, take_map_all, post, hp, h2, h4, h5]

/-- A place's value, abstractly, behind an assignment in a round. -/
structure Asg (i : Nat) (O1 : Nat → Prop) (W : World) (a1 : Act) (W1 : World) (a : Act) (k : Int) (cs : List AV) : Prop where
  size : a1.tmps.size = 28
  same : ∀ t, t ≠ 6 → t ≠ 7 → t ≠ 12 → t ≠ 13 → a1.tmps.getD t undef = a.tmps.getD t undef
  idx : a1.tmps.getD 6 undef = .int .i64 k
  box : ∃ c cur elem, a1.tmps.getD 7 undef = .pointer (some ⟨c, 0, none⟩) ∧ W.heap.size ≤ c ∧ W1.heap[c]? = some (.cells cur elem (0, 0)) ∧
    ∀ (j : Nat) (y : AV), cs[j]? = some y → ∃ v, cur[j]? = some v ∧ v.oneCell' = true ∧ ∃ O, (∀ b, b < W1.heap.size → (O b → O1 b ∨ W.heap.size ≤ b) ∧ (O1 b → O b)) ∧ PVR O W1 y v

theorem asg_ok (hm : P.follows .mixedOrders = true) (hΓ : TabOK P Γ) {AS : Code} (ok : okCode P 28 AS aA = true) (nd : ndC AS = true) {a : Act} (ha : a.tmps.size = 28) {i : Nat} {k : Int} {x y : AV} (hx : x.isS = true) (hy : y.isS = true)
    (l : Nat) (us : Array Value) (O1 : Nat → Prop) (W : World) (K : Act → World → Prop) (hus : us.size = 2) (hmean : Meant O1 W [.int .i64 k, .agg [x, y]] us) (hO1 : ∀ b, O1 b → b < W.heap.size)
    (hK : ∀ a1 W1, W.grownBy W1 none → Asg i O1 W a1 W1 a k [x, y] → K a1 W1) :
    AS.wpIn (Fence.wide.inRound l) 0 P (Exit.then K (fun _ _ _ => False)) { tmps := ((#[12, 13] : Array Tmp).zip us).foldl (fun t (p, v) => t.setIfInBounds p v) a.tmps, defers := [] } W := by
  obtain ⟨u0, u1, rfl⟩ : ∃ u0 u1, us = #[u0, u1] := by
    refine ⟨us[0]'(by omega), us[1]'(by omega), ?_⟩
    apply Array.ext
    · simpa using hus
    · intro j h1 h2
      match j with
      | 0 => rfl
      | 1 => rfl
      | j + 2 => simp at h2; omega
  have m0 : PVR O1 W (.int .i64 k) u0 := hmean.2 0 _ _ rfl rfl
  have m1 : PVR O1 W (.agg [x, y]) u1 := hmean.2 1 _ _ rfl rfl
  obtain ⟨tm, htm⟩ : ∃ tm, tm = (a.tmps.setIfInBounds 12 u0).setIfInBounds 13 u1 := ⟨_, rfl⟩
  have hfold : ((#[12, 13] : Array Tmp).zip #[u0, u1]).foldl (fun t (p, v) => t.setIfInBounds p v) a.tmps = tm := by rw [htm]; simp
  rw [hfold]
  have g12 : tm.getD 12 undef = u0 := by rw [htm]; simp [Array.getD_eq_getD_getElem?, ha]
  have g13 : tm.getD 13 undef = u1 := by rw [htm]; simp [Array.getD_eq_getD_getElem?, ha]
  have gO : ∀ t, t ≠ 12 → t ≠ 13 → tm.getD t undef = a.tmps.getD t undef := fun t h1 h2 => by
    rw [htm]; simp [Array.getD_eq_getD_getElem?, Array.getElem?_setIfInBounds_ne (Ne.symm h1), Array.getElem?_setIfInBounds_ne (Ne.symm h2)]
  have hown : ∀ b, Own O1 (fun _ _ => none) [] b ↔ O1 b := own_n
  have R : Rel O1 (fun _ _ => none) [] W :=
    ⟨hO1, fun i c ho => by obtain ⟨X, hX, _⟩ := ho; simp at hX, fun _ _ _ => rfl, fun i v sz es v' hX => by simp at hX, fun i X hX => by simp at hX, fun i j c ho => by obtain ⟨X, hX, _⟩ := ho; simp at hX⟩
  have toO : ∀ {z : AV} {v : Value}, PVR O1 W z v → PVR (Own O1 (fun _ _ => none) []) W z v := fun h => h.mono ⟨Nat.le_refl _, fun b _ hn => ⟨rfl, fun ho => hn ((hown b).1 ho)⟩⟩
  have E : EnvR O1 (fun _ _ => none) [] W (fun t => if t = 12 then .int .i64 k else if t = 13 then .agg [x, y] else .dead) { tmps := tm, defers := [] } 28 := by
    refine ⟨by rw [htm]; simp [ha], fun t => ?_⟩
    show VR _ _ _ (if t = 12 then .int .i64 k else if t = 13 then .agg [x, y] else .dead) (tm.getD t undef)
    by_cases h1 : t = 12
    · rw [if_pos h1, h1, g12]; exact .pure _ _ (toO m0)
    rw [if_neg h1]
    by_cases h2 : t = 13
    · rw [if_pos h2, h2, g13]; exact .pure _ _ (toO m1)
    rw [if_neg h2]; exact .dead _
  refine eval_soundIn (lr := l) hm hΓ aA AS ok nd (ev_aA (Γ := Γ) (V := fun _ => true) (e := fun t => if t = 12 then .int .i64 k else if t = 13 then .agg [x, y] else .dead) rfl rfl hx hy) (W := fun t => decide (t = 6) || decide (t = 7)) (fun t ht => ?_) R E (fun ex s' a' w' β' hk R' F' E' K' => ?_)
  · simp [aA, wrC, wr, optL] at ht
    rcases ht with rfl | rfl <;> rfl
  · simp only [Option.some.injEq, Prod.mk.injEq] at hk
    obtain ⟨rfl, rfl⟩ := hk
    have hlt : ∀ b, b < W.heap.size → ¬ O1 b → w'.heap[b]? = W.heap[b]? := fun b hb hn => (F'.stay.2 b hb (fun h => hn ((hown b).1 h))).1
    refine hK a' w' ⟨F'.os, F'.tape, F'.output, F'.stay.1, fun b hb _ => ?_⟩ ⟨E'.1, fun t h6 h7 h12 h13 => ?_, ?_, ?_⟩
    · by_cases h : O1 b
      · exact F'.xkeep b hb h
      · exact hlt b hb h
    · exact (K'.same t (by simp [h6, h7])).trans (gO t h12 h13)
    · have := E'.2 6
      exact VR.int_inv (by simpa [Env.put] using this)
    · obtain ⟨bd, c, q1, q2, q3⟩ := VR.ptr_inv (show VR β' _ _ (.ptr 0 0 0 0) _ from by simpa [Env.put] using E'.2 7)
      obtain ⟨c', cur, elem, e1, e2, e3, e4⟩ := R'.blk 0 _ rfl
      rw [e1] at q1
      cases q1
      cases q2
      have hoc : owned β' [AB.var [x, y]] 0 c := ⟨_, rfl, _, rfl, e1⟩
      refine ⟨c, cur, elem, by simpa using q3, ?_, e2, fun j z hz => ?_⟩
      · rcases Nat.lt_or_ge c W.heap.size with h | h
        · exfalso
          by_cases ho : O1 c
          · exact R'.xap 0 c hoc ho
          · exact (F'.stay.2 c h (fun h => ho ((hown c).1 h))).2 (.inr ⟨0, hoc⟩)
        · exact h
      · obtain ⟨v, g1, g2, g3⟩ := e4 j z hz
        refine ⟨v, g1, g2, _, fun b hb => ⟨fun ho => ?_, fun h => .inl h⟩, g3.pureS ?_⟩
        · rcases ho with h | ⟨i, h⟩
          · exact .inl h
          · right
            rcases Nat.lt_or_ge b W.heap.size with h' | h'
            · exfalso
              by_cases ho : O1 b
              · exact R'.xap i b h ho
              · exact (F'.stay.2 b h' (fun h => ho ((hown b).1 h))).2 (.inr ⟨i, h⟩)
            · exact h'
        · match j with
          | 0 => simp at hz; subst hz; exact hx
          | 1 => simp at hz; subst hz; exact hy
          | j + 2 => simp at hz

theorem box_cells {Z : Nat → Prop} {β : Bds} {h : AH} {W : World} {k : Nat} {y : AV} (R : Rel Z β h W) (hk : h[k]? = some (.var [y])) : ∃ c v elem, β k 0 = some ⟨some c, 0, 1, 1⟩ ∧ W.heap[c]? = some (.cells #[v] elem (0, 0)) ∧ VR β (Own Z β h) W y v := by
  obtain ⟨c, cur, elem, e1, e2, e3, e4⟩ := R.blk k _ hk
  obtain ⟨v, g1, _, g3⟩ := e4 0 _ rfl
  have : cur = #[v] := by
    have hs : cur.size = 1 := e3
    apply Array.ext
    · simpa using hs
    · intro j h1 h2
      have hj : j = 0 := by omega
      subst hj
      have := Array.getElem?_eq_getElem h1
      rw [g1] at this
      simpa using this.symm
  exact ⟨c, v, elem, e1, by rw [← this]; exact e2, g3⟩
theorem fnq_val {O : Nat → Prop} {β : Bds} {w : World} {f : Fn} {b c : Nat} {v : Value} (hβ : β b 0 = some ⟨some c, 0, 1, 1⟩) (h : VR β O w (.fn f [] [.ptr b 0 0 0]) v) : v = .func f #[] #[.pointer (some ⟨c, 0, none⟩)] := by
  cases h with
  | pure _ _ h => cases h
  | fn _ _ _ va vc h1 h2 q1 q2 =>
    have e1 : va = [] := List.eq_nil_of_length_eq_zero (by simpa using h1.symm)
    subst e1
    match vc, h2 with
    | [u], _ =>
      obtain ⟨bd, c', g1, g2, g3⟩ := (q2 0 _ u rfl rfl).ptr_inv
      rw [hβ] at g1; cases g1
      cases g2
      rw [g3]
      simp
theorem peers_snd (hm : P.follows .mixedOrders = true) (hΓ : TabOK P Γ) {f fB fO fIt : FuncId} (ok : peersOK P f fB fO = true) (okB : bwOK P fIt 2 true = true)
    {fl : Bool} {es : List AV} (hB : ∀ h, callA Γ fB [.lst fl es] h = some (.fn (.func fIt) [] [.ptr h.length 0 0 0], h ++ [.var [.lst fl es]])) {many term : Int} {fb fd : Bool} {ps da : List AV}
    (hl : es.length ≤ 9223372036854775807) (hes : ∀ y ∈ es, entB y = true) {r : AV} (hr : prGo Γ fO many (.lst fb ps) es es.length = some r) (h : AH) :
    Snd P f [.agg [.int .i64 many, .int .i64 term, .lst fb ps, .lst fd da], .lst fl es] h r h := by
  unfold peersOK at ok
  split at ok
  · rename_i fn hf
    split at ok
    · rename_i R0 R1 psT AS BD PO hbody
      simp only [Bool.and_eq_true, decide_eq_true_eq, beq_iff_eq] at ok
      obtain ⟨⟨⟨⟨⟨⟨⟨⟨⟨⟨hn, hres⟩, k0⟩, k1⟩, ka⟩, na⟩, kb⟩, nb⟩, kp⟩, hps⟩, hname⟩ := ok
      have hps' : psT = #[12, 13] := by
        split at hps
        · rename_i h1; exact Array.ext' (by simpa using h1)
        · cases hps
      subst hps'
      refine pure_snd (by simp) ⟨⟨fn, hf, by rw [hbody]; rfl, by simpa using hname⟩, fun Z β w vs R hlv hv => ?_⟩ h
      refine (callsIn_wide (n := 1)).1 (callsIn_of_wp_marks hf hbody trivial ?_ rfl)
      generalize hRR : (fun (e : Ending) (w' : World) => ∃ v β' r0 h1 h2, e = .returned v ∧ purP h1 r0 = some (r, h2) ∧ Rel Z β' h1 w' ∧ Fr Z β [] w β' h1 w' ∧ VR β' (Own Z β' h1) w' r0 v) = RR
      have A0 := At.start (n := 28) R hlv hv (by simp)
      rw [hn]
      obtain ⟨ev, hev⟩ : ∃ ev : Env, ev = ((((argEnv [.agg [.int .i64 many, .int .i64 term, .lst fb ps, .lst fd da], .lst fl es]).put 2 (.rptr [.int .i64 many, .int .i64 term, .lst fb ps, .lst fd da])).put 4 (.ptr 0 0 0 0)).put 5 (.ptr 1 0 0 0) |>.put 10 (.lst fl es) |>.put 11 (.fn (.func fIt) [] [.ptr 2 0 0 0])) := ⟨_, rfl⟩
      refine wpIn_seq (A0.step hm hΓ R k0 (x := .normal) (ev_r0 rfl (by simp)) fun a1 β1 W1 A1 => ?_)
      refine wpIn_seq (wpIn_seq (A1.step hm hΓ R k1 (x := .normal) (ev_r1 hB rfl) fun a4 β4 W4 A4 => ?_))
      rw [← hev] at A4
      obtain ⟨c, sv, elem, hβ, hcell, hsv⟩ := box_cells (k := 2) (y := .lst fl es) A4.rel rfl
      have hcO : Own Z β4 [.var [.lst true []], .var [.int .i64 0], .var [.lst fl es]] c := .inr ⟨2, _, rfl, _, rfl, hβ⟩
      have hclt : c < W4.heap.size := A4.rel.own_lt (i := 2) ⟨_, rfl, _, rfl, hβ⟩
      have hbx : BoxL W4 (fun b => b = c ∨ ¬ Own Z β4 [.var [.lst true []], .var [.int .i64 0], .var [.lst fl es]] b) c fl es W4 := by
        refine ⟨hclt, .inl rfl, Nat.le_refl _, sv, elem, hcell, hsv.lst_inv.mono ⟨Nat.le_refl _, fun b hb hn => ⟨rfl, fun ho => ho.2 ⟨hb, .inr hn⟩⟩⟩⟩
      have hs4 : a4.tmps.size = 28 := A4.env.1
      have hwh : ∀ y ∈ es, Whole 2 true y := fun y hy => entB_whole (hes y hy)
      refine wpIn_block (rf_soundA hm hΓ kb nb A4.rel (kb := 2) (c := c) ⟨_, rfl, _, rfl, hβ⟩ (gf := fIt) (lb := #[.pointer (some ⟨c, 0, none⟩)]) (fnq_val hβ (by have := A4.env.2 11; rw [hev] at this; exact this)) (bw_enter okB)
        (encs := bwL es) (bw_gives hm hΓ okB hl hwh hbx) (fun x hx => by
          obtain ⟨y, _, rfl⟩ := List.mem_map.1 hx
          rfl)
        (fun i hh => i ≤ es.length ∧ prGo Γ fO many (.lst fb ps) es (es.length - i) = some r ∧ hh = hp)
        (fun ex hh => ex = .ret ∧ ∃ g s k, r = .tup [.lst g s, .int .i64 k] ∧ hh = [.var [.lst g s], .var [.int .i64 k], .gone]) 3 rfl
        (fun i hh hi => by obtain ⟨_, _, rfl⟩ := hi; simp [hp, okMB, AV.okM]) (fun ex hh hi => by obtain ⟨_, g, s, k, _, rfl⟩ := hi; simp [okMB, AV.okM])
        ⟨by omega, by simpa using hr, rfl⟩
        (fun i O1 W a1 W1 => ∃ x y, es[es.length - 1 - i]? = some (.agg [x, y]) ∧ x.isS = true ∧ y.isS = true ∧ Asg i O1 W a1 W1 a4 ((es.length - 1 - i : Nat) : Int) [x, y])
        (fun l i hi us O1 W K hus hmean hO1 hK => ?_)
        (fun i => fun t => if t = 2 then .rptr [.int .i64 many, .int .i64 term, .lst fb ps, .lst fd da] else if t = 4 then .ptr 0 0 0 0 else if t = 5 then .ptr 1 0 0 0 else if t = 6 then .int .i64 ((es.length - 1 - i : Nat) : Int) else if t = 7 then .rptr ((es[es.length - 1 - i]?).elim [] AV.cells) else .dead)
        (fun i hi O1 W a1 W1 O' β' W2 hA hg hs12 hst hnew hst0 hext => ?_) (fun i hh hi hI => ?_) (fun D W' hh β' hD hI R' F' hk => ?_) (fun D ex W' hh β' hD hne hX R' F' hk => ?_))
      · have hi' : i < es.length := by rw [bwL_len] at hi; exact hi
        have hk : es.length - 1 - i < es.length := by omega
        rw [bwL_get hi hk] at hmean
        obtain ⟨x, y, hxy, hx, hy⟩ := entB_inv (hes _ (List.getElem_mem hk))
        rw [hxy] at hmean
        exact asg_ok hm hΓ ka na hs4 (i := i) hx hy l us O1 W K hus hmean hO1 fun a1 W1 hg hA => hK a1 W1 hg ⟨x, y, by rw [List.getElem?_eq_getElem hk, hxy], hx, hy, hA⟩
      · obtain ⟨x, y, hxy, hx, hy, hA⟩ := hA
        refine ⟨hA.size, fun t => ?_⟩
        rw [hxy]
        show VR β' O' W2 (if t = 2 then _ else if t = 4 then _ else if t = 5 then _ else if t = 6 then _ else if t = 7 then .rptr [x, y] else .dead) _
        by_cases t2 : t = 2
        · rw [if_pos t2, t2, hA.same 2 (by omega) (by omega) (by omega) (by omega)]
          have := (A4.env.2 2).mono hext hst0
          rw [hev] at this
          exact this
        rw [if_neg t2]
        by_cases t4 : t = 4
        · rw [if_pos t4, t4, hA.same 4 (by omega) (by omega) (by omega) (by omega)]
          have := (A4.env.2 4).mono hext hst0
          rw [hev] at this
          exact this
        rw [if_neg t4]
        by_cases t5 : t = 5
        · rw [if_pos t5, t5, hA.same 5 (by omega) (by omega) (by omega) (by omega)]
          have := (A4.env.2 5).mono hext hst0
          rw [hev] at this
          exact this
        rw [if_neg t5]
        by_cases t6 : t = 6
        · rw [if_pos t6, t6, hA.idx]; exact .pure _ _ (.int _ _)
        rw [if_neg t6]
        by_cases t7 : t = 7
        · rw [if_pos t7, t7]
          obtain ⟨c7, cur, elem7, b1, b2, b3, b4⟩ := hA.box
          obtain ⟨n1, n2⟩ := hnew c7 _ b2 b3 rfl
          have b4' : ∀ (j : Nat) (z : AV), [x, y][j]? = some z → ∃ v, cur[j]? = some v ∧ v.oneCell' = true ∧ PVR O' W2 z v := fun j z hz => by
            obtain ⟨v, g1, g2, O, hO, g3⟩ := b4 j z hz
            refine ⟨v, g1, g2, g3.monoC ⟨hs12, fun b o hb ho hn => ?_⟩⟩
            · have hbl : b < W1.heap.size := (Array.getElem?_eq_some_iff.1 hb).1
              obtain ⟨o1, o2⟩ := hO b hbl
              by_cases hbW : b < W.heap.size
              · have e1 : W1.heap[b]? = W.heap[b]? := hg.block b hbW (by simp)
                obtain ⟨s1, s2⟩ := hst.keep b o (e1 ▸ hb) ho (fun h => hn (o2 h))
                exact ⟨s1.trans e1.symm, s2⟩
              · obtain ⟨s1, s2⟩ := hnew b o (by omega) hb ho
                exact ⟨s1.trans hb.symm, s2⟩
          rw [b1]
          refine .rptr [x, y] c7 0 (fun j => cur.getD j undef) n2 (Array.getElem?_eq_some_iff.1 n1).1 (fun j z hz => ?_) (fun j z hz => ?_) (fun j z hz => ?_)
          all_goals
            obtain ⟨v, g1, g2, g3⟩ := b4' j z hz
            simp only [Array.getD_eq_getD_getElem?, g1, Option.getD_some]
          · simp only [World.cell?, n1]
            simpa using g1
          · exact g2
          · exact g3
        rw [if_neg t7]; exact .dead _
      · have hi' : i < es.length := by rw [bwL_len] at hi; exact hi
        have hk : es.length - 1 - i < es.length := by omega
        obtain ⟨_, hgo, rfl⟩ := hI
        obtain ⟨x, y, hxy, hx, hy⟩ := entB_inv (hes _ (List.getElem_mem hk))
        have e1 : es.length - i = (es.length - 1 - i) + 1 := by omega
        rw [e1, prGo, List.getElem?_eq_getElem hk] at hgo
        simp only at hgo
        split at hgo
        · rename_i g s b hO
          rw [hxy] at hO
          have hev := ev_bA (Γ := Γ) (V := volIn [] 3) (e := fun t => if t = 2 then .rptr [.int .i64 many, .int .i64 term, .lst fb ps, .lst fd da] else if t = 4 then .ptr 0 0 0 0 else if t = 5 then .ptr 1 0 0 0 else if t = 6 then .int .i64 ((es.length - 1 - i : Nat) : Int) else if t = 7 then .rptr ((es[es.length - 1 - i]?).elim [] AV.cells) else .dead) hx hy hO rfl rfl rfl rfl
            (by show AV.rptr ((es[es.length - 1 - i]?).elim [] AV.cells) = _; rw [List.getElem?_eq_getElem hk, hxy]; rfl)
          cases b with
          | true =>
            simp only [if_true] at hev hgo
            refine ⟨_, _, hev, fun h0 => (by cases h0), fun _ => ⟨rfl, g, s, _, ?_, rfl⟩⟩
            exact (Option.some.inj hgo).symm
          | false =>
            simp only [Bool.false_eq_true, if_false] at hev hgo
            refine ⟨_, _, hev, fun _ => ⟨by omega, ?_, ?_⟩, fun h0 => absurd rfl h0⟩
            · rw [show es.length - (i + 1) = es.length - 1 - i by omega]; exact hgo
            · simp [hp, normH, normB, normS]
        · cases hgo
      · obtain ⟨_, hgo, rfl⟩ := hI
        rw [bwL_len, Nat.sub_self, prGo] at hgo
        cases hgo
        have A6 := A4.behind R hD R' F'
        obtain ⟨e', ev, g4, g5⟩ := ev_post (Γ := Γ) (V := fun i => decide (([] : AH).length ≤ i)) (e := ev) (c0 := .int .i64 many) (c1 := .int .i64 term) (c3 := .lst fd da) (fb := fb) (ps := ps) (by rw [hev]; rfl) (by rw [hev]; rfl) (by rw [hev]; rfl)
        refine A6.step1 hm hΓ R hk kp (x := .ret) ev fun a' β'' W'' A7 hk7 => ?_
        refine A7.leave1 (x := .ret) (r := .tup [.lst fb ps, .int .i64 0]) R (Nat.le_trans A4.stay.1 hD) hk7 hres (by simp -implicitDefEqProofs (disch := omega) [wrap_of, ilt_t, ilt_f, ile_t, ile_f, nlt_t, nlt_f, nle_t, nle_f, ieq_t, ieq_f, imin_l, imin_r, imax_l, imax_r, take_app1, take_map_all, g4, g5]) (.inl rfl) fun u β' W' h1 h2 h3 => ?_
        rw [← hRR]
        exact ⟨u, β', .tup [.lst fb ps, .int .i64 0], _, _, rfl, (by simp -implicitDefEqProofs (disch := omega) [wrap_of, ilt_t, ilt_f, ile_t, ile_f, nlt_t, nlt_f, nle_t, nle_f, ieq_t, ieq_f, imin_l, imin_r, imax_l, imax_r, take_app1, take_map_all, ]; rfl), h1, h2, h3⟩
      · obtain ⟨rfl, g, s, k, rfl, rfl⟩ := hX
        have A6 := A4.behind R hD R' F'
        refine A6.leave1 (x := .ret) (r := .tup [.lst g s, .int .i64 k]) R (Nat.le_trans A4.stay.1 hD) hk hres (by simp -implicitDefEqProofs (disch := omega) [wrap_of, ilt_t, ilt_f, ile_t, ile_f, nlt_t, nlt_f, nle_t, nle_f, ieq_t, ieq_f, imin_l, imin_r, imax_l, imax_r, take_app1, take_map_all, hev]) (.inl rfl) fun u β' W' h1 h2 h3 => ?_
        rw [← hRR]
        exact ⟨u, β', .tup [.lst g s, .int .i64 k], _, _, rfl, (by simp -implicitDefEqProofs (disch := omega) [wrap_of, ilt_t, ilt_f, ile_t, ile_f, nlt_t, nlt_f, nle_t, nle_f, ieq_t, ieq_f, imin_l, imin_r, imax_l, imax_r, take_app1, take_map_all, ]; rfl), h1, h2, h3⟩
    · cases ok
  · cases ok

/-- member.Peers, of values. -/
noncomputable def peersY (Γ : Tab) (fO : FuncId) : List AV → Option AV
  | [.agg [.int .i64 many, .int .i64 _, .lst fb ps, .lst _ _], .lst _ es] => if es.length ≤ 9223372036854775807 ∧ es.all entB = true then prGo Γ fO many (.lst fb ps) es es.length else none
  | _ => none
theorem peers_y (hm : P.follows .mixedOrders = true) (hΓ : TabOK P Γ) {f fB fO fIt : FuncId} (ok : peersOK P f fB fO = true) (okB : bwOK P fIt 2 true = true)
    (hB : ∀ fl es h, callA Γ fB [.lst fl es] h = some (.fn (.func fIt) [] [.ptr h.length 0 0 0], h ++ [.var [.lst fl es]])) (args : List AV) (r : AV) (h : AH) (hr : peersY Γ fO args = some r) : Snd P f args h r h := by
  unfold peersY at hr
  split at hr
  · split at hr
    · rename_i hc
      exact peers_snd hm hΓ ok okB (hB _ _) hc.1 (fun y hy => List.all_eq_true.1 hc.2 y hy) hr h
    · cases hr
  · cases hr
end
end Go.Am.Pr
