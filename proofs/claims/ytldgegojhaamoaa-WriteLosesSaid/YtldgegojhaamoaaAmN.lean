/-
  The abstract machine: copy; which operation of the program an abstract one is; that it makes what the program's makes.
-/
import Derived.Test.YtldgegojhaamoaaAmM
set_option linter.unusedSimpArgs false
set_option linter.unusedVariables false
namespace Go.Am

section
variable {P : Program} {Z : Nat → Prop} {β : Bds} {h : AH} {w : World}

theorem over_nil {α : Type} (l : List α) (o : Nat) : over l o [] = l := by simp [over]

theorem SrcAt.over {O : Nat → Prop} {vs us : List Value} {base sz : Nat} {es es' : List AV} {o : Nat} (h1 : SrcAt O w (fun k => vs[base + k]?) sz es) (h2 : SrcAt O w (fun k => us[k]?) sz es') (hu : us.length = es'.length * sz) (ho : o + es'.length ≤ es.length)
    (hl : base + es.length * sz ≤ vs.length) : SrcAt O w (fun k => (Am.over vs (base + o * sz) us)[base + k]?) sz (Am.over es o es') := by
  have hle : (o + es'.length) * sz ≤ es.length * sz := Nat.mul_le_mul_right _ ho
  rw [Nat.add_mul] at hle
  have hover : base + o * sz + us.length ≤ vs.length := by omega
  have e0 : Am.over es o es' = es.take o ++ (es' ++ es.drop (o + es'.length)) := by simp [Am.over]
  rw [e0]
  have hto : (es.take o).length = o := by simp; omega
  refine SrcAt.append ((h1.take o).congr fun k hk => ?_) (SrcAt.append (h2.congr fun k hk => ?_) ((SrcAt.drop h1 (o + es'.length)).congr fun k hk => ?_))
  · rw [hto] at hk
    rw [over_get _ _ _ hover, if_neg (by omega)]
  · rw [hto, over_get _ _ _ hover, if_pos (by omega)]
    congr 1; omega
  · rw [hto, over_get _ _ _ hover, if_neg (by omega), Nat.add_mul]
    congr 1; omega

theorem copy_rel (R : Rel Z β h w) {dT elem ty : TypeId} {argTypes : Array TypeId} (hat : argTypes[0]? = some dT) (hd : P.underlying dT = some (.slice elem)) {sz : Nat} (hsz : sizeIs P elem sz = true) {x : AV} {src : List AV} (hs : elems h x = some src) {u v : Value} (hu : VR β (Own Z β h) w x u)
    {b vv o n vv' sz' : Nat} {es : List AV} (hv : VR β (Own Z β h) w (.own b vv o n) v) (hes : h[b]? = some (.row vv' sz' es)) (hvv : vv = vv') (hszs : sz' = sz) (hok : szOk sz src = true) (hon : o + n ≤ es.length) :
    Makes P Z β h w (Builtin.copy_ argTypes ty #[v, u]) (.int .i64 (min src.length n : Nat)) (h.set b (.row vv' sz' (Am.over es o (src.take n)))) := by
  subst hvv hszs
  obtain ⟨ad, c, rfl, hc, hsrc⟩ := elems_rel R hs hu
  obtain ⟨bd, ad', c', hbd, rfl, h2⟩ := hv.own_inv
  obtain ⟨hsz0, bd', q1, q2, q3⟩ := R.blk b _ hes
  rw [hbd] at q1; cases q1
  have hm : (src.take n).length = min src.length n := by simp [Nat.min_comm]
  obtain ⟨news, o1, o2, o3, o4⟩ := run_first (P := P) (O := Own Z β h) (w := w) (ad := ad) (c := c) (sz := sz') (es := src.take n) hm (fun hne => by
    have hne' : src ≠ [] := by rintro rfl; simp at hne
    obtain ⟨blk, oo, sz2, _, e1, e2⟩ := hsrc hne'
    exact ⟨blk, oo, e1, (e2.szOk hok).take n⟩)
  have hf : (Builtin.firstCells sz' (min src.length n) (.slice ad src.length c)).run P w = .ok news.toArray w := by
    have := o4 w rfl
    cases ad <;> simpa [Builtin.firstCells] using this
  have hrun : (Builtin.copy_ argTypes ty #[.slice ad' n c', .slice ad src.length c]).run P w = ((match ad' with | some a => storeCells a news | none => pure () : Sem Unit).run P w).andThen fun _ w' => .ok (goInt (min src.length n : Nat)) w' := by
    simp only [Builtin.copy_, hat, List.getElem?_toArray, List.getElem?_cons_zero, List.getElem?_cons_succ, Sem.run_bind, run_underlying hd, Result.andThen_ok, run_sizeOf' hsz, Builtin.lenOf, Sem.run_pure]
    have e1 : Nat.min src.length n = min src.length n := rfl
    rw [e1, hf]
    cases ad' <;> simp
  by_cases hm0 : min src.length n = 0
  · have hnil : src.take n = [] := List.eq_nil_of_length_eq_zero (by omega)
    have hnews0 : news = [] := List.eq_nil_of_length_eq_zero (by rw [o1, hm0]; simp)
    subst hnews0
    rw [hnil, over_nil]
    have hset : h.set b (.row vv sz' es) = h := by
      apply List.ext_getElem?
      intro k
      by_cases hk : k = b
      · subst hk; rw [List.getElem?_set_self (List.getElem?_eq_some_iff.1 hes).1, hes]
      · rw [List.getElem?_set_ne (Ne.symm hk)]
    rw [hset]
    refine Makes.of R (v := goInt (min src.length n : Nat)) ?_ (.of_int _ _)
    rw [hrun]
    cases ad' <;> simp [storeCells]
  · rcases h2 with ⟨_, hn0⟩ | ⟨cb, p1, p2, p3, p4⟩
    · omega
    · rcases q3 with ⟨q3, _⟩ | ⟨c2, cur, elem', g1, g2, g3, g4, g5⟩
      · rw [p1] at q3; cases q3
      rw [p1] at g1; cases g1
      subst q2 p2
      have hle : (o + min src.length n) * bd.sz ≤ es.length * bd.sz := Nat.mul_le_mul_right _ (by omega)
      rw [Nat.add_mul] at hle
      have hover : bd.base + o * bd.sz + news.length ≤ cur.toList.length := by simp; omega
      have hsa := SrcAt.over (vs := cur.toList) (base := bd.base) (o := o) (es' := src.take n) (SrcAt.congr g5 fun k _ => by simp) o3 (by rw [o1, hm]) (by rw [hm]; omega) (by simp; omega)
      obtain ⟨W1, W2⟩ := R.write_row hes hbd p1 g2 (Am.over cur.toList (bd.base + o * bd.sz) news) (by rw [over_length _ _ _ hover]; simp) (es' := Am.over es o (src.take n)) (by rw [over_length _ _ _ (by rw [hm]; omega)]) (SrcAt.congr hsa fun k _ => by simp)
      refine ⟨goInt (min src.length n : Nat), _, β, ?_, W1, W2, .of_int _ _⟩
      rw [hrun]
      have hst := run_storeCells_at P cb (bd.base + o * bd.sz) elem' news 0 cur w g2 (by simpa using hover) o2
      simp only [Nat.add_zero] at hst
      dsimp only
      rw [hst]
      rfl

theorem copy_rel0 (R : Rel Z β h w) {dT elem ty : TypeId} {argTypes : Array TypeId} (hat : argTypes[0]? = some dT) (hd : P.underlying dT = some (.slice elem)) {sz : Nat} (hsz : sizeIs P elem sz = true) {x : AV} {src : List AV} (hs : elems h x = some src) {u v : Value} (hu : VR β (Own Z β h) w x u)
    {full : Bool} (hv : VR β (Own Z β h) w (.lst full []) v) : Makes P Z β h w (Builtin.copy_ argTypes ty #[v, u]) (.int .i64 0) h := by
  obtain ⟨ad, c, rfl, hc, hsrc⟩ := elems_rel R hs hu
  obtain ⟨ad', c', rfl, hc', _⟩ := elems_rel R (a := .lst full []) rfl hv
  refine Makes.of R (v := goInt 0) ?_ (.of_int _ _)
  have hf : (Builtin.firstCells sz 0 (.slice ad src.length c)).run P w = .ok #[] w := by
    cases ad <;> simp [Builtin.firstCells, loadCells, loadCellsFrom]
  simp only [Builtin.copy_, hat, List.getElem?_toArray, List.getElem?_cons_zero, List.getElem?_cons_succ, Sem.run_bind, run_underlying hd, Result.andThen_ok, run_sizeOf' hsz, Builtin.lenOf, Sem.run_pure]
  have e1 : Nat.min src.length ([] : List AV).length = 0 := by simp
  rw [e1, hf]
  cases ad' <;> simp [storeCells]

/-- min and max. -/
theorem mm2_rel {isMax : Bool} {x y av : AV} (hx : mm2 isMax x y = some av) {u v : Value} (hu : VR β (Own Z β h) w x u) (hv : VR β (Own Z β h) w y v) :
    ∃ q, ((if isMax then Builtin.max2 u v else Builtin.min2 u v) : Sem Value).run P w = .ok q w ∧ VR β (Own Z β h) w av q := by
  cases x <;> cases y <;> simp only [mm2] at hx <;> try (cases hx; done)
  cases hx
  rw [hu.int_inv, hv.int_inv]
  refine ⟨_, ?_, .of_int _ _⟩
  cases isMax <;> simp [Builtin.max2, Builtin.min2]
theorem mm_rel {isMax : Bool} : ∀ (xs : List AV) (us : List Value) {x av : AV} {u : Value}, mmAll isMax x xs = some av → VR β (Own Z β h) w x u → xs.length = us.length → (∀ (j : Nat) (y : AV) (q : Value), xs[j]? = some y → us[j]? = some q → VR β (Own Z β h) w y q) →
    ∃ q, (us.foldlM (if isMax then Builtin.max2 else Builtin.min2) u : Sem Value).run P w = .ok q w ∧ VR β (Own Z β h) w av q
  | [], us, x, av, u, hx, hu, hl, _ => by
    have : us = [] := List.eq_nil_of_length_eq_zero (by simpa using hl.symm)
    subst this
    simp only [mmAll] at hx; cases hx
    exact ⟨u, by simp, hu⟩
  | y :: xs, us, x, av, u, hx, hu, hl, hall => by
    cases us with
    | nil => simp at hl
    | cons q us =>
      simp only [mmAll, Option.bind_eq_some_iff] at hx
      obtain ⟨z, hz, hx⟩ := hx
      obtain ⟨p, p1, p2⟩ := mm2_rel (P := P) hz hu (hall 0 y q rfl rfl)
      obtain ⟨r, r1, r2⟩ := mm_rel xs us hx p2 (by simpa using hl) (fun j y q h1 h2 => hall (j + 1) y q (by simpa using h1) (by simpa using h2))
      refine ⟨r, ?_, r2⟩
      rw [List.foldlM_cons]
      simp only [Sem.run_bind]
      have : ((if isMax then Builtin.max2 else Builtin.min2) u q : Sem Value).run P w = .ok p w := by
        cases isMax <;> simpa using p1
      rw [this]
      exact r1

def okArgs : List Operand → List AO → Bool
  | [], [] => true
  | x :: l, y :: l' => okO x y && okArgs l l'
  | _, _ => false
theorem getAll_rel {e : Env} {a : Act} {n : Nat} (E : EnvR Z β h w e a n) : ∀ {xs : List Operand} {ys : List AO}, okArgs xs ys = true → (getAll e ys).length = (xs.map a.eval).length ∧ ∀ (j : Nat) (y : AV) (u : Value), (getAll e ys)[j]? = some y → (xs.map a.eval)[j]? = some u → VR β (Own Z β h) w y u
  | [], [], _ => ⟨rfl, by simp [getAll]⟩
  | x :: xs, y :: ys, ho => by
    simp only [okArgs, Bool.and_eq_true] at ho
    obtain ⟨h1, h2⟩ := ho
    obtain ⟨q1, q2⟩ := getAll_rel E h2
    refine ⟨by simp [getAll, q1], fun j y' u hy hu => ?_⟩
    cases j with
    | zero => simp [getAll] at hy hu; subst hy hu; exact okO_rel E h1
    | succ j => exact q2 j y' u (by simpa [getAll] using hy) (by simpa using hu)
  | [], _ :: _, ho => by simp [okArgs] at ho
  | _ :: _, [], ho => by simp [okArgs] at ho
end
end Go.Am
