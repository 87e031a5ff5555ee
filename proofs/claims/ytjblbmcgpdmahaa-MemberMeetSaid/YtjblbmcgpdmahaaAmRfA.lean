/-
  The abstract machine: a range over a function whose values lie in memory that others read.
-/
import Derived.Test.YtjblbmcgpdmahaaAmRf
set_option linter.unusedSimpArgs false
set_option linter.unusedVariables false
namespace Go.Am
open Go.RowKit

section
variable {P : Program} {Z : Nat → Prop} {Γ : Tab} {β : Bds} {h : AH} {w : World}

/-- What is not one's own while the loop runs, if nobody writes the iterator's box: others', and whatever is no cells. -/
def Zr (Z : Nat → Prop) (B : Nat) (W : World) : Nat → Prop := fun b => Z b ∨ (B ≤ b ∧ ∃ o, W.heap[b]? = some o ∧ o.isCells = false)
/-- Between two rounds. -/
structure RXr (Z : Nat → Prop) (β : Bds) (h : AH) (w : World) (c : Nat) (hh : AH) (β' : Bds) (W : World) : Prop where
  rel : Rel (Zr Z w.heap.size W) β' hh W
  keep : ∀ b, b < w.heap.size → Z b → W.heap[b]? = w.heap[b]?
  os : W.os = w.os
  tape : W.tape = w.tape
  output : W.output = w.output
  ext : ∀ i v bd, β i v = some bd → β' i v = some bd
  stay : Stay (Own Z β h) w (Own (Zr Z w.heap.size W) β' hh) W
  box : W.heap[c]? = w.heap[c]? ∧ ¬ Own (Zr Z w.heap.size W) β' hh c

theorem Rel.box_cells (R : Rel Z β h w) {i c : Nat} (ho : owned β h i c) : ∃ o, w.heap[c]? = some o ∧ o.isCells = true := R.own_cells ho
theorem RXr.grown {c : Nat} {hh : AH} {β' : Bds} {W W' : World} {row : Option Nat} (X : RXr Z β h w c hh β' W) (ok : hh.all okMB = true) (hZ : ∀ b, Z b → b < w.heap.size) (hc : c < w.heap.size) (hcc : ∃ o, w.heap[c]? = some o ∧ o.isCells = true) (hg : W.grownBy W' row)
    (hr : ∀ r, row = some r → w.heap.size ≤ r ∧ ∃ o : Obj, W.heap[r]? = some o ∧ o.isCells = false) : RXr Z β h w c hh β' W' := by
  have hne : ∀ b o, W.heap[b]? = some o → (o.isCells = true ∨ b < w.heap.size) → W'.heap[b]? = W.heap[b]? := fun b o hb ho => by
    refine hg.block b (Array.getElem?_eq_some_iff.1 hb).1 fun e => ?_
    obtain ⟨h1, o', h2, h3⟩ := hr b e.symm
    rw [hb] at h2; cases h2
    rcases ho with ho | ho
    · rw [ho] at h3; cases h3
    · omega
  have hne' : ∀ b, b < w.heap.size → W'.heap[b]? = W.heap[b]? := fun b hb => by
    have hlt : b < W.heap.size := Nat.lt_of_lt_of_le hb X.stay.1
    exact hne b _ (Array.getElem?_eq_getElem hlt) (.inr hb)
  have hoc : ∀ i c', owned β' hh i c' → W'.heap[c']? = W.heap[c']? := fun i c' ho => by
    obtain ⟨o, h1, h2⟩ := X.rel.own_cells ho
    exact hne c' o h1 (.inl h2)
  have hnz : ∀ b, (∃ o, W'.heap[b]? = some o ∧ o.isCells = true) → ¬ Zr Z w.heap.size W b → ¬ Zr Z w.heap.size W' b := by
    rintro b ⟨o, h1, h2⟩ hn (hz | ⟨hz, o', h3, h4⟩)
    · exact hn (.inl hz)
    · rw [h1] at h3; cases h3; rw [h2] at h4; cases h4
  have hbox : W'.heap[c]? = w.heap[c]? := (hne' c hc).trans X.box.1
  refine ⟨X.rel.shiftC ok ⟨hg.size, fun b o hb ho hO => ?_⟩ hoc (fun b hb => ?_) (fun i b ho => ?_), fun b hb hz => (hne' b hb).trans (X.keep b hb hz), hg.os.trans X.os, hg.tape.trans X.tape, hg.output.trans X.output, X.ext, ⟨?_, fun b hb hO => ?_⟩, hbox, fun hO' => X.box.2 ?_⟩
  · have e := hne b o hb (.inl ho)
    refine ⟨e, fun hO' => ?_⟩
    rcases hO' with hz | hz
    · exact hnz b ⟨o, e.trans hb, ho⟩ (fun hz => hO (.inl hz)) hz
    · exact hO (.inr hz)
  · rcases hb with hb | ⟨_, o, hb, _⟩
    · exact Nat.lt_of_lt_of_le (hZ b hb) (Nat.le_trans X.stay.1 hg.size)
    · exact (Array.getElem?_eq_some_iff.1 hb).1
  · obtain ⟨o, h1, h2⟩ := X.rel.own_cells ho
    exact hnz b ⟨o, (hne b o h1 (.inl h2)).trans h1, h2⟩ (X.rel.xap i b ho)
  · exact Nat.le_trans X.stay.1 hg.size
  · obtain ⟨e1, e2⟩ := X.stay.2 b hb hO
    refine ⟨(hne' b hb).trans e1, fun hO' => e2 ?_⟩
    rcases hO' with (hz | ⟨hz, _⟩) | hz
    · exact .inl (.inl hz)
    · omega
    · exact .inr hz
  · rcases hO' with (hz | ⟨hz, _⟩) | hz
    · exact .inl (.inl hz)
    · omega
    · exact .inr hz
/-- Behind a round's body. -/
theorem RXr.body {c : Nat} {hh h' : AH} {β' β'' : Bds} {W W' : World} {L : Nat} (X : RXr Z β h w c hh β' W) (hL : L = h.length) (R : Rel Z β h w) (ok : h'.all okMB = true) (hZ : ∀ b, Z b → b < w.heap.size) (hc : c < w.heap.size)
    (R' : Rel (Zr Z w.heap.size W) β'' h' W') (F : FrV (volIn [] L) (Zr Z w.heap.size W) β' hh W β'' h' W') : RXr Z β h w c h' β'' W' := by
  have hs := F.stay.1
  have hw := X.stay.1
  have nO : ∀ b, b < w.heap.size → ¬ Own (Zr Z w.heap.size W) β'' h' b → ¬ Own (Zr Z w.heap.size W') β'' h' b := fun b hb hn hO' => hn (by
    rcases hO' with (hz | ⟨hz, _⟩) | hz
    · exact .inl (.inl hz)
    · omega
    · exact .inr hz)
  refine ⟨R'.shiftC ok ⟨Nat.le_refl _, fun b o hb ho hO => ⟨rfl, fun hO' => ?_⟩⟩ (fun _ _ _ => rfl) (fun b hb => ?_) (fun i b ho => ?_), fun b hb hz => ?_, F.os.trans X.os, F.tape.trans X.tape, F.output.trans X.output, fun i v bd hb => ?_, ⟨Nat.le_trans hw hs, fun b hb hO => ?_⟩, ?_⟩
  · rcases hO' with (hz | ⟨_, o', h3, h4⟩) | hz
    · exact hO (.inl (.inl hz))
    · rw [hb] at h3; cases h3; rw [ho] at h4; cases h4
    · exact hO (.inr hz)
  · rcases hb with hb | ⟨_, o, hb, _⟩
    · exact Nat.lt_of_lt_of_le (hZ b hb) (Nat.le_trans hw hs)
    · exact (Array.getElem?_eq_some_iff.1 hb).1
  · obtain ⟨o, h1, h2⟩ := R'.own_cells ho
    rintro (hz | ⟨_, o', h3, h4⟩)
    · exact R'.xap i b ho (.inl hz)
    · rw [h1] at h3; cases h3; rw [h2] at h4; cases h4
  · exact (F.xkeep b (Nat.lt_of_lt_of_le hb hw) (.inl hz)).trans (X.keep b hb hz)
  · refine F.ext i v bd ?_ (X.ext i v bd hb)
    unfold volIn
    have : i < L := by
      rcases Nat.lt_or_ge i L with h1 | h1
      · exact h1
      · rw [R.fresh i v (by omega)] at hb; cases hb
    simp; omega
  · obtain ⟨e1, e2⟩ := X.stay.2 b hb hO
    obtain ⟨e3, e4⟩ := F.stay.2 b (Nat.lt_of_lt_of_le hb hw) e2
    exact ⟨e3.trans e1, nO b hb e4⟩
  · obtain ⟨e3, e4⟩ := F.stay.2 c (Nat.lt_of_lt_of_le hc hw) X.box.2
    exact ⟨e3.trans X.box.1, nO c hc e4⟩
/-- At the loop's end. -/
theorem RXr.out {c : Nat} {hh : AH} {β' : Bds} {W : World} {D : Nat} (X : RXr Z β h w c hh β' W) (hD : w.heap.size ≤ D) (hk : W.heap[D]? = some (.deferred (some []))) :
    Rel (ZD Z D) β' hh W ∧ Fr Z β h w β' hh W := by
  have hsub : ∀ b, ZD Z D b → Zr Z w.heap.size W b := by
    rintro b (hz | rfl)
    · exact .inl hz
    · exact .inr ⟨hD, _, hk, rfl⟩
  refine ⟨X.rel.shift ⟨Nat.le_refl _, fun b hb hO => ⟨rfl, fun hO' => hO ?_⟩⟩ (fun _ _ _ => rfl) (fun b hb => X.rel.xlt b (hsub b hb)) (fun i b ho hz => X.rel.xap i b ho (hsub b hz)), X.keep, X.os, X.tape, X.output, X.ext, X.stay.1, fun b hb hO => ?_⟩
  · rcases hO' with hz | hz
    · exact .inl (hsub b hz)
    · exact .inr hz
  · obtain ⟨e1, e2⟩ := X.stay.2 b hb hO
    exact ⟨e1, fun hO' => e2 (by
      rcases hO' with hz | hz
      · exact .inl (.inl hz)
      · exact .inr hz)⟩
theorem RXr.start (R : Rel Z β h w) {kb c : Nat} (hc : owned β h kb c) : RXr Z β h w c (h.set kb .gone) β w := by
  have ow : ∀ {i b}, owned β (h.set kb .gone) i b → i ≠ kb ∧ owned β h i b := by
    rintro i b ⟨X, hX, ho⟩
    rcases getElem?_set_gone hX with ⟨rfl, rfl⟩ | ⟨hne, hX⟩
    · obtain ⟨_, _, h2⟩ := ho; exact h2.elim
    · exact ⟨hne, X, hX, ho⟩
  have hst : Stay (Own Z β h) w (Own (Zr Z w.heap.size w) β (h.set kb .gone)) w := by
    refine ⟨Nat.le_refl _, fun b hb hO => ⟨rfl, fun hO' => hO ?_⟩⟩
    rcases hO' with (hz | ⟨hz, _⟩) | ⟨i, hz⟩
    · exact .inl hz
    · omega
    · exact .inr ⟨i, (ow hz).2⟩
  have hcl := R.own_lt hc
  refine ⟨⟨fun b hb => ?_, fun i b ho => ?_, fun i v hi => R.fresh i v (by simpa using hi), fun i v sz es v' hX hv => ?_, fun i X hX => ?_, fun i j b hi hj => R.apart i j b (ow hi).2 (ow hj).2⟩, fun _ _ _ => rfl, rfl, rfl, rfl, fun _ _ _ e => e, hst, rfl, fun hO' => ?_⟩
  · rcases hb with hb | ⟨_, o, hb, _⟩
    · exact R.xlt b hb
    · exact (Array.getElem?_eq_some_iff.1 hb).1
  · obtain ⟨hne, ho⟩ := ow ho
    obtain ⟨o, h1, h2⟩ := R.own_cells ho
    rintro (hz | ⟨_, o', h3, h4⟩)
    · exact R.xap i b ho hz
    · rw [h1] at h3; cases h3; rw [h2] at h4; cases h4
  · rcases getElem?_set_gone hX with ⟨rfl, hq⟩ | ⟨_, hX⟩
    · cases hq
    · exact R.later i v sz es v' hX hv
  · rcases getElem?_set_gone hX with ⟨rfl, rfl⟩ | ⟨_, hX⟩
    · trivial
    · exact (R.blk i X hX).mono hst (fun _ _ _ e => e) (fun _ _ => rfl)
  · rcases hO' with (hz | ⟨hz, _⟩) | ⟨i, hz⟩
    · exact R.xap kb c hc hz
    · omega
    · exact (ow hz).1 (R.apart i kb c (ow hz).2 hc)

/-- What is not to be looked at while the iterator runs. -/
def ON (w : World) (Kb : Nat → Prop) (W : World) : Nat → Prop := fun b => b < W.heap.size ∧ ¬ (b < w.heap.size ∧ Kb b)
/-- Values as they are meant. -/
def Meant (O : Nat → Prop) (W : World) (xs : List AV) (us : Array Value) : Prop := us.size = xs.length ∧ ∀ (j : Nat) (y : AV) (u : Value), xs[j]? = some y → us[j]? = some u → PVR O W y u
/-- What an iterator gives, one behind the other, that writes nothing, if each round keeps what it reads: any values that are so. -/
def GivesA (P : Program) (gf : Nat) (lb : Array Value) (encs : List (List AV)) (Kb : Nat → Prop) (w : World) : Prop :=
  ∀ (l : Nat) (J : Nat → World → Prop) (Jx : World → Prop) (W : World), (∀ b, b < w.heap.size → W.heap[b]? = w.heap[b]?) → w.heap.size ≤ W.heap.size →
    (∀ i A B, J i A → A.grownBy B none → J i B) → (∀ A B, Jx A → A.grownBy B none → Jx B) →
    (∀ (i : Nat) (hi : i < encs.length) (W0 W1 : World) (us : Array Value), J i W0 → W0.grownBy W1 none → Meant (ON w Kb W0) W1 encs[i] us → YieldAt Fence.wide 0 P l us W1 fun e W' =>
      (e = .returned (.bool true) ∧ J (i + 1) W' ∧ W1.heap.size ≤ W'.heap.size ∧ ∀ b, b < w.heap.size → Kb b → W'.heap[b]? = W1.heap[b]?) ∨ (e = .returned (.bool false) ∧ Jx W')) →
    J 0 W → CallsIn Fence.wide 0 P gf (#[.func (.yield l) #[] #[]] ++ lb) W fun e W' => (∃ v, e = .returned v) ∧ (J encs.length W' ∨ Jx W')

/-- **A range over a function**, by what its iterator gives and what one round makes. -/
theorem rf_soundA (hm : P.follows .mixedOrders = true) (hΓ : TabOK P Γ) {n : Nat} {ps : Array Tmp} {asg body : Code} {g : Operand} {bA : AC} (okb : okCode P n body bA = true) (ndb : ndC body = true)
    {a : Act} (R : Rel Z β h w) {kb c : Nat} (hc : owned β h kb c) {gf : Nat} {lb : Array Value} (hg : a.eval g = .func (.func gf) #[] lb) (eg : ∀ args w, (callFunc gf args).run P w = .ok (.enter gf args) w)
    {encs : List (List AV)} (hseq : GivesA P gf lb encs (fun b => b = c ∨ ¬ Own Z β h b) w) (hps : ∀ x ∈ encs, x.length = ps.size)
    (I : Nat → AH → Prop) (X : AX → AH → Prop) (L : Nat) (hL : L = h.length) (hIok : ∀ i hh, I i hh → hh.all okMB = true) (hXok : ∀ ex hh, X ex hh → hh.all okMB = true)
    (h0 : I 0 (h.set kb .gone)) (A : Nat → (Nat → Prop) → World → Act → World → Prop)
    (hasg : ∀ (l i : Nat) (hi : i < encs.length) (us : Array Value) (O1 : Nat → Prop) (W : World) (K : Act → World → Prop), us.size = ps.size → Meant O1 W encs[i] us → (∀ b, O1 b → b < W.heap.size) → (∀ a1 W1, W.grownBy W1 none → A i O1 W a1 W1 → K a1 W1) →
      asg.wpIn (Fence.wide.inRound l) 0 P (Exit.then K (fun _ _ _ => False)) { tmps := (ps.zip us).foldl (fun t (p, v) => t.setIfInBounds p v) a.tmps, defers := [] } W)
    (e₁ : Nat → Env) (hE : ∀ (i : Nat) (hi : i < encs.length) (O1 : Nat → Prop) (W : World) (a1 : Act) (W1 : World) (O' : Nat → Prop) (β' : Bds) (W2 : World), A i O1 W a1 W1 → W.grownBy W1 none → W1.heap.size ≤ W2.heap.size → StayC O1 W O' W2 →
      (∀ b o, W.heap.size ≤ b → W1.heap[b]? = some o → o.isCells = true → W2.heap[b]? = some o ∧ ¬ O' b) → Stay (Own Z β h) w O' W2 → (∀ i v bd, β i v = some bd → β' i v = some bd) → a1.tmps.size = n ∧ ∀ t, VR β' O' W2 (e₁ i t) (a1.tmps.getD t Go.undef))
    (hstep : ∀ i hh, i < encs.length → I i hh → ∃ ex h', eval Γ bA (volIn [] L) (AX × AH) (fun ex s => some (ex, s.h)) ⟨e₁ i, hh⟩ = some (ex, h') ∧
      (ex = .normal → I (i + 1) (normH L [] h' 0 (h'.take L))) ∧ (ex ≠ .normal → X ex h'))
    {Q : Exit → Act → World → Prop}
    (hdone : ∀ (D : Nat) (W : World) (hh : AH) (β' : Bds), w.heap.size ≤ D → I encs.length hh → Rel (ZD Z D) β' hh W → Fr Z β h w β' hh W → W.heap[D]? = some (.deferred (some [])) → Q .normal (coll a D) W)
    (hstop : ∀ (D : Nat) (ex : AX) (W : World) (hh : AH) (β' : Bds), w.heap.size ≤ D → ex ≠ .normal → X ex hh → Rel (ZD Z D) β' hh W → Fr Z β h w β' hh W → W.heap[D]? = some (.deferred (some [])) → Q ex.exit' (coll a D) W) :
    (Code.rangeFunc g ps asg body).wpIn Fence.wide 1 P Q a w := by
  have hZ : ∀ b, Z b → b < w.heap.size := R.xlt
  have hcw : c < w.heap.size := R.own_lt hc
  have hcZ : ¬ Z c := R.xap kb c hc
  have hcc := R.own_cells hc
  refine wpIn_rangeFunc fun fn _ => ?_
  obtain ⟨rec, hrec⟩ : ∃ rec : LoopState → Option Code → Loop, rec = fun st pe => { state := st, pending := pe, fn, tmps := a.tmps, params := ps, assign := asg, body, defers := w.heap.size } := ⟨_, rfl⟩
  obtain ⟨W1, hW1⟩ : ∃ W1, (w.alloc (.deferred (some []))).alloc (.loop (rec .ready none)) = W1 := ⟨_, rfl⟩
  have hs1 : W1.heap.size = w.heap.size + 2 := by rw [← hW1]; simp
  have hlt1 : ∀ b, b < w.heap.size → W1.heap[b]? = w.heap[b]? := fun b hb => by
    rw [← hW1]; exact (Below.heap_alloc _ _ _ (by simp; omega)).trans (Below.heap_alloc _ _ _ hb)
  have hL1 : W1.heap[w.heap.size + 1]? = some (.loop (rec .ready none)) := by
    rw [← hW1]; have := World.alloc_heap_new (w.alloc (.deferred (some []))) (.loop (rec .ready none)); rwa [World.size_alloc] at this
  have hK1 : W1.heap[w.heap.size]? = some (.deferred (some [])) := by
    rw [← hW1]; exact (Below.heap_alloc _ _ _ (by simp)).trans (World.alloc_heap_new w _)
  -- what holds between rounds
  obtain ⟨II, hII⟩ : ∃ II : Nat → World → Prop, II = fun i W => ∃ hh β', I i hh ∧ RXr Z β h w c hh β' W := ⟨_, rfl⟩
  obtain ⟨IX, hIX⟩ : ∃ IX : Code → World → Prop, IX = fun cd W => ∃ ex hh β', cd = codeOf ex ∧ ex ≠ .normal ∧ X ex hh ∧ RXr Z β h w c hh β' W := ⟨_, rfl⟩
  have tI : ∀ {i : Nat} {A B : World} {row : Option Nat}, II i A → A.grownBy B row → (∀ r, row = some r → w.heap.size ≤ r ∧ ∃ o : Obj, A.heap[r]? = some o ∧ o.isCells = false) → II i B := by
    rw [hII]
    rintro i A B row ⟨hh, β', hi, x⟩ hg hr
    exact ⟨hh, β', hi, x.grown (hIok i hh hi) hZ hcw hcc hg hr⟩
  have tX : ∀ {cd : Code} {A B : World} {row : Option Nat}, IX cd A → A.grownBy B row → (∀ r, row = some r → w.heap.size ≤ r ∧ ∃ o : Obj, A.heap[r]? = some o ∧ o.isCells = false) → IX cd B := by
    rw [hIX]
    rintro cd A B row ⟨ex, hh, β', he, hne, hi, x⟩ hg hr
    exact ⟨ex, hh, β', he, hne, hi, x.grown (hXok ex hh hi) hZ hcw hcc hg hr⟩
  have pI : ∀ {i : Nat} {W : World} {l : Nat} {o o' : Obj}, II i W → w.heap.size ≤ l → W.heap[l]? = some o → o.isCells = false → II i (W.putObj l o') := fun hi hl ho hn =>
    tI hi (grown_put _ _ _) fun r e => by cases e; exact ⟨hl, _, ho, hn⟩
  have pX : ∀ {cd : Code} {W : World} {l : Nat} {o o' : Obj}, IX cd W → w.heap.size ≤ l → W.heap[l]? = some o → o.isCells = false → IX cd (W.putObj l o') := fun hi hl ho hn =>
    tX hi (grown_put _ _ _) fun r e => by cases e; exact ⟨hl, _, ho, hn⟩
  have hI0 : II 0 W1 := by
    have h1 : II 0 w := by rw [hII]; exact ⟨_, β, h0, RXr.start R hc⟩
    have h2 : II 0 (w.alloc (.deferred (some []))) := tI h1 (World.grownBy_alloc w _ none) fun r e => by cases e
    rw [← hW1]
    exact tI h2 (World.grownBy_alloc _ _ none) fun r e => by cases e
  refine ⟨w.heap.size + 1, [{ target := .collected w.heap.size, args := #[] }], W1, { target := .fn (.func gf) lb, args := #[.func (.yield (w.heap.size + 1)) #[] #[]] }, W1, gf,
    #[.func (.yield (w.heap.size + 1)) #[] #[]] ++ lb, W1, ?_, ?_, fun _ _ => trivial, ?_, fun h => by simp [Fence.wide] at h, ?_⟩
  · rw [← hW1, hrec]; exact run_enterLoop_outer _ _ _ _ _
  · simp only [resolve, hg]
    simp [go_sem]
  · simp [invoke, go_sem, eg]
  · have other : ∀ {A B : World} {k : Nat} {o : Obj}, A.grownBy B none → w.heap.size ≤ k → A.heap[k]? = some o → B.heap[k]? = some o := fun hg hk ho =>
      (hg.block _ (Array.getElem?_eq_some_iff.1 ho).1 (by simp)).trans ho
    refine (hseq (w.heap.size + 1)
      (fun i W => II i W ∧ W.heap[w.heap.size + 1]? = some (.loop (rec .ready none)) ∧ W.heap[w.heap.size]? = some (.deferred (some [])))
      (fun W => ∃ cd, IX cd W ∧ W.heap[w.heap.size + 1]? = some (.loop (rec .done (some cd))) ∧ W.heap[w.heap.size]? = some (.deferred (some [])))
      W1 hlt1 (by omega)
      (fun i A B hs hg' => ⟨tI hs.1 hg' (fun r e => by cases e), other hg' (by omega) hs.2.1, other hg' (Nat.le_refl _) hs.2.2⟩)
      (fun A B hs hg' => by
        obtain ⟨cd, h1, h2, h3⟩ := hs
        exact ⟨cd, tX h1 hg' (fun r e => by cases e), other hg' (by omega) h2, other hg' (Nat.le_refl _) h3⟩)
      ?_ ⟨hI0, hL1, hK1⟩).mono ?_
    · -- one round
      rintro i hi W0 W us ⟨hii, hl0, hk0⟩ hg0 hmeant
      have hl : W.heap[w.heap.size + 1]? = some (.loop (rec .ready none)) := (hg0.block _ (Array.getElem?_eq_some_iff.1 hl0).1 (by simp)).trans hl0
      have hk : W.heap[w.heap.size]? = some (.deferred (some [])) := (hg0.block _ (Array.getElem?_eq_some_iff.1 hk0).1 (by simp)).trans hk0
      have hlt : w.heap.size + 1 < W.heap.size := (Array.getElem?_eq_some_iff.1 hl).1
      have hus : us.size = ps.size := hmeant.1.trans (hps _ (List.getElem_mem hi))
      have hy := run_yield (P := P) (args := us) hl (by rw [hrec]; exact hus)
      rw [hrec] at hy
      rw [hII] at hii
      obtain ⟨hh, β', hi1, X000⟩ := hii
      have X00 := X000.grown (hIok i hh hi1) hZ hcw hcc hg0 (fun r e => by cases e)
      refine ⟨fn, _, asg, body, hy, roundIn_of_wpIn trivial (hasg _ i hi us _ W _ hus hmeant (fun b hb => Nat.lt_of_lt_of_le hb.1 hg0.size) fun a1 Wa hg hA => ?_)⟩
      have hla : Wa.heap[w.heap.size + 1]? = some (.loop (rec .ready none)) := (hg.block _ hlt (by simp)).trans hl
      have hka : Wa.heap[w.heap.size]? = some (.deferred (some [])) := (hg.block _ (by omega) (by simp)).trans hk
      refine ⟨_, run_beginRound hla (by rw [hrec]), ?_⟩
      have Xa := X00.grown (hIok i hh hi1) hZ hcw hcc hg (fun r e => by cases e)
      have hlta : w.heap.size + 1 < Wa.heap.size := (Array.getElem?_eq_some_iff.1 hla).1
      obtain ⟨W2, hW2⟩ : ∃ W2, W2 = Wa.putObj (w.heap.size + 1) (.loop { rec .ready none with state := .busy }) := ⟨_, rfl⟩
      have hl2 : W2.heap[w.heap.size + 1]? = some (.loop { rec .ready none with state := .busy }) := by rw [hW2]; exact World.putObj_heap_same hlta
      have hk2 : W2.heap[w.heap.size]? = some (.deferred (some [])) := by rw [hW2]; exact (World.putObj_heap_other (by omega)).trans hka
      have X0 : RXr Z β h w c hh β' W2 := by
        rw [hW2]
        exact Xa.grown (hIok i hh hi1) hZ hcw hcc (grown_put _ _ _) (fun r e => by cases e; exact ⟨by omega, _, hla, rfl⟩)
      have hb2 : ∀ b, b < w.heap.size → W2.heap[b]? = W.heap[b]? := fun b hb => by
        rw [hW2]; exact (World.putObj_heap_other (by omega)).trans (hg.block b (by omega) (by simp))
      have hs2 : W.heap.size ≤ W2.heap.size := by rw [hW2]; simpa using hg.size
      have hEE := hE i hi _ W a1 Wa _ β' W2 hA hg (by rw [hW2]; simp) ⟨hs2, fun b o hb ho hn => by
          have hbl : b < W.heap.size := (Array.getElem?_eq_some_iff.1 hb).1
          by_cases h0 : b < W0.heap.size
          · have h1 : b < w.heap.size ∧ (b = c ∨ ¬ Own Z β h b) := by
              by_cases hq : b < w.heap.size ∧ (b = c ∨ ¬ Own Z β h b)
              · exact hq
              · exact absurd ⟨h0, hq⟩ hn
            rcases h1 with ⟨h1, rfl | h2⟩
            · exact ⟨hb2 _ h1, X0.box.2⟩
            · exact ⟨hb2 b h1, (X0.stay.2 b h1 h2).2⟩
          · have hW0 : w.heap.size ≤ W0.heap.size := X000.stay.1
            have hne : b ≠ w.heap.size + 1 := by
              rintro rfl
              rw [hl] at hb; cases hb; cases ho
            have e2 : W2.heap[b]? = W.heap[b]? := by rw [hW2]; exact (World.putObj_heap_other hne).trans (hg.block b hbl (by simp))
            refine ⟨e2, ?_⟩
            rintro ((hz | ⟨_, o', h3, h4⟩) | ⟨k, hz⟩)
            · have := hZ b hz; omega
            · rw [e2, hb] at h3; cases h3; rw [ho] at h4; cases h4
            · obtain ⟨o', h1, _⟩ := X000.rel.own_cells hz
              have := (Array.getElem?_eq_some_iff.1 h1).1
              omega⟩ (fun b o hb ho hc => by
          have hne : b ≠ w.heap.size + 1 := by
            rintro rfl
            omega
          refine ⟨by rw [hW2]; exact (World.putObj_heap_other hne).trans ho, ?_⟩
          have hn2 : W2.heap[b]? = some o := by rw [hW2]; exact (World.putObj_heap_other hne).trans ho
          rintro ((hz | ⟨_, o', h3, h4⟩) | ⟨k, hz⟩)
          · have := hZ b hz; omega
          · rw [hn2] at h3; cases h3; rw [hc] at h4; cases h4
          · obtain ⟨o', h1, _⟩ := X00.rel.own_cells hz
            have := (Array.getElem?_eq_some_iff.1 h1).1
            omega) X0.stay X0.ext
      obtain ⟨ex, h', hev, hn, hx⟩ := hstep i hh hi hi1
      refine wpIn_mono (Q := fun e a3 W3 => ∃ ex', e = ex'.exit' ∧ KeepsOthers W2 W3 ∧ (∀ b, b < w.heap.size → (b = c ∨ ¬ Own Z β h b) → W3.heap[b]? = W2.heap[b]?) ∧ (ex' = .normal → II (i + 1) W3) ∧ (ex' ≠ .normal → IX (codeOf ex') W3)) ?_ ?_
      · suffices hs : body.wpIn (Fence.wide.inRound (w.heap.size + 1)) 0 P (fun e a3 W3 => ∃ ex', e = ex'.exit' ∧ KeepsOthers W2 W3 ∧ (∀ b, b < w.heap.size → (b = c ∨ ¬ Own Z β h b) → W3.heap[b]? = W2.heap[b]?) ∧ (ex' = .normal → II (i + 1) W3) ∧ (ex' ≠ .normal → IX (codeOf ex') W3)) a1 W2 by
          rw [hW2, hrec] at hs
          rw [hW2, hrec]
          exact hs
        refine eval_soundIn (lr := w.heap.size + 1) hm hΓ bA body okb ndb hev (W := fun _ => true) (fun _ _ => rfl) X0.rel hEE (fun ex' s' a' w' β'' hk R' F' E'' K' => ?_)
        simp only [Option.some.injEq, Prod.mk.injEq] at hk
        obtain ⟨rfl, rfl⟩ := hk
        refine ⟨ex', rfl, ⟨F'.stay.1, fun k o hk ho => ?_⟩, fun b hb hB => ?_, fun he => ?_, fun he => ?_⟩
        · have hlt : k < W2.heap.size := (Array.getElem?_eq_some_iff.1 hk).1
          by_cases hO : Own (Zr Z w.heap.size W2) β' hh k
          · rcases hO with hz | ⟨i, hz⟩
            · exact (F'.xkeep k hlt hz).trans hk
            · obtain ⟨o', h1, h2⟩ := X0.rel.own_cells hz
              rw [hk] at h1; cases h1; rw [ho] at h2; cases h2
          · exact (F'.stay.2 k hlt hO).1.trans hk
        · have hlt : b < W2.heap.size := Nat.lt_of_lt_of_le hb X0.stay.1
          rcases hB with rfl | hB
          · exact (F'.stay.2 _ hlt X0.box.2).1
          · exact (F'.stay.2 b hlt (X0.stay.2 b hb hB).2).1
        · rw [hII]
          exact ⟨normH L [] s'.h 0 (s'.h.take L), bdH β'' s'.h L [], hn he, X0.body hL R (hIok _ _ (hn he)) hZ hcw (head_rel R' L []) (F'.trans head_frV)⟩
        · rw [hIX]
          exact ⟨ex', s'.h, β'', rfl, he, hx he, X0.body hL R (hXok _ _ (hx he)) hZ hcw R' F'⟩
      · have fin : ∀ (jump : Option Code) (W3 : World), KeepsOthers W2 W3 →
            (Instr.endRound (w.heap.size + 1) jump).run P W3 = .ok (.bool jump.isNone) (W3.putObj (w.heap.size + 1) (.loop (rec (if jump.isNone then .ready else .done) jump))) ∧
            W3.heap[w.heap.size + 1]? = some (.loop { rec .ready none with state := .busy }) ∧
            (W3.putObj (w.heap.size + 1) (.loop (rec (if jump.isNone then .ready else .done) jump))).heap[w.heap.size + 1]? = some (.loop (rec (if jump.isNone then .ready else .done) jump)) ∧
            (W3.putObj (w.heap.size + 1) (.loop (rec (if jump.isNone then .ready else .done) jump))).heap[w.heap.size]? = some (.deferred (some [])) := fun jump W3 hk3 => by
          have hl3 := hk3.same _ _ hl2 rfl
          have := run_endRound (P := P) jump hl3
          rw [hrec] at this ⊢
          exact ⟨this, by rw [hrec] at hl3; exact hl3, World.putObj_heap_same (Array.getElem?_eq_some_iff.1 hl3).1, (World.putObj_heap_other (by omega)).trans (hk3.same _ _ hk2 rfl)⟩
        rintro e a3 W3 ⟨ex', rfl, hk3, hkp3, hn3, hx3⟩
        cases ex' with
        | normal =>
          obtain ⟨hr, hl3, hl4, hk4⟩ := fin none W3 hk3
          exact ⟨_, _, hr, .inl ⟨rfl, ⟨pI (hn3 rfl) (by omega) hl3 rfl, hl4, hk4⟩, by have := hk3.size; simp; omega, fun b hb hB => (World.putObj_heap_other (by omega)).trans ((hkp3 b hb hB).trans (hb2 b hb))⟩⟩
        | ret =>
          obtain ⟨hr, hl3, hl4, hk4⟩ := fin (some .ret) W3 hk3
          exact ⟨_, _, hr, .inr ⟨rfl, .ret, pX (hx3 (by simp)) (by omega) hl3 rfl, hl4, hk4⟩⟩
        | exit id =>
          obtain ⟨hr, hl3, hl4, hk4⟩ := fin (some (.exit id)) W3 hk3
          exact ⟨_, _, hr, .inr ⟨rfl, .exit id, pX (hx3 (by simp)) (by omega) hl3 rfl, hl4, hk4⟩⟩
    · -- behind the iterator
      rintro e W2 ⟨⟨v, rfl⟩, (⟨hi, hl, hk⟩ | ⟨cd, hi, hl, hk⟩)⟩
      · refine ⟨none, _, by have := run_endLoop (P := P) hl (by rw [hrec]; simp); rw [hrec] at this; exact this, ?_⟩
        have key : ∀ (o' : Obj), Q .normal (coll a w.heap.size) (W2.putObj (w.heap.size + 1) o') := fun o' => by
          have hi' := pI (o' := o') hi (by omega) hl rfl
          rw [hII] at hi'
          obtain ⟨hh, β', hi1, X0⟩ := hi'
          have hk' : (W2.putObj (w.heap.size + 1) o').heap[w.heap.size]? = some (.deferred (some [])) := (World.putObj_heap_other (by omega)).trans hk
          obtain ⟨r1, r2⟩ := X0.out (Nat.le_refl _) hk'
          exact hdone _ _ hh β' (Nat.le_refl _) hi1 r1 r2 hk'
        exact key _
      · refine ⟨some cd, _, by have := run_endLoop (P := P) hl (by rw [hrec]; simp); rw [hrec] at this; exact this, ?_⟩
        have key : ∀ (o' : Obj), cd.wpIn Fence.wide 1 P Q (coll a w.heap.size) (W2.putObj (w.heap.size + 1) o') := fun o' => by
          have hi' := pX (o' := o') hi (by omega) hl rfl
          rw [hIX] at hi'
          obtain ⟨ex, hh, β', rfl, hne, hi1, X0⟩ := hi'
          have hk' : (W2.putObj (w.heap.size + 1) o').heap[w.heap.size]? = some (.deferred (some [])) := (World.putObj_heap_other (by omega)).trans hk
          obtain ⟨r1, r2⟩ := X0.out (Nat.le_refl _) hk'
          have := hstop _ ex _ hh β' (Nat.le_refl _) hne hi1 r1 r2 hk'
          cases ex with
          | normal => exact absurd rfl hne
          | ret => exact wpIn_ret this
          | exit id => exact wpIn_exit this
        exact key _
end
end Go.Am
