import Derived.Test.YtnokdfhhnjmeoaaP23
set_option linter.unusedSimpArgs false
set_option linter.unusedVariables false
namespace Go.Proofs.Ytnokdfhhnjmeoaa
open Go.Am Go.Am.Kp

/-! CacheLast -/
def tilAt (acts : List Act) (p : Int) : Int := (acts[p.toNat]?).elim 0 (·.til)
/-- What CacheLast keeps: rows, the page's act, the name's. -/
structure S4 where
  f : Bool
  l : List K
  p : Int
  m : Int
def g4 (acts : List Act) (x : Act) (s : S4) (ai : Act × Nat) : S4 :=
  let a := ai.1
  ⟨doF s.f a, doG false s.l a,
    match md a with
    | .page => if a.ino = x.ino ∧ a.page = x.page then ai.2 else s.p
    | .name => s.p
    | .forget => if a.ino = x.ino then -1 else s.p
    | .age => if 0 ≤ s.p ∧ tilAt acts s.p ≤ a.til then -1 else s.p,
    match md a with
    | .page => s.m
    | .name => if a.ino = x.ino ∧ a.name = x.name ∧ ¬ a.name = [] then ai.2 else s.m
    | .forget => if a.ino = x.ino then -1 else s.m
    | .age => if 0 ≤ s.m ∧ tilAt acts s.m ≤ a.til then -1 else s.m⟩
/-- What is known of an index: none, or an act's, of which a row is kept. -/
def Idx (acts : List Act) (i : Nat) (p : Int) (o : Option K) (mk : Act → K) : Prop :=
  (p = -1 ∧ o = none) ∨ ∃ j : Nat, j < i ∧ p = j ∧ ∃ a, acts[j]? = some a ∧ o = some (mk a)
def mkP (x : Act) (a : Act) : K := ⟨x.ino, [], x.page, 0, false, a.dat, a.til⟩
def mkN (x : Act) (a : Act) : K := ⟨x.ino, x.name, 0, a.is, true, [], a.til⟩
structure I4 (acts : List Act) (x : Act) (i : Nat) (s : S4) : Prop where
  ok : Ok i s.l
  p : Idx acts i s.p (get s.l ⟨x.ino, [], x.page, 0, true, [], 0⟩) (mkP x)
  m : Idx acts i s.m (if x.name = [] then none else get s.l ⟨x.ino, x.name, 0, 0, true, [], 0⟩) (mkN x)
theorem Idx.le {acts : List Act} {i k : Nat} {p : Int} {o : Option K} {mk : Act → K} (h : Idx acts i p o mk) (hk : i ≤ k) : Idx acts k p o mk := by
  rcases h with h | ⟨j, h1, h2⟩
  · exact .inl h
  · exact .inr ⟨j, by omega, h2⟩
/-- What is over goes. -/
theorem Idx.age {acts : List Act} {i : Nat} {p : Int} {o : Option K} {mk : Act → K} (h : Idx acts i p o mk) (ht : ∀ a, (mk a).til = a.til) (t : Int) :
    Idx acts i (if 0 ≤ p ∧ tilAt acts p ≤ t then -1 else p) (o.filter fun k => decide (t < k.til)) mk := by
  rcases h with ⟨h1, h2⟩ | ⟨j, h1, h2, a, h3, h4⟩
  · subst h1 h2
    exact .inl ⟨by simp, rfl⟩
  · subst h2 h4
    have e : tilAt acts (j : Int) = a.til := by simp [tilAt, h3]
    rw [e]
    by_cases hc : a.til ≤ t
    · left
      refine ⟨if_pos ⟨by omega, hc⟩, ?_⟩
      have : ¬ t < a.til := by omega
      simp [Option.filter, ht, this]
    · right
      refine ⟨j, h1, if_neg (fun h => hc h.2), a, h3, ?_⟩
      have : t < a.til := by omega
      simp [Option.filter, ht, this]
theorem Idx.fgt {acts : List Act} {i : Nat} {p : Int} {o : Option K} {mk : Act → K} (h : Idx acts i p o mk) (ino : Int) (hi : ∀ a, (mk a).ino = ino) (t : Int) :
    Idx acts i (if t = ino then -1 else p) (o.filter fun k => !decide (k.ino = t)) mk := by
  rcases h with ⟨h1, h2⟩ | ⟨j, h1, h2, a, h3, h4⟩
  · subst h1 h2
    exact .inl ⟨by simp, rfl⟩
  · subst h2 h4
    by_cases hc : t = ino
    · left
      refine ⟨if_pos hc, ?_⟩
      simp [Option.filter, hi, hc]
    · right
      have : ¬ ino = t := fun e => hc e.symm
      exact ⟨j, h1, if_neg hc, a, h3, by simp [Option.filter, hi, this]⟩
theorem I4.step {acts : List Act} {x : Act} {i : Nat} (hi : i < acts.length) {s : S4} (h : I4 acts x i s) (ha : Small acts[i]) : I4 acts x (i + 1) (g4 acts x s (acts[i], i)) := by
  have hx : acts[i]? = some acts[i] := List.getElem?_eq_getElem hi
  refine ⟨h.ok.step ha false, ?_, ?_⟩
  · have hp := h.p
    simp only [g4]
    unfold doG
    cases hm : md acts[i] with
    | page =>
      simp only
      rw [get_put h.ok.s]
      by_cases c : acts[i].ino = x.ino ∧ acts[i].page = x.page
      · have e : same (⟨acts[i].ino, [], acts[i].page, 0, false, acts[i].dat, acts[i].til⟩ : K) ⟨x.ino, [], x.page, 0, true, [], 0⟩ = true := same_iff.2 ⟨c.1, rfl, c.2⟩
        rw [if_pos c, if_pos e]
        exact .inr ⟨i, by omega, rfl, _, hx, by rw [mkP, ← c.1, ← c.2]⟩
      · rw [if_neg c, if_neg (fun e => c ⟨(same_iff.1 e).1, (same_iff.1 e).2.2⟩)]
        exact hp.le (by omega)
    | name =>
      simp only
      by_cases hn : acts[i].name = []
      · rw [if_pos hn]; exact hp.le (by omega)
      · rw [if_neg hn, get_put h.ok.s, if_neg (fun e => hn (same_iff.1 e).2.1)]
        exact hp.le (by omega)
    | forget =>
      simp only
      rw [get_filter h.ok.s]
      exact (hp.fgt x.ino (fun _ => rfl) _).le (by omega)
    | age =>
      simp only
      rw [get_filter h.ok.s]
      exact (hp.age (fun _ => rfl) _).le (by omega)
  · have hp := h.m
    simp only [g4]
    unfold doG
    cases hm : md acts[i] with
    | page =>
      simp only
      by_cases hn : x.name = []
      · rw [if_pos hn] at hp ⊢; exact hp.le (by omega)
      · rw [if_neg hn] at hp ⊢
        rw [get_put h.ok.s, if_neg (fun e => hn (same_iff.1 e).2.1.symm)]
        exact hp.le (by omega)
    | name =>
      simp only
      by_cases hn : acts[i].name = []
      · rw [if_pos hn, if_neg (fun e => e.2.2 hn)]; exact hp.le (by omega)
      · rw [if_neg hn]
        by_cases hx' : x.name = []
        · rw [if_pos hx'] at hp ⊢
          rw [if_neg (fun e => hn (e.2.1.trans hx'))]
          exact hp.le (by omega)
        · rw [if_neg hx'] at hp ⊢
          rw [get_put h.ok.s]
          by_cases c : acts[i].ino = x.ino ∧ acts[i].name = x.name ∧ ¬ acts[i].name = []
          · have e : same (⟨acts[i].ino, acts[i].name, 0, acts[i].is, true, [], acts[i].til⟩ : K) ⟨x.ino, x.name, 0, 0, true, [], 0⟩ = true := same_iff.2 ⟨c.1, c.2.1, rfl⟩
            rw [if_pos c, if_pos e]
            exact .inr ⟨i, by omega, rfl, _, hx, by rw [mkN, ← c.1, ← c.2.1]⟩
          · rw [if_neg c, if_neg (fun e => c ⟨(same_iff.1 e).1, (same_iff.1 e).2.1, hn⟩)]
            exact hp.le (by omega)
    | forget =>
      simp only
      by_cases hx' : x.name = []
      · rw [if_pos hx'] at hp ⊢
        exact (hp.fgt x.ino (fun _ => rfl) _).le (by omega)
      · rw [if_neg hx'] at hp ⊢
        rw [get_filter h.ok.s]
        exact (hp.fgt x.ino (fun _ => rfl) _).le (by omega)
    | age =>
      simp only
      by_cases hx' : x.name = []
      · rw [if_pos hx'] at hp ⊢
        exact (hp.age (fun _ => rfl) _).le (by omega)
      · rw [if_neg hx'] at hp ⊢
        rw [get_filter h.ok.s]
        exact (hp.age (fun _ => rfl) _).le (by omega)
theorem Idx.cases {acts : List Act} {i : Nat} (hi : i ≤ acts.length) {p : Int} {o : Option K} {mk : Act → K} (h : Idx acts i p o mk) : p = -1 ∨ ∃ (j : Nat) (hj : j < acts.length), p = j ∧ tilAt acts j = acts[j].til := by
  rcases h with h | ⟨j, h1, h2, a, h3, _⟩
  · exact .inl h.1
  · have hj : j < acts.length := by omega
    refine .inr ⟨j, hj, h2, ?_⟩
    simp [tilAt, hj]
theorem l4 {n : Nat} (hn : 36 < n) (l : List Act) (hl : l.length ≤ 60) (hs : ∀ a ∈ l, Small a) (hr : ∀ a ∈ l, a.Rng) (f : Bool) (x : Act) (e0 : Env) (h0 : e0 0 = .lst f (l.map A)) (h4 : e0 4 = .ptr 0 0 0 0) :
    iter (round (C23.tab n) [8, 9, 10, 11] [(.exit 0, [8, 9, 10])] c4_1 e0 1 []) ([.lst true [], .int .i64 (-1), .int .i64 (-1), .int .i64 0], [.var (A x).cells]) =
      some (.exit 0, [.lst (l.zipIdx.foldl (g4 l x) ⟨true, [], -1, -1⟩).f ((l.zipIdx.foldl (g4 l x) ⟨true, [], -1, -1⟩).l.map D), .int .i64 (l.zipIdx.foldl (g4 l x) ⟨true, [], -1, -1⟩).p, .int .i64 (l.zipIdx.foldl (g4 l x) ⟨true, [], -1, -1⟩).m], [.var (A x).cells]) := by
  have hz : l.zipIdx.length = l.length := by simp
  exact for_list (f := round (C23.tab n) [8, 9, 10, 11] [(.exit 0, [8, 9, 10])] c4_1 e0 1 []) (fun i (s : S4) => ([.lst s.f (s.l.map D), .int .i64 s.p, .int .i64 s.m, .int .i64 i], [.var (A x).cells])) l.zipIdx (g4 l x)
    (fun s => (.exit 0, [.lst s.f (s.l.map D), .int .i64 s.p, .int .i64 s.m], [.var (A x).cells])) (fun i s => I4 l x i s)
    (fun i hi' s h => by
      have hi : i < l.length := by rw [hz] at hi'; exact hi'
      have ez : l.zipIdx[i] = (l[i], i) := by simp
      rw [ez]
      have ha := hs _ (List.getElem_mem hi)
      refine ⟨h.step hi ha, ?_⟩
      obtain ⟨f1, l1, p, m⟩ := s
      have cp := h.p.cases (by omega)
      have cm := h.m.cases (by omega)
      have ok := h.ok
      simp only at cp cm ok
      have n1 := ok.n
      have k1 := s13 (n := n) (by omega) l1 ok.s (by omega) f1 l[i] ha (hr _ (List.getElem_mem hi)).lo
      simp only [A] at k1
      simp only [g4]
      generalize doG false l1 l[i] = M at *
      generalize doF f1 l[i] = F at *
      unfold md
      by_cases c1 : l[i].dO.tmod 4 = 0
      · by_cases c2 : x.ino = l[i].ino
        · by_cases c3 : x.page = l[i].page
          · simp -implicitDefEqProofs (disch := omega) [wrap_of, ilt_t, ilt_f, ile_t, ile_f, nlt_t, nlt_f, nle_t, nle_f, ieq_t, ieq_f, imin_l, imin_r, imax_l, imax_r, take_app1, take_map_all, round_eq, b4_1, h0, h4, hi, a13, k1, c1, c2, c3]
          · have c3' : ¬ l[i].page = x.page := fun e => c3 e.symm
            simp -implicitDefEqProofs (disch := omega) [wrap_of, ilt_t, ilt_f, ile_t, ile_f, nlt_t, nlt_f, nle_t, nle_f, ieq_t, ieq_f, imin_l, imin_r, imax_l, imax_r, take_app1, take_map_all, round_eq, b4_1, h0, h4, hi, a13, k1, c1, c2, c3']
        · have c2' : ¬ l[i].ino = x.ino := fun e => c2 e.symm
          simp -implicitDefEqProofs (disch := omega) [wrap_of, ilt_t, ilt_f, ile_t, ile_f, nlt_t, nlt_f, nle_t, nle_f, ieq_t, ieq_f, imin_l, imin_r, imax_l, imax_r, take_app1, take_map_all, round_eq, b4_1, h0, h4, hi, a13, k1, c1, c2']
      · by_cases c2 : l[i].dO.tmod 4 = 1
        · by_cases c3 : x.ino = l[i].ino
          · by_cases c4 : x.name = l[i].name
            · by_cases c5 : l[i].name = []
              · rw [c5] at k1 c4
                simp -implicitDefEqProofs (disch := omega) [wrap_of, ilt_t, ilt_f, ile_t, ile_f, nlt_t, nlt_f, nle_t, nle_f, ieq_t, ieq_f, imin_l, imin_r, imax_l, imax_r, take_app1, take_map_all, round_eq, b4_1, h0, h4, hi, a13, k1, c1, c2, c3, c4, c5, strBin]
              · simp -implicitDefEqProofs (disch := omega) [wrap_of, ilt_t, ilt_f, ile_t, ile_f, nlt_t, nlt_f, nle_t, nle_f, ieq_t, ieq_f, imin_l, imin_r, imax_l, imax_r, take_app1, take_map_all, round_eq, b4_1, h0, h4, hi, a13, k1, c1, c2, c3, c4, c5, strBin]
            · have c4' : ¬ l[i].name = x.name := fun e => c4 e.symm
              simp -implicitDefEqProofs (disch := omega) [wrap_of, ilt_t, ilt_f, ile_t, ile_f, nlt_t, nlt_f, nle_t, nle_f, ieq_t, ieq_f, imin_l, imin_r, imax_l, imax_r, take_app1, take_map_all, round_eq, b4_1, h0, h4, hi, a13, k1, c1, c2, c3, c4', strBin]
          · have c3' : ¬ l[i].ino = x.ino := fun e => c3 e.symm
            simp -implicitDefEqProofs (disch := omega) [wrap_of, ilt_t, ilt_f, ile_t, ile_f, nlt_t, nlt_f, nle_t, nle_f, ieq_t, ieq_f, imin_l, imin_r, imax_l, imax_r, take_app1, take_map_all, round_eq, b4_1, h0, h4, hi, a13, k1, c1, c2, c3', strBin]
        · by_cases c3 : l[i].dO.tmod 4 = 2
          · by_cases c4 : x.ino = l[i].ino
            · simp -implicitDefEqProofs (disch := omega) [wrap_of, ilt_t, ilt_f, ile_t, ile_f, nlt_t, nlt_f, nle_t, nle_f, ieq_t, ieq_f, imin_l, imin_r, imax_l, imax_r, take_app1, take_map_all, round_eq, b4_1, h0, h4, hi, a13, k1, c1, c2, c3, c4]
            · have c4' : ¬ l[i].ino = x.ino := fun e => c4 e.symm
              simp -implicitDefEqProofs (disch := omega) [wrap_of, ilt_t, ilt_f, ile_t, ile_f, nlt_t, nlt_f, nle_t, nle_f, ieq_t, ieq_f, imin_l, imin_r, imax_l, imax_r, take_app1, take_map_all, round_eq, b4_1, h0, h4, hi, a13, k1, c1, c2, c3, c4']
          · rcases cp with rfl | ⟨j, hj, rfl, ej⟩
            · rcases cm with rfl | ⟨j', hj', rfl, ej'⟩
              · simp -implicitDefEqProofs (disch := omega) [wrap_of, ilt_t, ilt_f, ile_t, ile_f, nlt_t, nlt_f, nle_t, nle_f, ieq_t, ieq_f, imin_l, imin_r, imax_l, imax_r, take_app1, take_map_all, round_eq, b4_1, h0, h4, hi, a13, k1, c1, c2, c3]
              · by_cases c5 : l[j'].til ≤ l[i].til <;> simp -implicitDefEqProofs (disch := omega) [wrap_of, ilt_t, ilt_f, ile_t, ile_f, nlt_t, nlt_f, nle_t, nle_f, ieq_t, ieq_f, imin_l, imin_r, imax_l, imax_r, take_app1, take_map_all, round_eq, b4_1, h0, h4, hi, a13, k1, c1, c2, c3, hj', ej', c5]
            · rcases cm with rfl | ⟨j', hj', rfl, ej'⟩
              · by_cases c4 : l[j].til ≤ l[i].til <;> simp -implicitDefEqProofs (disch := omega) [wrap_of, ilt_t, ilt_f, ile_t, ile_f, nlt_t, nlt_f, nle_t, nle_f, ieq_t, ieq_f, imin_l, imin_r, imax_l, imax_r, take_app1, take_map_all, round_eq, b4_1, h0, h4, hi, a13, k1, c1, c2, c3, hj, ej, c4]
              · by_cases c4 : l[j].til ≤ l[i].til <;> by_cases c5 : l[j'].til ≤ l[i].til <;> simp -implicitDefEqProofs (disch := omega) [wrap_of, ilt_t, ilt_f, ile_t, ile_f, nlt_t, nlt_f, nle_t, nle_f, ieq_t, ieq_f, imin_l, imin_r, imax_l, imax_r, take_app1, take_map_all, round_eq, b4_1, h0, h4, hi, a13, k1, c1, c2, c3, hj, ej, c4, hj', ej', c5])
    (fun s h => by
      rw [hz]
      simp -implicitDefEqProofs (disch := omega) [wrap_of, ilt_t, ilt_f, ile_t, ile_f, nlt_t, nlt_f, nle_t, nle_f, ieq_t, ieq_f, imin_l, imin_r, imax_l, imax_r, take_app1, take_map_all, round_eq, b4_1, h0]) ⟨true, [], -1, -1⟩ ⟨Ok.nil, .inl ⟨rfl, rfl⟩, .inl ⟨rfl, by simp [Kp.get]⟩⟩
theorem pg_of {acts : List Act} {i : Nat} {p : Int} {o : Option K} {mk : Act → K} (hi : i ≤ acts.length) (h : Idx acts i p o mk) (ht : ∀ a, (mk a).til = a.til) (now : Int) :
    (p = -1 ∧ o.filter (fun k => decide (now < k.til)) = none) ∨ ∃ (j : Nat) (hj : j < acts.length), p = j ∧ o.filter (fun k => decide (now < k.til)) = if now < acts[j].til then some (mk acts[j]) else none := by
  rcases h with ⟨h1, h2⟩ | ⟨j, h1, h2, a, h3, h4⟩
  · exact .inl ⟨h1, by rw [h2]; rfl⟩
  · right
    have hj : j < acts.length := by omega
    have ha : a = acts[j] := by rw [List.getElem?_eq_getElem hj] at h3; exact (Option.some.inj h3).symm
    refine ⟨j, hj, h2, ?_⟩
    rw [h4, ha]
    by_cases c : now < acts[j].til <;> simp [Option.filter, ht, c]
theorem w4 (acts : List Act) (f : Bool) (ha : acts.length ≤ 9223372036854775807) (hr : ∀ a ∈ acts, a.Rng) (x : Act) (hx : x.Rng) (now : Int) :
    runP (C23.tab 47) c4 [.lst f (acts.map A), A x, .int .i64 now] = some (.bool true) := by
  rw [runP_eq, runH_eq]
  have g1 := s10 (n := 47) (by omega) acts ha (fun a h => (hr a h).r) f
  have g2 := fun b => s10 (n := 47) (by omega) [x] (by simp) (fun a h => by simp only [List.mem_singleton] at h; subst h; exact hx.r) b
  simp only [List.map_cons, List.map_nil, A] at g2
  cases hg1 : greatB acts with
  | true =>
    rw [hg1] at g1
    simp -implicitDefEqProofs (disch := omega) [wrap_of, ilt_t, ilt_f, ile_t, ile_f, nlt_t, nlt_f, nle_t, nle_f, ieq_t, ieq_f, imin_l, imin_r, imax_l, imax_r, take_app1, take_map_all, c4, a9, s9, a10, g1]
  | false =>
    rw [hg1] at g1
    cases hg2 : greatB [x] with
    | true =>
      rw [hg2] at g2
      simp -implicitDefEqProofs (disch := omega) [wrap_of, ilt_t, ilt_f, ile_t, ile_f, nlt_t, nlt_f, nle_t, nle_f, ieq_t, ieq_f, imin_l, imin_r, imax_l, imax_r, take_app1, take_map_all, c4, a9, s9, a10, g1, g2]
    | false =>
      rw [hg2] at g2
      simp -implicitDefEqProofs (disch := omega) [wrap_of, ilt_t, ilt_f, ile_t, ile_f, nlt_t, nlt_f, nle_t, nle_f, ieq_t, ieq_f, imin_l, imin_r, imax_l, imax_r, take_app1, take_map_all, c4, a9, s9, a10, g1, g2]
      obtain ⟨hl, hs⟩ := small_of hg1
      have q2 := l4 (n := 47) (by omega) acts hl hs hr f x
      have inv := fold_inv acts.zipIdx (g4 acts x) (I4 acts x) 0 ⟨true, [], -1, -1⟩ (fun i hi s h => by
        have hi : i < acts.length := by simpa using hi
        have ez : acts.zipIdx[i] = (acts[i], i) := by simp
        rw [ez]
        rw [Nat.zero_add] at h ⊢
        exact h.step hi (hs _ (List.getElem_mem hi))) ⟨Ok.nil, .inl ⟨rfl, rfl⟩, .inl ⟨rfl, by simp [Kp.get]⟩⟩
      rw [Nat.zero_add, List.length_zipIdx] at inv
      generalize acts.zipIdx.foldl (g4 acts x) ⟨true, [], -1, -1⟩ = s at *
      obtain ⟨f1, l1, p, m⟩ := s
      obtain ⟨o1, ip, im⟩ := inv
      simp only [A, AV.cells] at q2 o1 ip im
      rw [q2 _ (by simp -implicitDefEqProofs (disch := omega) [wrap_of, ilt_t, ilt_f, ile_t, ile_f, nlt_t, nlt_f, nle_t, nle_f, ieq_t, ieq_f, imin_l, imin_r, imax_l, imax_r, take_app1, take_map_all, ]) (by simp -implicitDefEqProofs (disch := omega) [wrap_of, ilt_t, ilt_f, ile_t, ile_f, nlt_t, nlt_f, nle_t, nle_f, ieq_t, ieq_f, imin_l, imin_r, imax_l, imax_r, take_app1, take_map_all, ])]
      have n1 := o1.n
      have hp := pg_of (Nat.le_refl _) ip (fun _ => rfl) now
      have hm := pg_of (Nat.le_refl _) im (fun _ => rfl) now
      have enm : (if x.name = [] then none else get l1 ⟨x.ino, x.name, 0, 0, true, [], 0⟩).filter (fun k => decide (now < k.til)) = nm l1 x.ino x.name now := by
        unfold nm
        by_cases e : x.name = []
        · rw [if_pos e, if_pos e]; rfl
        · rw [if_neg e, if_neg e]
      rw [enm] at hm
      rw [show (get l1 ⟨x.ino, [], x.page, 0, true, [], 0⟩).filter (fun k => decide (now < k.til)) = pg l1 x.ino x.page now from rfl] at hp
      have t1 := t16 (n := 47) (by omega) o1 (by omega) f1 x.ino x.page now
      have t2 := t18 (n := 47) (by omega) o1 (by omega) f1 x.ino now x.name
      rcases hp with ⟨rfl, ep⟩ | ⟨j, hj, rfl, ep⟩
      · rw [ep] at t1
        rcases hm with ⟨rfl, em⟩ | ⟨j', hj', rfl, em⟩
        · rw [em] at t2
          simp -implicitDefEqProofs (disch := omega) [wrap_of, ilt_t, ilt_f, ile_t, ile_f, nlt_t, nlt_f, nle_t, nle_f, ieq_t, ieq_f, imin_l, imin_r, imax_l, imax_r, take_app1, take_map_all, a16, a18, t1, t2, datO, isO]
        · by_cases c2 : now < acts[j'].til
          · rw [em, if_pos c2] at t2
            simp -implicitDefEqProofs (disch := omega) [wrap_of, ilt_t, ilt_f, ile_t, ile_f, nlt_t, nlt_f, nle_t, nle_f, ieq_t, ieq_f, imin_l, imin_r, imax_l, imax_r, take_app1, take_map_all, a16, a18, t1, t2, datO, isO, hj', c2, mkN]
          · rw [em, if_neg c2] at t2
            simp -implicitDefEqProofs (disch := omega) [wrap_of, ilt_t, ilt_f, ile_t, ile_f, nlt_t, nlt_f, nle_t, nle_f, ieq_t, ieq_f, imin_l, imin_r, imax_l, imax_r, take_app1, take_map_all, a16, a18, t1, t2, datO, isO, hj', c2]
      · have hd := (hs _ (List.getElem_mem hj)).dat
        have k20 := fun f => s20 (n := 47) (by omega) acts[j].dat acts[j].dat f acts[j].fl (by omega)
        simp only [decide_true] at k20
        by_cases c1 : now < acts[j].til
        · rw [ep, if_pos c1] at t1
          rcases hm with ⟨rfl, em⟩ | ⟨j', hj', rfl, em⟩
          · rw [em] at t2
            simp -implicitDefEqProofs (disch := omega) [wrap_of, ilt_t, ilt_f, ile_t, ile_f, nlt_t, nlt_f, nle_t, nle_f, ieq_t, ieq_f, imin_l, imin_r, imax_l, imax_r, take_app1, take_map_all, a16, a18, t1, t2, datO, isO, hj, c1, mkP, a20, k20]
          · by_cases c2 : now < acts[j'].til
            · rw [em, if_pos c2] at t2
              simp -implicitDefEqProofs (disch := omega) [wrap_of, ilt_t, ilt_f, ile_t, ile_f, nlt_t, nlt_f, nle_t, nle_f, ieq_t, ieq_f, imin_l, imin_r, imax_l, imax_r, take_app1, take_map_all, a16, a18, t1, t2, datO, isO, hj, c1, hj', c2, mkP, mkN, a20, k20]
            · rw [em, if_neg c2] at t2
              simp -implicitDefEqProofs (disch := omega) [wrap_of, ilt_t, ilt_f, ile_t, ile_f, nlt_t, nlt_f, nle_t, nle_f, ieq_t, ieq_f, imin_l, imin_r, imax_l, imax_r, take_app1, take_map_all, a16, a18, t1, t2, datO, isO, hj, c1, hj', c2, mkP, a20, k20]
        · rw [ep, if_neg c1] at t1
          rcases hm with ⟨rfl, em⟩ | ⟨j', hj', rfl, em⟩
          · rw [em] at t2
            simp -implicitDefEqProofs (disch := omega) [wrap_of, ilt_t, ilt_f, ile_t, ile_f, nlt_t, nlt_f, nle_t, nle_f, ieq_t, ieq_f, imin_l, imin_r, imax_l, imax_r, take_app1, take_map_all, a16, a18, t1, t2, datO, isO, hj, c1]
          · by_cases c2 : now < acts[j'].til
            · rw [em, if_pos c2] at t2
              simp -implicitDefEqProofs (disch := omega) [wrap_of, ilt_t, ilt_f, ile_t, ile_f, nlt_t, nlt_f, nle_t, nle_f, ieq_t, ieq_f, imin_l, imin_r, imax_l, imax_r, take_app1, take_map_all, a16, a18, t1, t2, datO, isO, hj, c1, hj', c2, mkN]
            · rw [em, if_neg c2] at t2
              simp -implicitDefEqProofs (disch := omega) [wrap_of, ilt_t, ilt_f, ile_t, ile_f, nlt_t, nlt_f, nle_t, nle_f, ieq_t, ieq_f, imin_l, imin_r, imax_l, imax_r, take_app1, take_map_all, a16, a18, t1, t2, datO, isO, hj, c1, hj', c2]
end Go.Proofs.Ytnokdfhhnjmeoaa
