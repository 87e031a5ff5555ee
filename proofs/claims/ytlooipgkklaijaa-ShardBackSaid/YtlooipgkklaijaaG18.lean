import Derived.Test.YtlooipgkklaijaaF18
set_option linter.unusedSimpArgs false
set_option linter.unusedVariables false
namespace Go.Proofs.Ytlooipgkklaijaa
open Go.Am Go.Am.Nm Go.Lib Go.Am.Sh

theorem ix_snoc (q : P → Bool) {l : List P} {i : Nat} (h : i < l.length) : ix q (l.take (i + 1)) 0 = ix q (l.take i) 0 ++ bif q l[i] then [i] else [] := by
  rw [List.take_succ_eq_append_getElem h, ix_app]
  simp only [ix, List.append_nil, Nat.zero_add, List.length_take, Nat.min_eq_left (Nat.le_of_lt h)]
/-- Asks whether a piece is so, of a text that stands in a box. -/
def Asks (Γ : Tab) (g : FuncId) (s : List UInt8) (q : P → Bool) : Prop := ∀ (p : P) (h : AH), callA Γ g [D p, .ptr 0 0 0 0] (.var [.str s] :: h) = some (.bool (q p), .var [.str s] :: (h ++ [.var [.str p.pa, .int .i64 p.gr, .int .i64 p.ep]]))
theorem l43 {Γ : Tab} (g : FuncId) (s : List UInt8) (q : P → Bool) (hg : Asks Γ g s q) (l : List P) (hl : l.length ≤ 1000000) (f : Bool) (e0 : Env) (h8 : e0 8 = .lst f (l.map D)) (h9 : e0 9 = .int .i64 l.length) (h1 : e0 1 = .fn (.func g) [] [.ptr 0 0 0 0]) :
    iter (round Γ [5, 10] [(.exit 0, [5])] c43_1 e0 2 [1]) ([.own 1 0 0 0, .int .i64 0], [.var [.str s], .row 0 1 []]) = some (.exit 0, [.own 1 0 0 (ix q l 0).length], [.var [.str s], .row 0 1 ((ix q l 0).map N)]) := by
  have := for_list (f := round Γ [5, 10] [(.exit 0, [5])] c43_1 e0 2 [1]) (fun i (a : List Nat) => ([.own 1 0 0 a.length, .int .i64 (i : Int)], [.var [.str s], .row 0 1 (a.map N)])) (List.range l.length) (fun a i => a ++ bif (l[i]?).elim false q then [i] else []) (fun a => (.exit 0, [.own 1 0 0 a.length], [.var [.str s], .row 0 1 (a.map N)])) (fun i a => a = ix q (l.take i) 0)
    (fun i hi a ha => by
      rw [List.getElem_range]
      have hi' : i < l.length := by simpa using hi
      have hal : a.length ≤ i := by rw [ha]; have := ix_len q (l.take i) 0; rw [List.length_take] at this; omega
      obtain ⟨x, hx⟩ : ∃ x, x = l[i] := ⟨_, rfl⟩
      have hxi : l[i]? = some x := by rw [hx]; exact List.getElem?_eq_getElem hi'
      rw [hxi]
      simp only [Option.elim_some]
      refine ⟨by rw [ix_snoc q hi', ← hx, ha], ?_⟩
      have hgx := hg x
      simp only [D] at hgx
      cases hq : q x with
      | true =>
        rw [hq] at hgx
        simp -implicitDefEqProofs (disch := omega) [wrap_of, ilt_t, ilt_f, ile_t, ile_f, nlt_t, nlt_f, nle_t, nle_f, ieq_t, ieq_f, imin_l, imin_r, imax_l, imax_r, take_app1, take_map_all, round_eq, b43_1, h8, h9, h1, hi', ← hx, hgx]
      | false =>
        rw [hq] at hgx
        simp -implicitDefEqProofs (disch := omega) [wrap_of, ilt_t, ilt_f, ile_t, ile_f, nlt_t, nlt_f, nle_t, nle_f, ieq_t, ieq_f, imin_l, imin_r, imax_l, imax_r, take_app1, take_map_all, round_eq, b43_1, h8, h9, h1, hi', ← hx, hgx])
    (fun a ha => by simp -implicitDefEqProofs (disch := omega) [wrap_of, ilt_t, ilt_f, ile_t, ile_f, nlt_t, nlt_f, nle_t, nle_f, ieq_t, ieq_f, imin_l, imin_r, imax_l, imax_r, take_app1, take_map_all, round_eq, b43_1, h8, h9]) [] (by simp [ix])
  simp only [List.length_nil, List.map_nil, Int.natCast_zero] at this
  rw [this]
  have inv := fold_inv (List.range l.length) (fun (a : List Nat) i => a ++ bif (l[i]?).elim false q then [i] else []) (fun i a => a = ix q (l.take i) 0) 0 [] (fun i hi a ha => by
    rw [List.getElem_range]
    have hi' : i < l.length := by simpa using hi
    rw [Nat.zero_add] at ha ⊢
    rw [ix_snoc q hi', ha, List.getElem?_eq_getElem hi']; rfl) (by simp [ix])
  rw [Nat.zero_add, List.length_range, List.take_length] at inv
  rw [inv]
/-- shard.all -/
theorem s43 {n : Nat} (hn : 24 < n) (g : FuncId) (s : List UInt8) (q : P → Bool) (hg : Asks (C18.tab 24) g s q) (l : List P) (hl : l.length ≤ 1000000) (f : Bool) :
    callA (C18.tab n) 43 [.lst f (l.map D), .fn (.func g) [] [.ptr 0 0 0 0]] [.var [.str s]] = some (.own 1 0 0 (ix q l 0).length, [.var [.str s], .row 0 1 ((ix q l 0).map N)]) := by
  rw [p43 hn, runH_eq]
  simp -implicitDefEqProofs (disch := omega) [wrap_of, ilt_t, ilt_f, ile_t, ile_f, nlt_t, nlt_f, nle_t, nle_f, ieq_t, ieq_f, imin_l, imin_r, imax_l, imax_r, take_app1, take_map_all, c43]
  rw [l43 g s q hg l hl f _ (by simp -implicitDefEqProofs (disch := omega) [wrap_of, ilt_t, ilt_f, ile_t, ile_f, nlt_t, nlt_f, nle_t, nle_f, ieq_t, ieq_f, imin_l, imin_r, imax_l, imax_r, take_app1, take_map_all, ]) (by simp -implicitDefEqProofs (disch := omega) [wrap_of, ilt_t, ilt_f, ile_t, ile_f, nlt_t, nlt_f, nle_t, nle_f, ieq_t, ieq_f, imin_l, imin_r, imax_l, imax_r, take_app1, take_map_all, ]) (by simp -implicitDefEqProofs (disch := omega) [wrap_of, ilt_t, ilt_f, ile_t, ile_f, nlt_t, nlt_f, nle_t, nle_f, ieq_t, ieq_f, imin_l, imin_r, imax_l, imax_r, take_app1, take_map_all, ])]
  simp -implicitDefEqProofs (disch := omega) [wrap_of, ilt_t, ilt_f, ile_t, ile_f, nlt_t, nlt_f, nle_t, nle_f, ieq_t, ieq_f, imin_l, imin_r, imax_l, imax_r, take_app1, take_map_all, ]
/-- The places of the pieces above a path. -/
def abo (l : List P) (s : List UInt8) : List Nat := ix (fun p => abv p.pa s) l 0
def bel (l : List P) (s : List UInt8) : List Nat := ix (fun p => abv s p.pa) l 0
/-- The place of the piece that has a path. -/
def ofI (l : List P) (s : List UInt8) : Nat := (abo l s).getLast?.getD 0
@[simp] theorem isE_N (l : List Nat) : (l.map N).all AV.isS = true := by simp
theorem s20 {n : Nat} (hn : 25 < n) (l : List P) (hl : l.length ≤ 1000000) (f : Bool) (s : List UInt8) (hne : isP s = true → abo l s ≠ []) :
    (C18.tab n).p 20 [.lst f (l.map D), .str s] = some (if isP s = true then .tup [.int .i64 (ofI l s : Int), .int .i64 0] else .tup [.int .i64 0, .int .i64 60]) := by
  rw [p20 hn, runP_eq, runH_eq]
  have h33 := s33 (n := 25) (by decide) s
  cases hp : isP s with
  | false =>
    rw [hp] at h33
    simp -implicitDefEqProofs (disch := omega) [wrap_of, ilt_t, ilt_f, ile_t, ile_f, nlt_t, nlt_f, nle_t, nle_f, ieq_t, ieq_f, imin_l, imin_r, imax_l, imax_r, take_app1, take_map_all, c20, a33, h33]
  | true =>
    rw [hp] at h33
    have h43 := s43 (n := 25) (by decide) 44 s (fun p => abv p.pa s) (fun p h => s44 (by decide) p s h) l hl f
    have hne' := hne hp
    unfold ofI
    unfold abo at hne' ⊢
    have hle := ix_len (fun p => abv p.pa s) l 0
    generalize ix (fun p => abv p.pa s) l 0 = a at *
    rcases List.eq_nil_or_concat a with h0 | ⟨b, x, h0⟩
    · exact absurd h0 hne'
    · simp only [List.concat_eq_append] at h0
      subst h0
      simp only [List.map_append, List.map_cons, List.map_nil, List.length_append, List.length_cons, List.length_nil] at h43 hle
      have hg : (b.map N ++ [N x])[b.length]? = some (N x) := by simp
      simp -implicitDefEqProofs (disch := omega) [wrap_of, ilt_t, ilt_f, ile_t, ile_f, nlt_t, nlt_f, nle_t, nle_f, ieq_t, ieq_f, imin_l, imin_r, imax_l, imax_r, take_app1, take_map_all, c20, a33, h33, h43, hg]
theorem s23 {n : Nat} (hn : 27 < n) (l : List P) (hl : l.length ≤ 1000000) (f : Bool) (s : List UInt8) :
    (C18.tab n).p 23 [.lst f (l.map D), .str s] = some (.lst (!isP s) (if isP s = true then (bel l s).map N else [])) := by
  rw [p23 hn, runP_eq, runH_eq]
  have h33 := s33 (n := 27) (by decide) s
  cases hp : isP s with
  | false =>
    rw [hp] at h33
    simp -implicitDefEqProofs (disch := omega) [wrap_of, ilt_t, ilt_f, ile_t, ile_f, nlt_t, nlt_f, nle_t, nle_f, ieq_t, ieq_f, imin_l, imin_r, imax_l, imax_r, take_app1, take_map_all, c23, a33, h33]
  | true =>
    rw [hp] at h33
    have h43 := s43 (n := 27) (by decide) 46 s (fun p => abv s p.pa) (fun p h => s46 (by decide) p s h) l hl f
    unfold bel
    generalize ix (fun p => abv s p.pa) l 0 = a at *
    simp -implicitDefEqProofs (disch := omega) [wrap_of, ilt_t, ilt_f, ile_t, ile_f, nlt_t, nlt_f, nle_t, nle_f, ieq_t, ieq_f, imin_l, imin_r, imax_l, imax_r, take_app1, take_map_all, c23, a33, h33, h43]
end Go.Proofs.Ytlooipgkklaijaa
