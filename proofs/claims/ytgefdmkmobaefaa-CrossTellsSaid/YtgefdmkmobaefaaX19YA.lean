import Derived.Test.YtgefdmkmobaefaaX19GP
set_option linter.unusedSimpArgs false
set_option linter.unusedVariables false
namespace Go.Proofs.Ytgefdmkmobaefaa
open Go.Am Go.Am.Nm Go.Lib Go.Cr
theorem s83 {n : Nat} (hn : 77 < n) (b : Bo) (id : Int) (hl : b.cases.length ≤ 1000000) : (C19.tab n).p 83 [Bv b, I id] = some (I (placeI b id)) := by
 rw [p83 hn, runP_eq, runH_eq]
 have h : ∀ e0 : Env, e0 2 = .rptr [I b.id, I b.next, .lst b.fc (b.cases.map Cv)] → e0 1 = I id → iter (round (C19.tab 77) [5] [(.exit 0, []), (.ret, [4])] c83_1 e0 0 []) ([.int .i64 0], []) = some ((b.cases.find? fun c => decide (c.de.id = id)).elim (.exit 0, [], []) fun _ => (.ret, [.int .i64 (b.cases.findIdx fun c => decide (c.de.id = id) : Nat)], [])) := fun e0 h0 h1 =>
  for_idx (f := round (C19.tab 77) [5] [(.exit 0, []), (.ret, [4])] c83_1 e0 0 []) (fun i => ([.int .i64 (i : Int)], [])) b.cases (fun c => decide (c.de.id = id)) (fun i _ => (.ret, [.int .i64 (i : Int)], [])) (.exit 0, [], [])
   (fun i hi => by
    obtain ⟨y, hy⟩ : ∃ y, y = b.cases[i] := ⟨_, rfl⟩
    rw [← hy]
    by_cases h : y.de.id = id
    ·simp -implicitDefEqProofs (disch := omega) [round_eq, b83_1, h0, h1, hi, ← hy, h, Cv]
    ·simp -implicitDefEqProofs (disch := omega) [round_eq, b83_1, h0, h1, hi, ← hy, h, Cv])
   (by simp -implicitDefEqProofs (disch := omega) [round_eq, b83_1, h0, h1])
 simp -implicitDefEqProofs (disch := omega) [c83, Bv]
 rw [h _ (by simp -implicitDefEqProofs (disch := omega)) (by simp -implicitDefEqProofs (disch := omega))]
 unfold placeI caseAt
 cases hf : b.cases.find? fun c => decide (c.de.id = id) with
 | none => simp -implicitDefEqProofs (disch := omega)
 | some y => simp -implicitDefEqProofs (disch := omega)
theorem s87 {n : Nat} (hn : 82 < n) (p : Pt) (x : Int) (hl : p.ready.length ≤ 1000000) : (C19.tab n).p 87 [Pv p, I x] = some (.bool (p.ready.any fun r => decide (r.id = x))) := by
 rw [p87 hn, runP_eq, runH_eq]
 have h : ∀ e0 : Env, e0 2 = .rptr [I p.id, .lst p.fr (p.ready.map Rv), .lst p.fd (p.did.map I)] → e0 1 = I x → iter (round (C19.tab 82) [5] [(.exit 0, []), (.ret, [4])] c87_1 e0 0 []) ([.int .i64 0], []) = some (if p.ready.all (fun y => decide (y.id ≠ x)) = true then (.exit 0, [], []) else (.ret, [.bool true], [])) := fun e0 h0 h1 =>
  for_all (f := round (C19.tab 82) [5] [(.exit 0, []), (.ret, [4])] c87_1 e0 0 []) (fun i => ([.int .i64 (i : Int)], [])) p.ready (fun y => decide (y.id ≠ x)) (.exit 0, [], []) (.ret, [.bool true], [])
   (fun i hi => by
    obtain ⟨y, hy⟩ : ∃ y, y = p.ready[i] := ⟨_, rfl⟩
    rw [← hy]
    by_cases c : y.id = x
    ·simp -implicitDefEqProofs (disch := omega) [round_eq, b87_1, h0, h1, hi, ← hy, c, Rv]
     done
    ·simp -implicitDefEqProofs (disch := omega) [round_eq, b87_1, h0, h1, hi, ← hy, c, Rv]
     done)
   (by simp -implicitDefEqProofs (disch := omega) [round_eq, b87_1, h0, h1])
 simp -implicitDefEqProofs (disch := omega) [c87, Pv]
 rw [h _ (by simp -implicitDefEqProofs (disch := omega)) (by simp -implicitDefEqProofs (disch := omega))]
 have e : (p.ready.any fun r => decide (r.id = x)) = !(p.ready.all fun y => decide (y.id ≠ x)) := by
  rw [List.not_all_eq_any_not]
  congr 1
  funext r
  simp
 rw [e]
 cases p.ready.all fun y => decide (y.id ≠ x) <;> simp -implicitDefEqProofs (disch := omega)
theorem s27 {n : Nat} (hn : 76 < n) (p : Pt) (path : List UInt8) (hl : p.ready.length ≤ 1000000) (hp : path.length ≤ 1000000000) (hr : ∀ r ∈ p.ready, r.path.length ≤ 1000000000) : (C19.tab n).p 27 [Pv p, .str path] = some (.bool (lockedP isPth clsh p path)) := by
 rw [p27 hn, runP_eq, runH_eq]
 have h44 := s44 (n := 76) (by decide) path hp
 have h : ∀ e0 : Env, e0 2 = .rptr [I p.id, .lst p.fr (p.ready.map Rv), .lst p.fd (p.did.map I)] → e0 1 = .str path → e0 5 = .bool (isPth path) → iter (round (C19.tab 76) [6] [(.exit 0, []), (.ret, [4])] c27_1 e0 0 []) ([.int .i64 0], []) = some (if p.ready.all (fun r => !(isPth path && clsh r.path path)) = true then (.exit 0, [], []) else (.ret, [.bool true], [])) := fun e0 h0 h1 h5 =>
  for_all (f := round (C19.tab 76) [6] [(.exit 0, []), (.ret, [4])] c27_1 e0 0 []) (fun i => ([.int .i64 (i : Int)], [])) p.ready (fun r => !(isPth path && clsh r.path path)) (.exit 0, [], []) (.ret, [.bool true], [])
   (fun i hi => by
    obtain ⟨y, hy⟩ : ∃ y, y = p.ready[i] := ⟨_, rfl⟩
    have hyl := hr y (hy ▸ List.getElem_mem hi)
    have h57 := s57 (n := 76) (by decide) y.path path hyl hp
    rw [← hy]
    cases c : isPth path <;> cases d : clsh y.path path <;> (rw [d] at h57; rw [c] at h5; simp -implicitDefEqProofs (disch := omega) [round_eq, b27_1, h0, h1, h5, hi, ← hy, a57, h57, Rv]; done))
   (by simp -implicitDefEqProofs (disch := omega) [round_eq, b27_1, h0, h1])
 simp -implicitDefEqProofs (disch := omega) [c27, Pv, a44, h44]
 rw [h _ (by simp -implicitDefEqProofs (disch := omega)) (by simp -implicitDefEqProofs (disch := omega)) (by simp -implicitDefEqProofs (disch := omega))]
 have e : lockedP isPth clsh p path = !(p.ready.all fun r => !(isPth path && clsh r.path path)) := by
  unfold lockedP
  rw [List.not_all_eq_any_not]
  cases isPth path <;> simp
 rw [e]
 cases p.ready.all fun r => !(isPth path && clsh r.path path) <;> simp -implicitDefEqProofs (disch := omega)
theorem s86 {n : Nat} (hn : 80 < n) (b : Bo) (c : Ca) (k : Int) (hl : c.de.grs.length ≤ 1000000) : (C19.tab n).p 86 [Bv b, Cv c, I k] = some (.lst false ((allP b c.de k).map Mv)) := by
 rw [p86 hn, runP_eq, runH_eq]
 have h : ∀ e0 : Env, e0 3 = .rptr [I b.id, I b.next, .lst b.fc (b.cases.map Cv)] → e0 4 = .rptr (cells c) → e0 2 = I k →
   iter (round (C19.tab 80) [7, 8] [(.exit 0, [7])] c86_1 e0 1 [0]) ([.own 0 0 0 0, .int .i64 0], [.row 0 5 []]) = some (.exit 0, [.own 0 0 0 (allP b c.de k).length], [.row 0 5 ((allP b c.de k).map Mv)]) := fun e0 h3 h4 h2 => by
  have := for_list (f := round (C19.tab 80) [7, 8] [(.exit 0, [7])] c86_1 e0 1 [0]) (fun i (s : List Mg) => ([.own 0 0 0 s.length, .int .i64 (i : Int)], [.row 0 5 (s.map Mv)])) c.de.grs
   (fun s g => s ++ [msgP b.id g k c.de.id]) (fun s => (.exit 0, [.own 0 0 0 s.length], [.row 0 5 (s.map Mv)])) (fun i s => s.length = i)
   (fun i hi s hs => by
    refine ⟨by simp [hs], ?_⟩
    obtain ⟨x, hx⟩ : ∃ x, x = c.de.grs[i] := ⟨_, rfl⟩
    have h38 := s38 (n := 80) (by decide) b.id x k c.de.id
    simp only [Mv] at h38
    rw [← hx]
    simp -implicitDefEqProofs (disch := omega) [round_eq, b86_1, cells, h2, h3, h4, hi, ← hx, a38, h38, hs, Mv, szM]
    done)
   (fun s hs => by
    simp -implicitDefEqProofs (disch := omega) [round_eq, b86_1, cells, h4, hs]
    done) [] rfl
  rw [foldl_snoc] at this
  simpa [allP] using this
 have hal := allP_len b c.de k
 simp -implicitDefEqProofs (disch := omega) [c86, Bv, Cv]
 rw [h _ (by simp -implicitDefEqProofs (disch := omega)) (by simp -implicitDefEqProofs (disch := omega) [cells]) (by simp -implicitDefEqProofs (disch := omega))]
 simp -implicitDefEqProofs (disch := omega) [szM, hal]
end Go.Proofs.Ytgefdmkmobaefaa

namespace Go.Proofs.Ytgefdmkmobaefaa
open Go.Am Go.Am.Nm Go.Lib Go.Cr
def G8 : List Int := (List.range 8).map Int.ofNat
theorem G8_len : G8.length = 8 := rfl
theorem G8_get (i : Nat) (h : i < G8.length) : G8[i] = (i : Int) := by simp [G8]
def hear8 (l : List Int) (w : Int) : List Int := G8.filter fun g => decide (g ∈ l) || decide (g = w)
theorem s84 {n : Nat} (hn : 78 < n) (c : Ca) (w : Int) (hl : c.heard.length ≤ 1000000) : (C19.tab n).p 84 [Cv c, I w] = some (Cv ⟨c.de, c.sure, false, hear8 c.heard w⟩) := by
 rw [p84 hn, runP_eq, runH_eq]
 have h : ∀ e0 : Env, e0 2 = .rptr (cells c) → e0 5 = .ptr 1 0 0 0 → e0 1 = I w →
   iter (roundA (C19.tab 78) 2 [(5, 4, 1)] [6] [(.exit 0, [])] c84_1 e0 3 [2]) ([.int .i64 0], [.var [.int .i64 0, .lst true [], .lst true [], .bool false, .lst true []], .var [I c.de.id, .lst c.de.fg (c.de.grs.map I), .lst c.de.fp (c.de.pas.map AV.str), .bool c.sure, .own 2 0 0 0], .row 0 1 []]) =
    some (.exit 0, [], [.var [.int .i64 0, .lst true [], .lst true [], .bool false, .lst true []], .var [I c.de.id, .lst c.de.fg (c.de.grs.map I), .lst c.de.fp (c.de.pas.map AV.str), .bool c.sure, .own 2 0 0 (hear8 c.heard w).length], .row 0 1 ((hear8 c.heard w).map I)]) := fun e0 h2 h5 h1 => by
  have := for_list (f := roundA (C19.tab 78) 2 [(5, 4, 1)] [6] [(.exit 0, [])] c84_1 e0 3 [2]) (fun i (s : List Int) => ([.int .i64 (i : Int)], [.var [.int .i64 0, .lst true [], .lst true [], .bool false, .lst true []], .var [I c.de.id, .lst c.de.fg (c.de.grs.map I), .lst c.de.fp (c.de.pas.map AV.str), .bool c.sure, .own 2 0 0 s.length], .row 0 1 (s.map I)])) G8
   (fun s g => s ++ if (decide (g ∈ c.heard) || decide (g = w)) = true then [g] else []) (fun s => (.exit 0, [], [.var [.int .i64 0, .lst true [], .lst true [], .bool false, .lst true []], .var [I c.de.id, .lst c.de.fg (c.de.grs.map I), .lst c.de.fp (c.de.pas.map AV.str), .bool c.sure, .own 2 0 0 s.length], .row 0 1 (s.map I)])) (fun i s => s.length ≤ i)
   (fun i hi s hs => by
    obtain ⟨x, hx⟩ : ∃ x, x = G8[i] := ⟨_, rfl⟩
    rw [← hx]
    have hxi : x = (i : Int) := by rw [hx]; exact G8_get i hi
    clear hx
    have hi8 : i < 8 := hi
    subst hxi
    have h50 := s50 (n := 78) (by decide) c.heard (i : Int) c.fh hl
    by_cases hm : (i : Int) ∈ c.heard
    ·rw [decide_eq_true hm] at h50 ⊢
     refine ⟨by simp; omega, ?_⟩
     simp -implicitDefEqProofs (disch := omega) [roundA_eq, b84_1, cells, h1, h2, h5, hi8, a50, h50]
     done
    ·rw [decide_eq_false hm] at h50 ⊢
     by_cases hw : (i : Int) = w
     ·refine ⟨by simp [hw]; omega, ?_⟩
      subst hw
      simp -implicitDefEqProofs (disch := omega) [roundA_eq, b84_1, cells, h1, h2, h5, hi8, a50, h50]
      done
     ·refine ⟨by simp [hw]; omega, ?_⟩
      simp -implicitDefEqProofs (disch := omega) [roundA_eq, b84_1, cells, h1, h2, h5, hi8, a50, h50, hw]
      done)
   (fun s hs => by
    simp -implicitDefEqProofs (disch := omega) [roundA_eq, b84_1, h2, h5, G8_len]
    done) [] (Nat.le_refl _)
  rw [foldl_app, filter_flat, List.nil_append] at this
  exact this
 simp -implicitDefEqProofs (disch := omega) [c84, Cv, sh3]
 rw [h _ (by simp -implicitDefEqProofs (disch := omega) [cells]) (by simp -implicitDefEqProofs (disch := omega)) (by simp -implicitDefEqProofs (disch := omega))]
 simp -implicitDefEqProofs (disch := omega) [szC]
end Go.Proofs.Ytgefdmkmobaefaa

namespace Go.Proofs.Ytgefdmkmobaefaa
open Go.Am Go.Am.Nm Go.Lib Go.Cr
def putAt (k : Nat) (c : Ca) (g : Bool) (x : Ca × Nat) : List Ca := if x.2 = k then if g = true then [] else [c] else [x.1]
theorem putAt_far (k : Nat) (c : Ca) (g : Bool) : ∀ (l : List Ca) (j : Nat), k < j → ((l.zipIdx j).map (putAt k c g)).flatten = l
 | [], _, _ => rfl
 | x :: l, j, h => by
  simp only [List.zipIdx_cons, List.map_cons, List.flatten_cons, putAt_far k c g l (j + 1) (by omega)]
  unfold putAt
  rw [if_neg (by simp only; omega)]
  rfl
theorem putAt_all (c : Ca) (g : Bool) : ∀ (l : List Ca) (j k : Nat), ((l.zipIdx j).map (putAt (j + k) c g)).flatten = if g = true then l.eraseIdx k else l.set k c
 | [], _, _ => by cases g <;> rfl
 | x :: l, j, 0 => by
  simp only [List.zipIdx_cons, List.map_cons, List.flatten_cons, Nat.add_zero]
  rw [putAt_far j c g l (j + 1) (by omega)]
  unfold putAt
  rw [if_pos rfl]
  cases g <;> rfl
 | x :: l, j, k + 1 => by
  simp only [List.zipIdx_cons, List.map_cons, List.flatten_cons]
  have := putAt_all c g l (j + 1) k
  rw [show j + 1 + k = j + (k + 1) by omega] at this
  rw [this]
  unfold putAt
  rw [if_neg (by simp only; omega)]
  cases g <;> rfl
theorem zipIdx_get (l : List Ca) (i : Nat) (h : i < l.zipIdx.length) (h' : i < l.length) : l.zipIdx[i] = (l[i], i) := by simp
theorem s85 {n : Nat} (hn : 79 < n) (b : Bo) (k : Nat) (c : Ca) (g : Bool) (hl : b.cases.length ≤ 1000000) : (C19.tab n).p 85 [Bv b, I k, Cv c, .bool g] = some (Bv (withC b (if g = true then b.cases.eraseIdx k else b.cases.set k c))) := by
 rw [p85 hn, runP_eq, runH_eq]
 have hz : (b.cases.zipIdx).length = b.cases.length := by simp
 have h : ∀ e0 : Env, e0 4 = .rptr [I b.id, I b.next, .lst b.fc (b.cases.map Cv)] → e0 6 = .rptr (cells c) → e0 9 = .ptr 1 0 0 0 → e0 1 = I k → e0 3 = .bool g →
   iter (roundA (C19.tab 79) 2 [(9, 2, 5)] [10] [(.exit 0, [])] c85_1 e0 3 [2]) ([.int .i64 0], [.var [.int .i64 0, .int .i64 0, .lst true []], .var [I b.id, I b.next, .own 2 0 0 0], .row 0 5 []]) =
    some (.exit 0, [], [.var [.int .i64 0, .int .i64 0, .lst true []], .var [I b.id, I b.next, .own 2 0 0 (if g = true then b.cases.eraseIdx k else b.cases.set k c).length], .row 0 5 ((if g = true then b.cases.eraseIdx k else b.cases.set k c).map Cv)]) := fun e0 h4 h6 h9 h1 h3 => by
  have := for_list (f := roundA (C19.tab 79) 2 [(9, 2, 5)] [10] [(.exit 0, [])] c85_1 e0 3 [2]) (fun i (s : List Ca) => ([.int .i64 (i : Int)], [.var [.int .i64 0, .int .i64 0, .lst true []], .var [I b.id, I b.next, .own 2 0 0 s.length], .row 0 5 (s.map Cv)])) b.cases.zipIdx
   (fun s x => s ++ putAt k c g x) (fun s => (.exit 0, [], [.var [.int .i64 0, .int .i64 0, .lst true []], .var [I b.id, I b.next, .own 2 0 0 s.length], .row 0 5 (s.map Cv)])) (fun i s => s.length ≤ i)
   (fun i hi s hs => by
    obtain ⟨z, hz'⟩ : ∃ z, z = b.cases.zipIdx[i] := ⟨_, rfl⟩
    rw [← hz']
    have hi' : i < b.cases.length := by omega
    rw [zipIdx_get b.cases i hi hi'] at hz'
    obtain ⟨x, hx⟩ : ∃ x, x = b.cases[i] := ⟨_, rfl⟩
    rw [← hx] at hz'
    subst hz'
    unfold putAt
    by_cases hk : i = k
    ·simp only [if_pos hk]
     subst hk
     cases g
     ·refine ⟨by simp; omega, ?_⟩
      simp -implicitDefEqProofs (disch := omega) [roundA_eq, b85_1, cells, h1, h3, h4, h6, h9, hi', ← hx, Cv, szC]
      done
     ·refine ⟨by simp; omega, ?_⟩
      simp -implicitDefEqProofs (disch := omega) [roundA_eq, b85_1, cells, h1, h3, h4, h6, h9, hi', ← hx, Cv]
      done
    ·simp only [if_neg hk]
     refine ⟨by simp; omega, ?_⟩
     simp -implicitDefEqProofs (disch := omega) [roundA_eq, b85_1, h1, h3, h4, h9, hi', ← hx, Cv, szC, hk]
     done)
   (fun s hs => by
    simp -implicitDefEqProofs (disch := omega) [roundA_eq, b85_1, h4, h9, hz]
    done) [] (Nat.le_refl _)
  rw [foldl_app] at this
  have e := putAt_all c g b.cases 0 k
  rw [Nat.zero_add] at e
  rw [e, List.nil_append] at this
  exact this
 simp -implicitDefEqProofs (disch := omega) [c85, Bv, Cv]
 rw [h _ (by simp -implicitDefEqProofs (disch := omega)) (by simp -implicitDefEqProofs (disch := omega) [cells]) (by simp -implicitDefEqProofs (disch := omega)) (by simp -implicitDefEqProofs (disch := omega)) (by simp -implicitDefEqProofs (disch := omega))]
 simp -implicitDefEqProofs (disch := omega) [szC, withC]
def unrd (p : Pt) (id : Int) : List Rd := p.ready.filter fun r => decide (r.id ≠ id)
theorem s88 {n : Nat} (hn : 83 < n) (p : Pt) (id : Int) (hl : p.ready.length ≤ 1000000) :
  ∃ E, E.length = 2 ∧ callA (C19.tab n) 88 [Pv p, I id] [.var [.int .i64 0, .lst true [], .lst true []]] = some (.agg [I p.id, .own 3 0 0 (unrd p id).length, .lst p.fd (p.did.map I)], [.var [.int .i64 0, .lst true [], .lst true []]] ++ E ++ [.row 0 2 ((unrd p id).map Rv)]) := by
 refine ⟨[.var [I p.id, .own 3 0 0 (unrd p id).length, .lst p.fd (p.did.map I)], .var [I p.id, .own 3 0 0 (unrd p id).length, .lst p.fd (p.did.map I)]], rfl, ?_⟩
 rw [p88 hn, runH_eq]
 have h : ∀ e0 : Env, e0 2 = .rptr [I p.id, .lst p.fr (p.ready.map Rv), .lst p.fd (p.did.map I)] → e0 5 = .ptr 2 0 0 0 → e0 1 = I id →
   iter (roundA (C19.tab 83) 3 [(5, 1, 2)] [6] [(.exit 0, [])] c88_1 e0 4 [3]) ([.int .i64 0], [.var [.int .i64 0, .lst true [], .lst true []], .var [.int .i64 0, .lst true [], .lst true []], .var [I p.id, .own 3 0 0 0, .lst p.fd (p.did.map I)], .row 0 2 []]) =
    some (.exit 0, [], [.var [.int .i64 0, .lst true [], .lst true []], .var [.int .i64 0, .lst true [], .lst true []], .var [I p.id, .own 3 0 0 (unrd p id).length, .lst p.fd (p.did.map I)], .row 0 2 ((unrd p id).map Rv)]) := fun e0 h2 h5 h1 => by
  have := for_list (f := roundA (C19.tab 83) 3 [(5, 1, 2)] [6] [(.exit 0, [])] c88_1 e0 4 [3]) (fun i (s : List Rd) => ([.int .i64 (i : Int)], [.var [.int .i64 0, .lst true [], .lst true []], .var [.int .i64 0, .lst true [], .lst true []], .var [I p.id, .own 3 0 0 s.length, .lst p.fd (p.did.map I)], .row 0 2 (s.map Rv)])) p.ready
   (fun s r => s ++ if decide (r.id ≠ id) = true then [r] else []) (fun s => (.exit 0, [], [.var [.int .i64 0, .lst true [], .lst true []], .var [.int .i64 0, .lst true [], .lst true []], .var [I p.id, .own 3 0 0 s.length, .lst p.fd (p.did.map I)], .row 0 2 (s.map Rv)])) (fun i s => s.length ≤ i)
   (fun i hi s hs => by
    obtain ⟨x, hx⟩ : ∃ x, x = p.ready[i] := ⟨_, rfl⟩
    rw [← hx]
    by_cases hk : x.id = id
    ·simp only [hk, ne_eq, not_true_eq_false, decide_false, Bool.false_eq_true, if_false]
     refine ⟨by simp; omega, ?_⟩
     simp -implicitDefEqProofs (disch := omega) [roundA_eq, b88_1, h1, h2, h5, hi, ← hx, Rv, hk]
     done
    ·simp only [ne_eq, hk, not_false_eq_true, decide_true, if_true]
     refine ⟨by simp; omega, ?_⟩
     simp -implicitDefEqProofs (disch := omega) [roundA_eq, b88_1, h1, h2, h5, hi, ← hx, Rv, szR, hk]
     done)
   (fun s hs => by
    simp -implicitDefEqProofs (disch := omega) [roundA_eq, b88_1, h2, h5]
    done) [] (Nat.le_refl _)
  rw [foldl_app, filter_flat, List.nil_append] at this
  exact this
 simp -implicitDefEqProofs (disch := omega) [c88, Pv]
 rw [h _ (by simp -implicitDefEqProofs (disch := omega)) (by simp -implicitDefEqProofs (disch := omega)) (by simp -implicitDefEqProofs (disch := omega))]
 simp -implicitDefEqProofs (disch := omega) [szR]
end Go.Proofs.Ytgefdmkmobaefaa

namespace Go.Proofs.Ytgefdmkmobaefaa
open Go.Am Go.Am.Nm Go.Lib Go.Cr
def telC (b : Bo) (i : Nat) (c : Ca) (g k : Int) : Bo × List Mg :=
 if c.sure = true then
  if k = 5 then (withC b (if (hear8 c.heard g).length = c.de.grs.length then b.cases.eraseIdx i else b.cases.set i ⟨c.de, c.sure, false, hear8 c.heard g⟩), [])
  else if k = 3 then (b, []) else (b, [msgP b.id g 4 c.de.id])
 else
  if k = 3 then (withC b (b.cases.eraseIdx i), allP b c.de 6)
  else if k = 2 then
   if (hear8 c.heard g).length = c.de.grs.length then (withC b (b.cases.set i ⟨c.de, true, true, []⟩), allP b c.de 4) else (withC b (b.cases.set i ⟨c.de, c.sure, false, hear8 c.heard g⟩), [])
  else (b, [])
def telR (b : Bo) (m : Mg) : Bo × List Mg :=
 if m.to = b.id ∧ m.nums.length = 1 ∧ (m.kind = 2 ∨ m.kind = 3 ∨ m.kind = 5 ∨ m.kind = 7) then
  match b.cases[caseAt b (m.nums.headD 0)]? with
  | none => if m.kind = 2 ∨ m.kind = 7 then (b, [msgP b.id m.fr 6 (m.nums.headD 0)]) else (b, [])
  | some c => if m.fr ∈ c.de.grs then telC b (caseAt b (m.nums.headD 0)) c m.fr m.kind else (b, [])
 else (b, [])
theorem telR_eq (b : Bo) (fr id k : Int) (hk : k = 2 ∨ k = 3 ∨ k = 5 ∨ k = 7) (fn fd : Bool) (da : List UInt8) : telR b ⟨fr, b.id, k, fn, [id], fd, da⟩ =
  match b.cases[caseAt b id]? with
  | none => if k = 2 ∨ k = 7 then (b, [msgP b.id fr 6 id]) else (b, [])
  | some c => if fr ∈ c.de.grs then telC b (caseAt b id) c fr k else (b, []) := by
 unfold telR
 exact if_pos ⟨rfl, rfl, hk⟩
theorem s58_k {n : Nat} (hn : 81 < n) (b : Bo) (fr id k : Int) (hk : k = 2 ∨ k = 3 ∨ k = 5 ∨ k = 7) (fn fd : Bool) (da : List UInt8) (hb : OkB b) : ∃ fo, (C19.tab n).p 58 [Bv b, Mv ⟨fr, b.id, k, fn, [id], fd, da⟩] = some (.tup [Bv (telR b ⟨fr, b.id, k, fn, [id], fd, da⟩).1, .lst fo ((telR b ⟨fr, b.id, k, fn, [id], fd, da⟩).2.map Mv)]) := by
 rw [p58 hn, runP_eq, runH_eq]
 have h83 := s83 (n := 81) (by decide) b id hb.1
 simp only [Bv] at h83
 rw [telR_eq b fr id k hk]
 cases hf : b.cases.find? fun c => decide (c.de.id = id) with
 | none =>
  obtain ⟨q1, q2⟩ := caseAt_none hf
  rw [q2] at h83
  rw [q1]
  have h38 := s38 (n := 81) (by decide) b.id fr 6 id
  simp only [Mv, Bs] at h38
  rcases hk with rfl | rfl | rfl | rfl
  ·refine ⟨true, ?_⟩
   simp -implicitDefEqProofs (disch := omega) [c58, Bv, Mv, Bs, a83, h83, a38, h38]
   done
  ·refine ⟨true, ?_⟩
   simp -implicitDefEqProofs (disch := omega) [c58, Bv, Mv, Bs, a83, h83, a38, h38]
   done
  ·refine ⟨true, ?_⟩
   simp -implicitDefEqProofs (disch := omega) [c58, Bv, Mv, Bs, a83, h83, a38, h38]
   done
  ·refine ⟨true, ?_⟩
   simp -implicitDefEqProofs (disch := omega) [c58, Bv, Mv, Bs, a83, h83, a38, h38]
   done
 | some c =>
  obtain ⟨hi, hc, q1, q2⟩ := caseAt_some hf
  rw [q2] at h83
  rw [q1]
  generalize caseAt b id = i at hi hc q1 h83
  obtain ⟨⟨hg, -, hhl⟩, hh⟩ := hb.2 c (hc ▸ List.getElem_mem hi)
  have hcl := hb.1
  have h50 := s50 (n := 81) (by decide) c.de.grs fr c.de.fg hg
  by_cases hm : fr ∈ c.de.grs
  ·rw [decide_eq_true hm] at h50
   simp only [if_pos hm]
   have h84 := s84 (n := 81) (by decide) c fr hhl
   have h85 := fun x g => s85 (n := 81) (by decide) b i x g hcl
   have h86 := fun k => s86 (n := 81) (by decide) b c k hg
   have h38 := s38 (n := 81) (by decide) b.id fr 4 c.de.id
   obtain ⟨di, su, fh, he⟩ := c
   unfold telC
   simp only at hg hhl h50 h84 h86 h38 hm ⊢
   generalize hear8 he fr = H at h84 ⊢
   have hwa := h85 ⟨di, su, false, H⟩ true
   have hwb := h85 ⟨di, su, false, H⟩ false
   have hwc := h85 ⟨di, true, true, []⟩ false
   have hwd := h85 ⟨di, su, fh, he⟩ true
   simp only [Cv, Bv, Mv, Bs, withC, List.map_nil, if_true, Bool.false_eq_true, if_false] at h84 h86 h38 hwa hwb hwc hwd
   cases su with
   | true =>
    rcases hk with rfl | rfl | rfl | rfl
    ·refine ⟨true, ?_⟩
     simp -implicitDefEqProofs (disch := omega) [c58, Bv, Mv, Bs, a83, h83, hi, ← hc, Cv, a50, h50, a84, h84, a38, h38, sh3]
     done
    ·refine ⟨true, ?_⟩
     simp -implicitDefEqProofs (disch := omega) [c58, Bv, Mv, Bs, a83, h83, hi, ← hc, Cv, a50, h50, a84, h84, sh3]
     done
    ·refine ⟨true, ?_⟩
     by_cases hq : H.length = di.grs.length
     ·simp -implicitDefEqProofs (disch := omega) [c58, Bv, Mv, Bs, a83, h83, hi, ← hc, Cv, a50, h50, a84, h84, a85, hwa, sh3, hq, withC]
      done
     ·simp -implicitDefEqProofs (disch := omega) [c58, Bv, Mv, Bs, a83, h83, hi, ← hc, Cv, a50, h50, a84, h84, a85, hwb, sh3, hq, withC]
      done
    ·refine ⟨true, ?_⟩
     simp -implicitDefEqProofs (disch := omega) [c58, Bv, Mv, Bs, a83, h83, hi, ← hc, Cv, a50, h50, a84, h84, a38, h38, sh3]
     done
   | false =>
    rcases hk with rfl | rfl | rfl | rfl
    ·by_cases hq : H.length = di.grs.length
     ·refine ⟨false, ?_⟩
      simp -implicitDefEqProofs (disch := omega) [c58, Bv, Mv, Bs, a83, h83, hi, ← hc, Cv, a50, h50, a84, h84, a85, hwc, a86, h86, sh3, hq, withC]
      done
     ·refine ⟨true, ?_⟩
      simp -implicitDefEqProofs (disch := omega) [c58, Bv, Mv, Bs, a83, h83, hi, ← hc, Cv, a50, h50, a84, h84, a85, hwb, sh3, hq, withC]
      done
    ·refine ⟨false, ?_⟩
     simp -implicitDefEqProofs (disch := omega) [c58, Bv, Mv, Bs, a83, h83, hi, ← hc, Cv, a50, h50, a84, h84, a85, hwd, a86, h86, sh3, withC]
     done
    ·refine ⟨true, ?_⟩
     simp -implicitDefEqProofs (disch := omega) [c58, Bv, Mv, Bs, a83, h83, hi, ← hc, Cv, a50, h50, a84, h84, sh3]
     done
    ·refine ⟨true, ?_⟩
     simp -implicitDefEqProofs (disch := omega) [c58, Bv, Mv, Bs, a83, h83, hi, ← hc, Cv, a50, h50, a84, h84, sh3]
     done
  ·rw [decide_eq_false hm] at h50
   simp only [if_neg hm]
   refine ⟨true, ?_⟩
   rcases hk with rfl | rfl | rfl | rfl <;> (simp -implicitDefEqProofs (disch := omega) [c58, Bv, Mv, Bs, a83, h83, hi, ← hc, Cv, a50, h50]; done)
theorem s58 {n : Nat} (hn : 81 < n) (b : Bo) (m : Mg) (hb : OkB b) : ∃ fo, (C19.tab n).p 58 [Bv b, Mv m] = some (.tup [Bv (telR b m).1, .lst fo ((telR b m).2.map Mv)]) := by
 obtain ⟨fr, to, k, fn, nu, fd, da⟩ := m
 by_cases h1 : to = b.id ∧ nu.length = 1 ∧ (k = 2 ∨ k = 3 ∨ k = 5 ∨ k = 7)
 ·obtain ⟨rfl, h2, h3⟩ := h1
  obtain ⟨id, rfl⟩ : ∃ x, nu = [x] := by match nu, h2 with | [x], _ => exact ⟨x, rfl⟩
  exact s58_k hn b fr id k h3 fn fd da hb
 ·refine ⟨true, ?_⟩
  have ht : telR b ⟨fr, to, k, fn, nu, fd, da⟩ = (b, []) := by unfold telR; rw [if_neg h1]
  rw [ht, p58 hn, runP_eq, runH_eq]
  by_cases c1 : to = b.id
  ·by_cases c2 : nu.length = 1
   ·have c3 : ¬ k = 2 ∧ ¬ k = 3 ∧ ¬ k = 5 ∧ ¬ k = 7 := by
     refine ⟨fun e => h1 ⟨c1, c2, by simp [e]⟩, fun e => h1 ⟨c1, c2, by simp [e]⟩, fun e => h1 ⟨c1, c2, by simp [e]⟩, fun e => h1 ⟨c1, c2, by simp [e]⟩⟩
    simp -implicitDefEqProofs (disch := omega) [c58, Bv, Mv, Bs, c1, c2, c3]
    done
   ·simp -implicitDefEqProofs (disch := omega) [c58, Bv, Mv, Bs, c1, c2]
    done
  ·simp -implicitDefEqProofs (disch := omega) [c58, Bv, Mv, Bs, c1]
   done
theorem s61 {n : Nat} (hn : 86 < n) (b : Bo) (id : Int) (hb : OkB b) : ∃ fo, (C19.tab n).p 61 [Bv b, I id] = some (.tup [Bv (giveP b id).1, .lst fo ((giveP b id).2.map Mv)]) := by
 rw [p61 hn, runP_eq, runH_eq]
 have h83 := s83 (n := 86) (by decide) b id hb.1
 simp only [Bv] at h83
 unfold giveP
 cases hf : b.cases.find? fun c => decide (c.de.id = id) with
 | none =>
  obtain ⟨q1, q2⟩ := caseAt_none hf
  rw [q2] at h83
  rw [q1]
  refine ⟨true, ?_⟩
  simp -implicitDefEqProofs (disch := omega) [c61, Bv, a83, h83]
  done
 | some c =>
  obtain ⟨hi, hc, q1, q2⟩ := caseAt_some hf
  rw [q2] at h83
  rw [q1]
  generalize caseAt b id = i at hi hc q1 h83
  obtain ⟨⟨hg, -, hhl⟩, hh⟩ := hb.2 c (hc ▸ List.getElem_mem hi)
  have h86 := s86 (n := 86) (by decide) b c 6 hg
  have h85 := s85 (n := 86) (by decide) b i c true hb.1
  simp only [Cv, Bv, withC, if_true] at h85 h86
  cases hsu : c.sure with
  | true =>
   refine ⟨true, ?_⟩
   simp -implicitDefEqProofs (disch := omega) [c61, Bv, a83, h83, hi, ← hc, Cv, hsu]
   done
  | false =>
   refine ⟨false, ?_⟩
   rw [hsu] at h85 h86
   simp only [Bool.false_eq_true, if_false, withC]
   simp -implicitDefEqProofs (disch := omega) [c61, Bv, a83, h83, hi, ← hc, Cv, hsu, a85, h85, a86, h86]
   done
end Go.Proofs.Ytgefdmkmobaefaa
