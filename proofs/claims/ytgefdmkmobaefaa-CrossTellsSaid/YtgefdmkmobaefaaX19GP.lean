import Derived.Test.YtgefdmkmobaefaaX19GL
set_option linter.unusedSimpArgs false
set_option linter.unusedVariables false
namespace Go.Proofs.Ytgefdmkmobaefaa
open Go.Am Go.Am.Nm Go.Lib Go.Cr
theorem s35 {n : Nat} (hn : 49 < n) (p : Pt) (m : Mg) (hl : p.ready.length ≤ 1000000) (hl2 : p.did.length ≤ 1000000) :
  (C19.tab n).p 35 [Pv p, Mv m] = some (.tup [Pv (hearP isPth clsh p m).1, .lst true ((hearP isPth clsh p m).2.1.map Mv), I (hearP isPth clsh p m).2.2]) := by
 obtain ⟨fr, to, k, fn, nu, fd, da⟩ := m
 by_cases h1 : to = p.id ∧ nu.length = 1
 ·obtain ⟨rfl, h2⟩ := h1
  obtain ⟨id, rfl⟩ : ∃ x, nu = [x] := by match nu, h2 with | [x], _ => exact ⟨x, rfl⟩
  cases hf : p.ready.find? fun r => decide (r.id = id) with
  | none =>
   by_cases hd : id ∈ p.did
   ·by_cases k1 : k = 1
    ·subst k1; exact s35_1dn hn p fr id fn fd da hl hl2 hd hf
    ·by_cases k4 : k = 4
     ·subst k4; exact s35_4dn hn p fr id fn fd da hl hl2 hd hf
     ·by_cases k6 : k = 6
      ·subst k6; exact s35_6dn hn p fr id fn fd da hl hl2 hd hf
      ·exact s35_0dn hn p fr id fn fd da k k1 k4 k6 hl hl2 hd hf
   ·by_cases k1 : k = 1
    ·subst k1; exact s35_1nn hn p fr id fn fd da hl hl2 hd hf
    ·by_cases k4 : k = 4
     ·subst k4; exact s35_4nn hn p fr id fn fd da hl hl2 hd hf
     ·by_cases k6 : k = 6
      ·subst k6; exact s35_6nn hn p fr id fn fd da hl hl2 hd hf
      ·exact s35_0nn hn p fr id fn fd da k k1 k4 k6 hl hl2 hd hf
  | some y =>
   by_cases hd : id ∈ p.did
   ·by_cases k1 : k = 1
    ·subst k1; exact s35_1di hn p fr id fn fd da hl hl2 hd y hf
    ·by_cases k4 : k = 4
     ·subst k4; exact s35_4di hn p fr id fn fd da hl hl2 hd y hf
     ·by_cases k6 : k = 6
      ·subst k6; exact s35_6di hn p fr id fn fd da hl hl2 hd y hf
      ·exact s35_0di hn p fr id fn fd da k k1 k4 k6 hl hl2 hd y hf
   ·by_cases k1 : k = 1
    ·subst k1; exact s35_1ni hn p fr id fn fd da hl hl2 hd y hf
    ·by_cases k4 : k = 4
     ·subst k4; exact s35_4ni hn p fr id fn fd da hl hl2 hd y hf
     ·by_cases k6 : k = 6
      ·subst k6; exact s35_6ni hn p fr id fn fd da hl hl2 hd y hf
      ·exact s35_0ni hn p fr id fn fd da k k1 k4 k6 hl hl2 hd y hf
 ·have ht : hearP isPth clsh p ⟨fr, to, k, fn, nu, fd, da⟩ = (p, [], 0) := by unfold hearP; rw [if_neg h1]
  rw [ht, p35 hn, runP_eq, runH_eq]
  by_cases c1 : to = p.id
  ·by_cases c2 : nu.length = 1
   ·exact absurd ⟨c1, c2⟩ h1
   ·simp -implicitDefEqProofs (disch := omega) [c35, Pv, Mv, Bs, c1, c2]
  ·simp -implicitDefEqProofs (disch := omega) [c35, Pv, Mv, Bs, c1]
theorem s22 {n : Nat} (hn : 40 < n) (p : Pt) (hl : p.ready.length ≤ 1000000) : (C19.tab n).p 22 [Pv p] = some (.lst false ((askP p).map Mv)) := by
 rw [p22 hn, runP_eq, runH_eq]
 have h : ∀ e0 : Env, e0 1 = .rptr [I p.id, .lst p.fr (p.ready.map Rv), .lst p.fd (p.did.map I)] → e0 7 = .lst p.fr (p.ready.map Rv) → e0 8 = .int .i64 p.ready.length →
   iter (round (C19.tab 40) [3, 9] [(.exit 0, [3])] c22_1 e0 1 [0]) ([.own 0 0 0 0, .int .i64 0], [.row 0 5 []]) = some (.exit 0, [.own 0 0 0 p.ready.length], [.row 0 5 ((askP p).map Mv)]) := fun e0 h1 h7 h8 => by
  have := for_list (f := round (C19.tab 40) [3, 9] [(.exit 0, [3])] c22_1 e0 1 [0]) (fun i (s : List Mg) => ([.own 0 0 0 s.length, .int .i64 (i : Int)], [.row 0 5 (s.map Mv)])) p.ready
   (fun s r => s ++ [msgP p.id (r.id.tmod 8) 7 r.id]) (fun s => (.exit 0, [.own 0 0 0 s.length], [.row 0 5 (s.map Mv)])) (fun i s => s.length = i)
   (fun i hi s hs => by
    refine ⟨by simp [hs], ?_⟩
    obtain ⟨x, hx⟩ : ∃ x, x = p.ready[i] := ⟨_, rfl⟩
    have h49 := s49 (n := 40) (by decide) p.id (x.id.tmod 8) 7 x.id
    simp only [Mv] at h49
    rw [← hx]
    simp -implicitDefEqProofs (disch := omega) [round_eq, b22_1, h1, h7, h8, hi, ← hx, Rv, a49, h49, hs, Mv, szM]
    done)
   (fun s hs => by
    simp -implicitDefEqProofs (disch := omega) [round_eq, b22_1, h7, h8, hs]
    done) [] rfl
  rw [foldl_snoc] at this
  simpa [askP] using this
 have hal : (askP p).length = p.ready.length := by simp [askP]
 simp -implicitDefEqProofs (disch := omega) [c22, Pv]
 rw [h _ (by simp -implicitDefEqProofs (disch := omega)) (by simp -implicitDefEqProofs (disch := omega)) (by simp -implicitDefEqProofs (disch := omega))]
 simp -implicitDefEqProofs (disch := omega) [szM, hal]
theorem s23 {n : Nat} (hn : 72 < n) (p : Pt) (hl : p.ready.length ≤ 1000000) : (C19.tab n).p 23 [Pv p] = some (.lst false ((askP p).map Mv)) := by
 rw [p23 hn, runP_eq, runH_eq]
 have h : ∀ e0 : Env, e0 1 = .rptr [I p.id, .lst p.fr (p.ready.map Rv), .lst p.fd (p.did.map I)] →
   iter (round (C19.tab 72) [3, 4] [(.exit 0, [3])] c23_1 e0 1 [0]) ([.own 0 0 0 0, .int .i64 0], [.row 0 5 []]) = some (.exit 0, [.own 0 0 0 p.ready.length], [.row 0 5 ((askP p).map Mv)]) := fun e0 h1 => by
  have := for_list (f := round (C19.tab 72) [3, 4] [(.exit 0, [3])] c23_1 e0 1 [0]) (fun i (s : List Mg) => ([.own 0 0 0 s.length, .int .i64 (i : Int)], [.row 0 5 (s.map Mv)])) p.ready
   (fun s r => s ++ [msgP p.id (r.id.tmod 8) 7 r.id]) (fun s => (.exit 0, [.own 0 0 0 s.length], [.row 0 5 (s.map Mv)])) (fun i s => s.length = i)
   (fun i hi s hs => by
    refine ⟨by simp [hs], ?_⟩
    obtain ⟨x, hx⟩ : ∃ x, x = p.ready[i] := ⟨_, rfl⟩
    have h38 := s38 (n := 72) (by decide) p.id (x.id.tmod 8) 7 x.id
    simp only [Mv] at h38
    rw [← hx]
    simp -implicitDefEqProofs (disch := omega) [round_eq, b23_1, h1, hi, ← hx, Rv, a38, h38, hs, Mv, szM]
    done)
   (fun s hs => by
    simp -implicitDefEqProofs (disch := omega) [round_eq, b23_1, h1, hs]
    done) [] rfl
  rw [foldl_snoc] at this
  simpa [askP] using this
 have hal : (askP p).length = p.ready.length := by simp [askP]
 simp -implicitDefEqProofs (disch := omega) [c23, Pv]
 rw [h _ (by simp -implicitDefEqProofs (disch := omega))]
 simp -implicitDefEqProofs (disch := omega) [szM, hal]
end Go.Proofs.Ytgefdmkmobaefaa

namespace Go.Proofs.Ytgefdmkmobaefaa
open Go.Am Go.Am.Nm Go.Lib Go.Cr
theorem foldl_app {α β : Type} (f : α → List β) : ∀ (l : List α) (s : List β), l.foldl (fun s x => s ++ f x) s = s ++ (l.map f).flatten
 | [], s => by simp
 | x :: l, s => by rw [List.foldl_cons, foldl_app f l, List.map_cons, List.flatten_cons, List.append_assoc]
theorem againZ_len (b : Bo) (c : Ca) (g : Int) (p : List UInt8) : (againZ b c g p).length ≤ 1 := by
 unfold againZ
 by_cases h : g ∈ c.heard
 ·rw [if_pos h]; simp
 ·rw [if_neg h]
  by_cases h' : c.sure = true
  ·rw [if_pos h']; simp
  ·rw [if_neg h']; simp
theorem flat_len {α β : Type} (f : α → List β) (k : Nat) : ∀ l : List α, (∀ x ∈ l, (f x).length ≤ k) → (l.map f).flatten.length ≤ k * l.length
 | [], _ => by simp
 | x :: l, h => by
  have h1 := h x (List.mem_cons_self ..)
  have h2 := flat_len f k l fun y hy => h y (List.mem_cons_of_mem _ hy)
  simp only [List.map_cons, List.flatten_cons, List.length_append, List.length_cons, Nat.mul_add, Nat.mul_one]
  omega
def cells (c : Ca) : List AV := [I c.de.id, .lst c.de.fg (c.de.grs.map I), .lst c.de.fp (c.de.pas.map AV.str), .bool c.sure, .lst c.fh (c.heard.map I)]
theorem l20a {n : Nat} (hn : 66 < n) (b : Bo) (c : Ca) (hz : c.de.grs.length = c.de.pas.length) (hg : c.de.grs.length ≤ 1000) (hh : c.heard.length ≤ 1000000) (s0 : List Mg) (hs0 : s0.length ≤ 1000000) (e0 : Env) (h1 : e0 1 = .rptr [I b.id, I b.next, .lst b.fc (b.cases.map Cv)]) (h5 : e0 5 = .ptr 1 0 0 0) (h17 : e0 17 = .lst c.de.fg (c.de.grs.map I)) (h18 : e0 18 = .int .i64 c.de.grs.length) :
  iter (round (C19.tab n) [3, 19] [(.exit 2, [3])] c20_1 e0 2 [0]) ([.own 0 0 0 s0.length, .int .i64 0], [.row 0 5 (s0.map Mv), .var (cells c)]) =
   some (.exit 2, [.own 0 0 0 (s0 ++ againC b c).length], [.row 0 5 ((s0 ++ againC b c).map Mv), .var (cells c)]) := by
 have hzl : (c.de.grs.zip c.de.pas).length = c.de.grs.length := by simp [hz]
 have := for_list (f := round (C19.tab n) [3, 19] [(.exit 2, [3])] c20_1 e0 2 [0]) (fun i (s : List Mg) => ([.own 0 0 0 s.length, .int .i64 (i : Int)], [.row 0 5 (s.map Mv), .var (cells c)])) (c.de.grs.zip c.de.pas)
  (fun s x => s ++ againZ b c x.1 x.2) (fun s => (.exit 2, [.own 0 0 0 s.length], [.row 0 5 (s.map Mv), .var (cells c)])) (fun i s => s.length ≤ 1000000 + i)
  (fun i hi s hs => by
   have hi' : i < c.de.grs.length := by omega
   have hi2 : i < c.de.pas.length := by omega
   rw [List.getElem_zip]
   obtain ⟨x, hx⟩ : ∃ x, x = c.de.grs[i] := ⟨_, rfl⟩
   obtain ⟨y, hy⟩ : ∃ y, y = c.de.pas[i] := ⟨_, rfl⟩
   rw [← hx, ← hy]
   refine ⟨by have := againZ_len b c x y; simp only [List.length_append]; omega, ?_⟩
   have h48 := s48 (n := n) (by omega) c.heard x hh c.fh
   have h49 := s49 (n := n) (by omega) b.id x 4 c.de.id
   have h43 := s43 (n := n) (by omega) b.id x c.de.id y
   simp only [Mv] at h49 h43
   unfold againZ
   by_cases hm : x ∈ c.heard
   ·rw [decide_eq_true hm] at h48
    rw [if_pos hm]
    simp -implicitDefEqProofs (disch := omega) [round_eq, b20_1, cells, h1, h5, h17, h18, hi', hi2, ← hx, ← hy, a48, h48]
    done
   ·rw [decide_eq_false hm] at h48
    rw [if_neg hm]
    cases hsu : c.sure
    ·simp -implicitDefEqProofs (disch := omega) [round_eq, b20_1, cells, h1, h5, h17, h18, hi', hi2, ← hx, ← hy, a48, h48, hsu, a43, h43, Mv, szM]
     done
    ·simp -implicitDefEqProofs (disch := omega) [round_eq, b20_1, cells, h1, h5, h17, h18, hi', hi2, ← hx, ← hy, a48, h48, hsu, a49, h49, Mv, szM]
     done)
  (fun s hs => by
   simp -implicitDefEqProofs (disch := omega) [round_eq, b20_1, cells, h17, h18, hzl]
   done) s0 (by omega)
 rw [foldl_app] at this
 exact this
theorem againC_len (b : Bo) (c : Ca) (hg : c.de.grs.length ≤ 1000) : (againC b c).length ≤ 1000 := by
 have := flat_len (fun x : Int × List UInt8 => againZ b c x.1 x.2) 1 (c.de.grs.zip c.de.pas) fun x _ => againZ_len b c x.1 x.2
 rw [List.length_zip] at this
 unfold againC
 omega
def OkA (b : Bo) : Prop := b.cases.length ≤ 1000 ∧ ∀ c ∈ b.cases, c.de.grs.length = c.de.pas.length ∧ c.de.grs.length ≤ 1000 ∧ c.heard.length ≤ 1000
theorem s20 {n : Nat} (hn : 67 < n) (b : Bo) (hb : OkA b) : (C19.tab n).p 20 [Bv b] = some (.lst false ((againP b).map Mv)) := by
 rw [p20 hn, runP_eq, runH_eq]
 obtain ⟨hl, hc⟩ := hb
 have hap : (againP b).length ≤ 1000000 := by
  have := flat_len (againC b) 1000 b.cases fun c h => againC_len b c (hc c h).2.1
  unfold againP
  omega
 have h : ∀ e0 : Env, e0 1 = .rptr [I b.id, I b.next, .lst b.fc (b.cases.map Cv)] → e0 9 = .lst b.fc (b.cases.map Cv) → e0 10 = .int .i64 b.cases.length →
   iter (round (C19.tab 67) [3, 11] [(.exit 0, [3])] c20_2 e0 1 [0]) ([.own 0 0 0 0, .int .i64 0], [.row 0 5 []]) = some (.exit 0, [.own 0 0 0 (againP b).length], [.row 0 5 ((againP b).map Mv)]) := fun e0 h1 h9 h10 => by
  have := for_list (f := round (C19.tab 67) [3, 11] [(.exit 0, [3])] c20_2 e0 1 [0]) (fun i (s : List Mg) => ([.own 0 0 0 s.length, .int .i64 (i : Int)], [.row 0 5 (s.map Mv)])) b.cases
   (fun s c => s ++ againC b c) (fun s => (.exit 0, [.own 0 0 0 s.length], [.row 0 5 (s.map Mv)])) (fun i s => s.length ≤ 1000 * i)
   (fun i hi s hs => by
    obtain ⟨x, hx⟩ : ∃ x, x = b.cases[i] := ⟨_, rfl⟩
    obtain ⟨q1, q2, q3⟩ := hc x (hx ▸ List.getElem_mem hi)
    have hal := againC_len b x q2
    rw [← hx]
    refine ⟨by simp only [List.length_append]; omega, ?_⟩
    have h20 := l20a (n := 67) (by decide) b x q1 q2 (by omega) s (by omega)
    have hsl : s.length ≤ 1000000 := by omega
    obtain ⟨u, hu⟩ : ∃ u, u = s ++ againC b x := ⟨_, rfl⟩
    rw [← hu] at h20 ⊢
    simp only [cells] at h20
    simp -implicitDefEqProofs (disch := omega) [round_eq, b20_2, h1, h9, h10, hi, ← hx, Cv, hs]
    rw [h20 _ (by simp -implicitDefEqProofs (disch := omega) [h1]) (by simp -implicitDefEqProofs (disch := omega)) (by simp -implicitDefEqProofs (disch := omega)) (by simp -implicitDefEqProofs (disch := omega))]
    simp -implicitDefEqProofs (disch := omega)
    done)
   (fun s hs => by
    simp -implicitDefEqProofs (disch := omega) [round_eq, b20_2, h9, h10]
    done) [] (by simp)
  rw [foldl_app] at this
  exact this
 simp -implicitDefEqProofs (disch := omega) [c20, Bv]
 rw [h _ (by simp -implicitDefEqProofs (disch := omega)) (by simp -implicitDefEqProofs (disch := omega)) (by simp -implicitDefEqProofs (disch := omega))]
 simp -implicitDefEqProofs (disch := omega) [szM]
end Go.Proofs.Ytgefdmkmobaefaa

namespace Go.Proofs.Ytgefdmkmobaefaa
open Go.Am Go.Am.Nm Go.Lib Go.Cr
theorem l21a {n : Nat} (hn : 70 < n) (b : Bo) (c : Ca) (hz : c.de.grs.length = c.de.pas.length) (hg : c.de.grs.length ≤ 1000) (hh : c.heard.length ≤ 1000000) (s0 : List Mg) (hs0 : s0.length ≤ 1000000) (e0 : Env) (h1 : e0 1 = .rptr [I b.id, I b.next, .lst b.fc (b.cases.map Cv)]) (h5 : e0 5 = .ptr 1 0 0 0) :
  iter (round (C19.tab n) [3, 6] [(.exit 2, [3])] c21_1 e0 2 [0]) ([.own 0 0 0 s0.length, .int .i64 0], [.row 0 5 (s0.map Mv), .var (cells c)]) =
   some (.exit 2, [.own 0 0 0 (s0 ++ againC b c).length], [.row 0 5 ((s0 ++ againC b c).map Mv), .var (cells c)]) := by
 have hzl : (c.de.grs.zip c.de.pas).length = c.de.grs.length := by simp [hz]
 have := for_list (f := round (C19.tab n) [3, 6] [(.exit 2, [3])] c21_1 e0 2 [0]) (fun i (s : List Mg) => ([.own 0 0 0 s.length, .int .i64 (i : Int)], [.row 0 5 (s.map Mv), .var (cells c)])) (c.de.grs.zip c.de.pas)
  (fun s x => s ++ againZ b c x.1 x.2) (fun s => (.exit 2, [.own 0 0 0 s.length], [.row 0 5 (s.map Mv), .var (cells c)])) (fun i s => s.length ≤ 1000000 + i)
  (fun i hi s hs => by
   have hi' : i < c.de.grs.length := by omega
   have hi2 : i < c.de.pas.length := by omega
   rw [List.getElem_zip]
   obtain ⟨x, hx⟩ : ∃ x, x = c.de.grs[i] := ⟨_, rfl⟩
   obtain ⟨y, hy⟩ : ∃ y, y = c.de.pas[i] := ⟨_, rfl⟩
   rw [← hx, ← hy]
   refine ⟨by have := againZ_len b c x y; simp only [List.length_append]; omega, ?_⟩
   have h48 := s50 (n := n) (by omega) c.heard x c.fh hh
   have h49 := s38 (n := n) (by omega) b.id x 4 c.de.id
   simp only [Mv, msgP] at h49
   unfold againZ
   by_cases hm : x ∈ c.heard
   ·rw [decide_eq_true hm] at h48
    rw [if_pos hm]
    simp -implicitDefEqProofs (disch := omega) [round_eq, b21_1, cells, h1, h5, hi', hi2, ← hx, ← hy, a50, h48]
    done
   ·rw [decide_eq_false hm] at h48
    rw [if_neg hm]
    cases hsu : c.sure
    ·simp -implicitDefEqProofs (disch := omega) [round_eq, b21_1, cells, h1, h5, hi', hi2, ← hx, ← hy, a50, h48, hsu, a38, h49, Mv, szM, prepP, Bs]
     done
    ·simp -implicitDefEqProofs (disch := omega) [round_eq, b21_1, cells, h1, h5, hi', hi2, ← hx, ← hy, a50, h48, hsu, a38, h49, Mv, szM, msgP]
     done)
  (fun s hs => by
   simp -implicitDefEqProofs (disch := omega) [round_eq, b21_1, cells, h5, hzl]
   done) s0 (by omega)
 rw [foldl_app] at this
 exact this
theorem s21 {n : Nat} (hn : 71 < n) (b : Bo) (hb : OkA b) : (C19.tab n).p 21 [Bv b] = some (.lst false ((againP b).map Mv)) := by
 rw [p21 hn, runP_eq, runH_eq]
 obtain ⟨hl, hc⟩ := hb
 have hap : (againP b).length ≤ 1000000 := by
  have := flat_len (againC b) 1000 b.cases fun c h => againC_len b c (hc c h).2.1
  unfold againP
  omega
 have h : ∀ e0 : Env, e0 1 = .rptr [I b.id, I b.next, .lst b.fc (b.cases.map Cv)] →
   iter (round (C19.tab 71) [3, 4] [(.exit 0, [3])] c21_2 e0 1 [0]) ([.own 0 0 0 0, .int .i64 0], [.row 0 5 []]) = some (.exit 0, [.own 0 0 0 (againP b).length], [.row 0 5 ((againP b).map Mv)]) := fun e0 h1 => by
  have := for_list (f := round (C19.tab 71) [3, 4] [(.exit 0, [3])] c21_2 e0 1 [0]) (fun i (s : List Mg) => ([.own 0 0 0 s.length, .int .i64 (i : Int)], [.row 0 5 (s.map Mv)])) b.cases
   (fun s c => s ++ againC b c) (fun s => (.exit 0, [.own 0 0 0 s.length], [.row 0 5 (s.map Mv)])) (fun i s => s.length ≤ 1000 * i)
   (fun i hi s hs => by
    obtain ⟨x, hx⟩ : ∃ x, x = b.cases[i] := ⟨_, rfl⟩
    obtain ⟨q1, q2, q3⟩ := hc x (hx ▸ List.getElem_mem hi)
    have hal := againC_len b x q2
    rw [← hx]
    refine ⟨by simp only [List.length_append]; omega, ?_⟩
    have h21 := l21a (n := 71) (by decide) b x q1 q2 (by omega) s (by omega)
    have hsl : s.length ≤ 1000000 := by omega
    obtain ⟨u, hu⟩ : ∃ u, u = s ++ againC b x := ⟨_, rfl⟩
    rw [← hu] at h21 ⊢
    simp only [cells] at h21
    simp -implicitDefEqProofs (disch := omega) [round_eq, b21_2, h1, hi, ← hx, Cv, hs]
    rw [h21 _ (by simp -implicitDefEqProofs (disch := omega) [h1]) (by simp -implicitDefEqProofs (disch := omega))]
    simp -implicitDefEqProofs (disch := omega)
    done)
   (fun s hs => by
    simp -implicitDefEqProofs (disch := omega) [round_eq, b21_2, h1]
    done) [] (by simp)
  rw [foldl_app] at this
  exact this
 simp -implicitDefEqProofs (disch := omega) [c21, Bv]
 rw [h _ (by simp -implicitDefEqProofs (disch := omega))]
 simp -implicitDefEqProofs (disch := omega) [szM]
theorem filter_flat {α : Type} (p : α → Bool) : ∀ l : List α, (l.map fun x => if p x = true then [x] else []).flatten = l.filter p
 | [] => rfl
 | x :: l => by
  rw [List.map_cons, List.flatten_cons, filter_flat p l, List.filter_cons]
  cases p x <;> simp
theorem s25 {n : Nat} (hn : 73 < n) (b : Bo) (hl : b.cases.length ≤ 1000000) : ∃ fc, (C19.tab n).p 25 [Bv b] = some (Bv ⟨b.id, b.next, fc, b.cases.filter fun c => c.sure⟩) := by
 refine ⟨false, ?_⟩
 rw [p25 hn, runP_eq, runH_eq]
 have h : ∀ e0 : Env, e0 1 = .rptr [I b.id, I b.next, .lst b.fc (b.cases.map Cv)] → e0 3 = .ptr 1 0 0 0 →
   iter (roundA (C19.tab 73) 2 [(3, 2, 5)] [4] [(.exit 0, [])] c25_1 e0 3 [2]) ([.int .i64 0], [.var [.int .i64 0, .int .i64 0, .lst true []], .var [I b.id, I b.next, .own 2 0 0 0], .row 0 5 []]) =
    some (.exit 0, [], [.var [.int .i64 0, .int .i64 0, .lst true []], .var [I b.id, I b.next, .own 2 0 0 (b.cases.filter fun c => c.sure).length], .row 0 5 ((b.cases.filter fun c => c.sure).map Cv)]) := fun e0 h1 h3 => by
  have := for_list (f := roundA (C19.tab 73) 2 [(3, 2, 5)] [4] [(.exit 0, [])] c25_1 e0 3 [2]) (fun i (s : List Ca) => ([.int .i64 (i : Int)], [.var [.int .i64 0, .int .i64 0, .lst true []], .var [I b.id, I b.next, .own 2 0 0 s.length], .row 0 5 (s.map Cv)])) b.cases
   (fun s c => s ++ if c.sure = true then [c] else []) (fun s => (.exit 0, [], [.var [.int .i64 0, .int .i64 0, .lst true []], .var [I b.id, I b.next, .own 2 0 0 s.length], .row 0 5 (s.map Cv)])) (fun i s => s.length ≤ i)
   (fun i hi s hs => by
    obtain ⟨x, hx⟩ : ∃ x, x = b.cases[i] := ⟨_, rfl⟩
    rw [← hx]
    cases hsu : x.sure
    ·refine ⟨by simp; omega, ?_⟩
     simp -implicitDefEqProofs (disch := omega) [roundA_eq, b25_1, h1, h3, hi, ← hx, Cv, hsu]
     done
    ·refine ⟨by simp; omega, ?_⟩
     simp -implicitDefEqProofs (disch := omega) [roundA_eq, b25_1, h1, h3, hi, ← hx, Cv, hsu, szC]
     done)
   (fun s hs => by
    simp -implicitDefEqProofs (disch := omega) [roundA_eq, b25_1, h1, h3]
    done) [] (Nat.le_refl _)
  rw [foldl_app, filter_flat, List.nil_append] at this
  exact this
 simp -implicitDefEqProofs (disch := omega) [c25, Bv]
 rw [h _ (by simp -implicitDefEqProofs (disch := omega)) (by simp -implicitDefEqProofs (disch := omega))]
 simp -implicitDefEqProofs (disch := omega) [szC]
end Go.Proofs.Ytgefdmkmobaefaa

namespace Go.Proofs.Ytgefdmkmobaefaa
open Go.Am Go.Am.Nm Go.Lib Go.Cr
theorem s52 {n : Nat} (hn : 1 < n) (c : Ca) (h : AH) : callA (C19.tab n) 52 [.agg [I c.de.id, .lst c.de.fg (c.de.grs.map I), .lst c.de.fp (c.de.pas.map AV.str), .bool c.sure, .lst c.fh (c.heard.map I)]] h = some (.bool (!c.sure), h) := by
 rw [p52 hn, runH_eq]
 simp -implicitDefEqProofs (disch := omega) [c52]
theorem s79b {n : Nat} (hn : 41 < n) (l : List Ca) (hl : l.length ≤ 1000000) (b0 b1 : List AV) (h0 : b0.all AV.isS = true) (h1 : b1.all AV.isS = true) :
  callA (C19.tab n) 79 [.own 2 0 0 l.length, .fn (.func 52) [] []] [.var b0, .var b1, .row 0 5 (l.map Cv)] = some (I ((l.find? fun c => !c.sure).elim (-1) fun _ => ((l.findIdx fun c => !c.sure : Nat) : Int)), [.var b0, .var b1, .row 0 5 (l.map Cv)]) := by
 rw [p79 hn, runH_eq]
 have hpl : ∀ h0, normH 3 [] h0 0 [.var b0, .var b1, .row 0 5 (l.map Cv)] = [.var b0, .var b1, .row 0 5 (l.map Cv)] := fun h' => normH_plain 3 h' _ 0 (by simp [plainB, h0, h1])
 have h : ∀ e0 : Env, e0 0 = .own 2 0 0 l.length → e0 1 = .fn (.func 52) [] [] → e0 7 = .int .i64 l.length → iter (round (C19.tab 41) [8] [(.exit 0, []), (.ret, [4])] c79_1 e0 3 []) ([.int .i64 0], [.var b0, .var b1, .row 0 5 (l.map Cv)]) = some ((l.find? fun c => !c.sure).elim (.exit 0, [], [.var b0, .var b1, .row 0 5 (l.map Cv)]) fun _ => (.ret, [.int .i64 (l.findIdx fun c => !c.sure : Nat)], [.var b0, .var b1, .row 0 5 (l.map Cv)])) := fun e0 q0 q1 q7 =>
  for_idx (f := round (C19.tab 41) [8] [(.exit 0, []), (.ret, [4])] c79_1 e0 3 []) (fun i => ([.int .i64 (i : Int)], [.var b0, .var b1, .row 0 5 (l.map Cv)])) l (fun c => !c.sure) (fun i _ => (.ret, [.int .i64 (i : Int)], [.var b0, .var b1, .row 0 5 (l.map Cv)])) (.exit 0, [], [.var b0, .var b1, .row 0 5 (l.map Cv)])
   (fun i hi => by
    obtain ⟨y, hy⟩ : ∃ y, y = l[i] := ⟨_, rfl⟩
    rw [← hy]
    have h52 := fun h => s52 (n := 41) (by decide) y h
    simp only [normH, List.cons.injEq] at hpl
    cases hs : y.sure
    ·simp only [hs] at h52
     simp -implicitDefEqProofs (disch := omega) [round_eq, b79_1, q0, q1, q7, hi, ← hy, h52, Cv, hs]
     done
    ·simp only [hs] at h52
     simp -implicitDefEqProofs (disch := omega) [round_eq, b79_1, q0, q1, q7, hi, ← hy, h52, Cv, hs, hpl]
     done)
   (by simp -implicitDefEqProofs (disch := omega) [round_eq, b79_1, q0, q1, q7])
 simp -implicitDefEqProofs (disch := omega) [c79, hpl]
 have hpl' := hpl
 simp only [normH, List.cons.injEq] at hpl'
 try rw [hpl'.1]
 rw [h _ (by simp -implicitDefEqProofs (disch := omega)) (by simp -implicitDefEqProofs (disch := omega)) (by simp -implicitDefEqProofs (disch := omega))]
 cases hf : l.find? fun c => !c.sure with
 | none => simp -implicitDefEqProofs (disch := omega)
 | some y => simp -implicitDefEqProofs (disch := omega)
def delG (s : Nat × List Ca) (c : Ca) : Nat × List Ca := if c.sure = true then (s.1 + 1, s.2.set s.1 c) else s
theorem delG_inv (l : List Ca) (i0 : Nat) (hi : i0 < l.length) (hf : (l.take (i0 + 1)).filter (fun c => c.sure) = l.take i0) :
  ∀ (k : Nat), k ≤ l.length - (i0 + 1) → ((((l.drop (i0 + 1)).take k).foldl delG (i0, l)).2.take (((l.drop (i0 + 1)).take k).foldl delG (i0, l)).1 = (l.take (i0 + 1 + k)).filter (fun c => c.sure)) ∧ (((l.drop (i0 + 1)).take k).foldl delG (i0, l)).1 ≤ i0 + k ∧
   (((l.drop (i0 + 1)).take k).foldl delG (i0, l)).2.length = l.length ∧ ∀ m, i0 + k < m → (((l.drop (i0 + 1)).take k).foldl delG (i0, l)).2[m]? = l[m]?
 | 0, _ => by
  refine ⟨?_, Nat.le_refl _, rfl, fun m _ => rfl⟩
  simp only [List.take_zero, List.foldl_nil, Nat.add_zero]
  exact hf.symm
 | k + 1, hk => by
  obtain ⟨h1, h2, h3, h4⟩ := delG_inv l i0 hi hf k (by omega)
  have hlt : k < (l.drop (i0 + 1)).length := by rw [List.length_drop]; omega
  have hlt2 : i0 + 1 + k < l.length := by omega
  rw [List.take_succ_eq_append_getElem hlt, List.foldl_append, List.foldl_cons, List.foldl_nil]
  rw [show i0 + 1 + (k + 1) = i0 + 1 + k + 1 by omega, List.take_succ_eq_append_getElem hlt2, List.filter_append]
  have hel : (l.drop (i0 + 1))[k] = l[i0 + 1 + k] := by rw [List.getElem_drop]
  rw [hel]
  generalize ((l.drop (i0 + 1)).take k).foldl delG (i0, l) = s at h1 h2 h3 h4
  obtain ⟨n, r⟩ := s
  simp only at h1 h2 h3 h4
  unfold delG
  cases hs : (l[i0 + 1 + k]).sure
  ·simp only [Bool.false_eq_true, if_false]
   refine ⟨?_, by omega, h3, fun m hm => h4 m (by omega)⟩
   rw [h1]; simp [List.filter, hs]
  ·simp only [if_true]
   refine ⟨?_, by omega, by simp [h3], fun m hm => ?_⟩
   ·have hn : n < r.length := by omega
    rw [List.take_succ_eq_append_getElem (by simpa using hn), List.take_set_of_le (Nat.le_refl _), h1]
    simp [List.filter, hs]
   ·rw [List.getElem?_set_ne (by omega)]
    exact h4 m (by omega)
theorem l51 {n : Nat} (hn : 1 < n) (l : List Ca) (hl : l.length ≤ 1000000) (b0 b1 : List AV) (h0 : b0.all AV.isS = true) (h1 : b1.all AV.isS = true) (i0 : Nat) (hi0 : i0 < l.length) (hf : (l.take (i0 + 1)).filter (fun c => c.sure) = l.take i0) :
  ∃ r : Nat × List Ca, r.2.take r.1 = l.filter (fun c => c.sure) ∧ r.1 ≤ l.length ∧ r.2.length = l.length ∧ ∀ e0 : Env, e0 0 = .own 2 0 0 l.length → e0 1 = .fn (.func 52) [] [] →
  iter (round (C19.tab n) [5, 6] [(.exit 0, [5])] c51_1 e0 3 []) ([.int .i64 i0, .int .i64 ((i0 : Int) + 1)], [.var b0, .var b1, .row 0 5 (l.map Cv)]) = some (.exit 0, [.int .i64 r.1], [.var b0, .var b1, .row 0 5 (r.2.map Cv)]) := by
 have inv := delG_inv l i0 hi0 hf
 have hpl : ∀ (h0 : AH) (r : List Ca), normH 3 [] h0 0 [.var b0, .var b1, .row 0 5 (r.map Cv)] = [.var b0, .var b1, .row 0 5 (r.map Cv)] := fun h' r => normH_plain 3 h' _ 0 (by simp [plainB, h0, h1])
 simp only [normH, List.cons.injEq] at hpl
 have hnb : ∀ h0, normB 3 [] h0 0 (.var b0) = .var b0 := fun h' => (hpl h' []).1
 have hnb1 : ∀ h0, normB 3 [] h0 (0 + 1) (.var b1) = .var b1 := fun h' => (hpl h' []).2.1
 simp only [normB, AB.var.injEq] at hnb hnb1
 refine ⟨(l.drop (i0 + 1)).foldl delG (i0, l), ?_, ?_, ?_, ?_⟩
 ·have := (inv (l.length - (i0 + 1)) (Nat.le_refl _)).1
  rw [List.take_of_length_le (l := l.drop (i0 + 1)) (by simp), List.take_of_length_le (l := l) (by omega)] at this
  exact this
 ·have := (inv (l.length - (i0 + 1)) (Nat.le_refl _)).2.1
  rw [List.take_of_length_le (l := l.drop (i0 + 1)) (by simp)] at this
  omega
 ·have := (inv (l.length - (i0 + 1)) (Nat.le_refl _)).2.2.1
  rw [List.take_of_length_le (l := l.drop (i0 + 1)) (by simp)] at this
  exact this
 ·intro e0 q0 q1
  have := for_list (f := round (C19.tab n) [5, 6] [(.exit 0, [5])] c51_1 e0 3 []) (fun k (s : Nat × List Ca) => ([.int .i64 (s.1 : Int), .int .i64 ((i0 + 1 + k : Nat) : Int)], [.var b0, .var b1, .row 0 5 (s.2.map Cv)])) (l.drop (i0 + 1)) delG
   (fun s => (.exit 0, [.int .i64 (s.1 : Int)], [.var b0, .var b1, .row 0 5 (s.2.map Cv)])) (fun k s => k ≤ l.length - (i0 + 1) ∧ s = ((l.drop (i0 + 1)).take k).foldl delG (i0, l))
   (fun k hk s hs => by
    obtain ⟨hk1, hs⟩ := hs
    have hk' : k < l.length - (i0 + 1) := by rw [List.length_drop] at hk; exact hk
    obtain ⟨w1, w2, w3, w4⟩ := inv k (by omega)
    rw [← hs] at w1 w2 w3 w4
    refine ⟨⟨by omega, ?_⟩, ?_⟩
    ·rw [List.take_succ_eq_append_getElem hk, List.foldl_append, List.foldl_cons, List.foldl_nil, ← hs]
    ·have hel : (l.drop (i0 + 1))[k] = l[i0 + 1 + k] := by rw [List.getElem_drop]
     rw [hel]
     have hlt : i0 + 1 + k < l.length := by omega
     obtain ⟨x, hx⟩ : ∃ x, x = l[i0 + 1 + k] := ⟨_, rfl⟩
     have hgx : s.2[i0 + 1 + k]? = some x := by rw [w4 _ (by omega), hx]; exact List.getElem?_eq_getElem hlt
     have hgm : (s.2.map Cv)[i0 + 1 + k]? = some (Cv x) := by rw [List.getElem?_map, hgx]; rfl
     rw [← hx]
     have hs1 : s.1 < s.2.length := by omega
     have hlt' : i0 + 1 + k < s.2.length := by omega
     obtain ⟨s1, s2⟩ := s
     simp only at w1 w2 w3 w4 hs1 hgm hlt' hgx
     rw [show i0 + 1 + (k + 1) = i0 + 1 + k + 1 by omega]
     generalize i0 + 1 + k = j at hlt hx hgx hgm hlt' ⊢
     have h52 := fun h => s52 (n := n) hn x h
     unfold delG
     cases hsu : x.sure
     ·simp only [hsu] at h52
      simp -implicitDefEqProofs (disch := omega) [round_eq, b51_1, q0, q1, hlt, hlt', hgm, hgx, Cv, hsu, h52, w3, hnb, hnb1]
      done
     ·simp only [hsu] at h52
      simp -implicitDefEqProofs (disch := omega) [round_eq, b51_1, q0, q1, hlt, hlt', hgm, hgx, Cv, hsu, h52, hs1, w3, hnb, hnb1]
      done)
   (fun s hs => by
    have hlen : (l.drop (i0 + 1)).length = l.length - (i0 + 1) := List.length_drop
    rw [hlen, show i0 + 1 + (l.length - (i0 + 1)) = l.length by omega]
    simp -implicitDefEqProofs (disch := omega) [round_eq, b51_1, q0, q1]
    done) (i0, l) ⟨Nat.zero_le _, rfl⟩
  simpa using this
theorem s51 {n : Nat} (hn : 42 < n) (l : List Ca) (hl : l.length ≤ 1000000) (b0 b1 : List AV) (h0 : b0.all AV.isS = true) (h1 : b1.all AV.isS = true) :
  ∃ k r, r.take k = (l.filter (fun c => c.sure)).map Cv ∧ k ≤ r.length ∧ callA (C19.tab n) 51 [.own 2 0 0 l.length, .fn (.func 52) [] []] [.var b0, .var b1, .row 0 5 (l.map Cv)] = some (.own 2 0 0 k, [.var b0, .var b1, .row 0 5 r]) := by
 rw [p51 hn, runH_eq]
 have h79 := s79b (n := 42) (by decide) l hl b0 b1 h0 h1
 cases hf : l.find? fun c => !c.sure with
 | none =>
  rw [hf] at h79
  simp only [Option.elim_none] at h79
  refine ⟨l.length, l.map Cv, ?_, by simp, ?_⟩
  ·rw [List.filter_eq_self.2 fun c hc => by simpa using List.find?_eq_none.1 hf c hc]
   exact List.take_of_length_le (by simp)
  ·simp -implicitDefEqProofs (disch := omega) [c51, h79]
   done
 | some y =>
  rw [hf] at h79
  simp only [Option.elim_some] at h79
  have hx : l[l.findIdx fun c => !c.sure]? = some y := by rw [getElem?_findIdx]; exact hf
  have hlt : (l.findIdx fun c => !c.sure) < l.length := (List.getElem?_eq_some_iff.1 hx).1
  have hpre : (l.take ((l.findIdx fun c => !c.sure) + 1)).filter (fun c => c.sure) = l.take (l.findIdx fun c => !c.sure) := by
   have hys := List.find?_some hf
   rw [List.take_succ_eq_append_getElem hlt, List.filter_append]
   have hy2 : l[l.findIdx fun c => !c.sure] = y := by
    have := (List.getElem?_eq_some_iff.1 hx).2
    exact this
   have e2 : [l[l.findIdx fun c => !c.sure]].filter (fun c => c.sure) = [] := by rw [hy2]; simp only [Bool.not_eq_true'] at hys; simp [List.filter, hys]
   rw [e2, List.append_nil, List.filter_eq_self]
   intro c hc
   obtain ⟨i, hi, e⟩ := List.getElem_of_mem hc
   rw [List.length_take] at hi
   rw [List.getElem_take] at e
   have := List.not_of_lt_findIdx (p := fun c : Ca => !c.sure) (xs := l) (i := i) (by omega)
   rw [e] at this
   simpa using this
  generalize (l.findIdx fun c => !c.sure) = i0 at *
  obtain ⟨⟨k, r⟩, w1, w2, w3, w4⟩ := l51 (n := 42) (by decide) l hl b0 b1 h0 h1 i0 hlt hpre
  simp only at w1 w2 w3 w4
  have hpl : ∀ h0, normH 3 [] h0 0 [.var b0, .var b1, .row 0 5 (l.map Cv)] = [.var b0, .var b1, .row 0 5 (l.map Cv)] := fun h' => normH_plain 3 h' _ 0 (by simp [plainB, h0, h1])
  simp only [normH, List.cons.injEq] at hpl
  have hne : ¬ ((i0 : Int) = -1) := by omega
  refine ⟨k, over (r.map Cv) k (List.replicate (l.length - k) (.agg [.int .i64 0, .lst true [], .lst true [], .bool false, .lst true []])), ?_, ?_, ?_⟩
  ·rw [← w1]
   unfold over
   rw [List.append_assoc, List.take_append_of_le_length (by rw [List.length_take, List.length_map]; omega), List.take_take, Nat.min_self, List.map_take]
  ·unfold over
   simp only [List.length_append, List.length_take, List.length_map]
   omega
  ·simp -implicitDefEqProofs (disch := omega) [c51, h79, hne, hpl]
   rw [w4 _ (by simp -implicitDefEqProofs (disch := omega)) (by simp -implicitDefEqProofs (disch := omega))]
   simp -implicitDefEqProofs (disch := omega) [w2, w3]
   done
theorem s24 {n : Nat} (hn : 43 < n) (b : Bo) (hl : b.cases.length ≤ 1000000) : (C19.tab n).p 24 [Bv b] = some (Bv (backP b)) := by
 rw [p24 hn, runP_eq, runH_eq]
 have h42 := fun a h => p42 (n := 43) (by decide) a h
 obtain ⟨k, r, w1, w2, w3⟩ := s51 (n := 43) (by decide) b.cases hl [I b.id, I b.next, .lst b.fc (b.cases.map Cv)] [.int .i64 0, .int .i64 0, .lst true []] rfl rfl
 unfold backP withC
 simp -implicitDefEqProofs (disch := omega) [c24, Bv, h42, szC, w3, w2, w1]
 done
end Go.Proofs.Ytgefdmkmobaefaa
