import Derived.Test.YtgefdmkmobaefaaX19GX
set_option linter.unusedSimpArgs false
set_option linter.unusedVariables false
namespace Go.Proofs.Ytgefdmkmobaefaa
open Go.Am Go.Am.Nm Go.Lib Go.Cr
def bsN (i : Nat) : List Bo := (List.range i).map fun k : Nat => ⟨(k : Int), 0, true, []⟩
def psN (i : Nat) : List Pt := (List.range i).map fun k : Nat => ⟨(k : Int), true, [], true, []⟩
def ddN (i : Nat) : List (Bool × List Int) := List.replicate i (true, [])
theorem bsN_succ (i : Nat) : bsN (i + 1) = bsN i ++ [⟨(i : Int), 0, true, []⟩] := by simp [bsN, List.range_succ]
theorem psN_succ (i : Nat) : psN (i + 1) = psN i ++ [⟨(i : Int), true, [], true, []⟩] := by simp [psN, List.range_succ]
theorem ddN_succ (i : Nat) : ddN (i + 1) = ddN i ++ [(true, [])] := by simp [ddN, List.replicate_succ']
theorem bsN_len (i : Nat) : (bsN i).length = i := by simp [bsN]
theorem psN_len (i : Nat) : (psN i).length = i := by simp [psN]
theorem ddN_len (i : Nat) : (ddN i).length = i := by simp [ddN]
theorem reb1_own {s : St} {t o sz τ v n : Nat} (h : getC s t o = some (.own τ v 0 n)) : reb1 τ s (t, o, sz) = s := by
 unfold reb1
 rw [h]
 simp only [if_true]
theorem rebA_own3 {s : St} {τ t o0 o1 o2 z0 z1 z2 v0 v1 v2 n0 n1 n2 : Nat} (h0 : getC s t o0 = some (.own τ v0 0 n0)) (h1 : getC s t o1 = some (.own (τ + 1) v1 0 n1)) (h2 : getC s t o2 = some (.own (τ + 2) v2 0 n2)) : rebA τ [(t, o0, z0), (t, o1, z1), (t, o2, z2)] s = s := by
 simp only [rebA]
 rw [reb1_own h0, reb1_own h1, reb1_own h2]
set_option maxHeartbeats 1000000 in
theorem l16 {n : Nat} (hn : 61 ≤ n) (h : AH) (cl : Cl h.length h) (e0 : Env) (q1 : e0 1 = .ptr (h.length + 1) 0 0 0) :
  iter (roundA (C19.tab n) (h.length + 2) [(1, 0, 3), (1, 1, 3), (1, 4, 1)] [2] [(.exit 0, [])] c16_1 e0 (h.length + 5) [h.length + 2, h.length + 3, h.length + 4]) ([.int .i64 0], h ++ [.var [.lst true [], .lst true [], .lst true [], .lst true [], .lst true []], .var [.own (h.length + 2) 0 0 0, .own (h.length + 3) 0 0 0, .lst true [], .lst true [], .own (h.length + 4) 0 0 0], .row 0 3 [], .row 0 3 [], .row 0 1 []]) =
   some (.exit 0, [], h ++ [.var [.lst true [], .lst true [], .lst true [], .lst true [], .lst true []], .var [.own (h.length + 2) 0 0 4, .own (h.length + 3) 0 0 4, .lst true [], .lst true [], .own (h.length + 4) 0 0 4], .row 0 3 ((bsN 4).map Bv), .row 0 3 ((psN 4).map Pv), .row 0 1 ((ddN 4).map dv)]) := by
 have hnt := fun h0 Y => cl_tail (G := h) rfl cl (h.length + 5) [h.length + 2, h.length + 3, h.length + 4] (by omega) (fun r hr => by simp at hr; omega) h0 Y
 have htk := take_tail h
 exact for_list (f := roundA (C19.tab n) (h.length + 2) [(1, 0, 3), (1, 1, 3), (1, 4, 1)] [2] [(.exit 0, [])] c16_1 e0 (h.length + 5) [h.length + 2, h.length + 3, h.length + 4])
  (fun i (s : Nat) => ([.int .i64 (i : Int)], h ++ [.var [.lst true [], .lst true [], .lst true [], .lst true [], .lst true []], .var [.own (h.length + 2) 0 0 i, .own (h.length + 3) 0 0 i, .lst true [], .lst true [], .own (h.length + 4) 0 0 i], .row 0 3 ((bsN i).map Bv), .row 0 3 ((psN i).map Pv), .row 0 1 ((ddN i).map dv)])) [0, 1, 2, 3]
  (fun s _ => s) (fun _ => (.exit 0, [], h ++ [.var [.lst true [], .lst true [], .lst true [], .lst true [], .lst true []], .var [.own (h.length + 2) 0 0 4, .own (h.length + 3) 0 0 4, .lst true [], .lst true [], .own (h.length + 4) 0 0 4], .row 0 3 ((bsN 4).map Bv), .row 0 3 ((psN 4).map Pv), .row 0 1 ((ddN 4).map dv)])) (fun _ _ => True)
  (fun i hi s _ => by
   have hi4 : i < 4 := hi
   refine ⟨trivial, ?_⟩
   have h11 := s11 (n := n) (by omega) (i : Int)
   have h36 := s36 (n := n) (by omega) (i : Int)
   simp only [Bv, Pv, List.map_nil] at h11 h36
   have l1 := bsN_len i
   have l2 := psN_len i
   have l3 := ddN_len i
   have a1 : h.length + 2 + 1 = h.length + 3 := rfl
   have a2 : h.length + 3 + 1 = h.length + 4 := rfl
   have z1 : szOk 3 ((bsN i).map Bv) = true := by simp [szOk, Bv]
   have z2 : szOk 3 ((psN i).map Pv) = true := by simp [szOk, Pv]
   have z3 : szOk 1 ((ddN i).map dv) = true := by simp [szOk, dv, AV.cells]
   have t1 : List.take i ((bsN i).map Bv) = (bsN i).map Bv := List.take_of_length_le (by simp [l1])
   have t2 : List.take i ((psN i).map Pv) = (psN i).map Pv := List.take_of_length_le (by simp [l2])
   have t3 : List.take i ((ddN i).map dv) = (ddN i).map dv := List.take_of_length_le (by simp [l3])
   simp -implicitDefEqProofs (disch := omega) [-rebA, -head_eq, roundA_eq, b16_1, q1, a1, a2, hi4, h11, h36, gap_l, gap_r, sap_l, sap_r, l1, l2, l3, z1, z2, z3, t1, t2, t3, bsN_succ, psN_succ, ddN_succ, Bv, Pv, dv]
   rw [rebA_own3 (v0 := 1) (v1 := 1) (v2 := 1) (n0 := i + 1) (n1 := i + 1) (n2 := i + 1) (by simp -implicitDefEqProofs (disch := omega) [q1, gap_l, gap_r]) (by simp -implicitDefEqProofs (disch := omega) [q1, gap_l, gap_r]) (by simp -implicitDefEqProofs (disch := omega) [q1, gap_l, gap_r])]
   simp -implicitDefEqProofs (disch := omega) [hnt, htk, gap_l, gap_r]
   done)
  (fun s _ => by
   simp -implicitDefEqProofs (disch := omega) [-rebA, -head_eq, roundA_eq, b16_1]
   done) 0 trivial
def freshT (m : Nat) : AH := [.var [.own (m + 2) 0 0 4, .own (m + 3) 0 0 4, .lst true [], .lst true [], .own (m + 4) 0 0 4], .var [.own (m + 2) 0 0 4, .own (m + 3) 0 0 4, .lst true [], .lst true [], .own (m + 4) 0 0 4], .row 0 3 (freshW.bs.map Bv), .row 0 3 (freshW.ps.map Pv), .row 0 1 (freshW.did.map dv)]
theorem s16 {n : Nat} (hn : 61 < n) (h : AH) (cl : Cl h.length h) : callA (C19.tab n) 16 [] h = some (.agg [.own (h.length + 2) 0 0 4, .own (h.length + 3) 0 0 4, .lst true [], .lst true [], .own (h.length + 4) 0 0 4], h ++ freshT h.length) := by
 rw [p16 hn, runH_eq]
 have hnt := fun h0 Y => cl_tail (G := h) rfl cl (h.length + 5) [h.length + 2, h.length + 3, h.length + 4] (by omega) (fun r hr => by simp at hr; omega) h0 Y
 have htk := take_tail h
 have h16 := l16 (n := 61) (by decide) h cl
 have e1 : bsN 4 = freshW.bs := rfl
 have e2 : psN 4 = freshW.ps := rfl
 have e3 : ddN 4 = freshW.did := rfl
 rw [e1, e2, e3] at h16
 have a1 : h.length + 2 + 1 = h.length + 3 := rfl
 have a2 : h.length + 3 + 1 = h.length + 4 := rfl
 have c1 : ¬ h.length = h.length + 2 + 1 := by omega
 have c2 : ¬ h.length = h.length + 2 + 1 + 1 := by omega
 unfold freshT
 simp -implicitDefEqProofs (disch := omega) [c16, a1, a2, c1, c2, gap_l, gap_r, sap_l, sap_r, hnt, htk]
 rw [h16 _ (by simp -implicitDefEqProofs (disch := omega) [c1, c2])]
 simp -implicitDefEqProofs (disch := omega) [c1, c2, gap_l, gap_r, sap_l, sap_r]
 done
end Go.Proofs.Ytgefdmkmobaefaa

namespace Go.Proofs.Ytgefdmkmobaefaa
open Go.Am Go.Am.Nm Go.Lib Go.Cr
end Go.Proofs.Ytgefdmkmobaefaa

namespace Go.Proofs.Ytgefdmkmobaefaa
open Go.Am Go.Am.Nm Go.Lib Go.Cr
section
variable {PS : List (List UInt8)} {w : Wd} {n : Nat} {G : AH} {N : Nat} {b u : Nat → Nat}
end
end Go.Proofs.Ytgefdmkmobaefaa

namespace Go.Proofs.Ytgefdmkmobaefaa
open Go.Am Go.Am.Nm Go.Lib Go.Cr
section
variable {PS : List (List UInt8)} {w : Wd} {n : Nat} {G : AH} {N : Nat} {b u : Nat → Nat}
end
end Go.Proofs.Ytgefdmkmobaefaa
