import Derived.Test.YtgefdmkmobaefaaX19GY
set_option linter.unusedSimpArgs false
set_option linter.unusedVariables false
namespace Go.Proofs.Ytgefdmkmobaefaa
open Go.Am Go.Am.Nm Go.Lib Go.Cr
theorem stepW {P : AH} {k : Nat} (hk : k < P.length) (hP : Cl P.length P) {s s' : Wd} {h2 : AH} {b2 u2 : Nat → Nat} (H2 : WH h2 b2 u2 s') (F2 : Fw (Hd P k s) (fun j => P.length + j) h2 b2) (T : AH) (hT : Cl (h2.length + T.length) T) (e : Env) (t : Nat) (he : e t = .ptr k 0 0 0) (keep : List Nat) :
  ∃ h', head (P.length + 5) [P.length, P.length + 1, P.length + 2, P.length + 3, P.length + 4] keep (rebA P.length [(t, 0, 3), (t, 1, 3), (t, 2, 5), (t, 3, 3), (t, 4, 1)] ⟨e, h2.set k (.var (WC b2 u2 s')) ++ T⟩) = (headK (P.length + 5) [P.length, P.length + 1, P.length + 2, P.length + 3, P.length + 4] h' e keep, Hd P k s') := by
 have hlen := F2.le
 rw [Hd_len] at hlen
 have hbn : ∀ j, j < 5 → b2 j = P.length + j ∨ P.length + 5 ≤ b2 j := fun j hj => by
  have := F2.new j hj
  rwa [Hd_len] at this
 have H3 : WH (h2.set k (.var (WC b2 u2 s')) ++ T) b2 u2 s' := (H2.other k _ (fun j hj => by have := hbn j hj; omega) (cel_WC H2.lt)).app (by rw [List.length_append, List.length_set]; exact hT)
 refine headW e t k P.length he P rfl hk hP _ b2 u2 s' H3 ?_ (fun j hj => ?_) hbn (fun i hi hne => ?_) keep
 ·rw [List.getElem?_append_left (by simp; omega), List.getElem?_set_self (by omega)]
 ·have h1 : RowAt (Hd P k s) (P.length + j) := ⟨_, Hd_row P k s j hj, rfl⟩
  obtain ⟨C, q1, q2⟩ := F2.row _ (by rw [Hd_len]; omega) h1
  refine ⟨C, ?_, q2⟩
  rw [List.getElem?_append_left (by simp; omega), List.getElem?_set_ne (by omega)]
  exact q1
 ·rw [List.getElem?_append_left (by simp; omega), List.getElem?_set_ne (Ne.symm hne), F2.old i (by rw [Hd_len]; omega) (fun j _ => by omega), Hd_old P k s i hi hne]
theorem stepW0 {P : AH} {k : Nat} (hk : k < P.length) (hP : Cl P.length P) {s s' : Wd} {h2 : AH} {b2 u2 : Nat → Nat} (H2 : WH h2 b2 u2 s') (F2 : Fw (Hd P k s) (fun j => P.length + j) h2 b2) (e : Env) (t : Nat) (he : e t = .ptr k 0 0 0) (keep : List Nat) :
  ∃ h', head (P.length + 5) [P.length, P.length + 1, P.length + 2, P.length + 3, P.length + 4] keep (rebA P.length [(t, 0, 3), (t, 1, 3), (t, 2, 5), (t, 3, 3), (t, 4, 1)] ⟨e, h2.set k (.var (WC b2 u2 s'))⟩) = (headK (P.length + 5) [P.length, P.length + 1, P.length + 2, P.length + 3, P.length + 4] h' e keep, Hd P k s') := by
 have := stepW hk hP H2 F2 [] rfl e t he keep
 rwa [List.append_nil] at this
theorem headEq {L : Nat} {R keep : List Nat} {S : St} {e : Env} {H : AH} {ks : List AV} (h : ∃ h', head L R keep S = (headK L R h' e keep, H)) (hk : ∀ h', headK L R h' e keep = ks) : head L R keep S = (ks, H) := by
 obtain ⟨h', hh⟩ := h
 rw [hh, hk]
theorem boxW {P : AH} {k : Nat} (hk : k < P.length) {s : Wd} {h2 : AH} {b2 : Nat → Nat} (F2 : Fw (Hd P k s) (fun j => P.length + j) h2 b2) : ∃ hlt : k < h2.length, h2[k] = .var (WC (fun j => P.length + j) (fun _ => 0) s) :=
 F2.keep (Hd_box P k s hk) fun j _ => by omega
def P0 : AH := [.var [.own 2 0 0 4, .own 3 0 0 4, .lst true [], .lst true [], .own 4 0 0 4], .var [.own 2 0 0 4, .own 3 0 0 4, .lst true [], .lst true [], .own 4 0 0 4], .row 1 3 [], .row 1 3 [], .row 1 1 [], .var [.lst true [], .lst true [], .lst true [], .lst true [], .lst true []]]
theorem P0_cl : Cl P0.length P0 := by unfold Cl; decide
def PSN : List (List UInt8) := (List.range 8).map pathN
theorem pathN_mem (k : Nat) : pathN k ∈ PSN := by
 unfold PSN
 rw [List.mem_map]
 refine ⟨k % 8, by rw [List.mem_range]; omega, ?_⟩
 unfold pathN
 rw [Nat.mod_mod]
theorem PSN_len : ∀ p ∈ PSN, p.length ≤ 1000000000 := by decide
def actsW (l : List Ac) (w : Wd) : Wd := l.foldl (doW isPth clsh) w
theorem doW_dl {PS : List (List UInt8)} {w : Wd} (Hi : Inv isPth clsh PS w) (x : Ac) : (doW isPth clsh w x).deeds.length ≤ w.deeds.length + 1 := by
 have come : ∀ (w : Wd) (m : Mg), (comeW isPth clsh w m).deeds = w.deeds := fun w m => by
  unfold comeW
  split
  ·rfl
  ·split
   ·unfold hearW sendW doneW tellW sendW
    split <;> rfl
   ·rfl
 unfold doW
 split
 ·repeat' split
  ·unfold beginW
   split
   ·omega
   ·exact startW_dl _ _ _ _ _
  ·exact Nat.le_succ _
  ·exact Nat.le_succ _
  ·exact Nat.le_succ _
  ·exact Nat.le_succ _
  ·exact Nat.le_succ _
  ·exact Nat.le_succ _
  ·exact Nat.le_succ _
  ·unfold takeW
   split
   ·omega
   ·rw [come]
    split
    ·omega
    ·exact Nat.le_succ _
 ·omega
theorem l6 {n : Nat} (hn : 92 ≤ n) (l : List Ac) (f : Bool) (hl : l.length ≤ 60) (hx : ∀ x ∈ l, XOK x) (e0 : Env) (q0 : e0 0 = .lst f (l.map Xv)) (q4 : e0 4 = .ptr 5 0 0 0) :
  iter (roundA (C19.tab n) 6 [(4, 0, 3), (4, 1, 3), (4, 2, 5), (4, 3, 3), (4, 4, 1)] [5] [(.exit 0, []), (.ret, [2])] c6_1 e0 11 [6, 7, 8, 9, 10]) ([.int .i64 0], Hd P0 5 freshW) = some (.exit 0, [], Hd P0 5 (actsW l freshW)) := by
 refine for_list (f := roundA (C19.tab n) 6 [(4, 0, 3), (4, 1, 3), (4, 2, 5), (4, 3, 3), (4, 4, 1)] [5] [(.exit 0, []), (.ret, [2])] c6_1 e0 11 [6, 7, 8, 9, 10]) (fun i (s : Wd) => ([.int .i64 (i : Int)], Hd P0 5 s)) l (doW isPth clsh) (fun s => (.exit 0, [], Hd P0 5 s)) (fun i s => Inv isPth clsh PSN s ∧ s.deeds.length ≤ i)
  (fun i hi s hs => ?_) (fun s hs => by
   simp -implicitDefEqProofs (disch := omega) [-rebA, -head_eq, roundA_eq, b6_1, q0]
   done) freshW ⟨Inv.fresh, Nat.le_refl _⟩
 obtain ⟨Hi, hd⟩ := hs
 obtain ⟨x, hxe⟩ : ∃ x, x = l[i] := ⟨_, rfl⟩
 rw [← hxe]
 have hxo : XOK x := hx x (by rw [hxe]; exact List.getElem_mem hi)
 have Hi' := Hi.do pathN_mem x
 have hd' := doW_dl Hi x
 refine ⟨⟨Hi', by omega⟩, ?_⟩
 obtain ⟨h2, b2, u2, e19, H2, F2⟩ := s19 (n := n) (by omega) Hi (by omega) x hxo (Hd P0 5 s) _ _ (Hd_WH s (by decide) P0_cl)
 obtain ⟨k1, k2⟩ := boxW (by decide) F2
 have hH := H2.other 5 (.var (WC b2 u2 (doW isPth clsh s x))) (fun j hj => by
  have := F2.new j hj
  rw [Hd_len, show P0.length = 6 from rfl] at this
  omega) (cel_WC H2.lt)
 have h29 := s29 (n := n) (by omega) Hi' PSN_len (by omega) _ b2 u2 hH
 have hst := fun e he => stepW (k := 5) (by decide) P0_cl H2 F2 [.var (WC b2 u2 (doW isPth clsh s x))] (by
  simp only [Cl, List.all_cons, List.all_nil, Bool.and_true]
  exact cel_WC fun j hj => by have := H2.lt j hj; simp; omega) e 4 he [5]
 rw [show P0.length = 6 from rfl] at hst e19 k2
 have g5 := Hd_box P0 5 s (by decide)
 rw [show P0.length = 6 from rfl] at g5
 obtain ⟨g1, g2⟩ := List.getElem?_eq_some_iff.1 g5
 obtain ⟨G, hG⟩ : ∃ G, G = Hd P0 5 s := ⟨_, rfl⟩
 rw [← hG] at e19
 simp only [← hG] at g1 g2 ⊢
 simp only [WC, Xv, Xc, X8] at e19 g2 k2 h29
 simp -implicitDefEqProofs (disch := omega) [-rebA, -head_eq, roundA_eq, b6_1, q0, q4, hi, ← hxe, Xv, Xc, X8, g1, g2, e19, k1, k2, h29]
 simp only [WC] at hst
 refine headEq (hst _ (by simp -implicitDefEqProofs (disch := omega) [q4])) fun h' => ?_
 simp -implicitDefEqProofs (disch := omega)
theorem fresh_start (e : Env) (t : Nat) (he : e t = .ptr 5 0 0 0) : freshA [(t, 0, 3), (t, 1, 3), (t, 2, 5), (t, 3, 3), (t, 4, 1)] ⟨e, [.var [.own 2 0 0 4, .own 3 0 0 4, .lst true [], .lst true [], .own 4 0 0 4], .var [.own 2 0 0 4, .own 3 0 0 4, .lst true [], .lst true [], .own 4 0 0 4], .row 0 3 (freshW.bs.map Bv), .row 0 3 (freshW.ps.map Pv), .row 0 1 (freshW.did.map dv), .var [.own 2 0 0 4, .own 3 0 0 4, .lst true [], .lst true [], .own 4 0 0 4]]⟩ = ⟨e, Hd P0 5 freshW⟩ := by
 have l1 : (freshW.bs.map Bv).length = 4 := rfl
 have l2 : (freshW.ps.map Pv).length = 4 := rfl
 have l3 : (freshW.did.map dv).length = 4 := rfl
 have f0 : Hd P0 5 freshW = P0.set 5 (.var [.own 6 0 0 4, .own 7 0 0 4, .own 8 0 0 0, .own 9 0 0 0, .own 10 0 0 4]) ++ [.row 0 3 (freshW.bs.map Bv), .row 0 3 (freshW.ps.map Pv), .row 0 5 [], .row 0 3 [], .row 0 1 (freshW.did.map dv)] := rfl
 rw [f0]
 generalize freshW.bs.map Bv = A at l1 ⊢
 generalize freshW.ps.map Pv = B at l2 ⊢
 generalize freshW.did.map dv = C at l3 ⊢
 simp only [freshA]
 have s0 : fresh1 ⟨e, [.var [.own 2 0 0 4, .own 3 0 0 4, .lst true [], .lst true [], .own 4 0 0 4], .var [.own 2 0 0 4, .own 3 0 0 4, .lst true [], .lst true [], .own 4 0 0 4], .row 0 3 A, .row 0 3 B, .row 0 1 C, .var [.own 2 0 0 4, .own 3 0 0 4, .lst true [], .lst true [], .own 4 0 0 4]]⟩ (t, 0, 3) =
  ⟨e, [.var [.own 2 0 0 4, .own 3 0 0 4, .lst true [], .lst true [], .own 4 0 0 4], .var [.own 2 0 0 4, .own 3 0 0 4, .lst true [], .lst true [], .own 4 0 0 4], .row 1 3 [], .row 0 3 B, .row 0 1 C, .var [.own 6 0 0 4, .own 3 0 0 4, .lst true [], .lst true [], .own 4 0 0 4], .row 0 3 A]⟩ := by
  simp [fresh1, getC, setC, he, l1]
 rw [s0]
 have s1 : fresh1 ⟨e, [.var [.own 2 0 0 4, .own 3 0 0 4, .lst true [], .lst true [], .own 4 0 0 4], .var [.own 2 0 0 4, .own 3 0 0 4, .lst true [], .lst true [], .own 4 0 0 4], .row 1 3 [], .row 0 3 B, .row 0 1 C, .var [.own 6 0 0 4, .own 3 0 0 4, .lst true [], .lst true [], .own 4 0 0 4], .row 0 3 A]⟩ (t, 1, 3) =
  ⟨e, [.var [.own 2 0 0 4, .own 3 0 0 4, .lst true [], .lst true [], .own 4 0 0 4], .var [.own 2 0 0 4, .own 3 0 0 4, .lst true [], .lst true [], .own 4 0 0 4], .row 1 3 [], .row 1 3 [], .row 0 1 C, .var [.own 6 0 0 4, .own 7 0 0 4, .lst true [], .lst true [], .own 4 0 0 4], .row 0 3 A, .row 0 3 B]⟩ := by
  simp [fresh1, getC, setC, he, l2]
 rw [s1]
 have s2 : fresh1 ⟨e, [.var [.own 2 0 0 4, .own 3 0 0 4, .lst true [], .lst true [], .own 4 0 0 4], .var [.own 2 0 0 4, .own 3 0 0 4, .lst true [], .lst true [], .own 4 0 0 4], .row 1 3 [], .row 1 3 [], .row 0 1 C, .var [.own 6 0 0 4, .own 7 0 0 4, .lst true [], .lst true [], .own 4 0 0 4], .row 0 3 A, .row 0 3 B]⟩ (t, 2, 5) =
  ⟨e, [.var [.own 2 0 0 4, .own 3 0 0 4, .lst true [], .lst true [], .own 4 0 0 4], .var [.own 2 0 0 4, .own 3 0 0 4, .lst true [], .lst true [], .own 4 0 0 4], .row 1 3 [], .row 1 3 [], .row 0 1 C, .var [.own 6 0 0 4, .own 7 0 0 4, .own 8 0 0 0, .lst true [], .own 4 0 0 4], .row 0 3 A, .row 0 3 B, .row 0 5 []]⟩ := by
  simp [fresh1, getC, setC, he]
 rw [s2]
 have s3 : fresh1 ⟨e, [.var [.own 2 0 0 4, .own 3 0 0 4, .lst true [], .lst true [], .own 4 0 0 4], .var [.own 2 0 0 4, .own 3 0 0 4, .lst true [], .lst true [], .own 4 0 0 4], .row 1 3 [], .row 1 3 [], .row 0 1 C, .var [.own 6 0 0 4, .own 7 0 0 4, .own 8 0 0 0, .lst true [], .own 4 0 0 4], .row 0 3 A, .row 0 3 B, .row 0 5 []]⟩ (t, 3, 3) =
  ⟨e, [.var [.own 2 0 0 4, .own 3 0 0 4, .lst true [], .lst true [], .own 4 0 0 4], .var [.own 2 0 0 4, .own 3 0 0 4, .lst true [], .lst true [], .own 4 0 0 4], .row 1 3 [], .row 1 3 [], .row 0 1 C, .var [.own 6 0 0 4, .own 7 0 0 4, .own 8 0 0 0, .own 9 0 0 0, .own 4 0 0 4], .row 0 3 A, .row 0 3 B, .row 0 5 [], .row 0 3 []]⟩ := by
  simp [fresh1, getC, setC, he]
 rw [s3]
 simp [fresh1, getC, setC, he, l3, P0]
end Go.Proofs.Ytgefdmkmobaefaa
