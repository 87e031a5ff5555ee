import Derived.Test.YtgefdmkmobaefaaX19GY
set_option linter.unusedSimpArgs false
set_option linter.unusedVariables false
namespace Go.Proofs.Ytgefdmkmobaefaa
open Go.Am Go.Am.Nm Go.Lib Go.Cr
theorem stepW {P : AH} {k : Nat} (hk : k < P.length) (hP : Cl P.length P) {s s' : Wd} {h2 : AH} {b2 u2 : Nat → Nat} (H2 : WH h2 b2 u2 s') (F2 : Fw (Hd P k s) (fun j => P.length + j) h2 b2) (T : AH) (hT : Cl (h2.length + T.length) T) (e : Env) (t : Nat) (he : e t = .ptr k 0 0 0) (keep : List Nat) :
  ∃ h', head (P.length + 5) [P.length, P.length + 1, P.length + 2, P.length + 3, P.length + 4] keep (rebA P.length [(t, 0, 3), (t, 1, 3), (t, 2, 5), (t, 3, 3), (t, 4, 1)] ⟨e, h2.set k (.var (WC b2 u2 s')) ++ T⟩) = (headK (P.length + 5) [P.length, P.length + 1, P.length + 2, P.length + 3, P.length + 4] h' e keep, Hd P k s') := by
 have hlen := F2.le
 rw [Hd_len] at hlen
 have hbn : ∀ j, j < 5 → b2 j = P.length + j ∨ P.length + 5 ≤ b2 j := fun j hj => by
  have := F2.new j hj
  rwa [Hd_len] at this
 have H3 : WH (h2.set k (.var (WC b2 u2 s')) ++ T) b2 u2 s' := (H2.other k _ (fun j hj => by have := hbn j hj; omega) (cel_WC H2.lt)).app (by rw [List.length_append, List.length_set]; exact hT)
 refine headW e t k P.length he P rfl hk hP _ b2 u2 s' H3 ?_ (fun j hj => ?_) hbn (fun i hi hne => ?_) keep
 ·rw [List.getElem?_append_left (by simp; omega), List.getElem?_set_self (by omega)]
 ·have h1 : RowAt (Hd P k s) (P.length + j) := ⟨_, Hd_row P k s j hj, rfl⟩
  obtain ⟨C, q1, q2⟩ := F2.row _ (by rw [Hd_len]; omega) h1
  refine ⟨C, ?_, q2⟩
  rw [List.getElem?_append_left (by simp; omega), List.getElem?_set_ne (by omega)]
  exact q1
 ·rw [List.getElem?_append_left (by simp; omega), List.getElem?_set_ne (Ne.symm hne), F2.old i (by rw [Hd_len]; omega) (fun j _ => by omega), Hd_old P k s i hi hne]
theorem stepW0 {P : AH} {k : Nat} (hk : k < P.length) (hP : Cl P.length P) {s s' : Wd} {h2 : AH} {b2 u2 : Nat → Nat} (H2 : WH h2 b2 u2 s') (F2 : Fw (Hd P k s) (fun j => P.length + j) h2 b2) (e : Env) (t : Nat) (he : e t = .ptr k 0 0 0) (keep : List Nat) :
  ∃ h', head (P.length + 5) [P.length, P.length + 1, P.length + 2, P.length + 3, P.length + 4] keep (rebA P.length [(t, 0, 3), (t, 1, 3), (t, 2, 5), (t, 3, 3), (t, 4, 1)] ⟨e, h2.set k (.var (WC b2 u2 s'))⟩) = (headK (P.length + 5) [P.length, P.length + 1, P.length + 2, P.length + 3, P.length + 4] h' e keep, Hd P k s') := by
 have := stepW hk hP H2 F2 [] rfl e t he keep
 rwa [List.append_nil] at this
theorem headEq {L : Nat} {R keep : List Nat} {S : St} {e : Env} {H : AH} {ks : List AV} (h : ∃ h', head L R keep S = (headK L R h' e keep, H)) (hk : ∀ h', headK L R h' e keep = ks) : head L R keep S = (ks, H) := by
 obtain ⟨h', hh⟩ := h
 rw [hh, hk]
theorem boxW {P : AH} {k : Nat} (hk : k < P.length) {s : Wd} {h2 : AH} {b2 : Nat → Nat} (F2 : Fw (Hd P k s) (fun j => P.length + j) h2 b2) : ∃ hlt : k < h2.length, h2[k] = .var (WC (fun j => P.length + j) (fun _ => 0) s) :=
 F2.keep (Hd_box P k s hk) fun j _ => by omega
def P0 : AH := [.var [.own 2 0 0 4, .own 3 0 0 4, .lst true [], .lst true [], .own 4 0 0 4], .var [.own 2 0 0 4, .own 3 0 0 4, .lst true [], .lst true [], .own 4 0 0 4], .row 1 3 [], .row 1 3 [], .row 1 1 [], .var [.lst true [], .lst true [], .lst true [], .lst true [], .lst true []]]
theorem P0_cl : Cl P0.length P0 := by unfold Cl; decide
def PSN : List (List UInt8) := (List.range 8).map pathN
theorem pathN_mem (k : Nat) : pathN k ∈ PSN := by
 unfold PSN
 rw [List.mem_map]
 refine ⟨k % 8, by rw [List.mem_range]; omega, ?_⟩
 unfold pathN
 rw [Nat.mod_mod]
theorem PSN_len : ∀ p ∈ PSN, p.length ≤ 1000000000 := by decide
def actsW (l : List Ac) (w : Wd) : Wd := l.foldl (doW isPth clsh) w
theorem doW_dl {PS : List (List UInt8)} {w : Wd} (Hi : Inv isPth clsh PS w) (x : Ac) : (doW isPth clsh w x).deeds.length ≤ w.deeds.length + 1 := by
 have come : ∀ (w : Wd) (m : Mg), (comeW isPth clsh w m).deeds = w.deeds := fun w m => by
  unfold comeW
  split
  ·rfl
  ·split
   ·unfold hearW sendW doneW tellW sendW
    split <;> rfl
   ·rfl
 unfold doW
 split
 ·repeat' split
  ·unfold beginW
   split
   ·omega
   ·exact startW_dl _ _ _ _ _
  ·exact Nat.le_succ _
  ·exact Nat.le_succ _
  ·exact Nat.le_succ _
  ·exact Nat.le_succ _
  ·exact Nat.le_succ _
  ·exact Nat.le_succ _
  ·exact Nat.le_succ _
  ·unfold takeW
   split
   ·omega
   ·rw [come]
    split
    ·omega
    ·exact Nat.le_succ _
 ·omega
theorem fresh_start (e : Env) (t : Nat) (he : e t = .ptr 5 0 0 0) : freshA [(t, 0, 3), (t, 1, 3), (t, 2, 5), (t, 3, 3), (t, 4, 1)] ⟨e, [.var [.own 2 0 0 4, .own 3 0 0 4, .lst true [], .lst true [], .own 4 0 0 4], .var [.own 2 0 0 4, .own 3 0 0 4, .lst true [], .lst true [], .own 4 0 0 4], .row 0 3 (freshW.bs.map Bv), .row 0 3 (freshW.ps.map Pv), .row 0 1 (freshW.did.map dv), .var [.own 2 0 0 4, .own 3 0 0 4, .lst true [], .lst true [], .own 4 0 0 4]]⟩ = ⟨e, Hd P0 5 freshW⟩ := by
 have l1 : (freshW.bs.map Bv).length = 4 := rfl
 have l2 : (freshW.ps.map Pv).length = 4 := rfl
 have l3 : (freshW.did.map dv).length = 4 := rfl
 have f0 : Hd P0 5 freshW = P0.set 5 (.var [.own 6 0 0 4, .own 7 0 0 4, .own 8 0 0 0, .own 9 0 0 0, .own 10 0 0 4]) ++ [.row 0 3 (freshW.bs.map Bv), .row 0 3 (freshW.ps.map Pv), .row 0 5 [], .row 0 3 [], .row 0 1 (freshW.did.map dv)] := rfl
 rw [f0]
 generalize freshW.bs.map Bv = A at l1 ⊢
 generalize freshW.ps.map Pv = B at l2 ⊢
 generalize freshW.did.map dv = C at l3 ⊢
 simp only [freshA]
 have s0 : fresh1 ⟨e, [.var [.own 2 0 0 4, .own 3 0 0 4, .lst true [], .lst true [], .own 4 0 0 4], .var [.own 2 0 0 4, .own 3 0 0 4, .lst true [], .lst true [], .own 4 0 0 4], .row 0 3 A, .row 0 3 B, .row 0 1 C, .var [.own 2 0 0 4, .own 3 0 0 4, .lst true [], .lst true [], .own 4 0 0 4]]⟩ (t, 0, 3) =
  ⟨e, [.var [.own 2 0 0 4, .own 3 0 0 4, .lst true [], .lst true [], .own 4 0 0 4], .var [.own 2 0 0 4, .own 3 0 0 4, .lst true [], .lst true [], .own 4 0 0 4], .row 1 3 [], .row 0 3 B, .row 0 1 C, .var [.own 6 0 0 4, .own 3 0 0 4, .lst true [], .lst true [], .own 4 0 0 4], .row 0 3 A]⟩ := by
  simp [fresh1, getC, setC, he, l1]
 rw [s0]
 have s1 : fresh1 ⟨e, [.var [.own 2 0 0 4, .own 3 0 0 4, .lst true [], .lst true [], .own 4 0 0 4], .var [.own 2 0 0 4, .own 3 0 0 4, .lst true [], .lst true [], .own 4 0 0 4], .row 1 3 [], .row 0 3 B, .row 0 1 C, .var [.own 6 0 0 4, .own 3 0 0 4, .lst true [], .lst true [], .own 4 0 0 4], .row 0 3 A]⟩ (t, 1, 3) =
  ⟨e, [.var [.own 2 0 0 4, .own 3 0 0 4, .lst true [], .lst true [], .own 4 0 0 4], .var [.own 2 0 0 4, .own 3 0 0 4, .lst true [], .lst true [], .own 4 0 0 4], .row 1 3 [], .row 1 3 [], .row 0 1 C, .var [.own 6 0 0 4, .own 7 0 0 4, .lst true [], .lst true [], .own 4 0 0 4], .row 0 3 A, .row 0 3 B]⟩ := by
  simp [fresh1, getC, setC, he, l2]
 rw [s1]
 have s2 : fresh1 ⟨e, [.var [.own 2 0 0 4, .own 3 0 0 4, .lst true [], .lst true [], .own 4 0 0 4], .var [.own 2 0 0 4, .own 3 0 0 4, .lst true [], .lst true [], .own 4 0 0 4], .row 1 3 [], .row 1 3 [], .row 0 1 C, .var [.own 6 0 0 4, .own 7 0 0 4, .lst true [], .lst true [], .own 4 0 0 4], .row 0 3 A, .row 0 3 B]⟩ (t, 2, 5) =
  ⟨e, [.var [.own 2 0 0 4, .own 3 0 0 4, .lst true [], .lst true [], .own 4 0 0 4], .var [.own 2 0 0 4, .own 3 0 0 4, .lst true [], .lst true [], .own 4 0 0 4], .row 1 3 [], .row 1 3 [], .row 0 1 C, .var [.own 6 0 0 4, .own 7 0 0 4, .own 8 0 0 0, .lst true [], .own 4 0 0 4], .row 0 3 A, .row 0 3 B, .row 0 5 []]⟩ := by
  simp [fresh1, getC, setC, he]
 rw [s2]
 have s3 : fresh1 ⟨e, [.var [.own 2 0 0 4, .own 3 0 0 4, .lst true [], .lst true [], .own 4 0 0 4], .var [.own 2 0 0 4, .own 3 0 0 4, .lst true [], .lst true [], .own 4 0 0 4], .row 1 3 [], .row 1 3 [], .row 0 1 C, .var [.own 6 0 0 4, .own 7 0 0 4, .own 8 0 0 0, .lst true [], .own 4 0 0 4], .row 0 3 A, .row 0 3 B, .row 0 5 []]⟩ (t, 3, 3) =
  ⟨e, [.var [.own 2 0 0 4, .own 3 0 0 4, .lst true [], .lst true [], .own 4 0 0 4], .var [.own 2 0 0 4, .own 3 0 0 4, .lst true [], .lst true [], .own 4 0 0 4], .row 1 3 [], .row 1 3 [], .row 0 1 C, .var [.own 6 0 0 4, .own 7 0 0 4, .own 8 0 0 0, .own 9 0 0 0, .own 4 0 0 4], .row 0 3 A, .row 0 3 B, .row 0 5 [], .row 0 3 []]⟩ := by
  simp [fresh1, getC, setC, he]
 rw [s3]
 simp [fresh1, getC, setC, he, l3, P0]
end Go.Proofs.Ytgefdmkmobaefaa
