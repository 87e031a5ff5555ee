import Derived.Test.YtgefdmkmobaefaaX19GP
set_option linter.unusedSimpArgs false
set_option linter.unusedVariables false
namespace Go.Proofs.Ytgefdmkmobaefaa
open Go.Am Go.Am.Nm Go.Lib Go.Cr
theorem s11 {n : Nat} (hn : 0 < n) (id : Int) : (C19.tab n).p 11 [I id] = some (Bv ⟨id, 0, true, []⟩) := by
 rw [p11 hn, runP_eq, runH_eq]
 simp -implicitDefEqProofs (disch := omega) [c11, Bv]
theorem s36 {n : Nat} (hn : 50 < n) (id : Int) : (C19.tab n).p 36 [I id] = some (Pv ⟨id, true, [], true, []⟩) := by
 rw [p36 hn, runP_eq, runH_eq]
 simp -implicitDefEqProofs (disch := omega) [c36, Pv]
theorem OkB_of {b : Bo} (h : b.cases.length ≤ 1000000) (h2 : (b.cases.all fun c => decide (c.de.grs.length ≤ 1000000 ∧ c.de.pas.length ≤ 1000000 ∧ c.heard.length ≤ 1000000 ∧ c.heard.Pairwise (· < ·))) = true) : OkB b :=
 ⟨h, fun c hc => by
  have := List.all_eq_true.1 h2 c hc
  simp only [decide_eq_true_eq] at this
  exact ⟨⟨this.1, this.2.1, this.2.2.1⟩, this.2.2.2⟩⟩
set_option maxRecDepth 100000 in
theorem s10 {n : Nat} (hn : 54 < n) : (C19.tab n).p 10 [] = some (.bool true) := by
 rw [p10 hn, runP_eq, runH_eq]
 have h11 : (C19.tab 54).p 11 [I 3] = some (Bv ⟨3, 0, true, []⟩) := s11 (by decide) 3
 have h12a : (C19.tab 54).p 12 [Bv ⟨3, 0, true, []⟩, .lst true (List.map I [1, 2]), .lst true (List.map AV.str [[47, 97], [47, 98]])] = some (.tup [Bv ⟨3, 1, false, [⟨⟨11, false, [1, 2], false, [[47, 97], [47, 98]]⟩, false, true, []⟩]⟩, I 11, .lst false (List.map Mv [prepP 3 1 11 [47, 97], prepP 3 2 11 [47, 98]]), I 0]) := s12 (by decide) ⟨3, 0, true, []⟩ [1, 2] [[47, 97], [47, 98]] true true (by decide) (by decide) (by decide) (by decide) (by decide)
 have h12b : (C19.tab 54).p 12 [Bv ⟨3, 1, false, [⟨⟨11, false, [1, 2], false, [[47, 97], [47, 98]]⟩, false, true, []⟩]⟩, .lst true (List.map I [2, 1]), .lst true (List.map AV.str [[47, 97], [47, 98]])] = some (.tup [Bv ⟨3, 1, false, [⟨⟨11, false, [1, 2], false, [[47, 97], [47, 98]]⟩, false, true, []⟩]⟩, I 0, .lst true (List.map Mv []), I 1]) := s12 (by decide) ⟨3, 1, false, [⟨⟨11, false, [1, 2], false, [[47, 97], [47, 98]]⟩, false, true, []⟩]⟩ [2, 1] [[47, 97], [47, 98]] true true (by decide) (by decide) (by decide) (by decide) (by decide)
 have h12c : (C19.tab 54).p 12 [Bv ⟨3, 1, false, [⟨⟨11, false, [1, 2], false, [[47, 97], [47, 98]]⟩, false, true, []⟩]⟩, .lst true (List.map I [2]), .lst true (List.map AV.str [[97]])] = some (.tup [Bv ⟨3, 1, false, [⟨⟨11, false, [1, 2], false, [[47, 97], [47, 98]]⟩, false, true, []⟩]⟩, I 0, .lst true (List.map Mv []), I 60]) := s12 (by decide) ⟨3, 1, false, [⟨⟨11, false, [1, 2], false, [[47, 97], [47, 98]]⟩, false, true, []⟩]⟩ [2] [[97]] true true (by decide) (by decide) (by decide) (by decide) (by decide)
 have h36a : (C19.tab 54).p 36 [I 1] = some (Pv ⟨1, true, [], true, []⟩) := s36 (by decide) 1
 have h36b : (C19.tab 54).p 36 [I 2] = some (Pv ⟨2, true, [], true, []⟩) := s36 (by decide) 2
 have h35a : (C19.tab 54).p 35 [Pv ⟨1, true, [], true, []⟩, Mv (prepP 3 1 11 [47, 97])] = some (.tup [Pv ⟨1, false, [⟨11, [47, 97]⟩], true, []⟩, .lst true (List.map Mv [(msgP 1 3 2 11)]), I 0]) := s35 (by decide) ⟨1, true, [], true, []⟩ (prepP 3 1 11 [47, 97]) (by decide) (by decide)
 have h35b : (C19.tab 54).p 35 [Pv ⟨2, true, [], true, []⟩, Mv (prepP 3 2 11 [47, 98])] = some (.tup [Pv ⟨2, false, [⟨11, [47, 98]⟩], true, []⟩, .lst true (List.map Mv [(msgP 2 3 2 11)]), I 0]) := s35 (by decide) ⟨2, true, [], true, []⟩ (prepP 3 2 11 [47, 98]) (by decide) (by decide)
 have h35c : (C19.tab 54).p 35 [Pv ⟨1, false, [⟨11, [47, 97]⟩], true, []⟩, Mv ⟨3, 1, 1, true, [99], false, [47, 97, 47, 99]⟩] = some (.tup [Pv ⟨1, false, [⟨11, [47, 97]⟩], true, []⟩, .lst true (List.map Mv [(msgP 1 3 3 99)]), I 0]) := s35 (by decide) ⟨1, false, [⟨11, [47, 97]⟩], true, []⟩ ⟨3, 1, 1, true, [99], false, [47, 97, 47, 99]⟩ (by decide) (by decide)
 have h35d : (C19.tab 54).p 35 [Pv ⟨1, false, [⟨11, [47, 97]⟩], true, []⟩, Mv (msgP 3 1 4 11)] = some (.tup [Pv ⟨1, false, [], false, [11]⟩, .lst true (List.map Mv [(msgP 1 3 5 11)]), I 11]) := s35 (by decide) ⟨1, false, [⟨11, [47, 97]⟩], true, []⟩ (msgP 3 1 4 11) (by decide) (by decide)
 have h35e : (C19.tab 54).p 35 [Pv ⟨1, false, [], false, [11]⟩, Mv (msgP 3 1 4 11)] = some (.tup [Pv ⟨1, false, [], false, [11]⟩, .lst true (List.map Mv [(msgP 1 3 5 11)]), I 0]) := s35 (by decide) ⟨1, false, [], false, [11]⟩ (msgP 3 1 4 11) (by decide) (by decide)
 obtain ⟨fh37a, h37a⟩ : ∃ fo, (C19.tab 54).p 37 [Bv ⟨3, 1, false, [⟨⟨11, false, [1, 2], false, [[47, 97], [47, 98]]⟩, false, true, []⟩]⟩, Mv (msgP 1 3 2 11)] = some (.tup [Bv ⟨3, 1, false, [⟨⟨11, false, [1, 2], false, [[47, 97], [47, 98]]⟩, false, false, [1]⟩]⟩, .lst fo (List.map Mv [])]) := s37 (by decide) ⟨3, 1, false, [⟨⟨11, false, [1, 2], false, [[47, 97], [47, 98]]⟩, false, true, []⟩]⟩ (msgP 1 3 2 11) (OkB_of (by decide) (by decide))
 obtain ⟨fh37b, h37b⟩ : ∃ fo, (C19.tab 54).p 37 [Bv ⟨3, 1, false, [⟨⟨11, false, [1, 2], false, [[47, 97], [47, 98]]⟩, false, false, [1]⟩]⟩, Mv (msgP 2 3 2 11)] = some (.tup [Bv ⟨3, 1, false, [⟨⟨11, false, [1, 2], false, [[47, 97], [47, 98]]⟩, true, true, []⟩]⟩, .lst fo (List.map Mv [(msgP 3 1 4 11), (msgP 3 2 4 11)])]) := s37 (by decide) ⟨3, 1, false, [⟨⟨11, false, [1, 2], false, [[47, 97], [47, 98]]⟩, false, false, [1]⟩]⟩ (msgP 2 3 2 11) (OkB_of (by decide) (by decide))
 obtain ⟨fh37c, h37c⟩ : ∃ fo, (C19.tab 54).p 37 [Bv ⟨3, 1, false, [⟨⟨11, false, [1, 2], false, [[47, 97], [47, 98]]⟩, true, true, []⟩]⟩, Mv (msgP 1 3 5 11)] = some (.tup [Bv ⟨3, 1, false, [⟨⟨11, false, [1, 2], false, [[47, 97], [47, 98]]⟩, true, false, [1]⟩]⟩, .lst fo (List.map Mv [])]) := s37 (by decide) ⟨3, 1, false, [⟨⟨11, false, [1, 2], false, [[47, 97], [47, 98]]⟩, true, true, []⟩]⟩ (msgP 1 3 5 11) (OkB_of (by decide) (by decide))
 obtain ⟨fh37d, h37d⟩ : ∃ fo, (C19.tab 54).p 37 [Bv ⟨3, 1, false, [⟨⟨11, false, [1, 2], false, [[47, 97], [47, 98]]⟩, true, false, [1]⟩]⟩, Mv (msgP 2 3 5 11)] = some (.tup [Bv ⟨3, 1, false, []⟩, .lst fo (List.map Mv [])]) := s37 (by decide) ⟨3, 1, false, [⟨⟨11, false, [1, 2], false, [[47, 97], [47, 98]]⟩, true, false, [1]⟩]⟩ (msgP 2 3 5 11) (OkB_of (by decide) (by decide))
 obtain ⟨fh37e, h37e⟩ : ∃ fo, (C19.tab 54).p 37 [Bv ⟨3, 1, false, [⟨⟨11, false, [1, 2], false, [[47, 97], [47, 98]]⟩, false, true, []⟩]⟩, Mv (msgP 2 3 3 11)] = some (.tup [Bv ⟨3, 1, false, []⟩, .lst fo (List.map Mv [(msgP 3 1 6 11), (msgP 3 2 6 11)])]) := s37 (by decide) ⟨3, 1, false, [⟨⟨11, false, [1, 2], false, [[47, 97], [47, 98]]⟩, false, true, []⟩]⟩ (msgP 2 3 3 11) (OkB_of (by decide) (by decide))
 obtain ⟨fh37f, h37f⟩ : ∃ fo, (C19.tab 54).p 37 [Bv ⟨3, 1, false, []⟩, Mv (msgP 2 3 7 11)] = some (.tup [Bv ⟨3, 1, false, []⟩, .lst fo (List.map Mv [(msgP 3 2 6 11)])]) := s37 (by decide) ⟨3, 1, false, []⟩ (msgP 2 3 7 11) (OkB_of (by decide) (by decide))
 have h24 : (C19.tab 54).p 24 [Bv ⟨3, 1, false, [⟨⟨11, false, [1, 2], false, [[47, 97], [47, 98]]⟩, false, true, []⟩]⟩] = some (Bv ⟨3, 1, false, []⟩) := s24 (by decide) ⟨3, 1, false, [⟨⟨11, false, [1, 2], false, [[47, 97], [47, 98]]⟩, false, true, []⟩]⟩ (by decide)
 have h22 : (C19.tab 54).p 22 [Pv ⟨2, false, [⟨11, [47, 98]⟩], true, []⟩] = some (.lst false (List.map Mv [(msgP 2 3 7 11)])) := s22 (by decide) ⟨2, false, [⟨11, [47, 98]⟩], true, []⟩ (by decide)
 have h26a : (C19.tab 54).p 26 [Pv ⟨2, false, [⟨11, [47, 98]⟩], true, []⟩, .str [47, 98, 47, 120]] = some (.bool true) := s26 (by decide) ⟨2, false, [⟨11, [47, 98]⟩], true, []⟩ _ (by decide)
 have h26b : (C19.tab 54).p 26 [Pv ⟨2, false, [⟨11, [47, 98]⟩], true, []⟩, .str [47, 99]] = some (.bool false) := s26 (by decide) ⟨2, false, [⟨11, [47, 98]⟩], true, []⟩ _ (by decide)
 have h38 : ∀ a b c d, (C19.tab 54).p 38 [I a, I b, I c, I d] = some (Mv (msgP a b c d)) := fun a b c d => s38 (by decide) a b c d
 have h15 : ∀ (f g : Bool) (a : List Mg), a.length ≤ 1000000 → (∀ m ∈ a, OkM m) → (C19.tab 54).p 15 [.lst f (a.map Mv), .lst g (a.map Mv)] = some (.bool true) := fun f g a h1 h2 => s15 (by decide) a a f g rfl h1 h2
 have k0 := fun f g => h15 f g [(msgP 1 3 2 11)] (by decide) (by simp [OkM, msgP])
 have k1 := fun f g => h15 f g [(msgP 2 3 2 11)] (by decide) (by simp [OkM, msgP])
 have k2 := fun f g => h15 f g [(msgP 1 3 3 99)] (by decide) (by simp [OkM, msgP])
 have k3 := fun f g => h15 f g [(msgP 3 1 4 11), (msgP 3 2 4 11)] (by decide) (by simp [OkM, msgP])
 have k4 := fun f g => h15 f g [(msgP 1 3 5 11)] (by decide) (by simp [OkM, msgP])
 have k5 := fun f g => h15 f g [(msgP 3 1 6 11), (msgP 3 2 6 11)] (by decide) (by simp [OkM, msgP])
 have k6 := fun f g => h15 f g [(msgP 3 2 6 11)] (by decide) (by simp [OkM, msgP])
 have k7 := fun f g => h15 f g [(msgP 2 3 7 11)] (by decide) (by simp [OkM, msgP])
 clear h15
 simp only [Bv, Cv, Mv, Pv, Rv, prepP, msgP, List.map_cons, List.map_nil] at h11 h12a h12b h12c h36a h36b h35a h35b h35c h35d h35e h37a h37b h37c h37d h37e h37f h24 h22 h26a h26b h38 k0 k1 k2 k3 k4 k5 k6 k7
 have hbs : Bs [47, 97, 47, 99] = [.int .u8 47, .int .u8 97, .int .u8 47, .int .u8 99] := rfl
 have hb0 : Bs [] = [] := rfl
 rw [hbs] at h35c
 try simp only [hb0] at h11
 try simp only [hb0] at h12a
 try simp only [hb0] at h12b
 try simp only [hb0] at h12c
 try simp only [hb0] at h36a
 try simp only [hb0] at h36b
 try simp only [hb0] at h35a
 try simp only [hb0] at h35b
 try simp only [hb0] at h35c
 try simp only [hb0] at h35d
 try simp only [hb0] at h35e
 try simp only [hb0] at h37a
 try simp only [hb0] at h37b
 try simp only [hb0] at h37c
 try simp only [hb0] at h37d
 try simp only [hb0] at h37e
 try simp only [hb0] at h37f
 try simp only [hb0] at h24
 try simp only [hb0] at h22
 try simp only [hb0] at h26a
 try simp only [hb0] at h26b
 try simp only [hb0] at h38
 try simp only [hb0] at k0
 try simp only [hb0] at k1
 try simp only [hb0] at k2
 try simp only [hb0] at k3
 try simp only [hb0] at k4
 try simp only [hb0] at k5
 try simp only [hb0] at k6
 try simp only [hb0] at k7
 simp -implicitDefEqProofs (disch := omega) [c10, a11, a12, a24, a22, a26, a38, a15, a35, a36, a37, h11, h12a, h12b, h12c, h36a, h36b, h35a, h35b, h35c, h35d, h35e, h37a, h37b, h37c, h37d, h37e, h37f, h24, h22, h26a, h26b, h38, k0, k1, k2, k3, k4, k5, k6, k7]
end Go.Proofs.Ytgefdmkmobaefaa
