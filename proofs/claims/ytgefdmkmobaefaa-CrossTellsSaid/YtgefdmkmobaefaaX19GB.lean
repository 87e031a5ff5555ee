import Derived.Test.YtgefdmkmobaefaaA19
import Derived.Test.YtgefdmkmobaefaaCrGA
set_option linter.unusedSimpArgs false
set_option linter.unusedVariables false
namespace Go.Proofs.Ytgefdmkmobaefaa
open Go.Am Go.Am.Nm Go.Lib Go.Cr
abbrev I (n : Int) : AV := .int .i64 n
def Bs (s : List UInt8) : List AV := s.map fun c => .int .u8 (c.toNat : Int)
def Mv (m : Mg) : AV := .agg [I m.fr, I m.to, I m.kind, .lst m.fn (m.nums.map I), .lst m.fd (Bs m.data)]
def Cv (c : Ca) : AV := .agg [I c.de.id, .lst c.de.fg (c.de.grs.map I), .lst c.de.fp (c.de.pas.map AV.str), .bool c.sure, .lst c.fh (c.heard.map I)]
def Dv (d : De) : AV := .agg [I d.id, .lst d.fg (d.grs.map I), .lst d.fp (d.pas.map AV.str)]
def Bv (b : Bo) : AV := .agg [I b.id, I b.next, .lst b.fc (b.cases.map Cv)]
def Rv (r : Rd) : AV := .agg [I r.id, .str r.path]
def Pv (p : Pt) : AV := .agg [I p.id, .lst p.fr (p.ready.map Rv), .lst p.fd (p.did.map I)]
def isPth (s : List UInt8) : Bool := (split s).isSome
def clsh (a b : List UInt8) : Bool := abv a b || abv b a
theorem s49 {n : Nat} (hn : 8 < n) (fr to k id : Int) : (C19.tab n).p 49 [I fr, I to, I k, I id] = some (Mv (msgP fr to k id)) := by
 rw [p49 hn, runP_eq, runH_eq]
 simp -implicitDefEqProofs (disch := omega) [c49, Mv, msgP, Bs]
theorem s38 {n : Nat} (hn : 53 < n) (fr to k id : Int) : (C19.tab n).p 38 [I fr, I to, I k, I id] = some (Mv (msgP fr to k id)) := by
 rw [p38 hn, runP_eq, runH_eq]
 simp -implicitDefEqProofs (disch := omega) [c38, Mv, msgP, Bs]
theorem s43 {n : Nat} (hn : 36 < n) (fr to id : Int) (s : List UInt8) : (C19.tab n).p 43 [I fr, I to, I id, .str s] = some (Mv (prepP fr to id s)) := by
 rw [p43 hn, runP_eq, runH_eq]
 have h := s49 (n := 36) (by decide) fr to 1 id
 simp only [Mv] at h
 simp -implicitDefEqProofs (disch := omega) [c43, a49, h, Mv, msgP, prepP, Bs]
theorem s53 {n : Nat} (hn : 28 < n) (s : List UInt8) : (C19.tab n).p 53 [.str s] = some (.bool (isPth s)) := by
 rw [p53 hn, runP_eq, runH_eq]
 have h := s80 (n := 28) (by decide) s
 unfold spV at h
 unfold isPth
 cases hs : split s with
 | none => rw [hs] at h; simp -implicitDefEqProofs (disch := omega) [c53, a80, h]
 | some l => rw [hs] at h; simp -implicitDefEqProofs (disch := omega) [c53, a80, h]
theorem s44 {n : Nat} (hn : 57 < n) (s : List UInt8) (hl : s.length ≤ 1000000000) : (C19.tab n).p 44 [.str s] = some (.bool (isPth s)) := by
 rw [p44 hn, runP_eq, runH_eq]
 have h := s77 (n := 57) (by decide) s hl
 unfold spV at h
 unfold isPth
 cases hs : split s with
 | none => rw [hs] at h; simp -implicitDefEqProofs (disch := omega) [c44, a77, h]
 | some l => rw [hs] at h; simp -implicitDefEqProofs (disch := omega) [c44, a77, h]
theorem s56 {n : Nat} (hn : 5 < n) (a b : List UInt8) : (C19.tab n).p 56 [.str a, .str b] = some (.bool (clsh a b)) := by
 rw [p56 hn, runP_eq, runH_eq]
 have h1 := s81 (n := 5) (by decide) a b
 have h2 := s81 (n := 5) (by decide) b a
 unfold clsh
 cases hab : abv a b
 ·rw [hab] at h1; simp -implicitDefEqProofs (disch := omega) [c56, a81, h1, h2]
 ·rw [hab] at h1; simp -implicitDefEqProofs (disch := omega) [c56, a81, h1, h2]
theorem s57 {n : Nat} (hn : 75 < n) (a b : List UInt8) (hla : a.length ≤ 1000000000) (hlb : b.length ≤ 1000000000) : (C19.tab n).p 57 [.str a, .str b] = some (.bool (clsh a b)) := by
 rw [p57 hn, runP_eq, runH_eq]
 have h1 := s82 (n := 75) (by decide) a b hla hlb
 have h2 := s82 (n := 75) (by decide) b a hlb hla
 unfold clsh
 cases hab : abv a b
 ·rw [hab] at h1; simp -implicitDefEqProofs (disch := omega) [c57, a82, h1, h2]
 ·rw [hab] at h1; simp -implicitDefEqProofs (disch := omega) [c57, a82, h1, h2]
theorem l78 {Γ : Tab} (l : List Int) (x : Int) (hl : l.length ≤ 1000000) (f : Bool) (e0 : Env) (h0 : e0 0 = .lst f (l.map I)) (h1 : e0 1 = I x) (h7 : e0 7 = .int .i64 l.length) :
  iter (round Γ [8] [(.exit 0, []), (.ret, [4])] c78_1 e0 0 []) ([.int .i64 0], []) = some ((l.find? fun y => decide (x = y)).elim (.exit 0, [], []) fun _ => (.ret, [.int .i64 (l.findIdx fun y => decide (x = y) : Nat)], [])) :=
 for_idx (f := round Γ [8] [(.exit 0, []), (.ret, [4])] c78_1 e0 0 []) (fun i => ([.int .i64 (i : Int)], [])) l (fun y => decide (x = y)) (fun i _ => (.ret, [.int .i64 (i : Int)], [])) (.exit 0, [], [])
  (fun i hi => by
   obtain ⟨y, hy⟩ : ∃ y, y = l[i] := ⟨_, rfl⟩
   rw [← hy]
   by_cases h : x = y
   ·simp -implicitDefEqProofs (disch := omega) [round_eq, b78_1, h0, h1, h7, hi, ← hy, h]
   ·simp -implicitDefEqProofs (disch := omega) [round_eq, b78_1, h0, h1, h7, hi, ← hy, h])
  (by simp -implicitDefEqProofs (disch := omega) [round_eq, b78_1, h7])
theorem s78 {n : Nat} (hn : 47 < n) (l : List Int) (x : Int) (hl : l.length ≤ 1000000) (f : Bool) : (C19.tab n).p 78 [.lst f (l.map I), I x] = some (I ((l.find? fun y => decide (x = y)).elim (-1) fun _ => ((l.findIdx fun y => decide (x = y) : Nat) : Int))) := by
 rw [p78 hn, runP_eq, runH_eq]
 have h := l78 (Γ := C19.tab 47) l x hl f
 simp -implicitDefEqProofs (disch := omega) [c78]
 rw [h _ (by simp -implicitDefEqProofs (disch := omega)) (by simp -implicitDefEqProofs (disch := omega)) (by simp -implicitDefEqProofs (disch := omega))]
 cases hf : l.find? fun y => decide (x = y) with
 | none => simp -implicitDefEqProofs (disch := omega)
 | some y => simp -implicitDefEqProofs (disch := omega)
theorem find_mem {l : List Int} {x : Int} : (l.find? fun y => decide (x = y)).isSome = decide (x ∈ l) := by
 induction l with
 | nil => rfl
 | cons y l ih =>
  rw [List.find?_cons]
  by_cases h : x = y
  ·simp [h]
  ·simp [h, ih]
theorem s48 {n : Nat} (hn : 48 < n) (l : List Int) (x : Int) (hl : l.length ≤ 1000000) (f : Bool) : (C19.tab n).p 48 [.lst f (l.map I), I x] = some (.bool (decide (x ∈ l))) := by
 rw [p48 hn, runP_eq, runH_eq]
 have h := s78 (n := 48) (by decide) l x hl f
 rw [← find_mem]
 cases hf : l.find? fun y => decide (x = y) with
 | none =>
  rw [hf] at h
  simp only [Option.elim_none] at h
  simp -implicitDefEqProofs (disch := omega) [c48, a78, h]
 | some y =>
  rw [hf] at h
  simp only [Option.elim_some] at h
  simp -implicitDefEqProofs (disch := omega) [c48, a78, h]
end Go.Proofs.Ytgefdmkmobaefaa

namespace Go.Proofs.Ytgefdmkmobaefaa
open Go.Am Go.Am.Nm Go.Lib Go.Cr
theorem for_go {X Y : Type} {f : X → Option (X ⊕ Y)} (emb : Nat → X) (n : Nat) (fin : Y) (hstep : ∀ i, i < n → f (emb i) = some (.inl (emb (i + 1)))) (hend : f (emb n) = some (.inr fin)) : iter f (emb 0) = some fin := by
 have := for_list (f := f) (fun i (_ : Unit) => emb i) (List.range n) (fun s _ => s) (fun _ => fin) (fun _ _ => True) (fun i hi s _ => ⟨trivial, hstep i (by simpa using hi)⟩) (fun s _ => by simpa using hend) () trivial
 simpa using this
def Mz (m : Mg) : Mg := { m with fn := true, fd := true }
def Dz (d : De) : De := { d with fg := true, fp := true }
def Cz (c : Ca) : Ca := { c with de := Dz c.de, fh := true }
def Bz (b : Bo) : Bo := { b with fc := true, cases := b.cases.map Cz }
def Pz (p : Pt) : Pt := { p with fr := true, fd := true }
def OkM (m : Mg) : Prop := m.nums.length ≤ 1000000 ∧ m.data.length ≤ 1000000
def OkC (c : Ca) : Prop := c.de.grs.length ≤ 1000000 ∧ c.de.pas.length ≤ 1000000 ∧ c.heard.length ≤ 1000000
theorem toBytes_Bs : ∀ s : List UInt8, toBytes (Bs s) = some s
 | [] => rfl
 | c :: s => by
  have h := toBytes_Bs s
  unfold Bs at h ⊢
  simp only [List.map_cons, toBytes, h, Option.bind_some, Int.toNat_natCast, UInt8.ofNat_toNat]
theorem s45 {n : Nat} (hn : 38 < n) (l : List Int) (f g : Bool) (hl : l.length ≤ 1000000) : (C19.tab n).p 45 [.lst f (l.map I), .lst g (l.map I)] = some (.bool true) := by
 rw [p45 hn, runP_eq, runH_eq]
 have h : ∀ e0 : Env, e0 0 = .lst f (l.map I) → e0 1 = .lst g (l.map I) → iter (round (C19.tab 38) [5] [(.exit 0, []), (.ret, [4])] c45_1 e0 0 []) ([.int .i64 0], []) = some (.exit 0, [], []) := fun e0 h0 h1 =>
  for_go (f := round (C19.tab 38) [5] [(.exit 0, []), (.ret, [4])] c45_1 e0 0 []) (fun i => ([.int .i64 (i : Int)], [])) l.length _
   (fun i hi => by
    simp -implicitDefEqProofs (disch := omega) [round_eq, b45_1, h0, h1, hi])
   (by simp -implicitDefEqProofs (disch := omega) [round_eq, b45_1, h0, h1])
 simp -implicitDefEqProofs (disch := omega) [c45]
 rw [h _ (by simp -implicitDefEqProofs (disch := omega)) (by simp -implicitDefEqProofs (disch := omega))]
 simp -implicitDefEqProofs (disch := omega)
theorem s50 {n : Nat} (hn : 70 < n) (l : List Int) (x : Int) (f : Bool) (hl : l.length ≤ 1000000) : (C19.tab n).p 50 [.lst f (l.map I), I x] = some (.bool (decide (x ∈ l))) := by
 rw [p50 hn, runP_eq, runH_eq]
 have h : ∀ e0 : Env, e0 0 = .lst f (l.map I) → e0 1 = I x → iter (round (C19.tab 70) [5] [(.exit 0, []), (.ret, [4])] c50_1 e0 0 []) ([.int .i64 0], []) = some ((l.find? fun y => decide (x = y)).elim (.exit 0, [], []) fun _ => (.ret, [.bool true], [])) := fun e0 h0 h1 =>
  for_idx (f := round (C19.tab 70) [5] [(.exit 0, []), (.ret, [4])] c50_1 e0 0 []) (fun i => ([.int .i64 (i : Int)], [])) l (fun y => decide (x = y)) (fun i _ => (.ret, [.bool true], [])) (.exit 0, [], [])
   (fun i hi => by
    obtain ⟨y, hy⟩ : ∃ y, y = l[i] := ⟨_, rfl⟩
    rw [← hy]
    by_cases h : x = y
    ·simp -implicitDefEqProofs (disch := omega) [round_eq, b50_1, h0, h1, hi, ← hy, h]
    ·have h' : ¬ y = x := fun e => h e.symm
     simp -implicitDefEqProofs (disch := omega) [round_eq, b50_1, h0, h1, hi, ← hy, h, h'])
   (by simp -implicitDefEqProofs (disch := omega) [round_eq, b50_1, h0, h1])
 rw [← find_mem]
 simp -implicitDefEqProofs (disch := omega) [c50]
 rw [h _ (by simp -implicitDefEqProofs (disch := omega)) (by simp -implicitDefEqProofs (disch := omega))]
 cases hf : l.find? fun y => decide (x = y) with
 | none => simp -implicitDefEqProofs (disch := omega)
 | some y => simp -implicitDefEqProofs (disch := omega)
theorem Mz_inj {x y : Mg} (h : Mz x = Mz y) : x.fr = y.fr ∧ x.to = y.to ∧ x.kind = y.kind ∧ x.nums = y.nums ∧ x.data = y.data := by
 simp only [Mz, Mg.mk.injEq] at h
 exact ⟨h.1, h.2.1, h.2.2.1, h.2.2.2.2.1, h.2.2.2.2.2.2⟩
theorem s15 {n : Nat} (hn : 39 < n) (a b : List Mg) (f g : Bool) (hab : a.map Mz = b.map Mz) (hl : a.length ≤ 1000000) (hm : ∀ m ∈ a, OkM m) : (C19.tab n).p 15 [.lst f (a.map Mv), .lst g (b.map Mv)] = some (.bool true) := by
 rw [p15 hn, runP_eq, runH_eq]
 have hln : a.length = b.length := by simpa using congrArg List.length hab
 have h : ∀ e0 : Env, e0 0 = .lst f (a.map Mv) → e0 1 = .lst g (b.map Mv) → iter (round (C19.tab 39) [5] [(.exit 0, []), (.ret, [4])] c15_1 e0 0 []) ([.int .i64 0], []) = some (.exit 0, [], []) := fun e0 h0 h1 =>
  for_go (f := round (C19.tab 39) [5] [(.exit 0, []), (.ret, [4])] c15_1 e0 0 []) (fun i => ([.int .i64 (i : Int)], [])) a.length _
   (fun i hi => by
    have hi' : i < b.length := by omega
    obtain ⟨x, hx⟩ : ∃ x, x = a[i] := ⟨_, rfl⟩
    obtain ⟨y, hy⟩ : ∃ y, y = b[i] := ⟨_, rfl⟩
    have hxy : Mz x = Mz y := by
     have := congrArg (fun l => l[i]?) hab
     simpa [hi, hi', ← hx, ← hy] using this
    have ho : OkM x := hm x (hx ▸ List.getElem_mem hi)
    obtain ⟨e1, e2, e3, e4, e5⟩ := Mz_inj hxy
    obtain ⟨fr, to, k, fn, nu, fd, da⟩ := x
    obtain ⟨fr', to', k', fn', nu', fd', da'⟩ := y
    simp only at e1 e2 e3 e4 e5
    subst e1 e2 e3 e4 e5
    have h45 := s45 (n := 39) (by decide) nu fn fn' ho.1
    simp -implicitDefEqProofs (disch := omega) [round_eq, b15_1, h0, h1, hi, hi', ← hx, ← hy, Mv, a45, h45, toBytes_Bs])
   (by simp -implicitDefEqProofs (disch := omega) [round_eq, b15_1, h0, h1, hln])
 simp -implicitDefEqProofs (disch := omega) [c15, hln]
 rw [h _ (by simp -implicitDefEqProofs (disch := omega)) (by simp -implicitDefEqProofs (disch := omega))]
 simp -implicitDefEqProofs (disch := omega)
end Go.Proofs.Ytgefdmkmobaefaa

namespace Go.Proofs.Ytgefdmkmobaefaa
open Go.Am Go.Am.Nm Go.Lib Go.Cr
theorem Cz_inj {x y : Ca} (h : Cz x = Cz y) : x.de.id = y.de.id ∧ x.de.grs = y.de.grs ∧ x.de.pas = y.de.pas ∧ x.sure = y.sure ∧ x.heard = y.heard := by
 simp only [Cz, Dz, Ca.mk.injEq, De.mk.injEq] at h
 exact ⟨h.1.1, h.1.2.2.1, h.1.2.2.2.2, h.2.1, h.2.2.2⟩
theorem s14 {n : Nat} (hn : 59 < n) (a b : Bo) (hab : Bz a = Bz b) (hl : a.cases.length ≤ 1000000) (hm : ∀ m ∈ a.cases, OkC m) : (C19.tab n).p 14 [Bv a, Bv b] = some (.bool true) := by
 rw [p14 hn, runP_eq, runH_eq]
 obtain ⟨aid, an, af, ac⟩ := a
 obtain ⟨bid, bn, bf, bc⟩ := b
 simp only [Bz, Bo.mk.injEq, true_and] at hab
 obtain ⟨rfl, rfl, hc⟩ := hab
 simp only at hl hm
 have hln : ac.length = bc.length := by simpa using congrArg List.length hc
 have h : ∀ e0 : Env, e0 2 = .rptr [I aid, I an, .lst af (ac.map Cv)] → e0 3 = .rptr [I aid, I an, .lst bf (bc.map Cv)] → iter (round (C19.tab 59) [5] [(.exit 0, []), (.ret, [4])] c14_2 e0 0 []) ([.int .i64 0], []) = some (.exit 0, [], []) := fun e0 h0 h1 =>
  for_go (f := round (C19.tab 59) [5] [(.exit 0, []), (.ret, [4])] c14_2 e0 0 []) (fun i => ([.int .i64 (i : Int)], [])) ac.length _
   (fun i hi => by
    have hi' : i < bc.length := by omega
    obtain ⟨x, hx⟩ : ∃ x, x = ac[i] := ⟨_, rfl⟩
    obtain ⟨y, hy⟩ : ∃ y, y = bc[i] := ⟨_, rfl⟩
    have hxy : Cz x = Cz y := by
     have := congrArg (fun l => l[i]?) hc
     simpa [hi, hi', ← hx, ← hy] using this
    have ho : OkC x := hm x (hx ▸ List.getElem_mem hi)
    obtain ⟨e1, e2, e3, e4, e5⟩ := Cz_inj hxy
    obtain ⟨⟨di, fg, gr, fp, pa⟩, su, fh, he⟩ := x
    obtain ⟨⟨di', fg', gr', fp', pa'⟩, su', fh', he'⟩ := y
    simp only at e1 e2 e3 e4 e5
    subst e1 e2 e3 e4 e5
    have h45 := s45 (n := 59) (by decide) gr fg fg' ho.1
    have h45' := s45 (n := 59) (by decide) he fh fh' ho.2.2
    obtain ⟨-, ho, -⟩ := ho
    simp only at ho
    have hin : ∀ e1 : Env, e1 6 = .ptr 0 0 0 0 → e1 7 = .ptr 1 0 0 0 → iter (round (C19.tab 59) [10] [(.exit 2, []), (.ret, [4])] c14_1 e1 2 []) ([.int .i64 0], [.var [I di, .lst fg (gr.map I), .lst fp (pa.map AV.str), .bool su, .lst fh (he.map I)], .var [I di, .lst fg' (gr.map I), .lst fp' (pa.map AV.str), .bool su, .lst fh' (he.map I)]]) = some (.exit 2, [], [.var [I di, .lst fg (gr.map I), .lst fp (pa.map AV.str), .bool su, .lst fh (he.map I)], .var [I di, .lst fg' (gr.map I), .lst fp' (pa.map AV.str), .bool su, .lst fh' (he.map I)]]) := fun e1 q6 q7 =>
     for_go (f := round (C19.tab 59) [10] [(.exit 2, []), (.ret, [4])] c14_1 e1 2 []) (fun i => ([.int .i64 (i : Int)], [.var [I di, .lst fg (gr.map I), .lst fp (pa.map AV.str), .bool su, .lst fh (he.map I)], .var [I di, .lst fg' (gr.map I), .lst fp' (pa.map AV.str), .bool su, .lst fh' (he.map I)]])) pa.length _
      (fun k hk => by simp -implicitDefEqProofs (disch := omega) [round_eq, b14_1, q6, q7, hk])
      (by simp -implicitDefEqProofs (disch := omega) [round_eq, b14_1, q6, q7])
    simp -implicitDefEqProofs (disch := omega) [round_eq, b14_2, h0, h1, hi, hi', ← hx, ← hy, Cv, a45, h45, h45']
    rw [hin _ (by simp -implicitDefEqProofs (disch := omega)) (by simp -implicitDefEqProofs (disch := omega))]
    simp -implicitDefEqProofs (disch := omega))
   (by simp -implicitDefEqProofs (disch := omega) [round_eq, b14_2, h0, h1, hln])
 simp -implicitDefEqProofs (disch := omega) [c14, Bv, hln]
 rw [h _ (by simp -implicitDefEqProofs (disch := omega)) (by simp -implicitDefEqProofs (disch := omega))]
 simp -implicitDefEqProofs (disch := omega)
theorem s60 {n : Nat} (hn : 85 < n) (a b : Pt) (hab : Pz a = Pz b) (hl : a.ready.length ≤ 1000000) (hd : a.did.length ≤ 1000000) : (C19.tab n).p 60 [Pv a, Pv b] = some (.bool true) := by
 rw [p60 hn, runP_eq, runH_eq]
 obtain ⟨aid, ar, ac, ad, di⟩ := a
 obtain ⟨bid, br, bc, bd, di'⟩ := b
 simp only [Pz, Pt.mk.injEq, true_and] at hab
 obtain ⟨rfl, rfl, rfl⟩ := hab
 simp only at hl hd
 have h45 := s45 (n := 85) (by decide) di ad bd hd
 have h : ∀ e0 : Env, e0 2 = .rptr [I aid, .lst ar (ac.map Rv), .lst ad (di.map I)] → e0 3 = .rptr [I aid, .lst br (ac.map Rv), .lst bd (di.map I)] → iter (round (C19.tab 85) [6] [(.exit 0, []), (.ret, [4])] c60_1 e0 0 []) ([.int .i64 0], []) = some (.exit 0, [], []) := fun e0 h0 h1 =>
  for_go (f := round (C19.tab 85) [6] [(.exit 0, []), (.ret, [4])] c60_1 e0 0 []) (fun i => ([.int .i64 (i : Int)], [])) ac.length _
   (fun i hi => by
    simp -implicitDefEqProofs (disch := omega) [round_eq, b60_1, h0, h1, hi, Rv, cellsEq])
   (by simp -implicitDefEqProofs (disch := omega) [round_eq, b60_1, h0, h1])
 simp -implicitDefEqProofs (disch := omega) [c60, Pv, a45, h45]
 rw [h _ (by simp -implicitDefEqProofs (disch := omega)) (by simp -implicitDefEqProofs (disch := omega))]
 simp -implicitDefEqProofs (disch := omega)
end Go.Proofs.Ytgefdmkmobaefaa

namespace Go.Proofs.Ytgefdmkmobaefaa
open Go.Am Go.Am.Nm Go.Lib Go.Cr
theorem s76 {n : Nat} (hn : 29 < n) (s : List UInt8) (h : AH) : callA (C19.tab n) 76 [.str s] h = some (.bool (!isPth s), h) := by
 rw [p76 hn, runH_eq]
 have h1 := s53 (n := 29) (by decide) s
 simp -implicitDefEqProofs (disch := omega) [c76, a53, h1]
theorem s94 {n : Nat} (hn : 31 < n) (l : List (List UInt8)) (f : Bool) (hl : l.length ≤ 1000000) :
  callA (C19.tab n) 94 [.lst f (l.map AV.str), .fn (.func 76) [] []] [] = some (I ((l.find? fun y => !isPth y).elim (-1) fun _ => ((l.findIdx fun y => !isPth y : Nat) : Int)), []) := by
 rw [p94 hn, runH_eq]
 have h : ∀ e0 : Env, e0 0 = .lst f (l.map AV.str) → e0 1 = .fn (.func 76) [] [] → e0 7 = .int .i64 l.length → iter (round (C19.tab 31) [8] [(.exit 0, []), (.ret, [4])] c94_1 e0 0 []) ([.int .i64 0], []) = some ((l.find? fun y => !isPth y).elim (.exit 0, [], []) fun _ => (.ret, [.int .i64 (l.findIdx fun y => !isPth y : Nat)], [])) := fun e0 h0 h1 h7 =>
  for_idx (f := round (C19.tab 31) [8] [(.exit 0, []), (.ret, [4])] c94_1 e0 0 []) (fun i => ([.int .i64 (i : Int)], [])) l (fun y => !isPth y) (fun i _ => (.ret, [.int .i64 (i : Int)], [])) (.exit 0, [], [])
   (fun i hi => by
    obtain ⟨y, hy⟩ : ∃ y, y = l[i] := ⟨_, rfl⟩
    rw [← hy]
    have h76 := s76 (n := 31) (by decide) y
    cases h : isPth y
    ·rw [h] at h76; simp -implicitDefEqProofs (disch := omega) [round_eq, b94_1, h0, h1, h7, hi, ← hy, h76]
    ·rw [h] at h76; simp -implicitDefEqProofs (disch := omega) [round_eq, b94_1, h0, h1, h7, hi, ← hy, h76])
   (by simp -implicitDefEqProofs (disch := omega) [round_eq, b94_1, h0, h1, h7])
 simp -implicitDefEqProofs (disch := omega) [c94]
 rw [h _ (by simp -implicitDefEqProofs (disch := omega)) (by simp -implicitDefEqProofs (disch := omega)) (by simp -implicitDefEqProofs (disch := omega))]
 cases hf : l.find? fun y => !isPth y with
 | none => simp -implicitDefEqProofs (disch := omega)
 | some y => simp -implicitDefEqProofs (disch := omega)
theorem find_any {α : Type} (p : α → Bool) (l : List α) : (l.find? p).isSome = l.any p := by
 induction l with
 | nil => rfl
 | cons y l ih => rw [List.find?_cons, List.any_cons]; cases p y <;> simp [ih]
theorem s75 {n : Nat} (hn : 32 < n) (l : List (List UInt8)) (f : Bool) (hl : l.length ≤ 1000000) :
  callA (C19.tab n) 75 [.lst f (l.map AV.str), .fn (.func 76) [] []] [] = some (.bool (!l.all isPth), []) := by
 rw [p75 hn, runH_eq]
 have h := s94 (n := 32) (by decide) l f hl
 have e : (!l.all isPth) = (l.find? fun y => !isPth y).isSome := by
  rw [find_any]
  simp [List.all_eq_not_any_not]
 rw [e]
 cases hf : l.find? fun y => !isPth y with
 | none => rw [hf] at h; simp only [Option.elim_none] at h; simp -implicitDefEqProofs (disch := omega) [c75, h]
 | some y => rw [hf] at h; simp only [Option.elim_some] at h; simp -implicitDefEqProofs (disch := omega) [c75, h]
theorem l39 {Γ : Tab} (l : List Int) (f : Bool) (hl : l.length ≤ 1000000) (e0 : Env) (h1 : e0 1 = .lst f (l.map I)) (h19 : e0 19 = .lst f (l.map I)) (h20 : e0 20 = .int .i64 l.length) :
  iter (round Γ [21] [(.exit 0, []), (.ret, [6])] c39_1 e0 0 []) ([.int .i64 0], []) = some (if grsOK l = true then (.exit 0, [], []) else (.ret, [.int .i64 1], [])) := by
 have := for_all (f := round Γ [21] [(.exit 0, []), (.ret, [6])] c39_1 e0 0 []) (fun i => ([.int .i64 (i : Int)], [])) (List.range l.length) (goodG l) (.exit 0, [], []) (.ret, [.int .i64 1], [])
  (fun i hi => by
   have hi : i < l.length := by simpa using hi
   rw [List.getElem_range]
   obtain ⟨x, hx⟩ : ∃ x, x = l[i] := ⟨_, rfl⟩
   have hx' : l[i]? = some x := by rw [hx]; exact List.getElem?_eq_getElem hi
   unfold goodG
   simp only [hx', Option.getD_some]
   by_cases c1 : x < 0
   ·have : ¬ (0 ≤ x ∧ x < 8) := by omega
    simp -implicitDefEqProofs (disch := omega) [round_eq, b39_1, h1, h19, h20, hi, ← hx, c1, this]
   ·by_cases c2 : 8 ≤ x
    ·have : ¬ (0 ≤ x ∧ x < 8) := by omega
     simp -implicitDefEqProofs (disch := omega) [round_eq, b39_1, h1, h19, h20, hi, ← hx, c1, c2, this]
    ·have c3 : 0 ≤ x ∧ x < 8 := by omega
     cases i with
     | zero => simp -implicitDefEqProofs (disch := omega) [round_eq, b39_1, h1, h19, h20, hi, ← hx, c1, c2, c3]
     | succ k =>
      have hk : k < l.length := by omega
      obtain ⟨y, hy⟩ : ∃ y, y = l[k] := ⟨_, rfl⟩
      have hy' : l[k]? = some y := by rw [hy]; exact List.getElem?_eq_getElem hk
      have e1 : ((k + 1 : Nat) : Int) - 1 = (k : Int) := by omega
      by_cases c4 : x ≤ y
      ·have c5 : ¬ y < x := by omega
       simp -implicitDefEqProofs (disch := omega) [round_eq, b39_1, h1, h19, h20, hi, hk, ← hx, ← hy, c1, c2, c3, c4, c5, hy', e1]
      ·have c5 : y < x := by omega
       simp -implicitDefEqProofs (disch := omega) [round_eq, b39_1, h1, h19, h20, hi, hk, ← hx, ← hy, c1, c2, c3, c4, c5, hy', e1])
  (by simp -implicitDefEqProofs (disch := omega) [round_eq, b39_1, h1, h19, h20])
 unfold grsOK
 exact this
theorem s39 {n : Nat} (hn : 33 < n) (b : Bo) (grs : List Int) (pas : List (List UInt8)) (f g : Bool) (hg : grs.length ≤ 1000000) (hp : pas.length ≤ 1000000) (hc : b.cases.length ≤ 1000000) :
  (C19.tab n).p 39 [Bv b, .lst f (grs.map I), .lst g (pas.map AV.str)] = some (I (mayP isPth b grs pas)) := by
 rw [p39 hn, runP_eq, runH_eq]
 have h75 := s75 (n := 33) (by decide) pas g hp
 have h39 := l39 (Γ := C19.tab 33) grs f hg
 unfold mayP
 obtain ⟨pb, hpb⟩ : ∃ pb, pb = pas.all isPth := ⟨_, rfl⟩
 rw [← hpb] at h75 ⊢
 by_cases c1 : grs = []
 ·have c1' : grs.length = 0 := by rw [c1]; rfl
  simp -implicitDefEqProofs (disch := omega) [c39, Bv, c1]
 ·have c1' : grs.length ≠ 0 := by simpa using c1
  by_cases c2 : grs.length = pas.length
  ·simp -implicitDefEqProofs (disch := omega) [c39, Bv, c1, c2]
   rw [h39 _ (by simp -implicitDefEqProofs (disch := omega)) (by simp -implicitDefEqProofs (disch := omega)) (by simp -implicitDefEqProofs (disch := omega) [c2])]
   by_cases c3 : grsOK grs = true
   ·rw [if_pos c3]
    have c7 : ¬ pas = [] := by intro e; rw [e] at c2; exact c1' c2
    cases pb with
    | true =>
     by_cases c5 : 16 ≤ b.cases.length
     ·simp -implicitDefEqProofs (disch := omega) [h75, c3, c5, c7]
     ·by_cases c6 : 4294967296 ≤ b.next
      ·simp -implicitDefEqProofs (disch := omega) [h75, c3, c5, c6, c7]
      ·simp -implicitDefEqProofs (disch := omega) [h75, c3, c5, c6, c7]
    | false => simp -implicitDefEqProofs (disch := omega) [h75, c3, c7]
   ·have c3' : grsOK grs = false := by simpa using c3
    rw [if_neg c3]
    have c7 : ¬ pas = [] := by intro e; rw [e] at c2; exact c1' c2
    simp -implicitDefEqProofs (disch := omega) [c3', c7]
  ·simp -implicitDefEqProofs (disch := omega) [c39, Bv, c1, c2]
end Go.Proofs.Ytgefdmkmobaefaa

namespace Go.Proofs.Ytgefdmkmobaefaa
open Go.Am Go.Am.Nm Go.Lib Go.Cr
theorem szM (l : List Mg) : szOk 5 (l.map Mv) = true := by simp [szOk, Mv]
theorem szC (l : List Ca) : szOk 5 (l.map Cv) = true := by simp [szOk, Cv]
theorem szR (l : List Rd) : szOk 2 (l.map Rv) = true := by simp [szOk, Rv]
theorem szI (l : List Int) : szOk 1 (l.map I) = true := by simp [szOk]
theorem mayP_ok {isP : List UInt8 → Bool} {b : Bo} {grs : List Int} {pas : List (List UInt8)} (h : mayP isP b grs pas = 0) :
  grs ≠ [] ∧ grs.length = pas.length ∧ grsOK grs = true ∧ pas.all isP = true ∧ b.cases.length < 16 ∧ b.next < 4294967296 := by
 unfold mayP at h
 by_cases c1 : grs = [] ∨ grs.length ≠ pas.length
 ·rw [if_pos c1] at h; omega
 ·rw [if_neg c1] at h
  by_cases c2 : grsOK grs = false
  ·rw [if_pos c2] at h; omega
  ·rw [if_neg c2] at h
   by_cases c3 : pas.all isP = false
   ·rw [if_pos c3] at h; omega
   ·rw [if_neg c3] at h
    by_cases c4 : 16 ≤ b.cases.length ∨ 4294967296 ≤ b.next
    ·rw [if_pos c4] at h; omega
    ·exact ⟨fun e => c1 (Or.inl e), Decidable.byContradiction fun e => c1 (Or.inr e), by simpa using c2, by simpa using c3, by omega, by omega⟩
theorem foldl_snoc {α β : Type} (f : α → β) : ∀ (l : List α) (s : List β), l.foldl (fun s x => s ++ [f x]) s = s ++ l.map f
 | [], s => by simp
 | x :: l, s => by rw [List.foldl_cons, foldl_snoc f l, List.map_cons, List.append_assoc]; rfl
theorem l12 {n : Nat} (hn : 36 < n) (grs : List Int) (pas : List (List UInt8)) (f g : Bool) (hl : grs.length = pas.length) (hg : grs.length ≤ 1000000) (bi id nx : Int) (m : Nat) (l1 l2 cs : List AV) (e0 : Env)
  (h2 : e0 2 = .lst g (pas.map AV.str)) (h3 : e0 3 = .ptr 0 0 0 0) (h11 : e0 11 = .ptr 2 0 0 0) (h46 : e0 46 = .lst f (grs.map I)) (h47 : e0 47 = .int .i64 grs.length) :
  iter (round (C19.tab n) [12, 48] [(.exit 0, [12])] c12_1 e0 5 [4]) ([.own 4 0 0 0, .int .i64 0], [.var [I bi, I nx, .own 3 1 0 m], .var [.int .i64 0, .int .i64 0, .lst true []], .var [I id, .lst false l1, .lst false l2], .row 1 5 cs, .row 0 5 []]) =
   some (.exit 0, [.own 4 0 0 grs.length], [.var [I bi, I nx, .own 3 1 0 m], .var [.int .i64 0, .int .i64 0, .lst true []], .var [I id, .lst false l1, .lst false l2], .row 1 5 cs, .row 0 5 (((grs.zip pas).map fun x => prepP bi x.1 id x.2).map Mv)]) := by
 have hz : (grs.zip pas).length = grs.length := by simp [hl]
 have := for_list (f := round (C19.tab n) [12, 48] [(.exit 0, [12])] c12_1 e0 5 [4]) (fun i (s : List Mg) => ([.own 4 0 0 s.length, .int .i64 (i : Int)], [.var [I bi, I nx, .own 3 1 0 m], .var [.int .i64 0, .int .i64 0, .lst true []], .var [I id, .lst false l1, .lst false l2], .row 1 5 cs, .row 0 5 (s.map Mv)])) (grs.zip pas)
  (fun s x => s ++ [prepP bi x.1 id x.2]) (fun s => (.exit 0, [.own 4 0 0 s.length], [.var [I bi, I nx, .own 3 1 0 m], .var [.int .i64 0, .int .i64 0, .lst true []], .var [I id, .lst false l1, .lst false l2], .row 1 5 cs, .row 0 5 (s.map Mv)])) (fun i s => s.length = i)
  (fun i hi s hs => by
   have hi' : i < grs.length := by omega
   have hi2 : i < pas.length := by omega
   refine ⟨by simp [hs], ?_⟩
   rw [List.getElem_zip]
   obtain ⟨x, hx⟩ : ∃ x, x = grs[i] := ⟨_, rfl⟩
   obtain ⟨y, hy⟩ : ∃ y, y = pas[i] := ⟨_, rfl⟩
   have h43 := s43 (n := n) hn bi x id y
   simp only [Mv] at h43
   rw [← hx, ← hy]
   simp -implicitDefEqProofs (disch := omega) [round_eq, b12_1, h2, h3, h11, h46, h47, hi', hi2, ← hx, ← hy, a43, h43, hs, Mv, szM]
   done)
  (fun s hs => by
   simp -implicitDefEqProofs (disch := omega) [round_eq, b12_1, h46, h47, hs, hz]
   done) [] rfl
 rw [foldl_snoc] at this
 simpa [hl] using this
theorem s12 {n : Nat} (hn : 37 < n) (b : Bo) (grs : List Int) (pas : List (List UInt8)) (f g : Bool) (hg : grs.length ≤ 1000000) (hp : pas.length ≤ 1000000) (hc : b.cases.length ≤ 1000000)
  (hi : 0 ≤ b.id ∧ b.id < 8) (hx : 0 ≤ b.next) :
  (C19.tab n).p 12 [Bv b, .lst f (grs.map I), .lst g (pas.map AV.str)] = some (.tup [Bv (startP isPth b grs pas).1, I (startP isPth b grs pas).2.1, .lst (decide (mayP isPth b grs pas ≠ 0)) ((startP isPth b grs pas).2.2.1.map Mv), I (startP isPth b grs pas).2.2.2]) := by
 rw [p12 hn, runP_eq, runH_eq]
 have h39 := s39 (n := 37) (by decide) b grs pas f g hg hp hc
 have h40 := fun a h => q40 (n := 37) (by decide) a h
 have h41 := fun a h => q41 (n := 37) (by decide) a h
 have h42 := fun a h => p42 (n := 37) (by decide) a h
 obtain ⟨bi, bn, bf, bc⟩ := b
 simp only [Bv] at h39 hi hx hc ⊢
 unfold startP
 by_cases hm : mayP isPth ⟨bi, bn, bf, bc⟩ grs pas = 0
 ·rw [if_pos hm]
  rw [hm] at h39
  obtain ⟨q1, q2, q3, q4, q5, q6⟩ := mayP_ok hm
  simp only at q5 q6
  have e8 : (bn + 1) * 8 + bi = 8 * (bn + 1) + bi := by omega
  have ez : (grs.zip pas).length = grs.length := by simp [q2]
  simp -implicitDefEqProofs (disch := omega) [c12, a39, h39, h40, h41, h42, szM, szC, szI, szS]
  rw [l12 (n := 37) (by decide) grs pas f g q2 hg _ _ _ _ _ _ _ _ (by simp -implicitDefEqProofs (disch := omega)) (by simp -implicitDefEqProofs (disch := omega)) (by simp -implicitDefEqProofs (disch := omega)) (by simp -implicitDefEqProofs (disch := omega)) (by simp -implicitDefEqProofs (disch := omega))]
  simp -implicitDefEqProofs (disch := omega) [Cv, e8, ez]
  done
 ·rw [if_neg hm]
  simp -implicitDefEqProofs (disch := omega) [c12, a39, h39, hm]
end Go.Proofs.Ytgefdmkmobaefaa

namespace Go.Proofs.Ytgefdmkmobaefaa
open Go.Am Go.Am.Nm Go.Lib Go.Cr
end Go.Proofs.Ytgefdmkmobaefaa
