/-
 What a message does, as a table.
-/
import Derived.Test.YtgefdmkmobaefaaCrGA
set_option linter.unusedSimpArgs false
set_option linter.unusedVariables false
namespace Go.Cr
inductive Cg where
 | same
 | erase
 | set (c : Ca)
inductive Pg where
 | same
 | ready (g : Nat)
 | unready (g : Nat)
 | perf (g : Nat)
structure Eff (w w' : Wd) (d : De) (x : Cg) (y : Pg) (l : List Mg) : Prop where
 wire : w'.wire = sendL w.wire l
 deeds : w'.deeds = w.deeds
 cs : ∀ j c, c ∈ cs w' j ↔ match x with
  | .same => c ∈ cs w j
  | .erase => c ∈ cs w j ∧ c.de.id ≠ d.id
  | .set c' => (j = d.bo ∧ c = c') ∨ (c ∈ cs w j ∧ c.de.id ≠ d.id)
 rd : ∀ j i, isR w' j i ↔ match y with
  | .same => isR w j i
  | .ready g => isR w j i ∨ (j = g ∧ i = d.id)
  | .unready g => isR w j i ∧ ¬ (j = g ∧ i = d.id)
  | .perf g => isR w j i ∧ ¬ (j = g ∧ i = d.id)
 dn : ∀ j, dn w' j = match y with
  | .perf g => if j = g then dn w j ++ [d.id] else dn w j
  | _ => dn w j
inductive Tr (w : Wd) (d : De) (m : Mg) : Cg → Pg → List Mg → Prop
 | p_did : m.kind = 1 → m.to ∈ d.grs → d.id ∈ dn w m.to.toNat → Tr w d m .same .same [msgP m.to m.fr 5 d.id]
 | p_is : m.kind = 1 → m.to ∈ d.grs → isR w m.to.toNat d.id → Tr w d m .same .same [msgP m.to m.fr 2 d.id]
 | p_no : m.kind = 1 → m.to ∈ d.grs → ¬ isR w m.to.toNat d.id → (∃ r ∈ rd w m.to.toNat, r.id ≠ d.id) → Tr w d m .same .same [msgP m.to m.fr 3 d.id]
 | p_yes : m.kind = 1 → m.to ∈ d.grs → d.id ∉ dn w m.to.toNat → ¬ isR w m.to.toNat d.id → Tr w d m .same (.ready m.to.toNat) [msgP m.to m.fr 2 d.id]
 | y_gone : m.kind = 2 → m.fr ∈ d.grs → goneC w d → Tr w d m .same .same [msgP m.to m.fr 6 d.id]
 | y_sure : m.kind = 2 → m.fr ∈ d.grs → sureC w d → Tr w d m .same .same [msgP m.to m.fr 4 d.id]
 | y_whole (c : Ca) : m.kind = 2 → m.fr ∈ d.grs → c ∈ cs w d.bo → c.de = d → c.sure = false → Tr w d m (.set { c with sure := true, fh := true, heard := [] }) .same (d.grs.map fun g => msgP m.to g 4 d.id)
 | y_more (c : Ca) (f : Bool) : m.kind = 2 → m.fr ∈ d.grs → c ∈ cs w d.bo → c.de = d → c.sure = false → Tr w d m (.set { c with fh := f, heard := hearL c.heard m.fr }) .same []
 | n_gone : m.kind = 3 → m.fr ∈ d.grs → goneC w d ∨ sureC w d → Tr w d m .same .same []
 | n_un (c : Ca) : m.kind = 3 → m.fr ∈ d.grs → c ∈ cs w d.bo → c.de = d → c.sure = false → Tr w d m .erase .same (d.grs.map fun g => msgP m.to g 6 d.id)
 | f_is : m.kind = 4 → m.to ∈ d.grs → isR w m.to.toNat d.id → (sureC w d ∨ goneC w d ∧ allD w d) → Tr w d m .same (.perf m.to.toNat) [msgP m.to m.fr 5 d.id]
 | f_did : m.kind = 4 → m.to ∈ d.grs → d.id ∈ dn w m.to.toNat → Tr w d m .same .same [msgP m.to m.fr 5 d.id]
 | f_none : m.kind = 4 → m.to ∈ d.grs → ¬ isR w m.to.toNat d.id → d.id ∉ dn w m.to.toNat → Tr w d m .same .same []
 | d_gone : m.kind = 5 → m.fr ∈ d.grs → goneC w d ∨ unsure w d → Tr w d m .same .same []
 | d_whole (c : Ca) : m.kind = 5 → m.fr ∈ d.grs → c ∈ cs w d.bo → c.de = d → c.sure = true → allD w d → Tr w d m .erase .same []
 | d_more (c : Ca) (f : Bool) : m.kind = 5 → m.fr ∈ d.grs → c ∈ cs w d.bo → c.de = d → c.sure = true → Tr w d m (.set { c with fh := f, heard := hearL c.heard m.fr }) .same []
 | x_is : m.kind = 6 → m.to ∈ d.grs → goneC w d → isR w m.to.toNat d.id → Tr w d m .same (.unready m.to.toNat) []
 | x_none : m.kind = 6 → m.to ∈ d.grs → goneC w d → ¬ isR w m.to.toNat d.id → Tr w d m .same .same []
 | a_gone : m.kind = 7 → m.fr ∈ d.grs → goneC w d → Tr w d m .same .same [msgP m.to m.fr 6 d.id]
 | a_sure : m.kind = 7 → m.fr ∈ d.grs → sureC w d → Tr w d m .same .same [msgP m.to m.fr 4 d.id]
 | a_un : m.kind = 7 → m.fr ∈ d.grs → unsure w d → Tr w d m .same .same []
section
variable {isP : List UInt8 → Bool} {clash : List UInt8 → List UInt8 → Bool} {PS : List (List UInt8)} {w w' : Wd}
theorem sendL_nil (l : List Mg) : sendL l [] = l := by simp [sendL]
theorem Eff.self {d : De} {l : List Mg} : Eff w (sendW w l) d .same .same l := ⟨rfl, rfl, fun _ _ => Iff.rfl, fun _ _ => Iff.rfl, fun _ => rfl⟩
theorem tell_tr (H : Inv isP clash PS w) {k : Nat} {b : Bo} {m : Mg} {d : De} (hb : w.bs[k]? = some b) (hd : d ∈ w.deeds) (hn : m.nums = [d.id]) (hto : m.to = d.bo) (hk : m.to = (k : Int)) (hfr : m.fr ∈ d.grs) (hkind : m.kind = 2 ∨ m.kind = 3 ∨ m.kind = 5 ∨ m.kind = 7) (h5 : m.kind = 5 → d.id ∈ dn w m.fr.toNat) :
  ∃ x l, Tr w d m x .same l ∧ Eff w (tellW w k b m) d x .same l := by
 have self : ({ w with bs := w.bs.set k b } : Wd) = w := by rw [set_same hb]
 have hbi := (H.bi k b hb).1
 have hck : cs w k = b.cases := cs_of hb
 have hdk : d.bo = k := by omega
 have hbid : b.id = m.to := by rw [hbi, hk]
 have hh : m.nums.headD 0 = d.id := by rw [hn]; rfl
 have h0 : m.to = b.id ∧ m.nums.length = 1 ∧ (m.kind = 2 ∨ m.kind = 3 ∨ m.kind = 5 ∨ m.kind = 7) := ⟨hbid.symm, by rw [hn]; rfl, hkind⟩
 have hnd : (b.cases.map fun c => c.de.id).Nodup := by have := H.cn k; rwa [hck] at this
 -- the same cases
 have eqs : ∀ l, Eff w (sendW { w with bs := w.bs.set k (withC b b.cases) } l) d .same .same l := fun l => ⟨rfl, rfl, fun j c => by
  show c ∈ cs { w with bs := w.bs.set k (withC b b.cases) } j ↔ _
  rw [cs_set hb]
  by_cases e : j = k
  ·rw [if_pos e, e, hck]; exact Iff.rfl
  ·rw [if_neg e], fun _ _ => Iff.rfl, fun _ => rfl⟩
 unfold tellW tellP
 rw [if_pos h0, hh]
 cases hx : b.cases[caseAt b d.id]? with
 | none =>
  have hg : goneC w d := by
   intro c hc
   rw [hdk, hck] at hc
   exact not_key (key := fun c : Ca => c.de.id) hx c hc
  simp only
  by_cases c4 : m.kind = 2 ∨ m.kind = 7
  ·rw [if_pos c4]
   dsimp only
   rw [self, hbid]
   rcases c4 with c4 | c4
   ·exact ⟨_, _, .y_gone c4 hfr hg, Eff.self⟩
   ·exact ⟨_, _, .a_gone c4 hfr hg, Eff.self⟩
  ·rw [if_neg c4]
   dsimp only
   rw [self]
   rcases (show m.kind = 3 ∨ m.kind = 5 by omega) with c | c
   ·exact ⟨_, _, .n_gone c hfr (.inl hg), Eff.self⟩
   ·exact ⟨_, _, .d_gone c hfr (.inl hg), Eff.self⟩
 | some c =>
  have hcm : c ∈ cs w d.bo := by rw [hdk, hck]; exact List.mem_of_getElem? hx
  have hid : c.de.id = d.id := at_key (key := fun c : Ca => c.de.id) hx
  have C := H.ca _ c hcm
  have hcd : c.de = d := H.deq C.de hd hid
  have memE : ∀ b' : Bo, b'.cases = b.cases.eraseIdx (caseAt b d.id) → ∀ l, Eff w (sendW { w with bs := w.bs.set k b' } l) d .erase .same l := fun b' e l => ⟨rfl, rfl, fun j y => by
   show y ∈ cs { w with bs := w.bs.set k b' } j ↔ y ∈ cs w j ∧ y.de.id ≠ d.id
   rw [cs_set hb]
   by_cases ej : j = k
   ·rw [if_pos ej, e, ej, hck, mem_erase_key (key := fun c : Ca => c.de.id) hnd hx y, hid]
   ·rw [if_neg ej]
    refine ⟨fun hy => ⟨hy, fun e => ?_⟩, fun hy => hy.1⟩
    have Y := H.ca j y hy
    have := H.deq Y.de hd e
    rw [← Y.bo, this, hdk] at ej
    exact ej rfl, fun _ _ => Iff.rfl, fun _ => rfl⟩
  have memS : ∀ (b' : Bo) (c' : Ca), b'.cases = b.cases.set (caseAt b d.id) c' → ∀ l, Eff w (sendW { w with bs := w.bs.set k b' } l) d (.set c') .same l := fun b' c' e l => ⟨rfl, rfl, fun j y => by
   show y ∈ cs { w with bs := w.bs.set k b' } j ↔ (j = d.bo ∧ y = c') ∨ (y ∈ cs w j ∧ y.de.id ≠ d.id)
   rw [cs_set hb, hdk]
   by_cases ej : j = k
   ·rw [if_pos ej, e, ej, hck, mem_set_key (key := fun c : Ca => c.de.id) hnd hx y, hid]
    simp
   ·rw [if_neg ej]
    refine ⟨fun hy => .inr ⟨hy, fun e => ?_⟩, fun hy => ?_⟩
    ·have Y := H.ca j y hy
     have := H.deq Y.de hd e
     rw [← Y.bo, this, hdk] at ej
     exact ej rfl
    ·rcases hy with ⟨h1, _⟩ | hy
     ·exact absurd h1 ej
     ·exact hy.1, fun _ _ => Iff.rfl, fun _ => rfl⟩
  simp only
  rw [if_pos (by rw [hcd]; exact hfr)]
  unfold tellC
  have hsub : ∀ g ∈ hearL c.heard m.fr, g ∈ c.de.grs := fun g hg => by
   rcases hearL_mem.1 hg with rfl | hg
   ·rw [hcd]; exact hfr
   ·exact C.sub g hg
  by_cases hs : c.sure = true
  ·simp only [if_pos hs]
   by_cases k3 : m.kind = 3
   ·simp only [if_pos k3]
    exact ⟨_, _, .n_gone k3 hfr (.inr ⟨c, hcm, hid, hs⟩), eqs []⟩
   ·simp only [if_neg k3]
    by_cases k5 : m.kind = 5
    ·simp only [if_pos k5]
     by_cases hf : (hearL c.heard m.fr).length = c.de.grs.length
     ·simp only [if_pos hf]
      refine ⟨_, _, .d_whole c k5 hfr hcm hcd hs (fun g hg => ?_), memE _ rfl []⟩
      rcases hearL_mem.1 (full (up_nodup (hearL_up C.up)) hsub (by omega) g (by rw [hcd]; exact hg)) with e | e
      ·rw [e]; exact h5 k5
      ·rw [← hid]; exact (C.su hs).2 g e
     ·simp only [if_neg hf]
      exact ⟨_, _, .d_more c (hearF c m.fr) k5 hfr hcm hcd hs, memS _ _ rfl []⟩
    ·simp only [if_neg k5]
     rw [hbid, hid]
     rcases (show m.kind = 2 ∨ m.kind = 7 by omega) with c1 | c1
     ·exact ⟨_, _, .y_sure c1 hfr ⟨c, hcm, hid, hs⟩, eqs _⟩
     ·exact ⟨_, _, .a_sure c1 hfr ⟨c, hcm, hid, hs⟩, eqs _⟩
  ·have hs : c.sure = false := by simpa using hs
   rw [if_neg (by rw [hs]; decide)]
   by_cases k3 : m.kind = 3
   ·simp only [if_pos k3]
    have e : allP b c.de 6 = d.grs.map fun g => msgP m.to g 6 d.id := by unfold allP; rw [hcd, hbid]
    rw [e]
    exact ⟨_, _, .n_un c k3 hfr hcm hcd hs, memE _ rfl _⟩
   ·simp only [if_neg k3]
    by_cases k2 : m.kind = 2
    ·simp only [if_pos k2]
     by_cases hf : (hearL c.heard m.fr).length = c.de.grs.length
     ·simp only [if_pos hf]
      have e : allP b c.de 4 = d.grs.map fun g => msgP m.to g 4 d.id := by unfold allP; rw [hcd, hbid]
      rw [e]
      exact ⟨_, _, .y_whole c k2 hfr hcm hcd hs, memS _ _ rfl _⟩
     ·simp only [if_neg hf]
      exact ⟨_, _, .y_more c (hearF c m.fr) k2 hfr hcm hcd hs, memS _ _ rfl []⟩
    ·simp only [if_neg k2]
     have hun : unsure w d := ⟨c, hcm, hid, hs⟩
     rcases (show m.kind = 5 ∨ m.kind = 7 by omega) with c1 | c1
     ·exact ⟨_, _, .d_gone c1 hfr (.inr hun), eqs []⟩
     ·exact ⟨_, _, .a_un c1 hfr hun, eqs []⟩
end
end Go.Cr

namespace Go.Cr
section
variable {isP : List UInt8 → Bool} {clash : List UInt8 → List UInt8 → Bool} {PS : List (List UInt8)} {w w' : Wd}
theorem hear_tr (H : Inv isP clash PS w) {g : Nat} {p : Pt} {dd : Bool × List Int} {m : Mg} {d : De} (hp : w.ps[g]? = some p) (hd0 : w.did[g]? = some dd) (hd : d ∈ w.deeds) (hn : m.nums = [d.id]) (hto : m.to = (g : Int)) (hg : m.to ∈ d.grs)
  (hk : (m.kind = 1 ∧ (m.to, m.data) ∈ d.grs.zip d.pas) ∨ (m.kind = 4 ∧ (sureC w d ∨ goneC w d ∧ allD w d)) ∨ (m.kind = 6 ∧ goneC w d)) :
  ∃ y l, Tr w d m .same y l ∧ Eff w (hearW isP clash w g p dd m) d .same y l := by
 have self : ({ w with ps := w.ps.set g p } : Wd) = w := by rw [set_same hp]
 have hpi := H.pi g p hp
 have hrd := rd_of hp
 have hdn := dn_of hp
 have P := H.pt g
 have hkl : g < w.ps.length := (List.getElem?_eq_some_iff.1 hp).1
 have hgn : m.to.toNat = g := by rw [hto]; simp
 have hpid : p.id = m.to := by rw [hpi, hto]
 have hh : m.nums.headD 0 = d.id := by rw [hn]; rfl
 have h8 := (H.id d hd).1
 have hc : m.to = p.id ∧ m.nums.length = 1 := ⟨hpid.symm, by rw [hn]; rfl⟩
 have hisr : (p.ready.any (fun r => decide (r.id = d.id)) = true) ↔ isR w g d.id := by
  unfold isR
  rw [hrd]
  simp
 have hdid : (decide (d.id ∈ p.did) = true) ↔ d.id ∈ dn w g := by rw [hdn]; simp
 have rds : ∀ (q : Pt) (dl : List (Bool × List Int)) (l : List Mg) (j : Nat), rd (sendW { w with ps := w.ps.set g q, did := dl } l) j = if j = g then q.ready else rd w j := fun q dl l j => by
  by_cases e : j = g
  ·subst e; simp [rd, sendW, hkl]
  ·simp only [rd, sendW]; rw [List.getElem?_set_ne (Ne.symm e), if_neg e]
 have dns : ∀ (q : Pt) (dl : List (Bool × List Int)) (l : List Mg) (j : Nat), dn (sendW { w with ps := w.ps.set g q, did := dl } l) j = if j = g then q.did else dn w j := fun q dl l j => by
  by_cases e : j = g
  ·subst e; simp [dn, sendW, hkl]
  ·simp only [dn, sendW]; rw [List.getElem?_set_ne (Ne.symm e), if_neg e]
 unfold hearW hearP
 simp only [if_pos hc, hh]
 rcases hk with ⟨k1, hz⟩ | ⟨k4, hs⟩ | ⟨k6, hgo⟩
 ·simp only [if_pos k1]
  by_cases q1 : decide (d.id ∈ p.did) = true
  ·simp only [if_pos q1, doneW, if_true]
   rw [self, hpid]
   exact ⟨_, _, .p_did k1 hg (by rw [hgn]; exact hdid.1 q1), Eff.self⟩
  ·simp only [if_neg q1]
   by_cases q2 : p.ready.any (fun r => decide (r.id = d.id)) = true
   ·simp only [if_pos q2, doneW, if_true]
    rw [self, hpid]
    exact ⟨_, _, .p_is k1 hg (by rw [hgn]; exact hisr.1 q2), Eff.self⟩
   ·simp only [if_neg q2]
    have hnr : ¬ isR w g d.id := fun h => q2 (hisr.2 h)
    by_cases q3 : isP m.data = false ∨ lockedP isP clash p m.data = true
    ·simp only [if_pos q3, doneW, if_true]
     rw [self, hpid]
     refine ⟨_, _, .p_no k1 hg (by rw [hgn]; exact hnr) ?_, Eff.self⟩
     rw [hgn, hrd]
     have hip := ((H.de d hd).pa _ (List.of_mem_zip hz).2).1
     rcases q3 with q3 | q3
     ·rw [hip] at q3; cases q3
     ·unfold lockedP at q3
      rw [hip, Bool.true_and, List.any_eq_true] at q3
      obtain ⟨r, hr, _⟩ := q3
      exact ⟨r, hr, fun e => hnr ⟨r, by rw [hrd]; exact hr, e⟩⟩
    ·simp only [if_neg q3, doneW, if_true]
     rw [hpid]
     refine ⟨_, _, .p_yes k1 hg (by rw [hgn]; exact fun h => q1 (hdid.2 h)) (by rw [hgn]; exact hnr), ⟨rfl, rfl, fun _ _ => Iff.rfl, fun j i => ?_, fun j => ?_⟩⟩
     ·have := rds ⟨m.to, false, p.ready ++ [⟨d.id, m.data⟩], p.fd, p.did⟩ w.did [msgP m.to m.fr 2 d.id] j
      unfold isR
      rw [this, hgn]
      by_cases e : j = g
      ·rw [if_pos e, e, hrd]
       constructor
       ·rintro ⟨r, hr, e'⟩
        rcases List.mem_append.1 hr with hr | hr
        ·exact .inl ⟨r, hr, e'⟩
        ·rw [List.mem_singleton.1 hr] at e'
         exact .inr ⟨rfl, e'.symm⟩
       ·rintro (⟨r, hr, e'⟩ | ⟨_, e'⟩)
        ·exact ⟨r, List.mem_append_left _ hr, e'⟩
        ·exact ⟨⟨d.id, m.data⟩, List.mem_append_right _ (List.mem_singleton.2 rfl), e'.symm⟩
      ·rw [if_neg e]
       exact ⟨.inl, fun h => h.elim id fun h => absurd h.1 e⟩
     ·have := dns ⟨m.to, false, p.ready ++ [⟨d.id, m.data⟩], p.fd, p.did⟩ w.did [msgP m.to m.fr 2 d.id] j
      refine this.trans ?_
      by_cases e : j = g
      ·rw [if_pos e, e, hdn]
      ·rw [if_neg e]
 all_goals
  have erd : ∀ i r, p.ready[i]? = some r → r.id = d.id → ∀ x, x ∈ p.ready.eraseIdx i ↔ x ∈ p.ready ∧ x.id ≠ d.id := fun i r hi e x => by
   have := mem_erase_key (key := fun r : Rd => r.id) (l := p.ready) (by have := P.nd; rwa [hrd] at this) hi x
   rw [this, e]
  have find : isR w g d.id → ∃ r, p.ready[p.ready.findIdx fun r => decide (r.id = d.id)]? = some r ∧ r.id = d.id := fun ⟨r, hr, e⟩ => by
   rw [hrd] at hr
   have h1 : p.ready.findIdx (fun r => decide (r.id = d.id)) < p.ready.length := List.findIdx_lt_length_of_exists ⟨r, hr, by simp [e]⟩
   exact ⟨_, List.getElem?_eq_getElem h1, at_key (key := fun r : Rd => r.id) (List.getElem?_eq_getElem h1)⟩
  have erR : isR w g d.id → ∀ (q : Pt) (dl : List (Bool × List Int)) (l : List Mg), q.ready = p.ready.eraseIdx (p.ready.findIdx fun r => decide (r.id = d.id)) → ∀ j i, isR (sendW { w with ps := w.ps.set g q, did := dl } l) j i ↔ isR w j i ∧ ¬ (j = g ∧ i = d.id) := fun hi q dl l e j i => by
   obtain ⟨r0, h1, h2⟩ := find hi
   have mem := erd _ r0 h1 h2
   unfold isR
   rw [rds]
   by_cases ej : j = g
   ·rw [if_pos ej, e, ej, hrd]
    constructor
    ·rintro ⟨r, hr, e'⟩
     obtain ⟨h3, h4⟩ := (mem r).1 hr
     exact ⟨⟨r, h3, e'⟩, fun h => h4 (by rw [e']; exact h.2)⟩
    ·rintro ⟨⟨r, hr, e'⟩, h⟩
     exact ⟨r, (mem r).2 ⟨hr, fun h5 => h ⟨rfl, by rw [← e', h5]⟩⟩, e'⟩
   ·rw [if_neg ej]
    exact ⟨fun h => ⟨h, fun h' => ej h'.1⟩, fun h => h.1⟩
 ·have k1 : ¬ m.kind = 1 := by omega
  simp only [if_neg k1, if_pos k4]
  by_cases q2 : p.ready.any (fun r => decide (r.id = d.id)) = true
  ·simp only [if_pos q2, doneW, if_neg (show ¬ d.id = 0 by omega)]
   rw [hpid]
   refine ⟨_, _, .f_is k4 hg (by rw [hgn]; exact hisr.1 q2) hs, ⟨rfl, rfl, fun _ _ => Iff.rfl, fun j i => ?_, fun j => ?_⟩⟩
   ·rw [hgn]
    exact erR (hisr.1 q2) _ _ _ rfl j i
   ·refine (dns _ _ _ j).trans ?_
    show _ = if j = m.to.toNat then dn w j ++ [d.id] else dn w j
    rw [hgn]
    by_cases e : j = g
    ·rw [if_pos e, if_pos e, e, hdn]
    ·rw [if_neg e, if_neg e]
  ·simp only [if_neg q2]
   by_cases q1 : decide (d.id ∈ p.did) = true
   ·simp only [if_pos q1, doneW, if_true]
    rw [self, hpid]
    exact ⟨_, _, .f_did k4 hg (by rw [hgn]; exact hdid.1 q1), Eff.self⟩
   ·simp only [if_neg q1, doneW, if_true]
    rw [self]
    exact ⟨_, _, .f_none k4 hg (by rw [hgn]; exact fun h => q2 (hisr.2 h)) (by rw [hgn]; exact fun h => q1 (hdid.2 h)), Eff.self⟩
 ·have k1 : ¬ m.kind = 1 := by omega
  have k4 : ¬ m.kind = 4 := by omega
  simp only [if_neg k1, if_neg k4, if_pos k6]
  by_cases q2 : p.ready.any (fun r => decide (r.id = d.id)) = true
  ·simp only [if_pos q2, doneW, if_true]
   rw [hpid]
   refine ⟨_, _, .x_is k6 hg hgo (by rw [hgn]; exact hisr.1 q2), ⟨rfl, rfl, fun _ _ => Iff.rfl, fun j i => ?_, fun j => ?_⟩⟩
   ·rw [hgn]
    exact erR (hisr.1 q2) _ w.did _ rfl j i
   ·refine (dns _ w.did _ j).trans ?_
    by_cases e : j = g
    ·rw [if_pos e, e, hdn]
    ·rw [if_neg e]
  ·simp only [if_neg q2, doneW, if_true]
   rw [self]
   exact ⟨_, _, .x_none k6 hg hgo (by rw [hgn]; exact fun h => q2 (hisr.2 h)), Eff.self⟩
theorem come_tr (H : Inv isP clash PS w) {m : Mg} (hm : GoodM w m) : ∃ d ∈ w.deeds, m.nums = [d.id] ∧ ∃ x y l, Tr w d m x y l ∧ Eff w (comeW isP clash w m) d x y l := by
 obtain ⟨d, hd, hn, hm⟩ := hm
 refine ⟨d, hd, hn, ?_⟩
 have hb4 := (H.id d hd).2.1
 have hle := (H.de d hd).le
 have hto : 0 ≤ m.to ∧ m.to < 4 := by
  rcases hm with hm | hm | hm | hm | hm | hm | hm
  ·exact hle _ (List.of_mem_zip hm.2.2).1
  ·have := hm.2.1; omega
  ·have := hm.2.1; omega
  ·exact hle _ hm.2.2.1
  ·have := hm.2.1; omega
  ·exact hle _ hm.2.2.1
  ·have := hm.2.1; omega
 obtain ⟨k, hk⟩ : ∃ k : Nat, m.to = (k : Int) := ⟨m.to.toNat, by omega⟩
 have hkb : k < w.bs.length := by rw [H.lb]; omega
 have hkp : k < w.ps.length := by rw [H.lp]; omega
 have hkd : k < w.did.length := by rw [H.ld]; omega
 have gb := List.getElem?_eq_getElem hkb
 have gp := List.getElem?_eq_getElem hkp
 have gd := List.getElem?_eq_getElem hkd
 have hne : ¬ (m.to < 0 ∨ 4 ≤ m.to) := by omega
 have htn : m.to.toNat = k := by rw [hk]; simp
 have eq : comeW isP clash w m = hearW isP clash (tellW w k w.bs[k] m) k w.ps[k] w.did[k] m := by
  unfold comeW
  simp only [if_neg hne, htn, gb, gp, gd]
 rw [eq]
 have bossK : m.kind = 2 ∨ m.kind = 3 ∨ m.kind = 5 ∨ m.kind = 7 → hearW isP clash (tellW w k w.bs[k] m) k w.ps[k] w.did[k] m = tellW w k w.bs[k] m := fun h => by
  have k1 : ¬ m.kind = 1 := by omega
  have k4 : ¬ m.kind = 4 := by omega
  have k6 : ¬ m.kind = 6 := by omega
  have hs : (tellW w k w.bs[k] m).ps.set k w.ps[k] = (tellW w k w.bs[k] m).ps := set_same gp
  have hp : hearP isP clash w.ps[k] m = (w.ps[k], [], 0) := by
   unfold hearP
   split
   ·simp only [if_neg k1, if_neg k4, if_neg k6]
   ·rfl
  unfold hearW doneW
  rw [hp]
  simp only [if_true]
  rw [hs]
  unfold sendW
  simp only [sendL_nil]
 have partK : m.kind = 1 ∨ m.kind = 4 ∨ m.kind = 6 → tellW w k w.bs[k] m = w := fun h => by
  have : ¬ (m.to = w.bs[k].id ∧ m.nums.length = 1 ∧ (m.kind = 2 ∨ m.kind = 3 ∨ m.kind = 5 ∨ m.kind = 7)) := fun h => by omega
  unfold tellW tellP
  rw [if_neg this]
  dsimp only
  rw [set_same gb]
  unfold sendW
  simp only [sendL_nil]
 rcases hm with ⟨a, b, c⟩ | ⟨a, b, c, e⟩ | ⟨a, b, c⟩ | ⟨a, b, c, e⟩ | ⟨a, b, c, e⟩ | ⟨a, b, c, e⟩ | ⟨a, b, c⟩
 ·rw [partK (.inl a)]
  obtain ⟨y, l, h1, h2⟩ := hear_tr H gp gd hd hn hk (List.of_mem_zip c).1 (.inl ⟨a, c⟩)
  exact ⟨_, y, l, h1, h2⟩
 ·rw [bossK (.inl a)]
  obtain ⟨x, l, h1, h2⟩ := tell_tr H gb hd hn b hk c (.inl a) (fun h => by omega)
  exact ⟨x, _, l, h1, h2⟩
 ·rw [bossK (.inr (.inl a))]
  obtain ⟨x, l, h1, h2⟩ := tell_tr H gb hd hn b hk c (.inr (.inl a)) (fun h => by omega)
  exact ⟨x, _, l, h1, h2⟩
 ·rw [partK (.inr (.inl a))]
  obtain ⟨y, l, h1, h2⟩ := hear_tr H gp gd hd hn hk c (.inr (.inl ⟨a, e⟩))
  exact ⟨_, y, l, h1, h2⟩
 ·rw [bossK (.inr (.inr (.inl a)))]
  obtain ⟨x, l, h1, h2⟩ := tell_tr H gb hd hn b hk c (.inr (.inr (.inl a))) (fun _ => e)
  exact ⟨x, _, l, h1, h2⟩
 ·rw [partK (.inr (.inr a))]
  obtain ⟨y, l, h1, h2⟩ := hear_tr H gp gd hd hn hk c (.inr (.inr ⟨a, e⟩))
  exact ⟨_, y, l, h1, h2⟩
 ·rw [bossK (.inr (.inr (.inr a)))]
  obtain ⟨x, l, h1, h2⟩ := tell_tr H gb hd hn b hk c (.inr (.inr (.inr a))) (fun h => by omega)
  exact ⟨x, _, l, h1, h2⟩
end
end Go.Cr

/-
 Messages run out; what a round comes to.
-/
namespace Go.Cr
section
variable {isP : List UInt8 → Bool} {clash : List UInt8 → List UInt8 → Bool} {PS : List (List UInt8)} {w w' : Wd}
def mw (m : Mg) : Nat := if m.kind = 1 then 4 else if m.kind = 2 ∨ m.kind = 7 then 3 else if m.kind = 4 then 2 else 1
def wt : List Mg → Nat
 | [] => 0
 | m :: l => mw m + wt l
theorem wt_app : ∀ a b : List Mg, wt (a ++ b) = wt a + wt b
 | [], b => by simp [wt]
 | m :: a, b => by simp [wt, wt_app a b]; omega
theorem wt_take : ∀ (l : List Mg) (n : Nat), wt (l.take n) ≤ wt l
 | [], n => by simp [wt]
 | m :: l, 0 => by simp [wt]
 | m :: l, n + 1 => by
  have := wt_take l n
  simp only [List.take_succ_cons, wt]
  omega
theorem wt_send (a l : List Mg) : wt (sendL a l) ≤ wt a + wt l := by
 unfold sendL
 rw [wt_app]
 have := wt_take l (200 - a.length)
 omega
def unB (w : Wd) (d : De) : Bool := (cs w d.bo).any fun c => decide (c.de.id = d.id) && !c.sure
theorem unB_iff {d : De} : unB w d = true ↔ unsure w d := by
 unfold unB unsure
 rw [List.any_eq_true]
 constructor
 ·rintro ⟨c, hc, h⟩
  simp only [Bool.and_eq_true, decide_eq_true_eq, Bool.not_eq_true'] at h
  exact ⟨c, hc, h.1, h.2⟩
 ·rintro ⟨c, hc, e, s⟩
  exact ⟨c, hc, by simp [e, s]⟩
def U (w : Wd) : Nat := w.deeds.countP (unB w)
theorem countP_flip {α : Type} {p q : α → Bool} : ∀ {l : List α}, (∀ x ∈ l, q x = true → p x = true) → ∀ {d : α}, d ∈ l → p d = true → q d = false → l.countP q + 1 ≤ l.countP p
 | [], _, _, h, _, _ => by cases h
 | a :: l, hm, d, hd, h1, h2 => by
  have hm' : ∀ x ∈ l, q x = true → p x = true := fun x hx => hm x (List.mem_cons_of_mem _ hx)
  have h3 : l.countP q ≤ l.countP p := List.countP_mono_left hm'
  rw [List.countP_cons, List.countP_cons]
  rcases List.mem_cons.1 hd with rfl | hd
  ·rw [h1, h2]; simp; omega
  ·have := countP_flip hm' hd h1 h2
   have h4 : q a = true → p a = true := hm a (List.mem_cons_self ..)
   cases hq : q a with
   | true => rw [h4 hq]; simp; omega
   | false => cases p a <;> simp <;> omega
theorem eff_far {d d' : De} {x : Cg} {y : Pg} {l : List Mg} (E : Eff w w' d x y l) (hx : ∀ c, x = .set c → c.de.id = d.id) (hne : d'.id ≠ d.id) : (∀ j c, c.de.id = d'.id → (c ∈ cs w' j ↔ c ∈ cs w j)) ∧ (∀ j, isR w' j d'.id ↔ isR w j d'.id) ∧ (∀ j, d'.id ∈ dn w' j ↔ d'.id ∈ dn w j) := by
 refine ⟨fun j c hc => ?_, fun j => ?_, fun j => ?_⟩
 ·rw [E.cs j c]
  cases x with
  | same => exact Iff.rfl
  | erase => exact ⟨fun h => h.1, fun h => ⟨h, fun e => hne (hc.symm.trans e)⟩⟩
  | set c' =>
   have := hx c' rfl
   constructor
   ·rintro (⟨_, e⟩ | h)
    ·rw [e] at hc; exact absurd (hc.symm.trans this) hne
    ·exact h.1
   ·exact fun h => .inr ⟨h, fun e => hne (hc.symm.trans e)⟩
 ·rw [E.rd j]
  cases y with
  | same => exact Iff.rfl
  | ready g => exact ⟨fun h => h.elim id fun h => absurd h.2 hne, .inl⟩
  | unready g => exact ⟨fun h => h.1, fun h => ⟨h, fun e => hne e.2⟩⟩
  | perf g => exact ⟨fun h => h.1, fun h => ⟨h, fun e => hne e.2⟩⟩
 ·rw [E.dn j]
  cases y with
  | same => exact Iff.rfl
  | ready g => exact Iff.rfl
  | unready g => exact Iff.rfl
  | perf g =>
   by_cases e : j = g
   ·simp only [if_pos e, List.mem_append, List.mem_singleton]
    exact ⟨fun h => h.elim id fun h => absurd h hne, .inl⟩
   ·simp only [if_neg e]
theorem Tr.set_id {d : De} {m : Mg} {x : Cg} {y : Pg} {l : List Mg} (T : Tr w d m x y l) : ∀ c, x = .set c → c.de = d := by
 intro c e
 cases T with
 | y_whole c0 _ _ _ h _ => cases e; exact h
 | y_more c0 f _ _ _ h _ => cases e; exact h
 | d_more c0 f _ _ _ h _ => cases e; exact h
 | _ => cases e
theorem Tr.set_id' {d : De} {m : Mg} {x : Cg} {y : Pg} {l : List Mg} (T : Tr w d m x y l) : ∀ c, x = .set c → c.de.id = d.id := fun c e => by rw [T.set_id c e]
theorem eff_un {d d' : De} {m : Mg} {x : Cg} {y : Pg} {l : List Mg} (E : Eff w w' d x y l) (T : Tr w d m x y l) (hd : ∀ d' , d'.id = d.id → d' ∈ w.deeds → d' = d) (hd' : d' ∈ w.deeds) : (unsure w' d' → unsure w d') ∧ (goneC w d' → goneC w' d') ∧ (∀ g, d'.id ∈ dn w g → d'.id ∈ dn w' g) := by
 by_cases hne : d'.id = d.id
 ·have e := hd d' hne hd'
  subst e
  refine ⟨fun ⟨c, hc, e, s⟩ => ?_, fun h c hc e => ?_, fun g h => ?_⟩
  ·rw [E.cs] at hc
   cases T with
   | y_whole c0 _ _ h1 h2 h3 =>
    rcases hc with ⟨_, hc⟩ | hc
    ·rw [hc] at s; cases s
    ·exact absurd e hc.2
   | y_more c0 f _ _ h1 h2 h3 =>
    rcases hc with ⟨_, hc⟩ | hc
    ·exact ⟨c0, h1, by rw [h2], h3⟩
    ·exact absurd e hc.2
   | d_more c0 f _ _ h1 h2 h3 =>
    rcases hc with ⟨_, hc⟩ | hc
    ·rw [hc] at s; simp only at s; rw [h3] at s; cases s
    ·exact absurd e hc.2
   | n_un c0 _ _ h1 h2 h3 => exact absurd e hc.2
   | d_whole c0 _ _ h1 h2 h3 h4 => exact absurd e hc.2
   | _ => exact ⟨c, hc, e, s⟩
  ·rw [E.cs] at hc
   cases T with
   | y_whole c0 _ _ h1 h2 h3 => exact absurd (by rw [h2]) (h c0 h1)
   | y_more c0 f _ _ h1 h2 h3 => exact absurd (by rw [h2]) (h c0 h1)
   | d_more c0 f _ _ h1 h2 h3 => exact absurd (by rw [h2]) (h c0 h1)
   | n_un c0 _ _ h1 h2 h3 => exact absurd (by rw [h2]) (h c0 h1)
   | d_whole c0 _ _ h1 h2 h3 h4 => exact absurd (by rw [h2]) (h c0 h1)
   | _ => exact h c hc e
  ·rw [E.dn]
   cases y with
   | perf j =>
    by_cases e : g = j
    ·simp only [if_pos e]; exact List.mem_append_left _ h
    ·simp only [if_neg e]; exact h
   | _ => exact h
 ·obtain ⟨h1, h2, h3⟩ := eff_far E T.set_id' hne
  refine ⟨fun ⟨c, hc, e, s⟩ => ⟨c, (h1 _ c e).1 hc, e, s⟩, fun h c hc e => h c ((h1 _ c e).1 hc) e, fun g h => (h3 g).2 h⟩
theorem U_le {d : De} {m : Mg} {x : Cg} {y : Pg} {l : List Mg} (E : Eff w w' d x y l) (T : Tr w d m x y l) (hd : ∀ d' , d'.id = d.id → d' ∈ w.deeds → d' = d) : U w' ≤ U w := by
 unfold U
 rw [E.deeds]
 exact List.countP_mono_left fun x hx h => unB_iff.2 ((eff_un E T hd hx).1 (unB_iff.1 h))
theorem U_lt {d : De} {m : Mg} {x : Cg} {y : Pg} {l : List Mg} (E : Eff w w' d x y l) (T : Tr w d m x y l) (hd : ∀ d' , d'.id = d.id → d' ∈ w.deeds → d' = d) (hdm : d ∈ w.deeds) (h1 : unsure w d) (h2 : ¬ unsure w' d) : U w' + 1 ≤ U w := by
 unfold U
 rw [E.deeds]
 refine countP_flip (fun x hx h => unB_iff.2 ((eff_un E T hd hx).1 (unB_iff.1 h))) hdm (unB_iff.2 h1) ?_
 cases h : unB w' d with
 | false => rfl
 | true => exact absurd (unB_iff.1 h) h2
theorem wt_map (k : Int) (to id : Int) (n : Nat) (hn : ∀ g, mw (msgP to g k id) ≤ n) : ∀ l : List Int, wt (l.map fun g => msgP to g k id) ≤ n * l.length
 | [] => by simp [wt]
 | g :: l => by
  have h1 := wt_map k to id n hn l
  have h2 := hn g
  simp only [List.map_cons, wt, List.length_cons, Nat.mul_add, Nat.mul_one]
  omega
theorem grs4 {d : De} (h : DeOK isP PS d) : d.grs.length ≤ 4 := by
 have := sub_len (A := d.grs) (B := [0, 1, 2, 3]) (up_nodup h.up) fun x hx => by
  have := h.le x hx
  have h4 : x = 0 ∨ x = 1 ∨ x = 2 ∨ x = 3 := by omega
  rcases h4 with e | e | e | e <;> simp [e]
 simpa using this
theorem tr_wt {d : De} {m : Mg} {x : Cg} {y : Pg} {l : List Mg} (E : Eff w w' d x y l) (T : Tr w d m x y l) (hd : ∀ d' , d'.id = d.id → d' ∈ w.deeds → d' = d) (hdm : d ∈ w.deeds) (h4 : d.grs.length ≤ 4) : wt l + 8 * U w' + 1 ≤ mw m + 8 * U w := by
 have hle := U_le E T hd
 have one : ∀ a b k i, wt [msgP a b k i] = mw (msgP a b k i) := fun a b k i => by simp [wt]
 have m5 : ∀ a b i, mw (msgP a b 5 i) = 1 := fun a b i => by simp [mw, msgP]
 have m2 : ∀ a b i, mw (msgP a b 2 i) = 3 := fun a b i => by simp [mw, msgP]
 have m3 : ∀ a b i, mw (msgP a b 3 i) = 1 := fun a b i => by simp [mw, msgP]
 have m6 : ∀ a b i, mw (msgP a b 6 i) = 1 := fun a b i => by simp [mw, msgP]
 have m4 : ∀ a b i, mw (msgP a b 4 i) = 2 := fun a b i => by simp [mw, msgP]
 have k1 : m.kind = 1 → mw m = 4 := fun h => by simp [mw, h]
 have k2 : m.kind = 2 → mw m = 3 := fun h => by simp [mw, h]
 have k3 : m.kind = 3 → mw m = 1 := fun h => by simp [mw, h]
 have k4 : m.kind = 4 → mw m = 2 := fun h => by simp [mw, h]
 have k5 : m.kind = 5 → mw m = 1 := fun h => by simp [mw, h]
 have k6 : m.kind = 6 → mw m = 1 := fun h => by simp [mw, h]
 have k7 : m.kind = 7 → mw m = 3 := fun h => by simp [mw, h]
 cases T with
 | p_did h _ _ => rw [one, m5, k1 h]; omega
 | p_is h _ _ => rw [one, m2, k1 h]; omega
 | p_no h _ _ _ => rw [one, m3, k1 h]; omega
 | p_yes h _ _ _ => rw [one, m2, k1 h]; omega
 | y_gone h _ _ => rw [one, m6, k2 h]; omega
 | y_sure h _ _ => rw [one, m4, k2 h]; omega
 | y_whole c h a1 a2 a3 a4 =>
  have := U_lt E (.y_whole c h a1 a2 a3 a4) hd hdm ⟨c, a2, by rw [a3], a4⟩ (fun ⟨c', hc, e, s⟩ => by
   rw [E.cs] at hc
   rcases hc with ⟨_, hc⟩ | hc
   ·rw [hc] at s; cases s
   ·exact hc.2 e)
  have h2 := wt_map 4 m.to d.id 2 (fun g => by rw [m4]; exact Nat.le_refl _) d.grs
  rw [k2 h]; omega
 | y_more c f h _ _ _ _ => rw [k2 h]; simp only [wt]; omega
 | n_gone h _ _ => rw [k3 h]; simp only [wt]; omega
 | n_un c h a1 a2 a3 a4 =>
  have := U_lt E (.n_un c h a1 a2 a3 a4) hd hdm ⟨c, a2, by rw [a3], a4⟩ (fun ⟨c', hc, e, s⟩ => by
   rw [E.cs] at hc
   exact hc.2 e)
  have h2 := wt_map 6 m.to d.id 1 (fun g => by rw [m6]; exact Nat.le_refl _) d.grs
  rw [k3 h]; omega
 | f_is h _ _ _ => rw [one, m5, k4 h]; omega
 | f_did h _ _ => rw [one, m5, k4 h]; omega
 | f_none h _ _ _ => rw [k4 h]; simp only [wt]; omega
 | d_gone h _ _ => rw [k5 h]; simp only [wt]; omega
 | d_whole c h _ _ _ _ _ => rw [k5 h]; simp only [wt]; omega
 | d_more c f h _ _ _ _ => rw [k5 h]; simp only [wt]; omega
 | x_is h _ _ _ => rw [k6 h]; simp only [wt]; omega
 | x_none h _ _ _ => rw [k6 h]; simp only [wt]; omega
 | a_gone h _ _ => rw [one, m6, k7 h]; omega
 | a_sure h _ _ => rw [one, m4, k7 h]; omega
 | a_un h _ _ => rw [k7 h]; simp only [wt]; omega
theorem take_tr (H : Inv isP clash PS w) {i : Nat} {m : Mg} (hi : w.wire[i]? = some m) (t : Bool) : ∃ w0, w0 = (if t = true then w else lossW w i) ∧ Inv isP clash PS w0 ∧ ∃ d ∈ w.deeds, m.nums = [d.id] ∧ ∃ x y l, Tr w0 d m x y l ∧ Eff w0 (takeW isP clash w i t) d x y l := by
 have hg := H.ms m (List.mem_of_getElem? hi)
 have e : takeW isP clash w i t = comeW isP clash (if t = true then w else lossW w i) m := by
  unfold takeW; rw [hi]
 cases t with
 | true =>
  rw [e]
  simp only [if_true]
  exact ⟨w, rfl, H, come_tr H hg⟩
 | false =>
  rw [e]
  simp only [Bool.false_eq_true, if_false]
  exact ⟨lossW w i, rfl, H.loss i, come_tr (H.loss i) (hg.same rfl rfl rfl)⟩
theorem Inv.uniq (H : Inv isP clash PS w) {d : De} (hd : d ∈ w.deeds) : ∀ d', d'.id = d.id → d' ∈ w.deeds → d' = d := fun _ e h => H.deq h hd e
end
end Go.Cr

/-
 What is asked is answered: unsure cases, sure ones, questions.
-/
namespace Go.Cr
section
variable {isP : List UInt8 → Bool} {clash : List UInt8 → List UInt8 → Bool} {PS : List (List UInt8)} {w w' : Wd}
theorem sendL_old {a l : List Mg} {x : Mg} (h : x ∈ a) : x ∈ sendL a l := List.mem_append_left _ h
theorem sendL_new {a l : List Mg} {x : Mg} (hl : a.length + l.length ≤ 200) (h : x ∈ l) : x ∈ sendL a l := by
 unfold sendL
 rw [List.take_of_length_le (by omega)]
 exact List.mem_append_right _ h
end
end Go.Cr

/-
 Rounds: after six of them all is done.
-/
namespace Go.Cr
section
variable {isP : List UInt8 → Bool} {clash : List UInt8 → List UInt8 → Bool} {PS : List (List UInt8)} {w w' : Wd}
def agL (w : Wd) (k : Nat) : List Mg := ((w.bs[k]?).map againP).getD []
def akL (w : Wd) (k : Nat) : List Mg := ((w.ps[k]?).map askP).getD []
def wr (w : Wd) : List Nat → List Mg → List Mg
 | [], l => l
 | g :: gs, l => wr w gs (sendL (sendL l (agL w g)) (akL w g))
theorem wt_le : ∀ l : List Mg, wt l ≤ 4 * l.length
 | [] => Nat.zero_le _
 | m :: l => by
  have h1 := wt_le l
  have h2 : mw m ≤ 4 := by unfold mw; split <;> (try split) <;> (try split) <;> decide
  simp only [wt, List.length_cons]
  omega
theorem not_all_heard (H : Inv isP clash PS w) {d : De} (hd : d ∈ w.deeds) (h : ∀ g ∈ d.grs, ∃ c ∈ cs w d.bo, c.de.id = d.id ∧ g ∈ c.heard) : goneC w d := by
 intro c hc e
 have C := H.ca _ c hc
 have hcd : c.de = d := H.deq C.de hd e
 have D := H.de d hd
 have := sub_len (A := d.grs) (B := c.heard) (up_nodup D.up) fun g hg => by
  obtain ⟨c', hc', e', hh⟩ := h g hg
  have : c' = c := key_inj (H.cn _) hc' hc (e'.trans e.symm)
  rw [← this]; exact hh
 have h2 := C.lt
 rw [hcd] at h2
 omega
theorem unsure_ng {d : De} (h : unsure w d) : ¬ goneC w d := fun hg => by
 obtain ⟨c, hc, e, _⟩ := h
 exact hg c hc e
end
end Go.Cr

/-
 What is given up is done by none; who did two deeds first did them first everywhere.
-/
namespace Go.Cr
section
variable {isP : List UInt8 → Bool} {clash : List UInt8 → List UInt8 → Bool} {PS : List (List UInt8)} {w w' : Wd}
structure Ev (w w' : Wd) : Prop where
 de : ∀ d ∈ w.deeds, d ∈ w'.deeds
 go : ∀ d ∈ w.deeds, goneC w d → goneC w' d
 dn : (∀ g, dn w' g = dn w g) ∨ ∃ g, ∃ d ∈ w.deeds, isR w g d.id ∧ (sureC w d ∨ goneC w d ∧ allD w d) ∧ dn w' g = dn w g ++ [d.id] ∧ ∀ j, j ≠ g → dn w' j = dn w j
 nw : ∀ d ∈ w'.deeds, d ∈ w.deeds ∨ noneD w' d
inductive Evs (isP : List UInt8 → Bool) (clash : List UInt8 → List UInt8 → Bool) (PS : List (List UInt8)) : Wd → Wd → Prop
 | refl (w : Wd) : Evs isP clash PS w w
 | step {w w1 w2 : Wd} : Inv isP clash PS w → Ev w w1 → Inv isP clash PS w1 → Evs isP clash PS w1 w2 → Evs isP clash PS w w2
theorem Evs.one (H : Inv isP clash PS w) (E : Ev w w') (H' : Inv isP clash PS w') : Evs isP clash PS w w' := .step H E H' (.refl _)
theorem Evs.trans {a b c : Wd} (h1 : Evs isP clash PS a b) (h2 : Evs isP clash PS b c) : Evs isP clash PS a c := by
 induction h1 with
 | refl => exact h2
 | step H E H' _ ih => exact .step H E H' (ih h2)
theorem Evs.keep {P : Wd → Prop} (hs : ∀ a b, Inv isP clash PS a → Inv isP clash PS b → Ev a b → P a → P b) {a b : Wd} (h : Evs isP clash PS a b) (h0 : P a) : P b := by
 induction h with
 | refl => exact h0
 | step H E H' _ ih => exact ih (hs _ _ H H' E h0)
theorem Ev.wire (w : Wd) (l : List Mg) : Ev w { w with wire := l } := ⟨fun _ h => h, fun _ _ h => h, .inl fun _ => rfl, fun _ h => .inl h⟩
end
end Go.Cr

/-
 A deed alone: it is done by all of its groups.
-/
namespace Go.Cr
section
variable {isP : List UInt8 → Bool} {clash : List UInt8 → List UInt8 → Bool} {PS : List (List UInt8)} {w w' : Wd}
def Hd' (w : Wd) (d : De) (g : Int) : Prop := ∃ c ∈ cs w d.bo, c.de.id = d.id ∧ g ∈ c.heard
inductive Pr (d : De) (w : Wd) : Prop
 | un : unsure w d → (∀ g ∈ d.grs, Hd' w d g ∨ ∃ m ∈ w.wire, (m.kind = 1 ∧ m.to = g) ∨ (m.kind = 2 ∧ m.fr = g)) → Pr d w
 | su : sureC w d → (∀ g ∈ d.grs, Hd' w d g ∨ ∃ m ∈ w.wire, (m.kind = 4 ∧ m.to = g) ∨ (m.kind = 5 ∧ m.fr = g)) → Pr d w
 | go : goneC w d → allD w d → Pr d w
structure Al (d : De) (D0 : Nat → List Int) (w : Wd) : Prop where
 hd : d ∈ w.deeds
 ms : ∀ m ∈ w.wire, m.nums = [d.id] ∧ m.kind ≠ 3
 ca : ∀ k, ∀ c ∈ cs w k, c.de = d
 rr : ∀ g i, isR w g i → i = d.id
 pr : Pr d w
 dn : ∀ g, dn w g = D0 g ∨ dn w g = D0 g ++ [d.id]
theorem al_step (H : Inv isP clash PS w) {d : De} {D0 : Nat → List Int} (A : Al d D0 w) {i : Nat} {m : Mg} (hi : w.wire[i]? = some m) (t : Bool) (room : w.wire.length + 4 ≤ 200) : Al d D0 (takeW isP clash w i t) := by
 obtain ⟨w0, e0, H0, d2, hd2, hn, x, y, l, T, E⟩ := take_tr H hi t
 have hmm : m ∈ w.wire := List.mem_of_getElem? hi
 have hdd : d2 = d := H.deq hd2 A.hd (by
  have := (A.ms m hmm).1
  rw [hn] at this
  simpa using this)
 subst hdd
 have sub0 : ∀ z ∈ w0.wire, z ∈ w.wire := fun z hz => by
  rw [e0] at hz
  cases t with
  | true => exact hz
  | false =>
   rcases List.mem_append.1 hz with h | h
   ·exact List.mem_of_mem_take h
   ·exact List.mem_of_mem_drop h
 have mem0 : ∀ z ∈ w.wire, z = m ∨ z ∈ w0.wire := fun z hz => by
  rw [e0]
  cases t with
  | true => exact .inr hz
  | false =>
   obtain ⟨hl, e⟩ := List.getElem?_eq_some_iff.1 hi
   have : w.wire = w.wire.take i ++ m :: w.wire.drop (i + 1) := by
    rw [← e, List.getElem_cons_drop, List.take_append_drop]
   rw [this] at hz
   rcases List.mem_append.1 hz with h | h
   ·exact .inr (List.mem_append_left _ h)
   ·rcases List.mem_cons.1 h with h | h
    ·exact .inl h
    ·exact .inr (List.mem_append_right _ h)
 have len0 : w0.wire.length ≤ w.wire.length := by
  rw [e0]
  cases t with
  | true => exact Nat.le_refl _
  | false => simp [lossW]; omega
 have ca0 : ∀ k, ∀ c ∈ cs w0 k, c.de = d2 := by rw [e0]; cases t <;> exact A.ca
 have rr0 : ∀ g i, isR w0 g i → i = d2.id := by rw [e0]; cases t <;> exact A.rr
 have dn0 : ∀ g, dn w0 g = D0 g ∨ dn w0 g = D0 g ++ [d2.id] := by rw [e0]; cases t <;> exact A.dn
 have hd0 : d2 ∈ w0.deeds := by rw [e0]; cases t <;> exact A.hd
 have pr0 : (unsure w0 d2 ∧ ∀ g ∈ d2.grs, Hd' w0 d2 g ∨ ∃ m' ∈ w.wire, (m'.kind = 1 ∧ m'.to = g) ∨ (m'.kind = 2 ∧ m'.fr = g)) ∨ (sureC w0 d2 ∧ ∀ g ∈ d2.grs, Hd' w0 d2 g ∨ ∃ m' ∈ w.wire, (m'.kind = 4 ∧ m'.to = g) ∨ (m'.kind = 5 ∧ m'.fr = g)) ∨ (goneC w0 d2 ∧ allD w0 d2) := by
  rw [e0]
  cases t
  all_goals
   cases A.pr with
   | un h1 h2 => exact .inl ⟨h1, h2⟩
   | su h1 h2 => exact .inr (.inl ⟨h1, h2⟩)
   | go h1 h2 => exact .inr (.inr ⟨h1, h2⟩)
 have h3 : m.kind ≠ 3 := (A.ms m hmm).2
 have D := H0.de d2 hd0
 have hg4 := grs4 D
 generalize takeW isP clash w i t = w' at E
 have old : ∀ z ∈ w0.wire, z ∈ w'.wire := fun z h => by rw [E.wire]; exact sendL_old h
 have new : l.length ≤ 4 → ∀ z ∈ l, z ∈ w'.wire := fun hl z h => by rw [E.wire]; exact sendL_new (by omega) h
 have new1 : ∀ z, l = [z] → z ∈ w'.wire := fun z h => new (by rw [h]; simp) z (by rw [h]; simp)
 have from' : ∀ z ∈ w'.wire, z ∈ w0.wire ∨ z ∈ l := fun z h => by
  rw [E.wire] at h
  unfold sendL at h
  rcases List.mem_append.1 h with h | h
  ·exact .inl h
  ·exact .inr (List.mem_of_mem_take h)
 have hun := eff_un E T (H0.uniq hd0) hd0
 -- no part is not able to
 have nono : ¬ ((∃ r ∈ rd w0 m.to.toNat, r.id ≠ d2.id)) := fun ⟨r, hr, e⟩ => e (rr0 _ _ ⟨r, hr, rfl⟩)
 have heardS : x = .same → ∀ g, Hd' w0 d2 g → Hd' w' d2 g := fun hx g ⟨c, hc, e, hh⟩ => ⟨c, (E.cs _ _).2 (by rw [hx]; exact hc), e, hh⟩
 have heardM : ∀ c0 f, c0 ∈ cs w0 d2.bo → c0.de = d2 → x = .set { c0 with fh := f, heard := hearL c0.heard m.fr } → ∀ g, (g = m.fr ∨ Hd' w0 d2 g) → Hd' w' d2 g := fun c0 f h1 h2 hx g hg => by
  refine ⟨{ c0 with fh := f, heard := hearL c0.heard m.fr }, (E.cs _ _).2 (by rw [hx]; exact .inl ⟨rfl, rfl⟩), by simp only [h2], hearL_mem.2 ?_⟩
  rcases hg with hg | ⟨c, hc, e, hh⟩
  ·exact .inl hg
  ·have : c = c0 := key_inj (H0.cn _) hc h1 (by rw [e, h2])
   rw [← this]; exact .inr hh
 have unS : x = .same → unsure w0 d2 → unsure w' d2 := fun hx ⟨c, hc, e, s⟩ => ⟨c, (E.cs _ _).2 (by rw [hx]; exact hc), e, s⟩
 have suS : x = .same → sureC w0 d2 → sureC w' d2 := fun hx ⟨c, hc, e, s⟩ => ⟨c, (E.cs _ _).2 (by rw [hx]; exact hc), e, s⟩
 have goA : goneC w0 d2 → allD w0 d2 → Pr d2 w' := fun h1 h2 => .go (hun.2.1 h1) fun g hg => hun.2.2 _ (h2 g hg)
 -- kinds of what is sent
 have kinds : ∀ z ∈ l, z.nums = [d2.id] ∧ z.kind ≠ 3 := fun z hz => by
  cases T with
  | p_no _ _ _ h => exact absurd h nono
  | y_whole c0 _ _ _ _ _ =>
   obtain ⟨g, _, rfl⟩ := List.mem_map.1 hz
   exact ⟨rfl, by show (4 : Int) ≠ 3; decide⟩
  | n_un c0 h _ _ _ _ => exact absurd h h3
  | _ => first | (rw [List.mem_singleton.1 hz]; exact ⟨rfl, by simp only [msgP]; decide⟩) | cases hz
 refine ⟨by rw [E.deeds]; exact hd0, fun z hz => ?_, fun k c hc => ?_, fun g j hr => ?_, ?_, fun g => ?_⟩
 ·rcases from' z hz with h | h
  ·exact A.ms z (sub0 z h)
  ·exact kinds z h
 ·rw [E.cs] at hc
  cases x with
  | same => exact ca0 k c hc
  | erase => exact ca0 k c hc.1
  | set c' =>
   rcases hc with ⟨_, hc⟩ | hc
   ·rw [hc]; exact T.set_id c' rfl
   ·exact ca0 k c hc.1
 ·rw [E.rd] at hr
  cases y with
  | same => exact rr0 g j hr
  | ready g' =>
   rcases hr with hr | hr
   ·exact rr0 g j hr
   ·exact hr.2
  | unready g' => exact rr0 g j hr.1
  | perf g' => exact rr0 g j hr.1
 ·rcases pr0 with ⟨hu, hw⟩ | ⟨hs, hw⟩ | ⟨hg, ha⟩
  · -- not sure yet
   have hns : ¬ sureC w0 d2 := fun h => H0.sure_un h hu
   have hng : ¬ goneC w0 d2 := fun h => (H0.gone_sure h).2 hu
   have hnd : noneD w0 d2 := by
    obtain ⟨c, hc, e, s⟩ := hu
    have C := H0.ca _ c hc
    have := (C.un s).1
    rwa [H0.deq C.de hd0 e] at this
   have keep : x = .same → (∀ g ∈ d2.grs, ((m.kind = 1 ∧ m.to = g) ∨ (m.kind = 2 ∧ m.fr = g)) → ∃ z ∈ w'.wire, (z.kind = 1 ∧ z.to = g) ∨ (z.kind = 2 ∧ z.fr = g)) → Pr d2 w' := fun hx hm => .un (unS hx hu) fun g hg => by
    rcases hw g hg with h | ⟨m', hm', hk⟩
    ·exact .inl (heardS hx g h)
    ·rcases mem0 m' hm' with e | h
     ·rw [e] at hk; exact .inr (hm g hg hk)
     ·exact .inr ⟨m', old m' h, hk⟩
   cases T with
   | p_did _ _ h => exact absurd h (hnd _)
   | p_is h _ _ => exact keep rfl fun g _ hk => ⟨_, new1 _ rfl, .inr ⟨rfl, by rcases hk with hk | hk; exact hk.2; omega⟩⟩
   | p_no _ _ _ h => exact absurd h nono
   | p_yes h _ _ _ => exact keep rfl fun g _ hk => ⟨_, new1 _ rfl, .inr ⟨rfl, by rcases hk with hk | hk; exact hk.2; omega⟩⟩
   | y_gone _ _ h => exact absurd h hng
   | y_sure _ _ h => exact absurd h hns
   | y_whole c0 h h1 h2 h4 h5 =>
    refine .su ⟨_, (E.cs _ _).2 (.inl ⟨rfl, rfl⟩), by simp only [h4], rfl⟩ fun g hg => .inr ⟨msgP m.to g 4 d2.id, new (by simpa using hg4) _ (List.mem_map.2 ⟨g, hg, rfl⟩), .inl ⟨rfl, rfl⟩⟩
   | y_more c0 f h h1 h2 h4 h5 =>
    refine .un ⟨_, (E.cs _ _).2 (.inl ⟨rfl, rfl⟩), by simp only [h4], h5⟩ fun g hg => ?_
    rcases hw g hg with h6 | ⟨m', hm', hk⟩
    ·exact .inl (heardM c0 f h2 h4 rfl g (.inr h6))
    ·rcases mem0 m' hm' with e | h7
     ·rw [e] at hk
      exact .inl (heardM c0 f h2 h4 rfl g (.inl (by rcases hk with hk | hk; omega; exact hk.2.symm)))
     ·exact .inr ⟨m', old m' h7, hk⟩
   | n_gone h _ _ => exact absurd h h3
   | n_un c0 h _ _ _ _ => exact absurd h h3
   | f_is _ _ _ h =>
    rcases h with h | h
    ·exact absurd h hns
    ·exact absurd h.1 hng
   | f_did _ _ h => exact absurd h (hnd _)
   | f_none h _ _ _ => exact keep rfl fun g _ hk => by omega
   | d_gone h _ _ => exact keep rfl fun g _ hk => by omega
   | d_whole c0 _ _ h1 h2 h4 _ => exact absurd ⟨c0, h1, by rw [h2], h4⟩ hns
   | d_more c0 f _ _ h1 h2 h4 => exact absurd ⟨c0, h1, by rw [h2], h4⟩ hns
   | x_is _ _ h _ => exact absurd h hng
   | x_none _ _ h _ => exact absurd h hng
   | a_gone _ _ h => exact absurd h hng
   | a_sure _ _ h => exact absurd h hns
   | a_un h _ _ => exact keep rfl fun g _ hk => by omega
  ·have hnu := H0.sure_un hs
   have hng : ¬ goneC w0 d2 := fun h => (H0.gone_sure h).1 hs
   have keep : x = .same → (∀ g ∈ d2.grs, ((m.kind = 4 ∧ m.to = g) ∨ (m.kind = 5 ∧ m.fr = g)) → ∃ z ∈ w'.wire, (z.kind = 4 ∧ z.to = g) ∨ (z.kind = 5 ∧ z.fr = g)) → Pr d2 w' := fun hx hm => .su (suS hx hs) fun g hg => by
    rcases hw g hg with h | ⟨m', hm', hk⟩
    ·exact .inl (heardS hx g h)
    ·rcases mem0 m' hm' with e | h
     ·rw [e] at hk; exact .inr (hm g hg hk)
     ·exact .inr ⟨m', old m' h, hk⟩
   cases T with
   | p_did h _ _ => exact keep rfl fun g _ hk => by omega
   | p_is h _ _ => exact keep rfl fun g _ hk => by omega
   | p_no h _ _ _ => exact keep rfl fun g _ hk => by omega
   | p_yes h _ _ _ => exact keep rfl fun g _ hk => by omega
   | y_gone h _ _ => exact keep rfl fun g _ hk => by omega
   | y_sure h _ _ => exact keep rfl fun g _ hk => by omega
   | y_whole c0 _ _ h1 h2 h4 => exact absurd ⟨c0, h1, by rw [h2], h4⟩ hnu
   | y_more c0 f _ _ h1 h2 h4 => exact absurd ⟨c0, h1, by rw [h2], h4⟩ hnu
   | n_gone h _ _ => exact absurd h h3
   | n_un c0 h _ _ _ _ => exact absurd h h3
   | f_is h _ _ _ => exact keep rfl fun g _ hk => ⟨_, new1 _ rfl, .inr ⟨rfl, by rcases hk with hk | hk; exact hk.2; omega⟩⟩
   | f_did h _ _ => exact keep rfl fun g _ hk => ⟨_, new1 _ rfl, .inr ⟨rfl, by rcases hk with hk | hk; exact hk.2; omega⟩⟩
   | f_none h h1 h2 h4 =>
    obtain ⟨c, hc, e, s⟩ := hs
    have C := H0.ca _ c hc
    have := (C.su s).1
    rw [H0.deq C.de hd0 e] at this
    rcases this _ h1 with h5 | h5
    ·exact absurd h5 h2
    ·exact absurd h5 h4
   | d_gone _ _ h =>
    rcases h with h | h
    ·exact absurd h hng
    ·exact absurd h hnu
   | d_whole c0 _ _ h1 h2 h4 h5 => exact .go (fun z hz ez => ((E.cs _ _).1 hz).2 ez) fun g hg => hun.2.2 _ (h5 g hg)
   | d_more c0 f h h1 h2 h4 h5 =>
    refine .su ⟨_, (E.cs _ _).2 (.inl ⟨rfl, rfl⟩), by simp only [h4], h5⟩ fun g hg => ?_
    rcases hw g hg with h6 | ⟨m', hm', hk⟩
    ·exact .inl (heardM c0 f h2 h4 rfl g (.inr h6))
    ·rcases mem0 m' hm' with e | h7
     ·rw [e] at hk
      exact .inl (heardM c0 f h2 h4 rfl g (.inl (by rcases hk with hk | hk; omega; exact hk.2.symm)))
     ·exact .inr ⟨m', old m' h7, hk⟩
   | x_is _ _ h _ => exact absurd h hng
   | x_none _ _ h _ => exact absurd h hng
   | a_gone _ _ h => exact absurd h hng
   | a_sure h _ _ => exact keep rfl fun g _ hk => by omega
   | a_un _ _ h => exact absurd h hnu
  ·exact goA hg ha
 ·rw [E.dn]
  cases T with
  | f_is _ h1 h2 _ =>
   simp only
   by_cases e : g = m.to.toNat
   ·rw [if_pos e, e]
    have hnd : d2.id ∉ dn w0 m.to.toNat := fun hh => ((H0.pt _).di _ hh).2 h2
    rcases dn0 m.to.toNat with h | h
    ·exact .inr (by rw [h])
    ·exact absurd (by rw [h]; simp) hnd
   ·rw [if_neg e]; exact dn0 g
  | _ => exact dn0 g
end
end Go.Cr

/-
 Deeds one behind the other.
-/
namespace Go.Cr
section
variable {isP : List UInt8 → Bool} {clash : List UInt8 → List UInt8 → Bool} {PS : List (List UInt8)} {w w' : Wd}
def pickS (isP : List UInt8 → Bool) (clash : List UInt8 → List UInt8 → Bool) (ps : List Nat) (n : Nat) (s : Wd × Nat) : Wd × Nat :=
 match ps[s.2]? with
 | some q => (takeW isP clash s.1 (q % s.1.wire.length) (decide (200 ≤ q) && decide (n < 50)), s.2 + 1)
 | none => (takeW isP clash s.1 0 false, s.2)
def alW (isP : List UInt8 → Bool) (clash : List UInt8 → List UInt8 → Bool) (ps : List Nat) : Nat → Wd × Nat → Wd × Nat
 | 0, s => s
 | m + 1, s => if s.1.wire.length = 0 then s else alW isP clash ps m (pickS isP clash ps (1000 - (m + 1)) s)
theorem wt_drop : ∀ (l : List Mg) (i : Nat) (m : Mg), l[i]? = some m → wt (l.take i ++ l.drop (i + 1)) + mw m = wt l
 | [], _, _, h => by simp at h
 | a :: l, 0, m, h => by
  simp only [List.getElem?_cons_zero, Option.some.injEq] at h
  subst h
  simp [wt]; omega
 | a :: l, i + 1, m, h => by
  simp only [List.getElem?_cons_succ] at h
  have := wt_drop l i m h
  simp only [List.take_succ_cons, List.drop_succ_cons, List.cons_append, wt]
  omega
theorem mw_le (m : Mg) : 1 ≤ mw m ∧ mw m ≤ 4 := by unfold mw; split <;> (try split) <;> (try split) <;> decide
theorem wt_ge : ∀ l : List Mg, l.length ≤ wt l
 | [] => Nat.le_refl _
 | m :: l => by
  have h1 := wt_ge l
  have h2 := (mw_le m).1
  simp only [wt, List.length_cons]
  omega
def Wg (w : Wd) : Nat := wt w.wire + 8 * U w
theorem take_wg (H : Inv isP clash PS w) {i : Nat} {m : Mg} (hi : w.wire[i]? = some m) (t : Bool) : Wg (takeW isP clash w i t) + 1 ≤ Wg w + (if t = true then 4 else 0) := by
 obtain ⟨w0, e0, H0, d, hd, _, x, y, l, T, E⟩ := take_tr H hi t
 have hd0 : d ∈ w0.deeds := by rw [e0]; cases t <;> exact hd
 have h1 := tr_wt E T (H0.uniq hd0) hd0 (grs4 (H0.de d hd0))
 have h2 := wt_send w0.wire l
 have h3 := mw_le m
 have e2 : U w0 = U w := by rw [e0]; cases t <;> rfl
 unfold Wg
 rw [E.wire]
 cases t with
 | true =>
  simp only [if_true] at e0 ⊢
  rw [e0] at h1 h2 ⊢
  omega
 | false =>
  simp only [Bool.false_eq_true, if_false] at e0 ⊢
  have h4 : wt w0.wire + mw m = wt w.wire := by rw [e0]; exact wt_drop _ _ _ hi
  omega
theorem al_end (ps : List Nat) {d : De} {D0 : Nat → List Int} : ∀ (m n : Nat) (s : Wd × Nat), n + m = 1000 → Inv isP clash PS s.1 → Al d D0 s.1 → Wg s.1 + 4 * (50 - n) + n ≤ 224 →
  Inv isP clash PS (alW isP clash ps m s).1 ∧ Al d D0 (alW isP clash ps m s).1 ∧ (alW isP clash ps m s).1.wire = [] ∧ (alW isP clash ps m s).1.deeds = s.1.deeds
 | 0, n, s, hn, H, A, hW => by omega
 | m + 1, n, s, hn, H, A, hW => by
  unfold alW
  by_cases h0 : s.1.wire.length = 0
  ·rw [if_pos h0]
   exact ⟨H, A, List.length_eq_zero_iff.1 h0, rfl⟩
  ·rw [if_neg h0]
   have hlen : s.1.wire.length ≤ 174 := by
    have := wt_ge s.1.wire
    unfold Wg at hW
    omega
   have hn' : 1000 - (m + 1) = n := by omega
   rw [hn']
   -- one step
   have one : ∀ (i : Nat) (t : Bool) (k : Nat), i < s.1.wire.length → (t = true → n < 50) → Inv isP clash PS (alW isP clash ps m (takeW isP clash s.1 i t, k)).1 ∧ Al d D0 (alW isP clash ps m (takeW isP clash s.1 i t, k)).1 ∧ (alW isP clash ps m (takeW isP clash s.1 i t, k)).1.wire = [] ∧ (alW isP clash ps m (takeW isP clash s.1 i t, k)).1.deeds = s.1.deeds := fun i t k hi ht => by
    have gi := List.getElem?_eq_getElem hi
    have h1 := take_wg H gi t
    have := al_end ps m (n + 1) (takeW isP clash s.1 i t, k) (by omega) (H.take i t) (al_step H A gi t (by omega)) (by
     simp only
     cases t with
     | true => simp only [if_true] at h1; have := ht rfl; omega
     | false => simp only [Bool.false_eq_true, if_false] at h1; omega)
    refine ⟨this.1, this.2.1, this.2.2.1, this.2.2.2.trans ?_⟩
    obtain ⟨w0, e0, H0, d2, hd2, hn2, x, y, l, T, E⟩ := take_tr H gi t
    simp only
    rw [E.deeds, e0]
    cases t <;> rfl
   unfold pickS
   cases hq : ps[s.2]? with
   | none => exact one 0 false s.2 (by omega) (fun h => by cases h)
   | some q => exact one _ _ _ (Nat.mod_lt _ (by omega)) (fun h => by simp only [Bool.and_eq_true, decide_eq_true_eq] at h; exact h.2)
structure Idle (w : Wd) : Prop where
 wi : w.wire = []
 cs : ∀ k, cs w k = []
 rd : ∀ g i, ¬ isR w g i
 nx : ∀ (k : Nat) (b : Bo), w.bs[k]? = some b → b.next ≤ w.deeds.length
theorem al_idle (H : Inv isP clash PS w) {d : De} {D0 : Nat → List Int} (A : Al d D0 w) (hw : w.wire = []) (hnx : ∀ (k : Nat) (b : Bo), w.bs[k]? = some b → b.next ≤ w.deeds.length) : Idle w ∧ allD w d := by
 have hga : goneC w d ∧ allD w d := by
  cases A.pr with
  | un h1 h2 =>
   have := not_all_heard H A.hd fun g hg => by
    rcases h2 g hg with h | ⟨m, hm, _⟩
    ·exact h
    ·rw [hw] at hm; cases hm
   exact absurd this (unsure_ng h1)
  | su h1 h2 =>
   have := not_all_heard H A.hd fun g hg => by
    rcases h2 g hg with h | ⟨m, hm, _⟩
    ·exact h
    ·rw [hw] at hm; cases hm
   exact absurd h1 (H.gone_sure this).1
  | go h1 h2 => exact ⟨h1, h2⟩
 refine ⟨⟨hw, fun k => ?_, fun g i hr => ?_, hnx⟩, hga.2⟩
 ·cases hc : cs w k with
  | nil => rfl
  | cons c l =>
   have hm : c ∈ cs w k := by rw [hc]; exact List.mem_cons_self ..
   have := A.ca k c hm
   have hb := (H.ca k c hm).bo
   exact absurd (by rw [this]) (hga.1 c (by rw [← this, hb]; exact hm))
 ·have e := A.rr g i hr
  subst e
  have hr' := hr
  obtain ⟨r, hr0, e⟩ := hr'
  obtain ⟨x, hx, e', hz⟩ := (H.pt g).re r hr0
  have : x = d := H.deq hx A.hd (e'.trans e)
  subst this
  have h1 := hga.2 _ (List.of_mem_zip hz).1
  simp only [Int.toNat_natCast] at h1
  exact ((H.pt g).di _ h1).2 hr
theorem begS_ne (x : Ac) : ∀ (l : List Nat) (s : List Int × List (List UInt8) × Nat), (s.1 ≠ [] ∨ (0 < s.2.2 ∧ s.2.2 < 2 ^ l.length)) → s.1.length = s.2.1.length → (l.foldl (begS x) s).1 ≠ [] ∧ (l.foldl (begS x) s).1.length = (l.foldl (begS x) s).2.1.length
 | [], s, h, hl => by
  refine ⟨?_, hl⟩
  rcases h with h | h
  ·exact h
  ·simp at h; omega
 | g :: l, s, h, hl => by
  rw [List.foldl_cons]
  refine begS_ne x l _ ?_ ?_
  ·unfold begS
   split
   ·exact .inl (by simp)
   ·rename_i hb
    rcases h with h | h
    ·exact .inl h
    ·right
     simp only [List.length_cons, Nat.pow_succ] at h
     simp only
     omega
  ·unfold begS
   split
   ·simp only [List.length_append, List.length_cons, List.length_nil]; omega
   ·exact hl
theorem begL_ne (x : Ac) : (begL x).1 ≠ [] ∧ (begL x).1.length = (begL x).2.1.length :=
 begS_ne x [0, 1, 2, 3] _ (.inr ⟨by simp only; omega, by simp only [List.length_cons, List.length_nil]; omega⟩) rfl
theorem grsOK_of {l : List Int} (hu : l.Pairwise (· < ·)) (hg : ∀ g ∈ l, 0 ≤ g ∧ g < 4) : grsOK l = true := by
 unfold grsOK
 rw [List.all_eq_true]
 intro i hi
 rw [List.mem_range] at hi
 unfold goodG
 have h1 := hg _ (List.getElem_mem hi)
 simp only [List.getElem?_eq_getElem hi, Option.getD_some, Bool.and_eq_true, decide_eq_true_eq, Bool.or_eq_true]
 refine ⟨⟨h1.1, by omega⟩, ?_⟩
 by_cases h0 : i = 0
 ·exact .inl h0
 ·right
  rw [List.getElem?_eq_getElem (show i - 1 < l.length by omega), Option.getD_some]
  exact List.pairwise_iff_getElem.1 hu (i - 1) i (by omega) hi (by omega)
theorem countP_one {α : Type} {p : α → Bool} {d : α} : ∀ {l : List α}, l.Nodup → (∀ x ∈ l, p x = true → x = d) → l.countP p ≤ 1
 | [], _, _ => Nat.zero_le _
 | a :: l, hn, h => by
  rw [List.nodup_cons] at hn
  rw [List.countP_cons]
  by_cases ha : p a = true
  ·have e := h a (List.mem_cons_self ..) ha
   have : l.countP p = 0 := by
    rw [List.countP_eq_zero]
    intro x hx hpx
    have := h x (List.mem_cons_of_mem _ hx) hpx
    exact hn.1 (by rw [e, ← this]; exact hx)
   rw [this, if_pos ha]
   exact Nat.le_refl _
  ·rw [if_neg ha]
   exact countP_one hn.2 fun x hx => h x (List.mem_cons_of_mem _ hx)
theorem begin_al (H : Inv isP clash PS w) (I : Idle w) (hdl : w.deeds.length ≤ 1000) (hip : ∀ k, isP (pathN k) = true) (hPS : ∀ k, pathN k ∈ PS) (x : Ac) :
  ∃ d, (beginW isP w x).deeds = w.deeds ++ [d] ∧ Al d (dn w) (beginW isP w x) ∧ Wg (beginW isP w x) ≤ 24 ∧ (∀ g, d.id ∉ dn w g) ∧ ∀ (k : Nat) (b : Bo), (beginW isP w x).bs[k]? = some b → b.next ≤ (w.deeds.length + 1 : Nat) := by
 have Hb := H.begin hPS x
 have hk : x.who % 4 < w.bs.length := by rw [H.lb]; exact Nat.mod_lt _ (by decide)
 obtain ⟨k, hke⟩ : ∃ k, k = x.who % 4 := ⟨_, rfl⟩
 have hb : w.bs[x.who % 4]? = some w.bs[x.who % 4] := List.getElem?_eq_getElem hk
 obtain ⟨b, hbe⟩ : ∃ b, b = w.bs[x.who % 4] := ⟨_, rfl⟩
 rw [← hbe] at hb
 have hck : b.cases = [] := by rw [← cs_of hb]; exact I.cs _
 have hbi := H.bi _ b hb
 have hnx := I.nx _ b hb
 obtain ⟨h1, h2, h3⟩ := begL_ok x
 obtain ⟨h4, h5⟩ := begL_ne x
 have hbw : beginW isP w x = startW isP w (x.who % 4) b (begL x).1 (begL x).2.1 := by
  unfold beginW
  rw [hb]
 have hall : ((begL x).2.1.all isP) = true := by
  rw [List.all_eq_true]
  intro p hp
  obtain ⟨q, rfl⟩ := h3 p hp
  exact hip q
 have hm : mayP isP b (begL x).1 (begL x).2.1 = 0 := by
  unfold mayP
  rw [if_neg (by rintro (h | h); exact h4 h; exact h h5), if_neg (by rw [grsOK_of h1 h2]; decide), if_neg (by rw [hall]; decide), if_neg (by rw [hck]; simp only [List.length_nil]; omega)]
 obtain ⟨d, hd⟩ : ∃ d, d = (⟨8 * (b.next + 1) + b.id, false, (begL x).1, false, (begL x).2.1⟩ : De) := ⟨_, rfl⟩
 have hgl : (begL x).1.length ≤ 4 := by
  have := sub_len (A := (begL x).1) (B := [0, 1, 2, 3]) (up_nodup h1) fun y hy => by
   have := h2 y hy
   have h4 : y = 0 ∨ y = 1 ∨ y = 2 ∨ y = 3 := by omega
   rcases h4 with e | e | e | e <;> simp [e]
  simpa using this
 have hst : startW isP w (x.who % 4) b (begL x).1 (begL x).2.1 = { w with bs := w.bs.set (x.who % 4) ⟨b.id, b.next + 1, false, [⟨d, false, true, []⟩]⟩, deeds := w.deeds ++ [d], wire := ((begL x).1.zip (begL x).2.1).map fun z => prepP b.id z.1 d.id z.2 } := by
  unfold startW startP sendW
  simp only [if_pos hm, hck, List.nil_append, I.wi]
  have : ∀ l : List Mg, l.length ≤ 200 → sendL [] l = l := fun l hl => by
   unfold sendL
   simp only [List.nil_append, List.length_nil]
   exact List.take_of_length_le (by omega)
  rw [this _ (by simp; omega), hd]
 rw [hbw, hst] at Hb ⊢
 have hdb : d.bo = x.who % 4 := by
  have : d.id = 8 * (b.next + 1) + b.id := by rw [hd]
  unfold De.bo
  rw [this, hbi.1]
  omega
 have hcs : ∀ j, cs { w with bs := w.bs.set (x.who % 4) ⟨b.id, b.next + 1, false, [⟨d, false, true, []⟩]⟩, deeds := w.deeds ++ [d], wire := ((begL x).1.zip (begL x).2.1).map fun z => prepP b.id z.1 d.id z.2 } j = if j = x.who % 4 then [⟨d, false, true, []⟩] else [] := fun j => by
  by_cases e : j = x.who % 4
  ·rw [if_pos e, e]; simp [cs, hk]
  ·rw [if_neg e]
   have := I.cs j
   simp only [cs] at this ⊢
   rw [List.getElem?_set_ne (Ne.symm e)]
   exact this
 have hfr : ∀ y ∈ w.deeds, y.id ≠ d.id := fun y hy e => by
  have h1 := H.id y hy
  have h2 : y.bo = d.bo := by unfold De.bo; rw [e]
  have hdi : d.id = 8 * (b.next + 1) + b.id := by rw [hd]
  rw [h2, hdb, nx_of hb] at h1
  have := h1.2.2
  rw [e, hdi, hbi.1] at this
  omega
 refine ⟨d, rfl, ⟨List.mem_append_right _ (List.mem_singleton.2 rfl), fun m hm' => ?_, fun j c hc => ?_, fun g i hr => absurd hr (I.rd g i), ?_, fun g => .inl rfl⟩, ?_, fun g hg => ?_, fun j b' hb' => ?_⟩
 ·obtain ⟨z, _, rfl⟩ := List.mem_map.1 hm'
  exact ⟨rfl, by show (1 : Int) ≠ 3; decide⟩
 ·rw [hcs] at hc
  split at hc
  ·rw [List.mem_singleton.1 hc]
  ·cases hc
 ·refine .un ⟨⟨d, false, true, []⟩, by rw [hcs, if_pos hdb]; simp, rfl, rfl⟩ fun g hg => ?_
  right
  rw [hd] at hg
  obtain ⟨i, hi, e⟩ := List.getElem_of_mem hg
  simp only at hi e
  refine ⟨prepP b.id g d.id ((begL x).2.1[i]'(by omega)), List.mem_map.2 ⟨(g, (begL x).2.1[i]'(by omega)), ?_, rfl⟩, .inl ⟨rfl, rfl⟩⟩
  rw [← e]
  exact List.mem_of_getElem? (i := i) (by rw [List.getElem?_zip_eq_some]; exact ⟨List.getElem?_eq_getElem hi, List.getElem?_eq_getElem (by omega)⟩)
 ·unfold Wg
  have hU : U { w with bs := w.bs.set (x.who % 4) ⟨b.id, b.next + 1, false, [⟨d, false, true, []⟩]⟩, deeds := w.deeds ++ [d], wire := ((begL x).1.zip (begL x).2.1).map fun z => prepP b.id z.1 d.id z.2 } ≤ 1 := by
   unfold U
   refine countP_one (d := d) ?_ fun y hy hu => ?_
   ·have h6 := Hb.nd
    have : ∀ l : List De, (l.map fun d => d.id).Nodup → l.Nodup := fun l hl => by
     rw [List.nodup_iff_pairwise_ne, List.pairwise_map] at hl
     exact hl.imp fun h e => h (by rw [e])
    exact this _ h6
   ·rw [unB_iff] at hu
    obtain ⟨c, hc, e, _⟩ := hu
    rw [hcs] at hc
    split at hc
    ·rw [List.mem_singleton.1 hc] at e
     exact Hb.deq hy (List.mem_append_right _ (List.mem_singleton.2 rfl)) e.symm
    ·cases hc
  have h7 := wt_le (((begL x).1.zip (begL x).2.1).map fun z => prepP b.id z.1 d.id z.2)
  simp only [List.length_map, List.length_zip] at h7
  simp only
  omega
 ·obtain ⟨⟨y, hy, e, _⟩, _⟩ := (H.pt g).di d.id hg
  exact hfr y hy e
 ·by_cases e : j = x.who % 4
  ·subst e
   simp only [List.getElem?_set_self hk, Option.some.injEq] at hb'
   subst hb'
   simp only
   omega
  ·simp only [List.getElem?_set_ne (Ne.symm e)] at hb'
   have := I.nx j b' hb'
   omega
end
end Go.Cr
