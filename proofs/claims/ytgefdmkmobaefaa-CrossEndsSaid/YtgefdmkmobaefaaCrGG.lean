/-
 What a message does, as a table.
-/
import Derived.Test.YtgefdmkmobaefaaCrGA
set_option linter.unusedSimpArgs false
set_option linter.unusedVariables false
namespace Go.Cr
inductive Cg where
 | same
 | erase
 | set (c : Ca)
inductive Pg where
 | same
 | ready (g : Nat)
 | unready (g : Nat)
 | perf (g : Nat)
structure Eff (w w' : Wd) (d : De) (x : Cg) (y : Pg) (l : List Mg) : Prop where
 wire : w'.wire = sendL w.wire l
 deeds : w'.deeds = w.deeds
 cs : ∀ j c, c ∈ cs w' j ↔ match x with
  | .same => c ∈ cs w j
  | .erase => c ∈ cs w j ∧ c.de.id ≠ d.id
  | .set c' => (j = d.bo ∧ c = c') ∨ (c ∈ cs w j ∧ c.de.id ≠ d.id)
 rd : ∀ j i, isR w' j i ↔ match y with
  | .same => isR w j i
  | .ready g => isR w j i ∨ (j = g ∧ i = d.id)
  | .unready g => isR w j i ∧ ¬ (j = g ∧ i = d.id)
  | .perf g => isR w j i ∧ ¬ (j = g ∧ i = d.id)
 dn : ∀ j, dn w' j = match y with
  | .perf g => if j = g then dn w j ++ [d.id] else dn w j
  | _ => dn w j
inductive Tr (w : Wd) (d : De) (m : Mg) : Cg → Pg → List Mg → Prop
 | p_did : m.kind = 1 → m.to ∈ d.grs → d.id ∈ dn w m.to.toNat → Tr w d m .same .same [msgP m.to m.fr 5 d.id]
 | p_is : m.kind = 1 → m.to ∈ d.grs → isR w m.to.toNat d.id → Tr w d m .same .same [msgP m.to m.fr 2 d.id]
 | p_no : m.kind = 1 → m.to ∈ d.grs → ¬ isR w m.to.toNat d.id → (∃ r ∈ rd w m.to.toNat, r.id ≠ d.id) → Tr w d m .same .same [msgP m.to m.fr 3 d.id]
 | p_yes : m.kind = 1 → m.to ∈ d.grs → d.id ∉ dn w m.to.toNat → ¬ isR w m.to.toNat d.id → Tr w d m .same (.ready m.to.toNat) [msgP m.to m.fr 2 d.id]
 | y_gone : m.kind = 2 → m.fr ∈ d.grs → goneC w d → Tr w d m .same .same [msgP m.to m.fr 6 d.id]
 | y_sure : m.kind = 2 → m.fr ∈ d.grs → sureC w d → Tr w d m .same .same [msgP m.to m.fr 4 d.id]
 | y_whole (c : Ca) : m.kind = 2 → m.fr ∈ d.grs → c ∈ cs w d.bo → c.de = d → c.sure = false → Tr w d m (.set { c with sure := true, fh := true, heard := [] }) .same (d.grs.map fun g => msgP m.to g 4 d.id)
 | y_more (c : Ca) (f : Bool) : m.kind = 2 → m.fr ∈ d.grs → c ∈ cs w d.bo → c.de = d → c.sure = false → Tr w d m (.set { c with fh := f, heard := hearL c.heard m.fr }) .same []
 | n_gone : m.kind = 3 → m.fr ∈ d.grs → goneC w d ∨ sureC w d → Tr w d m .same .same []
 | n_un (c : Ca) : m.kind = 3 → m.fr ∈ d.grs → c ∈ cs w d.bo → c.de = d → c.sure = false → Tr w d m .erase .same (d.grs.map fun g => msgP m.to g 6 d.id)
 | f_is : m.kind = 4 → m.to ∈ d.grs → isR w m.to.toNat d.id → (sureC w d ∨ goneC w d ∧ allD w d) → Tr w d m .same (.perf m.to.toNat) [msgP m.to m.fr 5 d.id]
 | f_did : m.kind = 4 → m.to ∈ d.grs → d.id ∈ dn w m.to.toNat → Tr w d m .same .same [msgP m.to m.fr 5 d.id]
 | f_none : m.kind = 4 → m.to ∈ d.grs → ¬ isR w m.to.toNat d.id → d.id ∉ dn w m.to.toNat → Tr w d m .same .same []
 | d_gone : m.kind = 5 → m.fr ∈ d.grs → goneC w d ∨ unsure w d → Tr w d m .same .same []
 | d_whole (c : Ca) : m.kind = 5 → m.fr ∈ d.grs → c ∈ cs w d.bo → c.de = d → c.sure = true → allD w d → Tr w d m .erase .same []
 | d_more (c : Ca) (f : Bool) : m.kind = 5 → m.fr ∈ d.grs → c ∈ cs w d.bo → c.de = d → c.sure = true → Tr w d m (.set { c with fh := f, heard := hearL c.heard m.fr }) .same []
 | x_is : m.kind = 6 → m.to ∈ d.grs → goneC w d → isR w m.to.toNat d.id → Tr w d m .same (.unready m.to.toNat) []
 | x_none : m.kind = 6 → m.to ∈ d.grs → goneC w d → ¬ isR w m.to.toNat d.id → Tr w d m .same .same []
 | a_gone : m.kind = 7 → m.fr ∈ d.grs → goneC w d → Tr w d m .same .same [msgP m.to m.fr 6 d.id]
 | a_sure : m.kind = 7 → m.fr ∈ d.grs → sureC w d → Tr w d m .same .same [msgP m.to m.fr 4 d.id]
 | a_un : m.kind = 7 → m.fr ∈ d.grs → unsure w d → Tr w d m .same .same []
section
variable {isP : List UInt8 → Bool} {clash : List UInt8 → List UInt8 → Bool} {PS : List (List UInt8)} {w w' : Wd}
theorem sendL_nil (l : List Mg) : sendL l [] = l := by simp [sendL]
theorem Eff.self {d : De} {l : List Mg} : Eff w (sendW w l) d .same .same l := ⟨rfl, rfl, fun _ _ => Iff.rfl, fun _ _ => Iff.rfl, fun _ => rfl⟩
theorem tell_tr (H : Inv isP clash PS w) {k : Nat} {b : Bo} {m : Mg} {d : De} (hb : w.bs[k]? = some b) (hd : d ∈ w.deeds) (hn : m.nums = [d.id]) (hto : m.to = d.bo) (hk : m.to = (k : Int)) (hfr : m.fr ∈ d.grs) (hkind : m.kind = 2 ∨ m.kind = 3 ∨ m.kind = 5 ∨ m.kind = 7) (h5 : m.kind = 5 → d.id ∈ dn w m.fr.toNat) :
  ∃ x l, Tr w d m x .same l ∧ Eff w (tellW w k b m) d x .same l := by
 have self : ({ w with bs := w.bs.set k b } : Wd) = w := by rw [set_same hb]
 have hbi := (H.bi k b hb).1
 have hck : cs w k = b.cases := cs_of hb
 have hdk : d.bo = k := by omega
 have hbid : b.id = m.to := by rw [hbi, hk]
 have hh : m.nums.headD 0 = d.id := by rw [hn]; rfl
 have h0 : m.to = b.id ∧ m.nums.length = 1 ∧ (m.kind = 2 ∨ m.kind = 3 ∨ m.kind = 5 ∨ m.kind = 7) := ⟨hbid.symm, by rw [hn]; rfl, hkind⟩
 have hnd : (b.cases.map fun c => c.de.id).Nodup := by have := H.cn k; rwa [hck] at this
 -- the same cases
 have eqs : ∀ l, Eff w (sendW { w with bs := w.bs.set k (withC b b.cases) } l) d .same .same l := fun l => ⟨rfl, rfl, fun j c => by
  show c ∈ cs { w with bs := w.bs.set k (withC b b.cases) } j ↔ _
  rw [cs_set hb]
  by_cases e : j = k
  ·rw [if_pos e, e, hck]; exact Iff.rfl
  ·rw [if_neg e], fun _ _ => Iff.rfl, fun _ => rfl⟩
 unfold tellW tellP
 rw [if_pos h0, hh]
 cases hx : b.cases[caseAt b d.id]? with
 | none =>
  have hg : goneC w d := by
   intro c hc
   rw [hdk, hck] at hc
   exact not_key (key := fun c : Ca => c.de.id) hx c hc
  simp only
  by_cases c4 : m.kind = 2 ∨ m.kind = 7
  ·rw [if_pos c4]
   dsimp only
   rw [self, hbid]
   rcases c4 with c4 | c4
   ·exact ⟨_, _, .y_gone c4 hfr hg, Eff.self⟩
   ·exact ⟨_, _, .a_gone c4 hfr hg, Eff.self⟩
  ·rw [if_neg c4]
   dsimp only
   rw [self]
   rcases (show m.kind = 3 ∨ m.kind = 5 by omega) with c | c
   ·exact ⟨_, _, .n_gone c hfr (.inl hg), Eff.self⟩
   ·exact ⟨_, _, .d_gone c hfr (.inl hg), Eff.self⟩
 | some c =>
  have hcm : c ∈ cs w d.bo := by rw [hdk, hck]; exact List.mem_of_getElem? hx
  have hid : c.de.id = d.id := at_key (key := fun c : Ca => c.de.id) hx
  have C := H.ca _ c hcm
  have hcd : c.de = d := H.deq C.de hd hid
  have memE : ∀ b' : Bo, b'.cases = b.cases.eraseIdx (caseAt b d.id) → ∀ l, Eff w (sendW { w with bs := w.bs.set k b' } l) d .erase .same l := fun b' e l => ⟨rfl, rfl, fun j y => by
   show y ∈ cs { w with bs := w.bs.set k b' } j ↔ y ∈ cs w j ∧ y.de.id ≠ d.id
   rw [cs_set hb]
   by_cases ej : j = k
   ·rw [if_pos ej, e, ej, hck, mem_erase_key (key := fun c : Ca => c.de.id) hnd hx y, hid]
   ·rw [if_neg ej]
    refine ⟨fun hy => ⟨hy, fun e => ?_⟩, fun hy => hy.1⟩
    have Y := H.ca j y hy
    have := H.deq Y.de hd e
    rw [← Y.bo, this, hdk] at ej
    exact ej rfl, fun _ _ => Iff.rfl, fun _ => rfl⟩
  have memS : ∀ (b' : Bo) (c' : Ca), b'.cases = b.cases.set (caseAt b d.id) c' → ∀ l, Eff w (sendW { w with bs := w.bs.set k b' } l) d (.set c') .same l := fun b' c' e l => ⟨rfl, rfl, fun j y => by
   show y ∈ cs { w with bs := w.bs.set k b' } j ↔ (j = d.bo ∧ y = c') ∨ (y ∈ cs w j ∧ y.de.id ≠ d.id)
   rw [cs_set hb, hdk]
   by_cases ej : j = k
   ·rw [if_pos ej, e, ej, hck, mem_set_key (key := fun c : Ca => c.de.id) hnd hx y, hid]
    simp
   ·rw [if_neg ej]
    refine ⟨fun hy => .inr ⟨hy, fun e => ?_⟩, fun hy => ?_⟩
    ·have Y := H.ca j y hy
     have := H.deq Y.de hd e
     rw [← Y.bo, this, hdk] at ej
     exact ej rfl
    ·rcases hy with ⟨h1, _⟩ | hy
     ·exact absurd h1 ej
     ·exact hy.1, fun _ _ => Iff.rfl, fun _ => rfl⟩
  simp only
  rw [if_pos (by rw [hcd]; exact hfr)]
  unfold tellC
  have hsub : ∀ g ∈ hearL c.heard m.fr, g ∈ c.de.grs := fun g hg => by
   rcases hearL_mem.1 hg with rfl | hg
   ·rw [hcd]; exact hfr
   ·exact C.sub g hg
  by_cases hs : c.sure = true
  ·simp only [if_pos hs]
   by_cases k3 : m.kind = 3
   ·simp only [if_pos k3]
    exact ⟨_, _, .n_gone k3 hfr (.inr ⟨c, hcm, hid, hs⟩), eqs []⟩
   ·simp only [if_neg k3]
    by_cases k5 : m.kind = 5
    ·simp only [if_pos k5]
     by_cases hf : (hearL c.heard m.fr).length = c.de.grs.length
     ·simp only [if_pos hf]
      refine ⟨_, _, .d_whole c k5 hfr hcm hcd hs (fun g hg => ?_), memE _ rfl []⟩
      rcases hearL_mem.1 (full (up_nodup (hearL_up C.up)) hsub (by omega) g (by rw [hcd]; exact hg)) with e | e
      ·rw [e]; exact h5 k5
      ·rw [← hid]; exact (C.su hs).2 g e
     ·simp only [if_neg hf]
      exact ⟨_, _, .d_more c (hearF c m.fr) k5 hfr hcm hcd hs, memS _ _ rfl []⟩
    ·simp only [if_neg k5]
     rw [hbid, hid]
     rcases (show m.kind = 2 ∨ m.kind = 7 by omega) with c1 | c1
     ·exact ⟨_, _, .y_sure c1 hfr ⟨c, hcm, hid, hs⟩, eqs _⟩
     ·exact ⟨_, _, .a_sure c1 hfr ⟨c, hcm, hid, hs⟩, eqs _⟩
  ·have hs : c.sure = false := by simpa using hs
   rw [if_neg (by rw [hs]; decide)]
   by_cases k3 : m.kind = 3
   ·simp only [if_pos k3]
    have e : allP b c.de 6 = d.grs.map fun g => msgP m.to g 6 d.id := by unfold allP; rw [hcd, hbid]
    rw [e]
    exact ⟨_, _, .n_un c k3 hfr hcm hcd hs, memE _ rfl _⟩
   ·simp only [if_neg k3]
    by_cases k2 : m.kind = 2
    ·simp only [if_pos k2]
     by_cases hf : (hearL c.heard m.fr).length = c.de.grs.length
     ·simp only [if_pos hf]
      have e : allP b c.de 4 = d.grs.map fun g => msgP m.to g 4 d.id := by unfold allP; rw [hcd, hbid]
      rw [e]
      exact ⟨_, _, .y_whole c k2 hfr hcm hcd hs, memS _ _ rfl _⟩
     ·simp only [if_neg hf]
      exact ⟨_, _, .y_more c (hearF c m.fr) k2 hfr hcm hcd hs, memS _ _ rfl []⟩
    ·simp only [if_neg k2]
     have hun : unsure w d := ⟨c, hcm, hid, hs⟩
     rcases (show m.kind = 5 ∨ m.kind = 7 by omega) with c1 | c1
     ·exact ⟨_, _, .d_gone c1 hfr (.inr hun), eqs []⟩
     ·exact ⟨_, _, .a_un c1 hfr hun, eqs []⟩
end
end Go.Cr

namespace Go.Cr
section
variable {isP : List UInt8 → Bool} {clash : List UInt8 → List UInt8 → Bool} {PS : List (List UInt8)} {w w' : Wd}
theorem hear_tr (H : Inv isP clash PS w) {g : Nat} {p : Pt} {dd : Bool × List Int} {m : Mg} {d : De} (hp : w.ps[g]? = some p) (hd0 : w.did[g]? = some dd) (hd : d ∈ w.deeds) (hn : m.nums = [d.id]) (hto : m.to = (g : Int)) (hg : m.to ∈ d.grs)
  (hk : (m.kind = 1 ∧ (m.to, m.data) ∈ d.grs.zip d.pas) ∨ (m.kind = 4 ∧ (sureC w d ∨ goneC w d ∧ allD w d)) ∨ (m.kind = 6 ∧ goneC w d)) :
  ∃ y l, Tr w d m .same y l ∧ Eff w (hearW isP clash w g p dd m) d .same y l := by
 have self : ({ w with ps := w.ps.set g p } : Wd) = w := by rw [set_same hp]
 have hpi := H.pi g p hp
 have hrd := rd_of hp
 have hdn := dn_of hp
 have P := H.pt g
 have hkl : g < w.ps.length := (List.getElem?_eq_some_iff.1 hp).1
 have hgn : m.to.toNat = g := by rw [hto]; simp
 have hpid : p.id = m.to := by rw [hpi, hto]
 have hh : m.nums.headD 0 = d.id := by rw [hn]; rfl
 have h8 := (H.id d hd).1
 have hc : m.to = p.id ∧ m.nums.length = 1 := ⟨hpid.symm, by rw [hn]; rfl⟩
 have hisr : (p.ready.any (fun r => decide (r.id = d.id)) = true) ↔ isR w g d.id := by
  unfold isR
  rw [hrd]
  simp
 have hdid : (decide (d.id ∈ p.did) = true) ↔ d.id ∈ dn w g := by rw [hdn]; simp
 have rds : ∀ (q : Pt) (dl : List (Bool × List Int)) (l : List Mg) (j : Nat), rd (sendW { w with ps := w.ps.set g q, did := dl } l) j = if j = g then q.ready else rd w j := fun q dl l j => by
  by_cases e : j = g
  ·subst e; simp [rd, sendW, hkl]
  ·simp only [rd, sendW]; rw [List.getElem?_set_ne (Ne.symm e), if_neg e]
 have dns : ∀ (q : Pt) (dl : List (Bool × List Int)) (l : List Mg) (j : Nat), dn (sendW { w with ps := w.ps.set g q, did := dl } l) j = if j = g then q.did else dn w j := fun q dl l j => by
  by_cases e : j = g
  ·subst e; simp [dn, sendW, hkl]
  ·simp only [dn, sendW]; rw [List.getElem?_set_ne (Ne.symm e), if_neg e]
 unfold hearW hearP
 simp only [if_pos hc, hh]
 rcases hk with ⟨k1, hz⟩ | ⟨k4, hs⟩ | ⟨k6, hgo⟩
 ·simp only [if_pos k1]
  by_cases q1 : decide (d.id ∈ p.did) = true
  ·simp only [if_pos q1, doneW, if_true]
   rw [self, hpid]
   exact ⟨_, _, .p_did k1 hg (by rw [hgn]; exact hdid.1 q1), Eff.self⟩
  ·simp only [if_neg q1]
   by_cases q2 : p.ready.any (fun r => decide (r.id = d.id)) = true
   ·simp only [if_pos q2, doneW, if_true]
    rw [self, hpid]
    exact ⟨_, _, .p_is k1 hg (by rw [hgn]; exact hisr.1 q2), Eff.self⟩
   ·simp only [if_neg q2]
    have hnr : ¬ isR w g d.id := fun h => q2 (hisr.2 h)
    by_cases q3 : isP m.data = false ∨ lockedP isP clash p m.data = true
    ·simp only [if_pos q3, doneW, if_true]
     rw [self, hpid]
     refine ⟨_, _, .p_no k1 hg (by rw [hgn]; exact hnr) ?_, Eff.self⟩
     rw [hgn, hrd]
     have hip := ((H.de d hd).pa _ (List.of_mem_zip hz).2).1
     rcases q3 with q3 | q3
     ·rw [hip] at q3; cases q3
     ·unfold lockedP at q3
      rw [hip, Bool.true_and, List.any_eq_true] at q3
      obtain ⟨r, hr, _⟩ := q3
      exact ⟨r, hr, fun e => hnr ⟨r, by rw [hrd]; exact hr, e⟩⟩
    ·simp only [if_neg q3, doneW, if_true]
     rw [hpid]
     refine ⟨_, _, .p_yes k1 hg (by rw [hgn]; exact fun h => q1 (hdid.2 h)) (by rw [hgn]; exact hnr), ⟨rfl, rfl, fun _ _ => Iff.rfl, fun j i => ?_, fun j => ?_⟩⟩
     ·have := rds ⟨m.to, false, p.ready ++ [⟨d.id, m.data⟩], p.fd, p.did⟩ w.did [msgP m.to m.fr 2 d.id] j
      unfold isR
      rw [this, hgn]
      by_cases e : j = g
      ·rw [if_pos e, e, hrd]
       constructor
       ·rintro ⟨r, hr, e'⟩
        rcases List.mem_append.1 hr with hr | hr
        ·exact .inl ⟨r, hr, e'⟩
        ·rw [List.mem_singleton.1 hr] at e'
         exact .inr ⟨rfl, e'.symm⟩
       ·rintro (⟨r, hr, e'⟩ | ⟨_, e'⟩)
        ·exact ⟨r, List.mem_append_left _ hr, e'⟩
        ·exact ⟨⟨d.id, m.data⟩, List.mem_append_right _ (List.mem_singleton.2 rfl), e'.symm⟩
      ·rw [if_neg e]
       exact ⟨.inl, fun h => h.elim id fun h => absurd h.1 e⟩
     ·have := dns ⟨m.to, false, p.ready ++ [⟨d.id, m.data⟩], p.fd, p.did⟩ w.did [msgP m.to m.fr 2 d.id] j
      refine this.trans ?_
      by_cases e : j = g
      ·rw [if_pos e, e, hdn]
      ·rw [if_neg e]
 all_goals
  have erd : ∀ i r, p.ready[i]? = some r → r.id = d.id → ∀ x, x ∈ p.ready.eraseIdx i ↔ x ∈ p.ready ∧ x.id ≠ d.id := fun i r hi e x => by
   have := mem_erase_key (key := fun r : Rd => r.id) (l := p.ready) (by have := P.nd; rwa [hrd] at this) hi x
   rw [this, e]
  have find : isR w g d.id → ∃ r, p.ready[p.ready.findIdx fun r => decide (r.id = d.id)]? = some r ∧ r.id = d.id := fun ⟨r, hr, e⟩ => by
   rw [hrd] at hr
   have h1 : p.ready.findIdx (fun r => decide (r.id = d.id)) < p.ready.length := List.findIdx_lt_length_of_exists ⟨r, hr, by simp [e]⟩
   exact ⟨_, List.getElem?_eq_getElem h1, at_key (key := fun r : Rd => r.id) (List.getElem?_eq_getElem h1)⟩
  have erR : isR w g d.id → ∀ (q : Pt) (dl : List (Bool × List Int)) (l : List Mg), q.ready = p.ready.eraseIdx (p.ready.findIdx fun r => decide (r.id = d.id)) → ∀ j i, isR (sendW { w with ps := w.ps.set g q, did := dl } l) j i ↔ isR w j i ∧ ¬ (j = g ∧ i = d.id) := fun hi q dl l e j i => by
   obtain ⟨r0, h1, h2⟩ := find hi
   have mem := erd _ r0 h1 h2
   unfold isR
   rw [rds]
   by_cases ej : j = g
   ·rw [if_pos ej, e, ej, hrd]
    constructor
    ·rintro ⟨r, hr, e'⟩
     obtain ⟨h3, h4⟩ := (mem r).1 hr
     exact ⟨⟨r, h3, e'⟩, fun h => h4 (by rw [e']; exact h.2)⟩
    ·rintro ⟨⟨r, hr, e'⟩, h⟩
     exact ⟨r, (mem r).2 ⟨hr, fun h5 => h ⟨rfl, by rw [← e', h5]⟩⟩, e'⟩
   ·rw [if_neg ej]
    exact ⟨fun h => ⟨h, fun h' => ej h'.1⟩, fun h => h.1⟩
 ·have k1 : ¬ m.kind = 1 := by omega
  simp only [if_neg k1, if_pos k4]
  by_cases q2 : p.ready.any (fun r => decide (r.id = d.id)) = true
  ·simp only [if_pos q2, doneW, if_neg (show ¬ d.id = 0 by omega)]
   rw [hpid]
   refine ⟨_, _, .f_is k4 hg (by rw [hgn]; exact hisr.1 q2) hs, ⟨rfl, rfl, fun _ _ => Iff.rfl, fun j i => ?_, fun j => ?_⟩⟩
   ·rw [hgn]
    exact erR (hisr.1 q2) _ _ _ rfl j i
   ·refine (dns _ _ _ j).trans ?_
    show _ = if j = m.to.toNat then dn w j ++ [d.id] else dn w j
    rw [hgn]
    by_cases e : j = g
    ·rw [if_pos e, if_pos e, e, hdn]
    ·rw [if_neg e, if_neg e]
  ·simp only [if_neg q2]
   by_cases q1 : decide (d.id ∈ p.did) = true
   ·simp only [if_pos q1, doneW, if_true]
    rw [self, hpid]
    exact ⟨_, _, .f_did k4 hg (by rw [hgn]; exact hdid.1 q1), Eff.self⟩
   ·simp only [if_neg q1, doneW, if_true]
    rw [self]
    exact ⟨_, _, .f_none k4 hg (by rw [hgn]; exact fun h => q2 (hisr.2 h)) (by rw [hgn]; exact fun h => q1 (hdid.2 h)), Eff.self⟩
 ·have k1 : ¬ m.kind = 1 := by omega
  have k4 : ¬ m.kind = 4 := by omega
  simp only [if_neg k1, if_neg k4, if_pos k6]
  by_cases q2 : p.ready.any (fun r => decide (r.id = d.id)) = true
  ·simp only [if_pos q2, doneW, if_true]
   rw [hpid]
   refine ⟨_, _, .x_is k6 hg hgo (by rw [hgn]; exact hisr.1 q2), ⟨rfl, rfl, fun _ _ => Iff.rfl, fun j i => ?_, fun j => ?_⟩⟩
   ·rw [hgn]
    exact erR (hisr.1 q2) _ w.did _ rfl j i
   ·refine (dns _ w.did _ j).trans ?_
    by_cases e : j = g
    ·rw [if_pos e, e, hdn]
    ·rw [if_neg e]
  ·simp only [if_neg q2, doneW, if_true]
   rw [self]
   exact ⟨_, _, .x_none k6 hg hgo (by rw [hgn]; exact fun h => q2 (hisr.2 h)), Eff.self⟩
theorem come_tr (H : Inv isP clash PS w) {m : Mg} (hm : GoodM w m) : ∃ d ∈ w.deeds, m.nums = [d.id] ∧ ∃ x y l, Tr w d m x y l ∧ Eff w (comeW isP clash w m) d x y l := by
 obtain ⟨d, hd, hn, hm⟩ := hm
 refine ⟨d, hd, hn, ?_⟩
 have hb4 := (H.id d hd).2.1
 have hle := (H.de d hd).le
 have hto : 0 ≤ m.to ∧ m.to < 4 := by
  rcases hm with hm | hm | hm | hm | hm | hm | hm
  ·exact hle _ (List.of_mem_zip hm.2.2).1
  ·have := hm.2.1; omega
  ·have := hm.2.1; omega
  ·exact hle _ hm.2.2.1
  ·have := hm.2.1; omega
  ·exact hle _ hm.2.2.1
  ·have := hm.2.1; omega
 obtain ⟨k, hk⟩ : ∃ k : Nat, m.to = (k : Int) := ⟨m.to.toNat, by omega⟩
 have hkb : k < w.bs.length := by rw [H.lb]; omega
 have hkp : k < w.ps.length := by rw [H.lp]; omega
 have hkd : k < w.did.length := by rw [H.ld]; omega
 have gb := List.getElem?_eq_getElem hkb
 have gp := List.getElem?_eq_getElem hkp
 have gd := List.getElem?_eq_getElem hkd
 have hne : ¬ (m.to < 0 ∨ 4 ≤ m.to) := by omega
 have htn : m.to.toNat = k := by rw [hk]; simp
 have eq : comeW isP clash w m = hearW isP clash (tellW w k w.bs[k] m) k w.ps[k] w.did[k] m := by
  unfold comeW
  simp only [if_neg hne, htn, gb, gp, gd]
 rw [eq]
 have bossK : m.kind = 2 ∨ m.kind = 3 ∨ m.kind = 5 ∨ m.kind = 7 → hearW isP clash (tellW w k w.bs[k] m) k w.ps[k] w.did[k] m = tellW w k w.bs[k] m := fun h => by
  have k1 : ¬ m.kind = 1 := by omega
  have k4 : ¬ m.kind = 4 := by omega
  have k6 : ¬ m.kind = 6 := by omega
  have hs : (tellW w k w.bs[k] m).ps.set k w.ps[k] = (tellW w k w.bs[k] m).ps := set_same gp
  have hp : hearP isP clash w.ps[k] m = (w.ps[k], [], 0) := by
   unfold hearP
   split
   ·simp only [if_neg k1, if_neg k4, if_neg k6]
   ·rfl
  unfold hearW doneW
  rw [hp]
  simp only [if_true]
  rw [hs]
  unfold sendW
  simp only [sendL_nil]
 have partK : m.kind = 1 ∨ m.kind = 4 ∨ m.kind = 6 → tellW w k w.bs[k] m = w := fun h => by
  have : ¬ (m.to = w.bs[k].id ∧ m.nums.length = 1 ∧ (m.kind = 2 ∨ m.kind = 3 ∨ m.kind = 5 ∨ m.kind = 7)) := fun h => by omega
  unfold tellW tellP
  rw [if_neg this]
  dsimp only
  rw [set_same gb]
  unfold sendW
  simp only [sendL_nil]
 rcases hm with ⟨a, b, c⟩ | ⟨a, b, c, e⟩ | ⟨a, b, c⟩ | ⟨a, b, c, e⟩ | ⟨a, b, c, e⟩ | ⟨a, b, c, e⟩ | ⟨a, b, c⟩
 ·rw [partK (.inl a)]
  obtain ⟨y, l, h1, h2⟩ := hear_tr H gp gd hd hn hk (List.of_mem_zip c).1 (.inl ⟨a, c⟩)
  exact ⟨_, y, l, h1, h2⟩
 ·rw [bossK (.inl a)]
  obtain ⟨x, l, h1, h2⟩ := tell_tr H gb hd hn b hk c (.inl a) (fun h => by omega)
  exact ⟨x, _, l, h1, h2⟩
 ·rw [bossK (.inr (.inl a))]
  obtain ⟨x, l, h1, h2⟩ := tell_tr H gb hd hn b hk c (.inr (.inl a)) (fun h => by omega)
  exact ⟨x, _, l, h1, h2⟩
 ·rw [partK (.inr (.inl a))]
  obtain ⟨y, l, h1, h2⟩ := hear_tr H gp gd hd hn hk c (.inr (.inl ⟨a, e⟩))
  exact ⟨_, y, l, h1, h2⟩
 ·rw [bossK (.inr (.inr (.inl a)))]
  obtain ⟨x, l, h1, h2⟩ := tell_tr H gb hd hn b hk c (.inr (.inr (.inl a))) (fun _ => e)
  exact ⟨x, _, l, h1, h2⟩
 ·rw [partK (.inr (.inr a))]
  obtain ⟨y, l, h1, h2⟩ := hear_tr H gp gd hd hn hk c (.inr (.inr ⟨a, e⟩))
  exact ⟨_, y, l, h1, h2⟩
 ·rw [bossK (.inr (.inr (.inr a)))]
  obtain ⟨x, l, h1, h2⟩ := tell_tr H gb hd hn b hk c (.inr (.inr (.inr a))) (fun h => by omega)
  exact ⟨x, _, l, h1, h2⟩
end
end Go.Cr

/-
 Messages run out; what a round comes to.
-/
namespace Go.Cr
section
variable {isP : List UInt8 → Bool} {clash : List UInt8 → List UInt8 → Bool} {PS : List (List UInt8)} {w w' : Wd}
def mw (m : Mg) : Nat := if m.kind = 1 then 4 else if m.kind = 2 ∨ m.kind = 7 then 3 else if m.kind = 4 then 2 else 1
def wt : List Mg → Nat
 | [] => 0
 | m :: l => mw m + wt l
theorem wt_app : ∀ a b : List Mg, wt (a ++ b) = wt a + wt b
 | [], b => by simp [wt]
 | m :: a, b => by simp [wt, wt_app a b]; omega
theorem wt_take : ∀ (l : List Mg) (n : Nat), wt (l.take n) ≤ wt l
 | [], n => by simp [wt]
 | m :: l, 0 => by simp [wt]
 | m :: l, n + 1 => by
  have := wt_take l n
  simp only [List.take_succ_cons, wt]
  omega
theorem wt_send (a l : List Mg) : wt (sendL a l) ≤ wt a + wt l := by
 unfold sendL
 rw [wt_app]
 have := wt_take l (200 - a.length)
 omega
def unB (w : Wd) (d : De) : Bool := (cs w d.bo).any fun c => decide (c.de.id = d.id) && !c.sure
theorem unB_iff {d : De} : unB w d = true ↔ unsure w d := by
 unfold unB unsure
 rw [List.any_eq_true]
 constructor
 ·rintro ⟨c, hc, h⟩
  simp only [Bool.and_eq_true, decide_eq_true_eq, Bool.not_eq_true'] at h
  exact ⟨c, hc, h.1, h.2⟩
 ·rintro ⟨c, hc, e, s⟩
  exact ⟨c, hc, by simp [e, s]⟩
def U (w : Wd) : Nat := w.deeds.countP (unB w)
theorem countP_flip {α : Type} {p q : α → Bool} : ∀ {l : List α}, (∀ x ∈ l, q x = true → p x = true) → ∀ {d : α}, d ∈ l → p d = true → q d = false → l.countP q + 1 ≤ l.countP p
 | [], _, _, h, _, _ => by cases h
 | a :: l, hm, d, hd, h1, h2 => by
  have hm' : ∀ x ∈ l, q x = true → p x = true := fun x hx => hm x (List.mem_cons_of_mem _ hx)
  have h3 : l.countP q ≤ l.countP p := List.countP_mono_left hm'
  rw [List.countP_cons, List.countP_cons]
  rcases List.mem_cons.1 hd with rfl | hd
  ·rw [h1, h2]; simp; omega
  ·have := countP_flip hm' hd h1 h2
   have h4 : q a = true → p a = true := hm a (List.mem_cons_self ..)
   cases hq : q a with
   | true => rw [h4 hq]; simp; omega
   | false => cases p a <;> simp <;> omega
theorem eff_far {d d' : De} {x : Cg} {y : Pg} {l : List Mg} (E : Eff w w' d x y l) (hx : ∀ c, x = .set c → c.de.id = d.id) (hne : d'.id ≠ d.id) : (∀ j c, c.de.id = d'.id → (c ∈ cs w' j ↔ c ∈ cs w j)) ∧ (∀ j, isR w' j d'.id ↔ isR w j d'.id) ∧ (∀ j, d'.id ∈ dn w' j ↔ d'.id ∈ dn w j) := by
 refine ⟨fun j c hc => ?_, fun j => ?_, fun j => ?_⟩
 ·rw [E.cs j c]
  cases x with
  | same => exact Iff.rfl
  | erase => exact ⟨fun h => h.1, fun h => ⟨h, fun e => hne (hc.symm.trans e)⟩⟩
  | set c' =>
   have := hx c' rfl
   constructor
   ·rintro (⟨_, e⟩ | h)
    ·rw [e] at hc; exact absurd (hc.symm.trans this) hne
    ·exact h.1
   ·exact fun h => .inr ⟨h, fun e => hne (hc.symm.trans e)⟩
 ·rw [E.rd j]
  cases y with
  | same => exact Iff.rfl
  | ready g => exact ⟨fun h => h.elim id fun h => absurd h.2 hne, .inl⟩
  | unready g => exact ⟨fun h => h.1, fun h => ⟨h, fun e => hne e.2⟩⟩
  | perf g => exact ⟨fun h => h.1, fun h => ⟨h, fun e => hne e.2⟩⟩
 ·rw [E.dn j]
  cases y with
  | same => exact Iff.rfl
  | ready g => exact Iff.rfl
  | unready g => exact Iff.rfl
  | perf g =>
   by_cases e : j = g
   ·simp only [if_pos e, List.mem_append, List.mem_singleton]
    exact ⟨fun h => h.elim id fun h => absurd h hne, .inl⟩
   ·simp only [if_neg e]
theorem Tr.set_id {d : De} {m : Mg} {x : Cg} {y : Pg} {l : List Mg} (T : Tr w d m x y l) : ∀ c, x = .set c → c.de = d := by
 intro c e
 cases T with
 | y_whole c0 _ _ _ h _ => cases e; exact h
 | y_more c0 f _ _ _ h _ => cases e; exact h
 | d_more c0 f _ _ _ h _ => cases e; exact h
 | _ => cases e
theorem Tr.set_id' {d : De} {m : Mg} {x : Cg} {y : Pg} {l : List Mg} (T : Tr w d m x y l) : ∀ c, x = .set c → c.de.id = d.id := fun c e => by rw [T.set_id c e]
theorem eff_un {d d' : De} {m : Mg} {x : Cg} {y : Pg} {l : List Mg} (E : Eff w w' d x y l) (T : Tr w d m x y l) (hd : ∀ d' , d'.id = d.id → d' ∈ w.deeds → d' = d) (hd' : d' ∈ w.deeds) : (unsure w' d' → unsure w d') ∧ (goneC w d' → goneC w' d') ∧ (∀ g, d'.id ∈ dn w g → d'.id ∈ dn w' g) := by
 by_cases hne : d'.id = d.id
 ·have e := hd d' hne hd'
  subst e
  refine ⟨fun ⟨c, hc, e, s⟩ => ?_, fun h c hc e => ?_, fun g h => ?_⟩
  ·rw [E.cs] at hc
   cases T with
   | y_whole c0 _ _ h1 h2 h3 =>
    rcases hc with ⟨_, hc⟩ | hc
    ·rw [hc] at s; cases s
    ·exact absurd e hc.2
   | y_more c0 f _ _ h1 h2 h3 =>
    rcases hc with ⟨_, hc⟩ | hc
    ·exact ⟨c0, h1, by rw [h2], h3⟩
    ·exact absurd e hc.2
   | d_more c0 f _ _ h1 h2 h3 =>
    rcases hc with ⟨_, hc⟩ | hc
    ·rw [hc] at s; simp only at s; rw [h3] at s; cases s
    ·exact absurd e hc.2
   | n_un c0 _ _ h1 h2 h3 => exact absurd e hc.2
   | d_whole c0 _ _ h1 h2 h3 h4 => exact absurd e hc.2
   | _ => exact ⟨c, hc, e, s⟩
  ·rw [E.cs] at hc
   cases T with
   | y_whole c0 _ _ h1 h2 h3 => exact absurd (by rw [h2]) (h c0 h1)
   | y_more c0 f _ _ h1 h2 h3 => exact absurd (by rw [h2]) (h c0 h1)
   | d_more c0 f _ _ h1 h2 h3 => exact absurd (by rw [h2]) (h c0 h1)
   | n_un c0 _ _ h1 h2 h3 => exact absurd (by rw [h2]) (h c0 h1)
   | d_whole c0 _ _ h1 h2 h3 h4 => exact absurd (by rw [h2]) (h c0 h1)
   | _ => exact h c hc e
  ·rw [E.dn]
   cases y with
   | perf j =>
    by_cases e : g = j
    ·simp only [if_pos e]; exact List.mem_append_left _ h
    ·simp only [if_neg e]; exact h
   | _ => exact h
 ·obtain ⟨h1, h2, h3⟩ := eff_far E T.set_id' hne
  refine ⟨fun ⟨c, hc, e, s⟩ => ⟨c, (h1 _ c e).1 hc, e, s⟩, fun h c hc e => h c ((h1 _ c e).1 hc) e, fun g h => (h3 g).2 h⟩
theorem U_le {d : De} {m : Mg} {x : Cg} {y : Pg} {l : List Mg} (E : Eff w w' d x y l) (T : Tr w d m x y l) (hd : ∀ d' , d'.id = d.id → d' ∈ w.deeds → d' = d) : U w' ≤ U w := by
 unfold U
 rw [E.deeds]
 exact List.countP_mono_left fun x hx h => unB_iff.2 ((eff_un E T hd hx).1 (unB_iff.1 h))
theorem U_lt {d : De} {m : Mg} {x : Cg} {y : Pg} {l : List Mg} (E : Eff w w' d x y l) (T : Tr w d m x y l) (hd : ∀ d' , d'.id = d.id → d' ∈ w.deeds → d' = d) (hdm : d ∈ w.deeds) (h1 : unsure w d) (h2 : ¬ unsure w' d) : U w' + 1 ≤ U w := by
 unfold U
 rw [E.deeds]
 refine countP_flip (fun x hx h => unB_iff.2 ((eff_un E T hd hx).1 (unB_iff.1 h))) hdm (unB_iff.2 h1) ?_
 cases h : unB w' d with
 | false => rfl
 | true => exact absurd (unB_iff.1 h) h2
theorem wt_map (k : Int) (to id : Int) (n : Nat) (hn : ∀ g, mw (msgP to g k id) ≤ n) : ∀ l : List Int, wt (l.map fun g => msgP to g k id) ≤ n * l.length
 | [] => by simp [wt]
 | g :: l => by
  have h1 := wt_map k to id n hn l
  have h2 := hn g
  simp only [List.map_cons, wt, List.length_cons, Nat.mul_add, Nat.mul_one]
  omega
theorem grs4 {d : De} (h : DeOK isP PS d) : d.grs.length ≤ 4 := by
 have := sub_len (A := d.grs) (B := [0, 1, 2, 3]) (up_nodup h.up) fun x hx => by
  have := h.le x hx
  have h4 : x = 0 ∨ x = 1 ∨ x = 2 ∨ x = 3 := by omega
  rcases h4 with e | e | e | e <;> simp [e]
 simpa using this
theorem tr_wt {d : De} {m : Mg} {x : Cg} {y : Pg} {l : List Mg} (E : Eff w w' d x y l) (T : Tr w d m x y l) (hd : ∀ d' , d'.id = d.id → d' ∈ w.deeds → d' = d) (hdm : d ∈ w.deeds) (h4 : d.grs.length ≤ 4) : wt l + 8 * U w' + 1 ≤ mw m + 8 * U w := by
 have hle := U_le E T hd
 have one : ∀ a b k i, wt [msgP a b k i] = mw (msgP a b k i) := fun a b k i => by simp [wt]
 have m5 : ∀ a b i, mw (msgP a b 5 i) = 1 := fun a b i => by simp [mw, msgP]
 have m2 : ∀ a b i, mw (msgP a b 2 i) = 3 := fun a b i => by simp [mw, msgP]
 have m3 : ∀ a b i, mw (msgP a b 3 i) = 1 := fun a b i => by simp [mw, msgP]
 have m6 : ∀ a b i, mw (msgP a b 6 i) = 1 := fun a b i => by simp [mw, msgP]
 have m4 : ∀ a b i, mw (msgP a b 4 i) = 2 := fun a b i => by simp [mw, msgP]
 have k1 : m.kind = 1 → mw m = 4 := fun h => by simp [mw, h]
 have k2 : m.kind = 2 → mw m = 3 := fun h => by simp [mw, h]
 have k3 : m.kind = 3 → mw m = 1 := fun h => by simp [mw, h]
 have k4 : m.kind = 4 → mw m = 2 := fun h => by simp [mw, h]
 have k5 : m.kind = 5 → mw m = 1 := fun h => by simp [mw, h]
 have k6 : m.kind = 6 → mw m = 1 := fun h => by simp [mw, h]
 have k7 : m.kind = 7 → mw m = 3 := fun h => by simp [mw, h]
 cases T with
 | p_did h _ _ => rw [one, m5, k1 h]; omega
 | p_is h _ _ => rw [one, m2, k1 h]; omega
 | p_no h _ _ _ => rw [one, m3, k1 h]; omega
 | p_yes h _ _ _ => rw [one, m2, k1 h]; omega
 | y_gone h _ _ => rw [one, m6, k2 h]; omega
 | y_sure h _ _ => rw [one, m4, k2 h]; omega
 | y_whole c h a1 a2 a3 a4 =>
  have := U_lt E (.y_whole c h a1 a2 a3 a4) hd hdm ⟨c, a2, by rw [a3], a4⟩ (fun ⟨c', hc, e, s⟩ => by
   rw [E.cs] at hc
   rcases hc with ⟨_, hc⟩ | hc
   ·rw [hc] at s; cases s
   ·exact hc.2 e)
  have h2 := wt_map 4 m.to d.id 2 (fun g => by rw [m4]; exact Nat.le_refl _) d.grs
  rw [k2 h]; omega
 | y_more c f h _ _ _ _ => rw [k2 h]; simp only [wt]; omega
 | n_gone h _ _ => rw [k3 h]; simp only [wt]; omega
 | n_un c h a1 a2 a3 a4 =>
  have := U_lt E (.n_un c h a1 a2 a3 a4) hd hdm ⟨c, a2, by rw [a3], a4⟩ (fun ⟨c', hc, e, s⟩ => by
   rw [E.cs] at hc
   exact hc.2 e)
  have h2 := wt_map 6 m.to d.id 1 (fun g => by rw [m6]; exact Nat.le_refl _) d.grs
  rw [k3 h]; omega
 | f_is h _ _ _ => rw [one, m5, k4 h]; omega
 | f_did h _ _ => rw [one, m5, k4 h]; omega
 | f_none h _ _ _ => rw [k4 h]; simp only [wt]; omega
 | d_gone h _ _ => rw [k5 h]; simp only [wt]; omega
 | d_whole c h _ _ _ _ _ => rw [k5 h]; simp only [wt]; omega
 | d_more c f h _ _ _ _ => rw [k5 h]; simp only [wt]; omega
 | x_is h _ _ _ => rw [k6 h]; simp only [wt]; omega
 | x_none h _ _ _ => rw [k6 h]; simp only [wt]; omega
 | a_gone h _ _ => rw [one, m6, k7 h]; omega
 | a_sure h _ _ => rw [one, m4, k7 h]; omega
 | a_un h _ _ => rw [k7 h]; simp only [wt]; omega
theorem take_tr (H : Inv isP clash PS w) {i : Nat} {m : Mg} (hi : w.wire[i]? = some m) (t : Bool) : ∃ w0, w0 = (if t = true then w else lossW w i) ∧ Inv isP clash PS w0 ∧ ∃ d ∈ w.deeds, m.nums = [d.id] ∧ ∃ x y l, Tr w0 d m x y l ∧ Eff w0 (takeW isP clash w i t) d x y l := by
 have hg := H.ms m (List.mem_of_getElem? hi)
 have e : takeW isP clash w i t = comeW isP clash (if t = true then w else lossW w i) m := by
  unfold takeW; rw [hi]
 cases t with
 | true =>
  rw [e]
  simp only [if_true]
  exact ⟨w, rfl, H, come_tr H hg⟩
 | false =>
  rw [e]
  simp only [Bool.false_eq_true, if_false]
  exact ⟨lossW w i, rfl, H.loss i, come_tr (H.loss i) (hg.same rfl rfl rfl)⟩
theorem Inv.uniq (H : Inv isP clash PS w) {d : De} (hd : d ∈ w.deeds) : ∀ d', d'.id = d.id → d' ∈ w.deeds → d' = d := fun _ e h => H.deq h hd e
theorem take_wt (H : Inv isP clash PS w) {m : Mg} {r : List Mg} (hw : w.wire = m :: r) : wt (takeW isP clash w 0 false).wire + 8 * U (takeW isP clash w 0 false) + 1 ≤ wt w.wire + 8 * U w := by
 obtain ⟨w0, e0, H0, d, hd, _, x, y, l, T, E⟩ := take_tr H (i := 0) (m := m) (by rw [hw]; rfl) false
 simp only [Bool.false_eq_true, if_false] at e0
 have e1 : w0.wire = r := by rw [e0]; simp [lossW, hw]
 have e2 : U w0 = U w := by rw [e0]; rfl
 have hd0 : d ∈ w0.deeds := by rw [e0]; exact hd
 have := tr_wt E T (H0.uniq hd0) hd0 (grs4 (H0.de d hd0))
 rw [e2] at this
 have h2 := wt_send w0.wire l
 rw [E.wire, hw]
 rw [e1] at h2 ⊢
 simp only [wt]
 omega
theorem drain_end : ∀ (n : Nat) {w : Wd}, Inv isP clash PS w → wt w.wire + 8 * U w ≤ n → (drainW isP clash n w).wire = []
 | 0, w, H, h => by
  unfold drainW
  cases hw : w.wire with
  | nil => rfl
  | cons m r =>
   have : 0 < mw m := by unfold mw; split <;> (try split) <;> (try split) <;> decide
   rw [hw] at h
   simp only [wt] at h
   omega
 | n + 1, w, H, h => by
  unfold drainW
  cases hw : w.wire with
  | nil => simp [hw]
  | cons m r =>
   rw [if_neg (by simp)]
   have := take_wt H hw
   exact drain_end n (H.take 0 false) (by omega)
theorem drain_keep (P : Wd → Prop) (hs : ∀ w, Inv isP clash PS w → P w → ∀ m r, w.wire = m :: r → P (takeW isP clash w 0 false)) : ∀ (n : Nat) {w : Wd}, Inv isP clash PS w → P w → P (drainW isP clash n w)
 | 0, _, _, h => h
 | n + 1, w, H, h => by
  unfold drainW
  cases hw : w.wire with
  | nil => simpa using h
  | cons m r =>
   rw [if_neg (by simp)]
   exact drain_keep P hs n (H.take 0 false) (hs w H h m r hw)
end
end Go.Cr

/-
 What is asked is answered: unsure cases, sure ones, questions.
-/
namespace Go.Cr
section
variable {isP : List UInt8 → Bool} {clash : List UInt8 → List UInt8 → Bool} {PS : List (List UInt8)} {w w' : Wd}
theorem sendL_old {a l : List Mg} {x : Mg} (h : x ∈ a) : x ∈ sendL a l := List.mem_append_left _ h
theorem sendL_new {a l : List Mg} {x : Mg} (hl : a.length + l.length ≤ 200) (h : x ∈ l) : x ∈ sendL a l := by
 unfold sendL
 rw [List.take_of_length_le (by omega)]
 exact List.mem_append_right _ h
theorem sendL_len (a l : List Mg) : (sendL a l).length ≤ a.length + l.length := by
 unfold sendL
 simp only [List.length_append, List.length_take]
 omega
def Q1 (d : De) (w : Wd) : Prop := unsure w d → ∀ g ∈ d.grs, (∃ c ∈ cs w d.bo, c.de.id = d.id ∧ g ∈ c.heard) ∨ ∃ m ∈ w.wire, m.nums = [d.id] ∧ ((m.kind = 1 ∧ m.to = g) ∨ ((m.kind = 2 ∨ m.kind = 3) ∧ m.fr = g))
def Q2 (d : De) (w : Wd) : Prop := (sureC w d ∧ ∀ g ∈ d.grs, (∃ c ∈ cs w d.bo, c.de.id = d.id ∧ g ∈ c.heard) ∨ ∃ m ∈ w.wire, m.nums = [d.id] ∧ ((m.kind = 4 ∧ m.to = g) ∨ (m.kind = 5 ∧ m.fr = g))) ∨ (goneC w d ∧ allD w d)
def Q3 (d : De) (w : Wd) : Prop := goneC w d ∧ (∀ m ∈ w.wire, m.nums = [d.id] → m.kind ≠ 1) ∧ ∀ g : Nat, isR w g d.id → ∃ m ∈ w.wire, m.nums = [d.id] ∧ ((m.kind = 7 ∧ m.fr = g) ∨ (m.kind = 6 ∧ m.to = g))
structure Stp (w : Wd) (m : Mg) (w' : Wd) (d : De) (x : Cg) (y : Pg) (l : List Mg) : Prop where
 T : Tr w d m x y l
 E : Eff w w' d x y l
 hd : d ∈ w.deeds
 hn : m.nums = [d.id]
theorem take_stp (H : Inv isP clash PS w) {m : Mg} {r : List Mg} (hw : w.wire = m :: r) : ∃ w0, w0 = { w with wire := r } ∧ Inv isP clash PS w0 ∧ ∃ d x y l, Stp w0 m (takeW isP clash w 0 false) d x y l := by
 obtain ⟨w0, e0, H0, d, hd, hn, x, y, l, T, E⟩ := take_tr H (i := 0) (m := m) (by rw [hw]; rfl) false
 simp only [Bool.false_eq_true, if_false] at e0
 have e1 : w0 = { w with wire := r } := by rw [e0]; simp [lossW, hw]
 exact ⟨w0, e1, H0, d, x, y, l, T, E, by rw [e1]; exact hd, hn⟩
theorem no_un {d : De} {x : Cg} {y : Pg} {l : List Mg} (E : Eff w w' d x y l) (hx : x = .erase ∨ ∃ c, x = .set c ∧ c.sure = true) : ¬ unsure w' d := by
 rintro ⟨c, hc, e, s⟩
 rw [E.cs] at hc
 rcases hx with rfl | ⟨c0, rfl, h⟩
 ·exact hc.2 e
 ·rcases hc with ⟨_, hc⟩ | hc
  ·rw [hc, h] at s; cases s
  ·exact hc.2 e
theorem q1_step (H : Inv isP clash PS w) {d : De} (hd : d ∈ w.deeds) (Q : Q1 d w) {m : Mg} {r : List Mg} (hw : w.wire = m :: r) : Q1 d (takeW isP clash w 0 false) := by
 obtain ⟨w0, e0, H0, d2, x, y, l, T, E, hd2, hn⟩ := take_stp H hw
 have hr : r.length + 1 ≤ 200 := by have := H.wi; rw [hw] at this; simpa using this
 have ew : w0.wire = r := by rw [e0]
 have hd0 : d ∈ w0.deeds := by rw [e0]; exact hd
 generalize takeW isP clash w 0 false = w' at E
 intro hu' g hg
 have hu0 : unsure w0 d := (eff_un E T (H0.uniq hd2) hd0).1 hu'
 have hu : unsure w d := by rw [e0] at hu0; exact hu0
 have old : ∀ m', m' ∈ r → m' ∈ w'.wire := fun m' h => by rw [E.wire, ew]; exact sendL_old h
 have new : ∀ z, l = [z] → z ∈ w'.wire := fun z h => by rw [E.wire, ew, h]; exact sendL_new (by simp; omega) (List.mem_singleton.2 rfl)
 have Qg := Q hu g hg
 rw [hw] at Qg
 have Qg : (∃ c ∈ cs w0 d.bo, c.de.id = d.id ∧ g ∈ c.heard) ∨ ∃ m' ∈ m :: r, m'.nums = [d.id] ∧ ((m'.kind = 1 ∧ m'.to = g) ∨ ((m'.kind = 2 ∨ m'.kind = 3) ∧ m'.fr = g)) := by rw [e0]; exact Qg
 by_cases hdd : d.id = d2.id
 ·have := H0.deq hd0 hd2 hdd
  subst this
  rcases Qg with ⟨c, hc, e, hh⟩ | ⟨m', hm', hn', hk⟩
  ·left
   cases T with
   | y_whole c0 _ _ _ _ _ => exact absurd hu' (no_un E (.inr ⟨_, rfl, rfl⟩))
   | n_un c0 _ _ _ _ _ => exact absurd hu' (no_un E (.inl rfl))
   | d_whole c0 _ _ _ _ _ _ => exact absurd hu' (no_un E (.inl rfl))
   | d_more c0 f _ _ _ _ h => exact absurd hu' (no_un E (.inr ⟨_, rfl, h⟩))
   | y_more c0 f _ _ h1 h2 h3 =>
    have : c = c0 := key_inj (H0.cn _) hc h1 (by rw [e, h2])
    rw [this] at hh
    exact ⟨_, (E.cs _ _).2 (.inl ⟨rfl, rfl⟩), by rw [h2], hearL_mem.2 (.inr hh)⟩
   | _ => exact ⟨c, (E.cs _ _).2 hc, e, hh⟩
  ·rcases List.mem_cons.1 hm' with rfl | hm'
   ·cases T with
    | p_did h _ h2 =>
     obtain ⟨c, hc, e, s⟩ := hu0
     have := (H0.ca _ c hc).un s
     rw [H0.deq (H0.ca _ c hc).de hd0 e] at this
     exact absurd h2 (this.1 _)
    | p_is h _ _ => exact .inr ⟨_, new _ rfl, rfl, .inr ⟨.inl rfl, by rcases hk with hk | hk; exact hk.2; omega⟩⟩
    | p_no h _ _ _ => exact .inr ⟨_, new _ rfl, rfl, .inr ⟨.inr rfl, by rcases hk with hk | hk; exact hk.2; omega⟩⟩
    | p_yes h _ _ _ => exact .inr ⟨_, new _ rfl, rfl, .inr ⟨.inl rfl, by rcases hk with hk | hk; exact hk.2; omega⟩⟩
    | y_gone _ _ h => exact absurd hu0 (H0.gone_sure h).2
    | y_sure _ _ h => exact absurd hu0 (H0.sure_un h)
    | y_whole c0 _ _ _ _ _ => exact absurd hu' (no_un E (.inr ⟨_, rfl, rfl⟩))
    | y_more c0 f h _ h1 h2 h3 => exact .inl ⟨_, (E.cs _ _).2 (.inl ⟨rfl, rfl⟩), by rw [h2], hearL_mem.2 (.inl (by rcases hk with hk | hk; omega; exact hk.2.symm))⟩
    | n_gone _ _ h =>
     rcases h with h | h
     ·exact absurd hu0 (H0.gone_sure h).2
     ·exact absurd hu0 (H0.sure_un h)
    | n_un c0 _ _ _ _ _ => exact absurd hu' (no_un E (.inl rfl))
    | f_is h _ _ _ => omega
    | f_did h _ _ => omega
    | f_none h _ _ _ => omega
    | d_gone h _ _ => omega
    | d_whole c0 h _ _ _ _ _ => omega
    | d_more c0 f h _ _ _ _ => omega
    | x_is h _ _ _ => omega
    | x_none h _ _ _ => omega
    | a_gone h _ _ => omega
    | a_sure h _ _ => omega
    | a_un h _ _ => omega
   ·exact .inr ⟨m', old m' hm', hn', hk⟩
 ·obtain ⟨f1, f2, f3⟩ := eff_far E T.set_id' hdd
  rcases Qg with ⟨c, hc, e, hh⟩ | ⟨m', hm', hn', hk⟩
  ·exact .inl ⟨c, (f1 _ c e).2 hc, e, hh⟩
  ·rcases List.mem_cons.1 hm' with rfl | hm'
   ·rw [hn] at hn'
    simp only [List.cons.injEq, and_true] at hn'
    exact absurd hn'.symm hdd
   ·exact .inr ⟨m', old m' hm', hn', hk⟩
theorem q2_step (H : Inv isP clash PS w) {d : De} (hd : d ∈ w.deeds) (Q : Q2 d w) {m : Mg} {r : List Mg} (hw : w.wire = m :: r) : Q2 d (takeW isP clash w 0 false) := by
 obtain ⟨w0, e0, H0, d2, x, y, l, T, E, hd2, hn⟩ := take_stp H hw
 have hr : r.length + 1 ≤ 200 := by have := H.wi; rw [hw] at this; simpa using this
 have ew : w0.wire = r := by rw [e0]
 have hd0 : d ∈ w0.deeds := by rw [e0]; exact hd
 generalize takeW isP clash w 0 false = w' at E
 have hun := eff_un E T (H0.uniq hd2) hd0
 have old : ∀ m', m' ∈ r → m' ∈ w'.wire := fun m' h => by rw [E.wire, ew]; exact sendL_old h
 have new : ∀ z, l = [z] → z ∈ w'.wire := fun z h => by rw [E.wire, ew, h]; exact sendL_new (by simp; omega) (List.mem_singleton.2 rfl)
 unfold Q2 at Q
 rw [hw] at Q
 have Q : (sureC w0 d ∧ ∀ g ∈ d.grs, (∃ c ∈ cs w0 d.bo, c.de.id = d.id ∧ g ∈ c.heard) ∨ ∃ m' ∈ m :: r, m'.nums = [d.id] ∧ ((m'.kind = 4 ∧ m'.to = g) ∨ (m'.kind = 5 ∧ m'.fr = g))) ∨ (goneC w0 d ∧ allD w0 d) := by rw [e0]; exact Q
 rcases Q with ⟨hs, Q⟩ | ⟨hg, ha⟩
 ·have hnu := H0.sure_un hs
  have hng : ¬ goneC w0 d := fun h => (H0.gone_sure h).1 hs
  by_cases hdd : d.id = d2.id
  ·have := H0.deq hd0 hd2 hdd
   subst this
   by_cases hgo : goneC w' d
   ·right
    refine ⟨hgo, ?_⟩
    have hall : allD w0 d → allD w' d := fun h g hg => hun.2.2 _ (h g hg)
    obtain ⟨c, hc, e, s⟩ := hs
    cases T with
    | d_whole c0 _ _ _ _ _ h => exact hall h
    | y_whole c0 _ _ h1 h2 h3 => exact absurd ⟨c0, h1, by rw [h2], h3⟩ hnu
    | y_more c0 f _ _ h1 h2 h3 => exact absurd ⟨c0, h1, by rw [h2], h3⟩ hnu
    | n_un c0 _ _ h1 h2 h3 => exact absurd ⟨c0, h1, by rw [h2], h3⟩ hnu
    | d_more c0 f _ _ h1 h2 h3 => exact absurd (by rw [h2]) (hgo _ ((E.cs _ _).2 (.inl ⟨rfl, rfl⟩)))
    | _ => exact absurd e (hgo c ((E.cs _ _).2 hc))
   ·left
    obtain ⟨c, hc, e, s⟩ := hs
    refine ⟨?_, fun g hg => ?_⟩
    ·cases T with
     | d_whole c0 _ _ _ _ _ h => exact absurd (fun z hz ez => ((E.cs _ _).1 hz).2 ez) hgo
     | y_whole c0 _ _ h1 h2 h3 => exact absurd ⟨c0, h1, by rw [h2], h3⟩ hnu
     | y_more c0 f _ _ h1 h2 h3 => exact absurd ⟨c0, h1, by rw [h2], h3⟩ hnu
     | n_un c0 _ _ h1 h2 h3 => exact absurd ⟨c0, h1, by rw [h2], h3⟩ hnu
     | d_more c0 f _ _ h1 h2 h3 => exact ⟨_, (E.cs _ _).2 (.inl ⟨rfl, rfl⟩), by rw [h2], h3⟩
     | _ => exact ⟨c, (E.cs _ _).2 hc, e, s⟩
    ·rcases Q g hg with ⟨c1, hc1, e1, hh⟩ | ⟨m', hm', hn', hk⟩
     ·left
      cases T with
      | d_whole c0 _ _ _ _ _ h => exact absurd (fun z hz ez => ((E.cs _ _).1 hz).2 ez) hgo
      | y_whole c0 _ _ h1 h2 h3 => exact absurd ⟨c0, h1, by rw [h2], h3⟩ hnu
      | y_more c0 f _ _ h1 h2 h3 => exact absurd ⟨c0, h1, by rw [h2], h3⟩ hnu
      | n_un c0 _ _ h1 h2 h3 => exact absurd ⟨c0, h1, by rw [h2], h3⟩ hnu
      | d_more c0 f _ _ h1 h2 h3 =>
       have : c1 = c0 := key_inj (H0.cn _) hc1 h1 (by rw [e1, h2])
       rw [this] at hh
       exact ⟨_, (E.cs _ _).2 (.inl ⟨rfl, rfl⟩), by rw [h2], hearL_mem.2 (.inr hh)⟩
      | _ => exact ⟨c1, (E.cs _ _).2 hc1, e1, hh⟩
     ·rcases List.mem_cons.1 hm' with rfl | hm'
      ·cases T with
       | p_did h _ _ => omega
       | p_is h _ _ => omega
       | p_no h _ _ _ => omega
       | p_yes h _ _ _ => omega
       | y_gone h _ _ => omega
       | y_sure h _ _ => omega
       | y_whole c0 h _ _ _ _ => omega
       | y_more c0 f h _ _ _ _ => omega
       | n_gone h _ _ => omega
       | n_un c0 h _ _ _ _ => omega
       | f_is h _ _ _ => exact .inr ⟨_, new _ rfl, rfl, .inr ⟨rfl, by rcases hk with hk | hk; exact hk.2; omega⟩⟩
       | f_did h _ _ => exact .inr ⟨_, new _ rfl, rfl, .inr ⟨rfl, by rcases hk with hk | hk; exact hk.2; omega⟩⟩
       | f_none h h1 h2 h3 =>
        have C := H0.ca _ c hc
        have := (C.su s).1
        rw [H0.deq C.de hd0 e] at this
        rcases this _ h1 with h4 | h4
        ·exact absurd h4 h2
        ·exact absurd h4 h3
       | d_gone _ _ h =>
        rcases h with h | h
        ·exact absurd h hng
        ·exact absurd h hnu
       | d_whole c0 _ _ _ _ _ h => exact absurd (fun z hz ez => ((E.cs _ _).1 hz).2 ez) hgo
       | d_more c0 f h _ h1 h2 h3 => exact .inl ⟨_, (E.cs _ _).2 (.inl ⟨rfl, rfl⟩), by rw [h2], hearL_mem.2 (.inl (by rcases hk with hk | hk; omega; exact hk.2.symm))⟩
       | x_is h _ _ _ => omega
       | x_none h _ _ _ => omega
       | a_gone h _ _ => omega
       | a_sure h _ _ => omega
       | a_un h _ _ => omega
      ·exact .inr ⟨m', old m' hm', hn', hk⟩
  ·obtain ⟨f1, f2, f3⟩ := eff_far E T.set_id' hdd
   obtain ⟨c, hc, e, s⟩ := hs
   refine .inl ⟨⟨c, (f1 _ c e).2 hc, e, s⟩, fun g hg => ?_⟩
   rcases Q g hg with ⟨c, hc, e, hh⟩ | ⟨m', hm', hn', hk⟩
   ·exact .inl ⟨c, (f1 _ c e).2 hc, e, hh⟩
   ·rcases List.mem_cons.1 hm' with rfl | hm'
    ·rw [hn] at hn'
     simp only [List.cons.injEq, and_true] at hn'
     exact absurd hn'.symm hdd
    ·exact .inr ⟨m', old m' hm', hn', hk⟩
 ·exact .inr ⟨hun.2.1 hg, fun g hx => hun.2.2 _ (ha g hx)⟩
theorem q3_step (H : Inv isP clash PS w) {d : De} (hd : d ∈ w.deeds) (Q : Q3 d w) {m : Mg} {r : List Mg} (hw : w.wire = m :: r) : Q3 d (takeW isP clash w 0 false) := by
 obtain ⟨w0, e0, H0, d2, x, y, l, T, E, hd2, hn⟩ := take_stp H hw
 have hr : r.length + 1 ≤ 200 := by have := H.wi; rw [hw] at this; simpa using this
 have ew : w0.wire = r := by rw [e0]
 have hd0 : d ∈ w0.deeds := by rw [e0]; exact hd
 generalize takeW isP clash w 0 false = w' at E
 have hun := eff_un E T (H0.uniq hd2) hd0
 have old : ∀ m', m' ∈ r → m' ∈ w'.wire := fun m' h => by rw [E.wire, ew]; exact sendL_old h
 have new : ∀ z, l = [z] → z ∈ w'.wire := fun z h => by rw [E.wire, ew, h]; exact sendL_new (by simp; omega) (List.mem_singleton.2 rfl)
 have from' : ∀ z, z ∈ w'.wire → z ∈ r ∨ z ∈ l := fun z h => by
  rw [E.wire, ew] at h
  unfold sendL at h
  rcases List.mem_append.1 h with h | h
  ·exact .inl h
  ·exact .inr (List.mem_of_mem_take h)
 unfold Q3 at Q
 rw [hw] at Q
 have Q : goneC w0 d ∧ (∀ m' ∈ m :: r, m'.nums = [d.id] → m'.kind ≠ 1) ∧ ∀ g : Nat, isR w0 g d.id → ∃ m' ∈ m :: r, m'.nums = [d.id] ∧ ((m'.kind = 7 ∧ m'.fr = g) ∨ (m'.kind = 6 ∧ m'.to = g)) := by rw [e0]; exact Q
 obtain ⟨hg, h1, h3⟩ := Q
 have hnu := (H0.gone_sure hg).2
 have hns := (H0.gone_sure hg).1
 refine ⟨hun.2.1 hg, fun z hz hzn => ?_, fun g hr' => ?_⟩
 ·rcases from' z hz with h | h
  ·exact h1 z (List.mem_cons_of_mem _ h) hzn
  ·have : z.kind ≠ 1 := by
    cases T with
    | y_whole c0 _ _ _ _ _ =>
     obtain ⟨g, _, rfl⟩ := List.mem_map.1 h
     show (4 : Int) ≠ 1; decide
    | n_un c0 _ _ _ _ _ =>
     obtain ⟨g, _, rfl⟩ := List.mem_map.1 h
     show (6 : Int) ≠ 1; decide
    | _ => first | (rw [List.mem_singleton.1 h]; simp only [msgP]; decide) | cases h
   exact this
 ·by_cases hdd : d.id = d2.id
  ·have := H0.deq hd0 hd2 hdd
   subst this
   have hk1 : m.kind ≠ 1 := h1 m (List.mem_cons_self ..) hn
   have hr0 : isR w0 g d.id := by
    rw [E.rd] at hr'
    cases T with
    | p_yes h _ _ _ => exact absurd h hk1
    | f_is _ _ _ _ => exact hr'.1
    | x_is _ _ _ _ => exact hr'.1
    | _ => exact hr'
   obtain ⟨m', hm', hn', hk⟩ := h3 g hr0
   rcases List.mem_cons.1 hm' with rfl | hm'
   ·cases T with
    | p_did h _ _ => omega
    | p_is h _ _ => omega
    | p_no h _ _ _ => omega
    | p_yes h _ _ _ => omega
    | y_gone h _ _ => omega
    | y_sure h _ _ => omega
    | y_whole c0 h _ _ _ _ => omega
    | y_more c0 f h _ _ _ _ => omega
    | n_gone h _ _ => omega
    | n_un c0 h _ _ _ _ => omega
    | f_is h _ _ _ => omega
    | f_did h _ _ => omega
    | f_none h _ _ _ => omega
    | d_gone h _ _ => omega
    | d_whole c0 h _ _ _ _ _ => omega
    | d_more c0 f h _ _ _ _ => omega
    | x_is h h5 _ _ =>
     have e : g = m'.to.toNat := by rcases hk with hk | hk <;> omega
     rw [E.rd] at hr'
     exact absurd ⟨e, rfl⟩ hr'.2
    | x_none h h5 _ h6 =>
     have e : g = m'.to.toNat := by rcases hk with hk | hk <;> omega
     rw [e] at hr0
     exact absurd hr0 h6
    | a_gone h _ _ => exact ⟨_, new _ rfl, rfl, .inr ⟨rfl, by rcases hk with hk | hk; exact hk.2; omega⟩⟩
    | a_sure _ _ h => exact absurd h hns
    | a_un _ _ h => exact absurd h hnu
   ·exact ⟨m', old m' hm', hn', hk⟩
  ·obtain ⟨f1, f2, f3⟩ := eff_far E T.set_id' hdd
   obtain ⟨m', hm', hn', hk⟩ := h3 g ((f2 g).1 hr')
   rcases List.mem_cons.1 hm' with rfl | hm'
   ·rw [hn] at hn'
    simp only [List.cons.injEq, and_true] at hn'
    exact absurd hn'.symm hdd
   ·exact ⟨m', old m' hm', hn', hk⟩
end
end Go.Cr

/-
 Rounds: after six of them all is done.
-/
namespace Go.Cr
section
variable {isP : List UInt8 → Bool} {clash : List UInt8 → List UInt8 → Bool} {PS : List (List UInt8)} {w w' : Wd}
def agL (w : Wd) (k : Nat) : List Mg := ((w.bs[k]?).map againP).getD []
def akL (w : Wd) (k : Nat) : List Mg := ((w.ps[k]?).map askP).getD []
theorem again_len (H : Inv isP clash PS w) (k : Nat) : (agL w k).length ≤ 4 * (cs w k).length := by
 unfold agL
 cases hb : w.bs[k]? with
 | none => exact Nat.zero_le _
 | some b =>
  rw [cs_of hb]
  simp only [Option.map_some, Option.getD_some]
  unfold againP
  have : ∀ l : List Ca, (∀ c ∈ l, c.de.grs.length ≤ 4) → ((l.map (againC b)).flatten).length ≤ 4 * l.length := by
   intro l
   induction l with
   | nil => intro _; simp
   | cons c l ih =>
    intro h
    have h1 := ih fun x hx => h x (List.mem_cons_of_mem _ hx)
    have h2 := h c (List.mem_cons_self ..)
    have h3 : (againC b c).length ≤ c.de.grs.length := by
     unfold againC
     have : ∀ z : List (Int × List UInt8), ((z.map fun x => againZ b c x.1 x.2).flatten).length ≤ z.length := by
      intro z
      induction z with
      | nil => simp
      | cons x z ih =>
       have h5 : (againZ b c x.1 x.2).length ≤ 1 := by
        unfold againZ
        split <;> (try split) <;> simp
       simp only [List.map_cons, List.flatten_cons, List.length_append, List.length_cons]
       omega
     have := this (c.de.grs.zip c.de.pas)
     rw [List.length_zip] at this
     omega
    simp only [List.map_cons, List.flatten_cons, List.length_append, List.length_cons]
    omega
  refine this b.cases fun c hc => ?_
  have C := H.ca k c (by rw [cs_of hb]; exact hc)
  exact grs4 (H.de _ C.de)
theorem ask_len (H : Inv isP clash PS w) (hr : ∀ p ∈ PS, clash p p = true) (k : Nat) : (akL w k).length ≤ PS.length := by
 unfold akL
 cases hp : w.ps[k]? with
 | none => exact Nat.zero_le _
 | some p =>
  simp only [Option.map_some, Option.getD_some]
  unfold askP
  rw [List.length_map]
  have P := H.pt k
  have h1 := P.ap
  have h2 := P.re
  rw [rd_of hp] at h1 h2
  have hin : ∀ r ∈ p.ready, r.path ∈ PS := fun r hr => by
   obtain ⟨d, hd, _, hz⟩ := h2 r hr
   exact ((H.de d hd).pa _ (List.of_mem_zip hz).2).2
  -- paths that do not clash are unlike
  have : ∀ (l : List Rd) (S : List (List UInt8)), (l.Pairwise fun r s => clash r.path s.path = false) → (∀ r ∈ l, r.path ∈ S) → (∀ r ∈ l, clash r.path r.path = true) → l.length ≤ S.length := by
   intro l
   induction l with
   | nil => intro S _ _ _; exact Nat.zero_le _
   | cons r l ih =>
    intro S hpw hS hrr
    rw [List.pairwise_cons] at hpw
    have hrS := hS r (List.mem_cons_self ..)
    have := ih (S.erase r.path) hpw.2 (fun s hs => (List.mem_erase_of_ne (fun e => by
     have h1 := hpw.1 s hs
     have h2 := hrr r (List.mem_cons_self ..)
     rw [e, h2] at h1
     cases h1)).2 (hS s (List.mem_cons_of_mem _ hs))) fun s hs => hrr s (List.mem_cons_of_mem _ hs)
    rw [List.length_erase_of_mem hrS] at this
    have := List.length_pos_of_mem hrS
    simp only [List.length_cons]
    omega
  exact this p.ready PS h1 hin fun r hr' => hr _ (hin r hr')
def wr (w : Wd) : List Nat → List Mg → List Mg
 | [], l => l
 | g :: gs, l => wr w gs (sendL (sendL l (agL w g)) (akL w g))
theorem say_eq (w : Wd) : ∀ (gs : List Nat) (l : List Mg), (∀ g ∈ gs, g < w.bs.length ∧ g < w.ps.length) → gs.foldl sayW { w with wire := l } = { w with wire := wr w gs l }
 | [], l, _ => rfl
 | g :: gs, l, h => by
  obtain ⟨h1, h2⟩ := h g (List.mem_cons_self ..)
  rw [List.foldl_cons, wr, ← say_eq w gs _ fun x hx => h x (List.mem_cons_of_mem _ hx)]
  congr 1
  unfold sayW agL akL
  simp only [List.getElem?_eq_getElem h1, List.getElem?_eq_getElem h2, Option.map_some, Option.getD_some, sendW]
theorem wr_old (w : Wd) : ∀ (gs : List Nat) (l : List Mg), ∀ m ∈ l, m ∈ wr w gs l
 | [], _, m, h => h
 | g :: gs, l, m, h => wr_old w gs _ m (sendL_old (sendL_old h))
theorem wr_in (w : Wd) : ∀ (gs : List Nat) (l : List Mg) (n : Nat), l.length + n ≤ 200 → (gs.map fun g => (agL w g).length + (akL w g).length).sum ≤ n → ∀ g ∈ gs, (∀ m ∈ agL w g, m ∈ wr w gs l) ∧ ∀ m ∈ akL w g, m ∈ wr w gs l
 | [], _, _, _, _, _, h => by cases h
 | g :: gs, l, n, hn, hs, x, hx => by
  simp only [List.map_cons, List.sum_cons] at hs
  have h1 := sendL_len l (agL w g)
  have h2 := sendL_len (sendL l (agL w g)) (akL w g)
  rcases List.mem_cons.1 hx with rfl | hx
  ·exact ⟨fun m hm => wr_old w gs _ m (sendL_old (sendL_new (by omega) hm)), fun m hm => wr_old w gs _ m (sendL_new (by omega) hm)⟩
  ·exact wr_in w gs _ (n - ((agL w g).length + (akL w g).length)) (by omega) (by omega) x hx
theorem wr_app (w : Wd) : ∀ (a b : List Nat) (l : List Mg), wr w (a ++ b) l = wr w b (wr w a l)
 | [], _, _ => rfl
 | g :: a, b, l => by simp only [List.cons_append, wr, wr_app w a b]
theorem round_eq' (H : Inv isP clash PS w) (hw : w.wire = []) : roundW isP clash w = drainW isP clash 2000 { w with wire := wr w [0, 1, 2, 3] [] } := by
 unfold roundW
 have : w = { w with wire := [] } := by rw [← hw]
 conv => lhs; rw [this]
 rw [say_eq w [0, 1, 2, 3] [] fun g hg => by
  rw [H.lb, H.lp]
  simp at hg
  omega]
theorem Inv.said (H : Inv isP clash PS w) (hw : w.wire = []) : Inv isP clash PS { w with wire := wr w [0, 1, 2, 3] [] } := by
 have := H.sayL [0, 1, 2, 3]
 have e : w = { w with wire := [] } := by rw [← hw]
 rw [e, say_eq w [0, 1, 2, 3] [] fun g hg => by
  rw [H.lb, H.lp]
  simp at hg
  omega] at this
 exact this
theorem U_dl (w : Wd) : U w ≤ w.deeds.length := List.countP_le_length
theorem wt_le : ∀ l : List Mg, wt l ≤ 4 * l.length
 | [] => Nat.zero_le _
 | m :: l => by
  have h1 := wt_le l
  have h2 : mw m ≤ 4 := by unfold mw; split <;> (try split) <;> (try split) <;> decide
  simp only [wt, List.length_cons]
  omega
theorem drain_end' (H : Inv isP clash PS w) (hd : w.deeds.length ≤ 150) : (drainW isP clash 2000 w).wire = [] := by
 refine drain_end 2000 H ?_
 have h1 := wt_le w.wire
 have h2 := H.wi
 have h3 := U_dl w
 omega
theorem deeds_take (H : Inv isP clash PS w) (m : Mg) (r : List Mg) (hw : w.wire = m :: r) : (takeW isP clash w 0 false).deeds = w.deeds := by
 obtain ⟨w0, e0, H0, d, x, y, l, S⟩ := take_stp H hw
 rw [S.E.deeds, e0]
theorem deeds_drain (n : Nat) (H : Inv isP clash PS w) : (drainW isP clash n w).deeds = w.deeds :=
 drain_keep (fun v => v.deeds = w.deeds) (fun v Hv h m r hw => (deeds_take Hv m r hw).trans h) n H rfl
theorem sayL_deeds : ∀ (gs : List Nat) (w : Wd), (gs.foldl sayW w).deeds = w.deeds
 | [], _ => rfl
 | g :: gs, w => by
  rw [List.foldl_cons, sayL_deeds gs]
  unfold sayW
  split
  ·split <;> rfl
  ·rfl
theorem deeds_round (H : Inv isP clash PS w) : (roundW isP clash w).deeds = w.deeds := by
 unfold roundW
 rw [deeds_drain 2000 (H.sayL _), sayL_deeds]
theorem round_wire (H : Inv isP clash PS w) (hd : w.deeds.length ≤ 150) : (roundW isP clash w).wire = [] := by
 unfold roundW
 exact drain_end' (H.sayL _) (by rw [sayL_deeds]; exact hd)
theorem mono_drain (H : Inv isP clash PS w) {d : De} (hd : d ∈ w.deeds) (n : Nat) : (unsure (drainW isP clash n w) d → unsure w d) ∧ (goneC w d → goneC (drainW isP clash n w) d) ∧ (∀ g, d.id ∈ dn w g → d.id ∈ dn (drainW isP clash n w) g) := by
 refine (drain_keep (fun v => d ∈ v.deeds ∧ (unsure v d → unsure w d) ∧ (goneC w d → goneC v d) ∧ (∀ g, d.id ∈ dn w g → d.id ∈ dn v g)) (fun v Hv h m r hw => ?_) n H ⟨hd, id, id, fun _ => id⟩).2
 obtain ⟨w0, e0, H0, d2, x, y, l, S⟩ := take_stp Hv hw
 have hv0 : d ∈ w0.deeds := by rw [e0]; exact h.1
 have hun := eff_un S.E S.T (H0.uniq S.hd) hv0
 refine ⟨by rw [S.E.deeds]; exact hv0, fun hu => h.2.1 ?_, fun hg => hun.2.1 ?_, fun g hg => hun.2.2 g ?_⟩
 ·have := hun.1 hu
  rw [e0] at this
  exact this
 ·rw [e0]; exact h.2.2.1 hg
 ·rw [e0]; exact h.2.2.2 g hg
theorem not_all_heard (H : Inv isP clash PS w) {d : De} (hd : d ∈ w.deeds) (h : ∀ g ∈ d.grs, ∃ c ∈ cs w d.bo, c.de.id = d.id ∧ g ∈ c.heard) : goneC w d := by
 intro c hc e
 have C := H.ca _ c hc
 have hcd : c.de = d := H.deq C.de hd e
 have D := H.de d hd
 have := sub_len (A := d.grs) (B := c.heard) (up_nodup D.up) fun g hg => by
  obtain ⟨c', hc', e', hh⟩ := h g hg
  have : c' = c := key_inj (H.cn _) hc' hc (e'.trans e.symm)
  rw [← this]; exact hh
 have h2 := C.lt
 rw [hcd] at h2
 omega
theorem unsure_ng {d : De} (h : unsure w d) : ¬ goneC w d := fun hg => by
 obtain ⟨c, hc, e, _⟩ := h
 exact hg c hc e
theorem agL_mem (H : Inv isP clash PS w) {d : De} {c : Ca} (hc : c ∈ cs w d.bo) (hcd : c.de = d) {g : Int} (hg : g ∈ d.grs) (hh : g ∉ c.heard) (hd : d ∈ w.deeds) : ∃ m ∈ agL w d.bo, m.nums = [d.id] ∧ m.to = g ∧ (c.sure = false → m.kind = 1) ∧ (c.sure = true → m.kind = 4) := by
 unfold agL
 cases hb : w.bs[d.bo]? with
 | none => rw [cs_none hb] at hc; cases hc
 | some b =>
  rw [cs_of hb] at hc
  simp only [Option.map_some, Option.getD_some]
  have hlen := (H.de d hd).len
  obtain ⟨i, hi, e⟩ := List.getElem_of_mem hg
  have hz : (g, d.pas[i]'(by omega)) ∈ d.grs.zip d.pas := by
   rw [← e]
   exact List.mem_of_getElem? (i := i) (by rw [List.getElem?_zip_eq_some]; exact ⟨List.getElem?_eq_getElem hi, List.getElem?_eq_getElem (by omega)⟩)
  have hin : ∀ z ∈ againZ b c g (d.pas[i]'(by omega)), z ∈ againP b := fun z hz' => by
   unfold againP
   refine List.mem_flatten.2 ⟨_, List.mem_map.2 ⟨c, hc, rfl⟩, ?_⟩
   unfold againC
   rw [hcd]
   exact List.mem_flatten.2 ⟨_, List.mem_map.2 ⟨_, hz, rfl⟩, hz'⟩
  cases hs : c.sure with
  | true =>
   refine ⟨msgP b.id g 4 c.de.id, hin _ ?_, by rw [hcd]; rfl, rfl, (fun h => by cases h), (fun _ => rfl)⟩
   unfold againZ
   rw [if_neg hh, if_pos hs]
   exact List.mem_singleton.2 rfl
  | false =>
   refine ⟨prepP b.id g c.de.id (d.pas[i]'(by omega)), hin _ ?_, by rw [hcd]; rfl, rfl, (fun _ => rfl), (fun h => by cases h)⟩
   unfold againZ
   rw [if_neg hh, if_neg (by rw [hs]; decide)]
   exact List.mem_singleton.2 rfl
theorem round_un (H : Inv isP clash PS w) (hw : w.wire = []) (hl : w.deeds.length ≤ 150) {d : De} (hd : d ∈ w.deeds) (hf : ∀ m ∈ agL w d.bo, m ∈ wr w [0, 1, 2, 3] []) : ¬ unsure (roundW isP clash w) d := by
 have Hs := H.said hw
 rw [round_eq' H hw]
 have Q : Q1 d { w with wire := wr w [0, 1, 2, 3] [] } := fun hu g hg => by
  obtain ⟨c, hc, e, s⟩ := hu
  have hc' : c ∈ cs w d.bo := hc
  have hcd : c.de = d := H.deq (H.ca _ c hc').de hd e
  by_cases hh : g ∈ c.heard
  ·exact .inl ⟨c, hc, e, hh⟩
  ·obtain ⟨m, hm, h1, h2, h3, _⟩ := agL_mem H hc' hcd hg hh hd
   exact .inr ⟨m, hf m hm, h1, .inl ⟨h3 s, h2⟩⟩
 have R := drain_keep (fun v => d ∈ v.deeds ∧ Q1 d v) (fun v Hv h m r hvw => ⟨by rw [deeds_take Hv m r hvw]; exact h.1, q1_step Hv h.1 h.2 hvw⟩) 2000 Hs ⟨hd, Q⟩
 have He := Hs.drain 2000
 have hwe := drain_end' Hs hl
 intro hu
 refine unsure_ng hu (not_all_heard He R.1 fun g hg => ?_)
 rcases R.2 hu g hg with h | ⟨m, hm, _⟩
 ·exact h
 ·rw [hwe] at hm; cases hm
theorem round_sure (H : Inv isP clash PS w) (hw : w.wire = []) (hl : w.deeds.length ≤ 150) {d : De} (hd : d ∈ w.deeds) (hf : ∀ m ∈ agL w d.bo, m ∈ wr w [0, 1, 2, 3] []) (hs : sureC w d) : goneC (roundW isP clash w) d ∧ allD (roundW isP clash w) d := by
 have Hs := H.said hw
 rw [round_eq' H hw]
 have Q : Q2 d { w with wire := wr w [0, 1, 2, 3] [] } := .inl ⟨hs, fun g hg => by
  obtain ⟨c, hc, e, s⟩ := hs
  have hcd : c.de = d := H.deq (H.ca _ c hc).de hd e
  by_cases hh : g ∈ c.heard
  ·exact .inl ⟨c, hc, e, hh⟩
  ·obtain ⟨m, hm, h1, h2, _, h3⟩ := agL_mem H hc hcd hg hh hd
   exact .inr ⟨m, hf m hm, h1, .inl ⟨h3 s, h2⟩⟩⟩
 have R := drain_keep (fun v => d ∈ v.deeds ∧ Q2 d v) (fun v Hv h m r hvw => ⟨by rw [deeds_take Hv m r hvw]; exact h.1, q2_step Hv h.1 h.2 hvw⟩) 2000 Hs ⟨hd, Q⟩
 have He := Hs.drain 2000
 have hwe := drain_end' Hs hl
 rcases R.2 with ⟨h1, h2⟩ | h
 ·have := not_all_heard He R.1 fun g hg => by
   rcases h2 g hg with h | ⟨m, hm, _⟩
   ·exact h
   ·rw [hwe] at hm; cases hm
  exact absurd h1 (He.gone_sure this).1
 ·exact h
theorem wr_from (w : Wd) : ∀ (gs : List Nat) (l : List Mg), ∀ m ∈ wr w gs l, m ∈ l ∨ ∃ g, m ∈ agL w g ∨ m ∈ akL w g
 | [], _, m, h => .inl h
 | g :: gs, l, m, h => by
  have sub : ∀ a b : List Mg, m ∈ sendL a b → m ∈ a ∨ m ∈ b := fun a b h => by
   unfold sendL at h
   rcases List.mem_append.1 h with h | h
   ·exact .inl h
   ·exact .inr (List.mem_of_mem_take h)
  rcases wr_from w gs _ m h with h | h
  ·rcases sub _ _ h with h | h
   ·rcases sub _ _ h with h | h
    ·exact .inl h
    ·exact .inr ⟨g, .inl h⟩
   ·exact .inr ⟨g, .inr h⟩
  ·exact .inr h
theorem round_gone (H : Inv isP clash PS w) (hw : w.wire = []) (hl : w.deeds.length ≤ 150) {d : De} (hd : d ∈ w.deeds) (hf : ∀ g, g < 4 → ∀ m ∈ akL w g, m ∈ wr w [0, 1, 2, 3] []) (hg : goneC w d) : ∀ g, ¬ isR (roundW isP clash w) g d.id := by
 have Hs := H.said hw
 rw [round_eq' H hw]
 have Q : Q3 d { w with wire := wr w [0, 1, 2, 3] [] } := by
  refine ⟨hg, fun m hm hn => ?_, fun g hr => ?_⟩
  ·rcases wr_from w _ _ m hm with h | ⟨g, h | h⟩
   ·cases h
   · -- said again of a case
    unfold agL at h
    cases hb : w.bs[g]? with
    | none => rw [hb] at h; cases h
    | some b =>
     rw [hb] at h
     simp only [Option.map_some, Option.getD_some] at h
     unfold againP at h
     obtain ⟨l, hl, hm⟩ := List.mem_flatten.1 h
     obtain ⟨c, hc, rfl⟩ := List.mem_map.1 hl
     unfold againC at hm
     obtain ⟨l, hl, hm⟩ := List.mem_flatten.1 hm
     obtain ⟨x, hx, rfl⟩ := List.mem_map.1 hl
     have hcm : c ∈ cs w g := by rw [cs_of hb]; exact hc
     have hcn : m.nums = [c.de.id] := by
      unfold againZ at hm
      split at hm
      ·cases hm
      ·split at hm <;> (rw [List.mem_singleton.1 hm]; rfl)
     rw [hcn] at hn
     simp only [List.cons.injEq, and_true] at hn
     have : c.de = d := H.deq (H.ca g c hcm).de hd hn
     exact absurd hn (hg c (by rw [← this]; exact H.csb hcm))
   ·unfold akL at h
    cases hp : w.ps[g]? with
    | none => rw [hp] at h; cases h
    | some p =>
     rw [hp] at h
     simp only [Option.map_some, Option.getD_some] at h
     unfold askP at h
     obtain ⟨r, _, rfl⟩ := List.mem_map.1 h
     show (7 : Int) ≠ 1; decide
  ·have hr' : isR w g d.id := hr
   have hg4 : g < 4 := by
    obtain ⟨r, hr0, _⟩ := hr'
    rw [← H.lp]
    cases hp : w.ps[g]? with
    | none => simp [rd, hp] at hr0
    | some p => exact (List.getElem?_eq_some_iff.1 hp).1
   have hgl : g < w.ps.length := by rw [H.lp]; exact hg4
   have hp := List.getElem?_eq_getElem hgl
   obtain ⟨r, hr0, e⟩ := hr'
   rw [rd_of hp] at hr0
   refine ⟨msgP w.ps[g].id (r.id.tmod 8) 7 r.id, hf g hg4 _ ?_, by rw [e]; rfl, .inl ⟨rfl, H.pi g _ hp⟩⟩
   unfold akL
   rw [hp]
   simp only [Option.map_some, Option.getD_some]
   unfold askP
   exact List.mem_map.2 ⟨r, hr0, rfl⟩
 have R := drain_keep (fun v => d ∈ v.deeds ∧ Q3 d v) (fun v Hv h m r hvw => ⟨by rw [deeds_take Hv m r hvw]; exact h.1, q3_step Hv h.1 h.2 hvw⟩) 2000 Hs ⟨hd, Q⟩
 have hwe := drain_end' Hs hl
 intro g hr
 obtain ⟨m, hm, _⟩ := R.2.2.2 g hr
 rw [hwe] at hm; cases hm
theorem round_mono (H : Inv isP clash PS w) (hw : w.wire = []) {d : De} (hd : d ∈ w.deeds) : (unsure (roundW isP clash w) d → unsure w d) ∧ (goneC w d → goneC (roundW isP clash w) d) ∧ (∀ g, d.id ∈ dn w g → d.id ∈ dn (roundW isP clash w) g) := by
 rw [round_eq' H hw]
 exact mono_drain (H.said hw) hd 2000
theorem trich {d : De} (h1 : ¬ unsure w d) (h2 : ¬ sureC w d) : goneC w d := fun c hc e => by
 cases hs : c.sure with
 | true => exact h2 ⟨c, hc, e, hs⟩
 | false => exact h1 ⟨c, hc, e, hs⟩
theorem cs_empty (H : Inv isP clash PS w) {k : Nat} (h : ∀ d ∈ w.deeds, d.bo = k → goneC w d) : cs w k = [] := by
 cases hc : cs w k with
 | nil => rfl
 | cons c l =>
  have hm : c ∈ cs w k := by rw [hc]; exact List.mem_cons_self ..
  have C := H.ca k c hm
  exact absurd rfl (h c.de C.de C.bo c (by rw [C.bo]; exact hm))
theorem cs_len (H : Inv isP clash PS w) (k : Nat) : (cs w k).length ≤ 16 := by
 cases hb : w.bs[k]? with
 | none => rw [cs_none hb]; exact Nat.zero_le _
 | some b => rw [cs_of hb]; exact (H.bi k b hb).2.2
theorem calm_end (H : Inv isP clash PS w) (hl : w.deeds.length ≤ 150) (hr : ∀ p ∈ PS, clash p p = true) (hP : PS.length ≤ 9) :
  (∀ k, cs (calmW isP clash 6 w) k = []) ∧ (∀ k, rd (calmW isP clash 6 w) k = []) ∧ (calmW isP clash 6 w).wire = [] ∧ (calmW isP clash 6 w).deeds = w.deeds ∧ ∀ d ∈ w.deeds, allD (calmW isP clash 6 w) d ∨ noneD (calmW isP clash 6 w) d := by
 obtain ⟨w1, e1⟩ : ∃ w1, w1 = roundW isP clash w := ⟨_, rfl⟩
 have H1 : Inv isP clash PS w1 := by rw [e1]; exact H.round
 have d1 : w1.deeds = w.deeds := by rw [e1]; exact deeds_round H
 have x1 : w1.wire = [] := by rw [e1]; exact round_wire H hl
 obtain ⟨w2, e2⟩ : ∃ w2, w2 = roundW isP clash w1 := ⟨_, rfl⟩
 have H2 : Inv isP clash PS w2 := by rw [e2]; exact H1.round
 have d2 : w2.deeds = w.deeds := by rw [e2, deeds_round H1, d1]
 have x2 : w2.wire = [] := by rw [e2]; exact round_wire H1 (by rw [d1]; exact hl)
 obtain ⟨w3, e3⟩ : ∃ w3, w3 = roundW isP clash w2 := ⟨_, rfl⟩
 have H3 : Inv isP clash PS w3 := by rw [e3]; exact H2.round
 have d3 : w3.deeds = w.deeds := by rw [e3, deeds_round H2, d2]
 have x3 : w3.wire = [] := by rw [e3]; exact round_wire H2 (by rw [d2]; exact hl)
 obtain ⟨w4, e4⟩ : ∃ w4, w4 = roundW isP clash w3 := ⟨_, rfl⟩
 have H4 : Inv isP clash PS w4 := by rw [e4]; exact H3.round
 have d4 : w4.deeds = w.deeds := by rw [e4, deeds_round H3, d3]
 have x4 : w4.wire = [] := by rw [e4]; exact round_wire H3 (by rw [d3]; exact hl)
 obtain ⟨w5, e5⟩ : ∃ w5, w5 = roundW isP clash w4 := ⟨_, rfl⟩
 have H5 : Inv isP clash PS w5 := by rw [e5]; exact H4.round
 have d5 : w5.deeds = w.deeds := by rw [e5, deeds_round H4, d4]
 have x5 : w5.wire = [] := by rw [e5]; exact round_wire H4 (by rw [d4]; exact hl)
 have hcalm : calmW isP clash 6 w = roundW isP clash w5 := by rw [e5, e4, e3, e2, e1]; rfl
 -- the first two bosses' messages fit
 have fit01 : ∀ v, Inv isP clash PS v → ∀ k, k < 2 → ∀ m ∈ agL v k, m ∈ wr v [0, 1, 2, 3] [] := fun v Hv k hk m hm => by
  have : wr v [0, 1, 2, 3] [] = wr v [2, 3] (wr v [0, 1] []) := wr_app v [0, 1] [2, 3] []
  rw [this]
  refine wr_old v _ _ m ((wr_in v [0, 1] [] 200 (by simp) ?_ k (by simp; omega)).1 m hm)
  have a0 := again_len Hv 0
  have a1 := again_len Hv 1
  have b0 := ask_len Hv hr 0
  have b1 := ask_len Hv hr 1
  have c0 := cs_len Hv 0
  have c1 := cs_len Hv 1
  simp
  omega
 -- if they have none, all fit
 have fitA : ∀ v, Inv isP clash PS v → cs v 0 = [] → cs v 1 = [] → ∀ k, k < 4 → (∀ m ∈ agL v k, m ∈ wr v [0, 1, 2, 3] []) ∧ ∀ m ∈ akL v k, m ∈ wr v [0, 1, 2, 3] [] := fun v Hv hc0 hc1 k hk => by
  refine wr_in v [0, 1, 2, 3] [] 200 (by simp) ?_ k (by simp; omega)
  have a0 := again_len Hv 0
  have a1 := again_len Hv 1
  have a2 := again_len Hv 2
  have a3 := again_len Hv 3
  have b0 := ask_len Hv hr 0
  have b1 := ask_len Hv hr 1
  have b2 := ask_len Hv hr 2
  have b3 := ask_len Hv hr 3
  have c2 := cs_len Hv 2
  have c3 := cs_len Hv 3
  rw [hc0] at a0
  rw [hc1] at a1
  simp only [List.length_nil] at a0 a1
  simp
  omega
 have L1 : w1.deeds.length ≤ 150 := by rw [d1]; exact hl
 have L2 : w2.deeds.length ≤ 150 := by rw [d2]; exact hl
 have L3 : w3.deeds.length ≤ 150 := by rw [d3]; exact hl
 have L4 : w4.deeds.length ≤ 150 := by rw [d4]; exact hl
 have L5 : w5.deeds.length ≤ 150 := by rw [d5]; exact hl
 have s2 : ∀ d ∈ w.deeds, d.bo < 2 → ¬ unsure w2 d := fun d hd hb => by
  rw [e2]; exact round_un H1 x1 L1 (by rw [d1]; exact hd) (fit01 w1 H1 _ hb)
 have s3 : ∀ d ∈ w.deeds, d.bo < 2 → goneC w3 d := fun d hd hb => by
  rw [e3]
  by_cases hs : sureC w2 d
  ·exact (round_sure H2 x2 L2 (by rw [d2]; exact hd) (fit01 w2 H2 _ hb) hs).1
  ·exact (round_mono H2 x2 (by rw [d2]; exact hd)).2.1 (trich (s2 d hd hb) hs)
 have c30 : cs w3 0 = [] := cs_empty H3 fun d hd hb => s3 d (by rw [← d3]; exact hd) (by omega)
 have c31 : cs w3 1 = [] := cs_empty H3 fun d hd hb => s3 d (by rw [← d3]; exact hd) (by omega)
 have bo4 : ∀ d ∈ w.deeds, d.bo < 4 := fun d hd => (H.id d hd).2.1
 have s4 : ∀ d ∈ w.deeds, ¬ unsure w4 d := fun d hd => by
  rw [e4]; exact round_un H3 x3 L3 (by rw [d3]; exact hd) (fitA w3 H3 c30 c31 _ (bo4 d hd)).1
 have g4 : ∀ d ∈ w.deeds, d.bo < 2 → goneC w4 d := fun d hd hb => by
  rw [e4]; exact (round_mono H3 x3 (by rw [d3]; exact hd)).2.1 (s3 d hd hb)
 have c40 : cs w4 0 = [] := cs_empty H4 fun d hd hb => g4 d (by rw [← d4]; exact hd) (by omega)
 have c41 : cs w4 1 = [] := cs_empty H4 fun d hd hb => g4 d (by rw [← d4]; exact hd) (by omega)
 have f4 := fitA w4 H4 c40 c41
 have s5 : ∀ d ∈ w.deeds, goneC w5 d ∧ ∀ g, ¬ isR w5 g d.id := fun d hd => by
  by_cases hs : sureC w4 d
  ·have := round_sure H4 x4 L4 (by rw [d4]; exact hd) (f4 _ (bo4 d hd)).1 hs
   rw [← e5] at this
   refine ⟨this.1, fun g hg => ?_⟩
   have hg' := hg
   obtain ⟨r, hr0, e⟩ := hg'
   obtain ⟨d', hd', e', hz⟩ := (H5.pt g).re r hr0
   have : d' = d := H5.deq hd' (by rw [d5]; exact hd) (by rw [e', e])
   subst this
   have hgg := (List.of_mem_zip hz).1
   have h7 := this.2 _ hgg
   simp only [Int.toNat_natCast] at h7
   exact ((H5.pt g).di _ h7).2 hg
  ·have hg := trich (s4 d hd) hs
   have := round_gone H4 x4 L4 (by rw [d4]; exact hd) (fun g hg m hm => (f4 g hg).2 m hm) hg
   rw [← e5] at this
   exact ⟨by rw [e5]; exact (round_mono H4 x4 (by rw [d4]; exact hd)).2.1 hg, this⟩
 have c5 : ∀ k, cs w5 k = [] := fun k => cs_empty H5 fun d hd _ => (s5 d (by rw [← d5]; exact hd)).1
 have r5 : ∀ k, rd w5 k = [] := fun k => by
  cases hk : rd w5 k with
  | nil => rfl
  | cons r l =>
   have hm : r ∈ rd w5 k := by rw [hk]; exact List.mem_cons_self ..
   obtain ⟨d, hd, e, _⟩ := (H5.pt k).re r hm
   exact absurd ⟨r, hm, e.symm⟩ ((s5 d (by rw [← d5]; exact hd)).2 k)
 -- nothing is said any more
 have ag : ∀ k, agL w5 k = [] := fun k => by
  have := again_len H5 k
  rw [c5] at this
  simpa using this
 have ak : ∀ k, akL w5 k = [] := fun k => by
  unfold akL
  cases hp : w5.ps[k]? with
  | none => rfl
  | some p =>
   have := r5 k
   rw [rd_of hp] at this
   simp [askP, this]
 have w6 : roundW isP clash w5 = w5 := by
  rw [round_eq' H5 x5]
  have : wr w5 [0, 1, 2, 3] [] = [] := by simp [wr, ag, ak, sendL_nil]
  rw [this]
  have : ({ w5 with wire := [] } : Wd) = w5 := by rw [← x5]
  rw [this]
  unfold drainW
  rw [x5]
  rfl
 have fin : calmW isP clash 6 w = w5 := hcalm.trans w6
 have goal : (∀ k, cs w5 k = []) ∧ (∀ k, rd w5 k = []) ∧ w5.wire = [] ∧ w5.deeds = w.deeds ∧ ∀ d ∈ w.deeds, allD w5 d ∨ noneD w5 d :=
  ⟨c5, r5, x5, d5, fun d hd => H5.go d (by rw [d5]; exact hd) (s5 d hd).1⟩
 rw [← fin] at goal
 exact goal
end
end Go.Cr
