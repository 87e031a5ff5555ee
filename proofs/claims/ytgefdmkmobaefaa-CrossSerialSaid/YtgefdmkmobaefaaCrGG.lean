/-
 What a message does, as a table.
-/
import Derived.Test.YtgefdmkmobaefaaCrGA
set_option linter.unusedSimpArgs false
set_option linter.unusedVariables false
namespace Go.Cr
inductive Cg where
 | same
 | erase
 | set (c : Ca)
inductive Pg where
 | same
 | ready (g : Nat)
 | unready (g : Nat)
 | perf (g : Nat)
structure Eff (w w' : Wd) (d : De) (x : Cg) (y : Pg) (l : List Mg) : Prop where
 wire : w'.wire = sendL w.wire l
 deeds : w'.deeds = w.deeds
 cs : ∀ j c, c ∈ cs w' j ↔ match x with
  | .same => c ∈ cs w j
  | .erase => c ∈ cs w j ∧ c.de.id ≠ d.id
  | .set c' => (j = d.bo ∧ c = c') ∨ (c ∈ cs w j ∧ c.de.id ≠ d.id)
 rd : ∀ j i, isR w' j i ↔ match y with
  | .same => isR w j i
  | .ready g => isR w j i ∨ (j = g ∧ i = d.id)
  | .unready g => isR w j i ∧ ¬ (j = g ∧ i = d.id)
  | .perf g => isR w j i ∧ ¬ (j = g ∧ i = d.id)
 dn : ∀ j, dn w' j = match y with
  | .perf g => if j = g then dn w j ++ [d.id] else dn w j
  | _ => dn w j
inductive Tr (w : Wd) (d : De) (m : Mg) : Cg → Pg → List Mg → Prop
 | p_did : m.kind = 1 → m.to ∈ d.grs → d.id ∈ dn w m.to.toNat → Tr w d m .same .same [msgP m.to m.fr 5 d.id]
 | p_is : m.kind = 1 → m.to ∈ d.grs → isR w m.to.toNat d.id → Tr w d m .same .same [msgP m.to m.fr 2 d.id]
 | p_no : m.kind = 1 → m.to ∈ d.grs → ¬ isR w m.to.toNat d.id → (∃ r ∈ rd w m.to.toNat, r.id ≠ d.id) → Tr w d m .same .same [msgP m.to m.fr 3 d.id]
 | p_yes : m.kind = 1 → m.to ∈ d.grs → d.id ∉ dn w m.to.toNat → ¬ isR w m.to.toNat d.id → Tr w d m .same (.ready m.to.toNat) [msgP m.to m.fr 2 d.id]
 | y_gone : m.kind = 2 → m.fr ∈ d.grs → goneC w d → Tr w d m .same .same [msgP m.to m.fr 6 d.id]
 | y_sure : m.kind = 2 → m.fr ∈ d.grs → sureC w d → Tr w d m .same .same [msgP m.to m.fr 4 d.id]
 | y_whole (c : Ca) : m.kind = 2 → m.fr ∈ d.grs → c ∈ cs w d.bo → c.de = d → c.sure = false → Tr w d m (.set { c with sure := true, fh := true, heard := [] }) .same (d.grs.map fun g => msgP m.to g 4 d.id)
 | y_more (c : Ca) (f : Bool) : m.kind = 2 → m.fr ∈ d.grs → c ∈ cs w d.bo → c.de = d → c.sure = false → Tr w d m (.set { c with fh := f, heard := hearL c.heard m.fr }) .same []
 | n_gone : m.kind = 3 → m.fr ∈ d.grs → goneC w d ∨ sureC w d → Tr w d m .same .same []
 | n_un (c : Ca) : m.kind = 3 → m.fr ∈ d.grs → c ∈ cs w d.bo → c.de = d → c.sure = false → Tr w d m .erase .same (d.grs.map fun g => msgP m.to g 6 d.id)
 | f_is : m.kind = 4 → m.to ∈ d.grs → isR w m.to.toNat d.id → (sureC w d ∨ goneC w d ∧ allD w d) → Tr w d m .same (.perf m.to.toNat) [msgP m.to m.fr 5 d.id]
 | f_did : m.kind = 4 → m.to ∈ d.grs → d.id ∈ dn w m.to.toNat → Tr w d m .same .same [msgP m.to m.fr 5 d.id]
 | f_none : m.kind = 4 → m.to ∈ d.grs → ¬ isR w m.to.toNat d.id → d.id ∉ dn w m.to.toNat → Tr w d m .same .same []
 | d_gone : m.kind = 5 → m.fr ∈ d.grs → goneC w d ∨ unsure w d → Tr w d m .same .same []
 | d_whole (c : Ca) : m.kind = 5 → m.fr ∈ d.grs → c ∈ cs w d.bo → c.de = d → c.sure = true → allD w d → Tr w d m .erase .same []
 | d_more (c : Ca) (f : Bool) : m.kind = 5 → m.fr ∈ d.grs → c ∈ cs w d.bo → c.de = d → c.sure = true → Tr w d m (.set { c with fh := f, heard := hearL c.heard m.fr }) .same []
 | x_is : m.kind = 6 → m.to ∈ d.grs → goneC w d → isR w m.to.toNat d.id → Tr w d m .same (.unready m.to.toNat) []
 | x_none : m.kind = 6 → m.to ∈ d.grs → goneC w d → ¬ isR w m.to.toNat d.id → Tr w d m .same .same []
 | a_gone : m.kind = 7 → m.fr ∈ d.grs → goneC w d → Tr w d m .same .same [msgP m.to m.fr 6 d.id]
 | a_sure : m.kind = 7 → m.fr ∈ d.grs → sureC w d → Tr w d m .same .same [msgP m.to m.fr 4 d.id]
 | a_un : m.kind = 7 → m.fr ∈ d.grs → unsure w d → Tr w d m .same .same []
section
variable {isP : List UInt8 → Bool} {clash : List UInt8 → List UInt8 → Bool} {PS : List (List UInt8)} {w w' : Wd}
theorem sendL_nil (l : List Mg) : sendL l [] = l := by simp [sendL]
theorem Eff.self {d : De} {l : List Mg} : Eff w (sendW w l) d .same .same l := ⟨rfl, rfl, fun _ _ => Iff.rfl, fun _ _ => Iff.rfl, fun _ => rfl⟩
theorem tell_tr (H : Inv isP clash PS w) {k : Nat} {b : Bo} {m : Mg} {d : De} (hb : w.bs[k]? = some b) (hd : d ∈ w.deeds) (hn : m.nums = [d.id]) (hto : m.to = d.bo) (hk : m.to = (k : Int)) (hfr : m.fr ∈ d.grs) (hkind : m.kind = 2 ∨ m.kind = 3 ∨ m.kind = 5 ∨ m.kind = 7) (h5 : m.kind = 5 → d.id ∈ dn w m.fr.toNat) :
  ∃ x l, Tr w d m x .same l ∧ Eff w (tellW w k b m) d x .same l := by
 have self : ({ w with bs := w.bs.set k b } : Wd) = w := by rw [set_same hb]
 have hbi := (H.bi k b hb).1
 have hck : cs w k = b.cases := cs_of hb
 have hdk : d.bo = k := by omega
 have hbid : b.id = m.to := by rw [hbi, hk]
 have hh : m.nums.headD 0 = d.id := by rw [hn]; rfl
 have h0 : m.to = b.id ∧ m.nums.length = 1 ∧ (m.kind = 2 ∨ m.kind = 3 ∨ m.kind = 5 ∨ m.kind = 7) := ⟨hbid.symm, by rw [hn]; rfl, hkind⟩
 have hnd : (b.cases.map fun c => c.de.id).Nodup := by have := H.cn k; rwa [hck] at this
 -- the same cases
 have eqs : ∀ l, Eff w (sendW { w with bs := w.bs.set k (withC b b.cases) } l) d .same .same l := fun l => ⟨rfl, rfl, fun j c => by
  show c ∈ cs { w with bs := w.bs.set k (withC b b.cases) } j ↔ _
  rw [cs_set hb]
  by_cases e : j = k
  ·rw [if_pos e, e, hck]; exact Iff.rfl
  ·rw [if_neg e], fun _ _ => Iff.rfl, fun _ => rfl⟩
 unfold tellW tellP
 rw [if_pos h0, hh]
 cases hx : b.cases[caseAt b d.id]? with
 | none =>
  have hg : goneC w d := by
   intro c hc
   rw [hdk, hck] at hc
   exact not_key (key := fun c : Ca => c.de.id) hx c hc
  simp only
  by_cases c4 : m.kind = 2 ∨ m.kind = 7
  ·rw [if_pos c4]
   dsimp only
   rw [self, hbid]
   rcases c4 with c4 | c4
   ·exact ⟨_, _, .y_gone c4 hfr hg, Eff.self⟩
   ·exact ⟨_, _, .a_gone c4 hfr hg, Eff.self⟩
  ·rw [if_neg c4]
   dsimp only
   rw [self]
   rcases (show m.kind = 3 ∨ m.kind = 5 by omega) with c | c
   ·exact ⟨_, _, .n_gone c hfr (.inl hg), Eff.self⟩
   ·exact ⟨_, _, .d_gone c hfr (.inl hg), Eff.self⟩
 | some c =>
  have hcm : c ∈ cs w d.bo := by rw [hdk, hck]; exact List.mem_of_getElem? hx
  have hid : c.de.id = d.id := at_key (key := fun c : Ca => c.de.id) hx
  have C := H.ca _ c hcm
  have hcd : c.de = d := H.deq C.de hd hid
  have memE : ∀ b' : Bo, b'.cases = b.cases.eraseIdx (caseAt b d.id) → ∀ l, Eff w (sendW { w with bs := w.bs.set k b' } l) d .erase .same l := fun b' e l => ⟨rfl, rfl, fun j y => by
   show y ∈ cs { w with bs := w.bs.set k b' } j ↔ y ∈ cs w j ∧ y.de.id ≠ d.id
   rw [cs_set hb]
   by_cases ej : j = k
   ·rw [if_pos ej, e, ej, hck, mem_erase_key (key := fun c : Ca => c.de.id) hnd hx y, hid]
   ·rw [if_neg ej]
    refine ⟨fun hy => ⟨hy, fun e => ?_⟩, fun hy => hy.1⟩
    have Y := H.ca j y hy
    have := H.deq Y.de hd e
    rw [← Y.bo, this, hdk] at ej
    exact ej rfl, fun _ _ => Iff.rfl, fun _ => rfl⟩
  have memS : ∀ (b' : Bo) (c' : Ca), b'.cases = b.cases.set (caseAt b d.id) c' → ∀ l, Eff w (sendW { w with bs := w.bs.set k b' } l) d (.set c') .same l := fun b' c' e l => ⟨rfl, rfl, fun j y => by
   show y ∈ cs { w with bs := w.bs.set k b' } j ↔ (j = d.bo ∧ y = c') ∨ (y ∈ cs w j ∧ y.de.id ≠ d.id)
   rw [cs_set hb, hdk]
   by_cases ej : j = k
   ·rw [if_pos ej, e, ej, hck, mem_set_key (key := fun c : Ca => c.de.id) hnd hx y, hid]
    simp
   ·rw [if_neg ej]
    refine ⟨fun hy => .inr ⟨hy, fun e => ?_⟩, fun hy => ?_⟩
    ·have Y := H.ca j y hy
     have := H.deq Y.de hd e
     rw [← Y.bo, this, hdk] at ej
     exact ej rfl
    ·rcases hy with ⟨h1, _⟩ | hy
     ·exact absurd h1 ej
     ·exact hy.1, fun _ _ => Iff.rfl, fun _ => rfl⟩
  simp only
  rw [if_pos (by rw [hcd]; exact hfr)]
  unfold tellC
  have hsub : ∀ g ∈ hearL c.heard m.fr, g ∈ c.de.grs := fun g hg => by
   rcases hearL_mem.1 hg with rfl | hg
   ·rw [hcd]; exact hfr
   ·exact C.sub g hg
  by_cases hs : c.sure = true
  ·simp only [if_pos hs]
   by_cases k3 : m.kind = 3
   ·simp only [if_pos k3]
    exact ⟨_, _, .n_gone k3 hfr (.inr ⟨c, hcm, hid, hs⟩), eqs []⟩
   ·simp only [if_neg k3]
    by_cases k5 : m.kind = 5
    ·simp only [if_pos k5]
     by_cases hf : (hearL c.heard m.fr).length = c.de.grs.length
     ·simp only [if_pos hf]
      refine ⟨_, _, .d_whole c k5 hfr hcm hcd hs (fun g hg => ?_), memE _ rfl []⟩
      rcases hearL_mem.1 (full (up_nodup (hearL_up C.up)) hsub (by omega) g (by rw [hcd]; exact hg)) with e | e
      ·rw [e]; exact h5 k5
      ·rw [← hid]; exact (C.su hs).2 g e
     ·simp only [if_neg hf]
      exact ⟨_, _, .d_more c (hearF c m.fr) k5 hfr hcm hcd hs, memS _ _ rfl []⟩
    ·simp only [if_neg k5]
     rw [hbid, hid]
     rcases (show m.kind = 2 ∨ m.kind = 7 by omega) with c1 | c1
     ·exact ⟨_, _, .y_sure c1 hfr ⟨c, hcm, hid, hs⟩, eqs _⟩
     ·exact ⟨_, _, .a_sure c1 hfr ⟨c, hcm, hid, hs⟩, eqs _⟩
  ·have hs : c.sure = false := by simpa using hs
   rw [if_neg (by rw [hs]; decide)]
   by_cases k3 : m.kind = 3
   ·simp only [if_pos k3]
    have e : allP b c.de 6 = d.grs.map fun g => msgP m.to g 6 d.id := by unfold allP; rw [hcd, hbid]
    rw [e]
    exact ⟨_, _, .n_un c k3 hfr hcm hcd hs, memE _ rfl _⟩
   ·simp only [if_neg k3]
    by_cases k2 : m.kind = 2
    ·simp only [if_pos k2]
     by_cases hf : (hearL c.heard m.fr).length = c.de.grs.length
     ·simp only [if_pos hf]
      have e : allP b c.de 4 = d.grs.map fun g => msgP m.to g 4 d.id := by unfold allP; rw [hcd, hbid]
      rw [e]
      exact ⟨_, _, .y_whole c k2 hfr hcm hcd hs, memS _ _ rfl _⟩
     ·simp only [if_neg hf]
      exact ⟨_, _, .y_more c (hearF c m.fr) k2 hfr hcm hcd hs, memS _ _ rfl []⟩
    ·simp only [if_neg k2]
     have hun : unsure w d := ⟨c, hcm, hid, hs⟩
     rcases (show m.kind = 5 ∨ m.kind = 7 by omega) with c1 | c1
     ·exact ⟨_, _, .d_gone c1 hfr (.inr hun), eqs []⟩
     ·exact ⟨_, _, .a_un c1 hfr hun, eqs []⟩
end
end Go.Cr

namespace Go.Cr
section
variable {isP : List UInt8 → Bool} {clash : List UInt8 → List UInt8 → Bool} {PS : List (List UInt8)} {w w' : Wd}
theorem hear_tr (H : Inv isP clash PS w) {g : Nat} {p : Pt} {dd : Bool × List Int} {m : Mg} {d : De} (hp : w.ps[g]? = some p) (hd0 : w.did[g]? = some dd) (hd : d ∈ w.deeds) (hn : m.nums = [d.id]) (hto : m.to = (g : Int)) (hg : m.to ∈ d.grs)
  (hk : (m.kind = 1 ∧ (m.to, m.data) ∈ d.grs.zip d.pas) ∨ (m.kind = 4 ∧ (sureC w d ∨ goneC w d ∧ allD w d)) ∨ (m.kind = 6 ∧ goneC w d)) :
  ∃ y l, Tr w d m .same y l ∧ Eff w (hearW isP clash w g p dd m) d .same y l := by
 have self : ({ w with ps := w.ps.set g p } : Wd) = w := by rw [set_same hp]
 have hpi := H.pi g p hp
 have hrd := rd_of hp
 have hdn := dn_of hp
 have P := H.pt g
 have hkl : g < w.ps.length := (List.getElem?_eq_some_iff.1 hp).1
 have hgn : m.to.toNat = g := by rw [hto]; simp
 have hpid : p.id = m.to := by rw [hpi, hto]
 have hh : m.nums.headD 0 = d.id := by rw [hn]; rfl
 have h8 := (H.id d hd).1
 have hc : m.to = p.id ∧ m.nums.length = 1 := ⟨hpid.symm, by rw [hn]; rfl⟩
 have hisr : (p.ready.any (fun r => decide (r.id = d.id)) = true) ↔ isR w g d.id := by
  unfold isR
  rw [hrd]
  simp
 have hdid : (decide (d.id ∈ p.did) = true) ↔ d.id ∈ dn w g := by rw [hdn]; simp
 have rds : ∀ (q : Pt) (dl : List (Bool × List Int)) (l : List Mg) (j : Nat), rd (sendW { w with ps := w.ps.set g q, did := dl } l) j = if j = g then q.ready else rd w j := fun q dl l j => by
  by_cases e : j = g
  ·subst e; simp [rd, sendW, hkl]
  ·simp only [rd, sendW]; rw [List.getElem?_set_ne (Ne.symm e), if_neg e]
 have dns : ∀ (q : Pt) (dl : List (Bool × List Int)) (l : List Mg) (j : Nat), dn (sendW { w with ps := w.ps.set g q, did := dl } l) j = if j = g then q.did else dn w j := fun q dl l j => by
  by_cases e : j = g
  ·subst e; simp [dn, sendW, hkl]
  ·simp only [dn, sendW]; rw [List.getElem?_set_ne (Ne.symm e), if_neg e]
 unfold hearW hearP
 simp only [if_pos hc, hh]
 rcases hk with ⟨k1, hz⟩ | ⟨k4, hs⟩ | ⟨k6, hgo⟩
 ·simp only [if_pos k1]
  by_cases q1 : decide (d.id ∈ p.did) = true
  ·simp only [if_pos q1, doneW, if_true]
   rw [self, hpid]
   exact ⟨_, _, .p_did k1 hg (by rw [hgn]; exact hdid.1 q1), Eff.self⟩
  ·simp only [if_neg q1]
   by_cases q2 : p.ready.any (fun r => decide (r.id = d.id)) = true
   ·simp only [if_pos q2, doneW, if_true]
    rw [self, hpid]
    exact ⟨_, _, .p_is k1 hg (by rw [hgn]; exact hisr.1 q2), Eff.self⟩
   ·simp only [if_neg q2]
    have hnr : ¬ isR w g d.id := fun h => q2 (hisr.2 h)
    by_cases q3 : isP m.data = false ∨ lockedP isP clash p m.data = true
    ·simp only [if_pos q3, doneW, if_true]
     rw [self, hpid]
     refine ⟨_, _, .p_no k1 hg (by rw [hgn]; exact hnr) ?_, Eff.self⟩
     rw [hgn, hrd]
     have hip := ((H.de d hd).pa _ (List.of_mem_zip hz).2).1
     rcases q3 with q3 | q3
     ·rw [hip] at q3; cases q3
     ·unfold lockedP at q3
      rw [hip, Bool.true_and, List.any_eq_true] at q3
      obtain ⟨r, hr, _⟩ := q3
      exact ⟨r, hr, fun e => hnr ⟨r, by rw [hrd]; exact hr, e⟩⟩
    ·simp only [if_neg q3, doneW, if_true]
     rw [hpid]
     refine ⟨_, _, .p_yes k1 hg (by rw [hgn]; exact fun h => q1 (hdid.2 h)) (by rw [hgn]; exact hnr), ⟨rfl, rfl, fun _ _ => Iff.rfl, fun j i => ?_, fun j => ?_⟩⟩
     ·have := rds ⟨m.to, false, p.ready ++ [⟨d.id, m.data⟩], p.fd, p.did⟩ w.did [msgP m.to m.fr 2 d.id] j
      unfold isR
      rw [this, hgn]
      by_cases e : j = g
      ·rw [if_pos e, e, hrd]
       constructor
       ·rintro ⟨r, hr, e'⟩
        rcases List.mem_append.1 hr with hr | hr
        ·exact .inl ⟨r, hr, e'⟩
        ·rw [List.mem_singleton.1 hr] at e'
         exact .inr ⟨rfl, e'.symm⟩
       ·rintro (⟨r, hr, e'⟩ | ⟨_, e'⟩)
        ·exact ⟨r, List.mem_append_left _ hr, e'⟩
        ·exact ⟨⟨d.id, m.data⟩, List.mem_append_right _ (List.mem_singleton.2 rfl), e'.symm⟩
      ·rw [if_neg e]
       exact ⟨.inl, fun h => h.elim id fun h => absurd h.1 e⟩
     ·have := dns ⟨m.to, false, p.ready ++ [⟨d.id, m.data⟩], p.fd, p.did⟩ w.did [msgP m.to m.fr 2 d.id] j
      refine this.trans ?_
      by_cases e : j = g
      ·rw [if_pos e, e, hdn]
      ·rw [if_neg e]
 all_goals
  have erd : ∀ i r, p.ready[i]? = some r → r.id = d.id → ∀ x, x ∈ p.ready.eraseIdx i ↔ x ∈ p.ready ∧ x.id ≠ d.id := fun i r hi e x => by
   have := mem_erase_key (key := fun r : Rd => r.id) (l := p.ready) (by have := P.nd; rwa [hrd] at this) hi x
   rw [this, e]
  have find : isR w g d.id → ∃ r, p.ready[p.ready.findIdx fun r => decide (r.id = d.id)]? = some r ∧ r.id = d.id := fun ⟨r, hr, e⟩ => by
   rw [hrd] at hr
   have h1 : p.ready.findIdx (fun r => decide (r.id = d.id)) < p.ready.length := List.findIdx_lt_length_of_exists ⟨r, hr, by simp [e]⟩
   exact ⟨_, List.getElem?_eq_getElem h1, at_key (key := fun r : Rd => r.id) (List.getElem?_eq_getElem h1)⟩
  have erR : isR w g d.id → ∀ (q : Pt) (dl : List (Bool × List Int)) (l : List Mg), q.ready = p.ready.eraseIdx (p.ready.findIdx fun r => decide (r.id = d.id)) → ∀ j i, isR (sendW { w with ps := w.ps.set g q, did := dl } l) j i ↔ isR w j i ∧ ¬ (j = g ∧ i = d.id) := fun hi q dl l e j i => by
   obtain ⟨r0, h1, h2⟩ := find hi
   have mem := erd _ r0 h1 h2
   unfold isR
   rw [rds]
   by_cases ej : j = g
   ·rw [if_pos ej, e, ej, hrd]
    constructor
    ·rintro ⟨r, hr, e'⟩
     obtain ⟨h3, h4⟩ := (mem r).1 hr
     exact ⟨⟨r, h3, e'⟩, fun h => h4 (by rw [e']; exact h.2)⟩
    ·rintro ⟨⟨r, hr, e'⟩, h⟩
     exact ⟨r, (mem r).2 ⟨hr, fun h5 => h ⟨rfl, by rw [← e', h5]⟩⟩, e'⟩
   ·rw [if_neg ej]
    exact ⟨fun h => ⟨h, fun h' => ej h'.1⟩, fun h => h.1⟩
 ·have k1 : ¬ m.kind = 1 := by omega
  simp only [if_neg k1, if_pos k4]
  by_cases q2 : p.ready.any (fun r => decide (r.id = d.id)) = true
  ·simp only [if_pos q2, doneW, if_neg (show ¬ d.id = 0 by omega)]
   rw [hpid]
   refine ⟨_, _, .f_is k4 hg (by rw [hgn]; exact hisr.1 q2) hs, ⟨rfl, rfl, fun _ _ => Iff.rfl, fun j i => ?_, fun j => ?_⟩⟩
   ·rw [hgn]
    exact erR (hisr.1 q2) _ _ _ rfl j i
   ·refine (dns _ _ _ j).trans ?_
    show _ = if j = m.to.toNat then dn w j ++ [d.id] else dn w j
    rw [hgn]
    by_cases e : j = g
    ·rw [if_pos e, if_pos e, e, hdn]
    ·rw [if_neg e, if_neg e]
  ·simp only [if_neg q2]
   by_cases q1 : decide (d.id ∈ p.did) = true
   ·simp only [if_pos q1, doneW, if_true]
    rw [self, hpid]
    exact ⟨_, _, .f_did k4 hg (by rw [hgn]; exact hdid.1 q1), Eff.self⟩
   ·simp only [if_neg q1, doneW, if_true]
    rw [self]
    exact ⟨_, _, .f_none k4 hg (by rw [hgn]; exact fun h => q2 (hisr.2 h)) (by rw [hgn]; exact fun h => q1 (hdid.2 h)), Eff.self⟩
 ·have k1 : ¬ m.kind = 1 := by omega
  have k4 : ¬ m.kind = 4 := by omega
  simp only [if_neg k1, if_neg k4, if_pos k6]
  by_cases q2 : p.ready.any (fun r => decide (r.id = d.id)) = true
  ·simp only [if_pos q2, doneW, if_true]
   rw [hpid]
   refine ⟨_, _, .x_is k6 hg hgo (by rw [hgn]; exact hisr.1 q2), ⟨rfl, rfl, fun _ _ => Iff.rfl, fun j i => ?_, fun j => ?_⟩⟩
   ·rw [hgn]
    exact erR (hisr.1 q2) _ w.did _ rfl j i
   ·refine (dns _ w.did _ j).trans ?_
    by_cases e : j = g
    ·rw [if_pos e, e, hdn]
    ·rw [if_neg e]
  ·simp only [if_neg q2, doneW, if_true]
   rw [self]
   exact ⟨_, _, .x_none k6 hg hgo (by rw [hgn]; exact fun h => q2 (hisr.2 h)), Eff.self⟩
theorem come_tr (H : Inv isP clash PS w) {m : Mg} (hm : GoodM w m) : ∃ d ∈ w.deeds, m.nums = [d.id] ∧ ∃ x y l, Tr w d m x y l ∧ Eff w (comeW isP clash w m) d x y l := by
 obtain ⟨d, hd, hn, hm⟩ := hm
 refine ⟨d, hd, hn, ?_⟩
 have hb4 := (H.id d hd).2.1
 have hle := (H.de d hd).le
 have hto : 0 ≤ m.to ∧ m.to < 4 := by
  rcases hm with hm | hm | hm | hm | hm | hm | hm
  ·exact hle _ (List.of_mem_zip hm.2.2).1
  ·have := hm.2.1; omega
  ·have := hm.2.1; omega
  ·exact hle _ hm.2.2.1
  ·have := hm.2.1; omega
  ·exact hle _ hm.2.2.1
  ·have := hm.2.1; omega
 obtain ⟨k, hk⟩ : ∃ k : Nat, m.to = (k : Int) := ⟨m.to.toNat, by omega⟩
 have hkb : k < w.bs.length := by rw [H.lb]; omega
 have hkp : k < w.ps.length := by rw [H.lp]; omega
 have hkd : k < w.did.length := by rw [H.ld]; omega
 have gb := List.getElem?_eq_getElem hkb
 have gp := List.getElem?_eq_getElem hkp
 have gd := List.getElem?_eq_getElem hkd
 have hne : ¬ (m.to < 0 ∨ 4 ≤ m.to) := by omega
 have htn : m.to.toNat = k := by rw [hk]; simp
 have eq : comeW isP clash w m = hearW isP clash (tellW w k w.bs[k] m) k w.ps[k] w.did[k] m := by
  unfold comeW
  simp only [if_neg hne, htn, gb, gp, gd]
 rw [eq]
 have bossK : m.kind = 2 ∨ m.kind = 3 ∨ m.kind = 5 ∨ m.kind = 7 → hearW isP clash (tellW w k w.bs[k] m) k w.ps[k] w.did[k] m = tellW w k w.bs[k] m := fun h => by
  have k1 : ¬ m.kind = 1 := by omega
  have k4 : ¬ m.kind = 4 := by omega
  have k6 : ¬ m.kind = 6 := by omega
  have hs : (tellW w k w.bs[k] m).ps.set k w.ps[k] = (tellW w k w.bs[k] m).ps := set_same gp
  have hp : hearP isP clash w.ps[k] m = (w.ps[k], [], 0) := by
   unfold hearP
   split
   ·simp only [if_neg k1, if_neg k4, if_neg k6]
   ·rfl
  unfold hearW doneW
  rw [hp]
  simp only [if_true]
  rw [hs]
  unfold sendW
  simp only [sendL_nil]
 have partK : m.kind = 1 ∨ m.kind = 4 ∨ m.kind = 6 → tellW w k w.bs[k] m = w := fun h => by
  have : ¬ (m.to = w.bs[k].id ∧ m.nums.length = 1 ∧ (m.kind = 2 ∨ m.kind = 3 ∨ m.kind = 5 ∨ m.kind = 7)) := fun h => by omega
  unfold tellW tellP
  rw [if_neg this]
  dsimp only
  rw [set_same gb]
  unfold sendW
  simp only [sendL_nil]
 rcases hm with ⟨a, b, c⟩ | ⟨a, b, c, e⟩ | ⟨a, b, c⟩ | ⟨a, b, c, e⟩ | ⟨a, b, c, e⟩ | ⟨a, b, c, e⟩ | ⟨a, b, c⟩
 ·rw [partK (.inl a)]
  obtain ⟨y, l, h1, h2⟩ := hear_tr H gp gd hd hn hk (List.of_mem_zip c).1 (.inl ⟨a, c⟩)
  exact ⟨_, y, l, h1, h2⟩
 ·rw [bossK (.inl a)]
  obtain ⟨x, l, h1, h2⟩ := tell_tr H gb hd hn b hk c (.inl a) (fun h => by omega)
  exact ⟨x, _, l, h1, h2⟩
 ·rw [bossK (.inr (.inl a))]
  obtain ⟨x, l, h1, h2⟩ := tell_tr H gb hd hn b hk c (.inr (.inl a)) (fun h => by omega)
  exact ⟨x, _, l, h1, h2⟩
 ·rw [partK (.inr (.inl a))]
  obtain ⟨y, l, h1, h2⟩ := hear_tr H gp gd hd hn hk c (.inr (.inl ⟨a, e⟩))
  exact ⟨_, y, l, h1, h2⟩
 ·rw [bossK (.inr (.inr (.inl a)))]
  obtain ⟨x, l, h1, h2⟩ := tell_tr H gb hd hn b hk c (.inr (.inr (.inl a))) (fun _ => e)
  exact ⟨x, _, l, h1, h2⟩
 ·rw [partK (.inr (.inr a))]
  obtain ⟨y, l, h1, h2⟩ := hear_tr H gp gd hd hn hk c (.inr (.inr ⟨a, e⟩))
  exact ⟨_, y, l, h1, h2⟩
 ·rw [bossK (.inr (.inr (.inr a)))]
  obtain ⟨x, l, h1, h2⟩ := tell_tr H gb hd hn b hk c (.inr (.inr (.inr a))) (fun h => by omega)
  exact ⟨x, _, l, h1, h2⟩
end
end Go.Cr

/-
 Messages run out; what a round comes to.
-/
namespace Go.Cr
section
variable {isP : List UInt8 → Bool} {clash : List UInt8 → List UInt8 → Bool} {PS : List (List UInt8)} {w w' : Wd}
theorem eff_far {d d' : De} {x : Cg} {y : Pg} {l : List Mg} (E : Eff w w' d x y l) (hx : ∀ c, x = .set c → c.de.id = d.id) (hne : d'.id ≠ d.id) : (∀ j c, c.de.id = d'.id → (c ∈ cs w' j ↔ c ∈ cs w j)) ∧ (∀ j, isR w' j d'.id ↔ isR w j d'.id) ∧ (∀ j, d'.id ∈ dn w' j ↔ d'.id ∈ dn w j) := by
 refine ⟨fun j c hc => ?_, fun j => ?_, fun j => ?_⟩
 ·rw [E.cs j c]
  cases x with
  | same => exact Iff.rfl
  | erase => exact ⟨fun h => h.1, fun h => ⟨h, fun e => hne (hc.symm.trans e)⟩⟩
  | set c' =>
   have := hx c' rfl
   constructor
   ·rintro (⟨_, e⟩ | h)
    ·rw [e] at hc; exact absurd (hc.symm.trans this) hne
    ·exact h.1
   ·exact fun h => .inr ⟨h, fun e => hne (hc.symm.trans e)⟩
 ·rw [E.rd j]
  cases y with
  | same => exact Iff.rfl
  | ready g => exact ⟨fun h => h.elim id fun h => absurd h.2 hne, .inl⟩
  | unready g => exact ⟨fun h => h.1, fun h => ⟨h, fun e => hne e.2⟩⟩
  | perf g => exact ⟨fun h => h.1, fun h => ⟨h, fun e => hne e.2⟩⟩
 ·rw [E.dn j]
  cases y with
  | same => exact Iff.rfl
  | ready g => exact Iff.rfl
  | unready g => exact Iff.rfl
  | perf g =>
   by_cases e : j = g
   ·simp only [if_pos e, List.mem_append, List.mem_singleton]
    exact ⟨fun h => h.elim id fun h => absurd h hne, .inl⟩
   ·simp only [if_neg e]
theorem Tr.set_id {d : De} {m : Mg} {x : Cg} {y : Pg} {l : List Mg} (T : Tr w d m x y l) : ∀ c, x = .set c → c.de = d := by
 intro c e
 cases T with
 | y_whole c0 _ _ _ h _ => cases e; exact h
 | y_more c0 f _ _ _ h _ => cases e; exact h
 | d_more c0 f _ _ _ h _ => cases e; exact h
 | _ => cases e
theorem Tr.set_id' {d : De} {m : Mg} {x : Cg} {y : Pg} {l : List Mg} (T : Tr w d m x y l) : ∀ c, x = .set c → c.de.id = d.id := fun c e => by rw [T.set_id c e]
theorem eff_un {d d' : De} {m : Mg} {x : Cg} {y : Pg} {l : List Mg} (E : Eff w w' d x y l) (T : Tr w d m x y l) (hd : ∀ d' , d'.id = d.id → d' ∈ w.deeds → d' = d) (hd' : d' ∈ w.deeds) : (unsure w' d' → unsure w d') ∧ (goneC w d' → goneC w' d') ∧ (∀ g, d'.id ∈ dn w g → d'.id ∈ dn w' g) := by
 by_cases hne : d'.id = d.id
 ·have e := hd d' hne hd'
  subst e
  refine ⟨fun ⟨c, hc, e, s⟩ => ?_, fun h c hc e => ?_, fun g h => ?_⟩
  ·rw [E.cs] at hc
   cases T with
   | y_whole c0 _ _ h1 h2 h3 =>
    rcases hc with ⟨_, hc⟩ | hc
    ·rw [hc] at s; cases s
    ·exact absurd e hc.2
   | y_more c0 f _ _ h1 h2 h3 =>
    rcases hc with ⟨_, hc⟩ | hc
    ·exact ⟨c0, h1, by rw [h2], h3⟩
    ·exact absurd e hc.2
   | d_more c0 f _ _ h1 h2 h3 =>
    rcases hc with ⟨_, hc⟩ | hc
    ·rw [hc] at s; simp only at s; rw [h3] at s; cases s
    ·exact absurd e hc.2
   | n_un c0 _ _ h1 h2 h3 => exact absurd e hc.2
   | d_whole c0 _ _ h1 h2 h3 h4 => exact absurd e hc.2
   | _ => exact ⟨c, hc, e, s⟩
  ·rw [E.cs] at hc
   cases T with
   | y_whole c0 _ _ h1 h2 h3 => exact absurd (by rw [h2]) (h c0 h1)
   | y_more c0 f _ _ h1 h2 h3 => exact absurd (by rw [h2]) (h c0 h1)
   | d_more c0 f _ _ h1 h2 h3 => exact absurd (by rw [h2]) (h c0 h1)
   | n_un c0 _ _ h1 h2 h3 => exact absurd (by rw [h2]) (h c0 h1)
   | d_whole c0 _ _ h1 h2 h3 h4 => exact absurd (by rw [h2]) (h c0 h1)
   | _ => exact h c hc e
  ·rw [E.dn]
   cases y with
   | perf j =>
    by_cases e : g = j
    ·simp only [if_pos e]; exact List.mem_append_left _ h
    ·simp only [if_neg e]; exact h
   | _ => exact h
 ·obtain ⟨h1, h2, h3⟩ := eff_far E T.set_id' hne
  refine ⟨fun ⟨c, hc, e, s⟩ => ⟨c, (h1 _ c e).1 hc, e, s⟩, fun h c hc e => h c ((h1 _ c e).1 hc) e, fun g h => (h3 g).2 h⟩
theorem grs4 {d : De} (h : DeOK isP PS d) : d.grs.length ≤ 4 := by
 have := sub_len (A := d.grs) (B := [0, 1, 2, 3]) (up_nodup h.up) fun x hx => by
  have := h.le x hx
  have h4 : x = 0 ∨ x = 1 ∨ x = 2 ∨ x = 3 := by omega
  rcases h4 with e | e | e | e <;> simp [e]
 simpa using this
theorem take_tr (H : Inv isP clash PS w) {i : Nat} {m : Mg} (hi : w.wire[i]? = some m) (t : Bool) : ∃ w0, w0 = (if t = true then w else lossW w i) ∧ Inv isP clash PS w0 ∧ ∃ d ∈ w.deeds, m.nums = [d.id] ∧ ∃ x y l, Tr w0 d m x y l ∧ Eff w0 (takeW isP clash w i t) d x y l := by
 have hg := H.ms m (List.mem_of_getElem? hi)
 have e : takeW isP clash w i t = comeW isP clash (if t = true then w else lossW w i) m := by
  unfold takeW; rw [hi]
 cases t with
 | true =>
  rw [e]
  simp only [if_true]
  exact ⟨w, rfl, H, come_tr H hg⟩
 | false =>
  rw [e]
  simp only [Bool.false_eq_true, if_false]
  exact ⟨lossW w i, rfl, H.loss i, come_tr (H.loss i) (hg.same rfl rfl rfl)⟩
theorem Inv.uniq (H : Inv isP clash PS w) {d : De} (hd : d ∈ w.deeds) : ∀ d', d'.id = d.id → d' ∈ w.deeds → d' = d := fun _ e h => H.deq h hd e
theorem drain_keep (P : Wd → Prop) (hs : ∀ w, Inv isP clash PS w → P w → ∀ m r, w.wire = m :: r → P (takeW isP clash w 0 false)) : ∀ (n : Nat) {w : Wd}, Inv isP clash PS w → P w → P (drainW isP clash n w)
 | 0, _, _, h => h
 | n + 1, w, H, h => by
  unfold drainW
  cases hw : w.wire with
  | nil => simpa using h
  | cons m r =>
   rw [if_neg (by simp)]
   exact drain_keep P hs n (H.take 0 false) (hs w H h m r hw)
end
end Go.Cr

/-
 What is asked is answered: unsure cases, sure ones, questions.
-/
namespace Go.Cr
section
variable {isP : List UInt8 → Bool} {clash : List UInt8 → List UInt8 → Bool} {PS : List (List UInt8)} {w w' : Wd}
structure Stp (w : Wd) (m : Mg) (w' : Wd) (d : De) (x : Cg) (y : Pg) (l : List Mg) : Prop where
 T : Tr w d m x y l
 E : Eff w w' d x y l
 hd : d ∈ w.deeds
 hn : m.nums = [d.id]
theorem take_stp (H : Inv isP clash PS w) {m : Mg} {r : List Mg} (hw : w.wire = m :: r) : ∃ w0, w0 = { w with wire := r } ∧ Inv isP clash PS w0 ∧ ∃ d x y l, Stp w0 m (takeW isP clash w 0 false) d x y l := by
 obtain ⟨w0, e0, H0, d, hd, hn, x, y, l, T, E⟩ := take_tr H (i := 0) (m := m) (by rw [hw]; rfl) false
 simp only [Bool.false_eq_true, if_false] at e0
 have e1 : w0 = { w with wire := r } := by rw [e0]; simp [lossW, hw]
 exact ⟨w0, e1, H0, d, x, y, l, T, E, by rw [e1]; exact hd, hn⟩
end
end Go.Cr

/-
 Rounds: after six of them all is done.
-/
namespace Go.Cr
section
variable {isP : List UInt8 → Bool} {clash : List UInt8 → List UInt8 → Bool} {PS : List (List UInt8)} {w w' : Wd}
def agL (w : Wd) (k : Nat) : List Mg := ((w.bs[k]?).map againP).getD []
def akL (w : Wd) (k : Nat) : List Mg := ((w.ps[k]?).map askP).getD []
theorem again_len (H : Inv isP clash PS w) (k : Nat) : (agL w k).length ≤ 4 * (cs w k).length := by
 unfold agL
 cases hb : w.bs[k]? with
 | none => exact Nat.zero_le _
 | some b =>
  rw [cs_of hb]
  simp only [Option.map_some, Option.getD_some]
  unfold againP
  have : ∀ l : List Ca, (∀ c ∈ l, c.de.grs.length ≤ 4) → ((l.map (againC b)).flatten).length ≤ 4 * l.length := by
   intro l
   induction l with
   | nil => intro _; simp
   | cons c l ih =>
    intro h
    have h1 := ih fun x hx => h x (List.mem_cons_of_mem _ hx)
    have h2 := h c (List.mem_cons_self ..)
    have h3 : (againC b c).length ≤ c.de.grs.length := by
     unfold againC
     have : ∀ z : List (Int × List UInt8), ((z.map fun x => againZ b c x.1 x.2).flatten).length ≤ z.length := by
      intro z
      induction z with
      | nil => simp
      | cons x z ih =>
       have h5 : (againZ b c x.1 x.2).length ≤ 1 := by
        unfold againZ
        split <;> (try split) <;> simp
       simp only [List.map_cons, List.flatten_cons, List.length_append, List.length_cons]
       omega
     have := this (c.de.grs.zip c.de.pas)
     rw [List.length_zip] at this
     omega
    simp only [List.map_cons, List.flatten_cons, List.length_append, List.length_cons]
    omega
  refine this b.cases fun c hc => ?_
  have C := H.ca k c (by rw [cs_of hb]; exact hc)
  exact grs4 (H.de _ C.de)
def wr (w : Wd) : List Nat → List Mg → List Mg
 | [], l => l
 | g :: gs, l => wr w gs (sendL (sendL l (agL w g)) (akL w g))
theorem deeds_take (H : Inv isP clash PS w) (m : Mg) (r : List Mg) (hw : w.wire = m :: r) : (takeW isP clash w 0 false).deeds = w.deeds := by
 obtain ⟨w0, e0, H0, d, x, y, l, S⟩ := take_stp H hw
 rw [S.E.deeds, e0]
theorem deeds_drain (n : Nat) (H : Inv isP clash PS w) : (drainW isP clash n w).deeds = w.deeds :=
 drain_keep (fun v => v.deeds = w.deeds) (fun v Hv h m r hw => (deeds_take Hv m r hw).trans h) n H rfl
theorem sayL_deeds : ∀ (gs : List Nat) (w : Wd), (gs.foldl sayW w).deeds = w.deeds
 | [], _ => rfl
 | g :: gs, w => by
  rw [List.foldl_cons, sayL_deeds gs]
  unfold sayW
  split
  ·split <;> rfl
  ·rfl
theorem deeds_round (H : Inv isP clash PS w) : (roundW isP clash w).deeds = w.deeds := by
 unfold roundW
 rw [deeds_drain 2000 (H.sayL _), sayL_deeds]
theorem cs_len (H : Inv isP clash PS w) (k : Nat) : (cs w k).length ≤ 16 := by
 cases hb : w.bs[k]? with
 | none => rw [cs_none hb]; exact Nat.zero_le _
 | some b => rw [cs_of hb]; exact (H.bi k b hb).2.2
end
end Go.Cr

/-
 What is given up is done by none; who did two deeds first did them first everywhere.
-/
namespace Go.Cr
section
variable {isP : List UInt8 → Bool} {clash : List UInt8 → List UInt8 → Bool} {PS : List (List UInt8)} {w w' : Wd}
structure Ev (w w' : Wd) : Prop where
 de : ∀ d ∈ w.deeds, d ∈ w'.deeds
 go : ∀ d ∈ w.deeds, goneC w d → goneC w' d
 dn : (∀ g, dn w' g = dn w g) ∨ ∃ g, ∃ d ∈ w.deeds, isR w g d.id ∧ (sureC w d ∨ goneC w d ∧ allD w d) ∧ dn w' g = dn w g ++ [d.id] ∧ ∀ j, j ≠ g → dn w' j = dn w j
 nw : ∀ d ∈ w'.deeds, d ∈ w.deeds ∨ noneD w' d
inductive Evs (isP : List UInt8 → Bool) (clash : List UInt8 → List UInt8 → Bool) (PS : List (List UInt8)) : Wd → Wd → Prop
 | refl (w : Wd) : Evs isP clash PS w w
 | step {w w1 w2 : Wd} : Inv isP clash PS w → Ev w w1 → Inv isP clash PS w1 → Evs isP clash PS w1 w2 → Evs isP clash PS w w2
theorem Evs.one (H : Inv isP clash PS w) (E : Ev w w') (H' : Inv isP clash PS w') : Evs isP clash PS w w' := .step H E H' (.refl _)
theorem Evs.trans {a b c : Wd} (h1 : Evs isP clash PS a b) (h2 : Evs isP clash PS b c) : Evs isP clash PS a c := by
 induction h1 with
 | refl => exact h2
 | step H E H' _ ih => exact .step H E H' (ih h2)
theorem Evs.keep {P : Wd → Prop} (hs : ∀ a b, Inv isP clash PS a → Inv isP clash PS b → Ev a b → P a → P b) {a b : Wd} (h : Evs isP clash PS a b) (h0 : P a) : P b := by
 induction h with
 | refl => exact h0
 | step H E H' _ ih => exact ih (hs _ _ H H' E h0)
theorem Ev.wire (w : Wd) (l : List Mg) : Ev w { w with wire := l } := ⟨fun _ h => h, fun _ _ h => h, .inl fun _ => rfl, fun _ h => .inl h⟩
theorem ev_bs {k : Nat} {b b' : Bo} (hb : w.bs[k]? = some b) (hg : ∀ c ∈ b'.cases, ∃ c' ∈ b.cases, c'.de.id = c.de.id) (l : List Mg) : Ev w { w with bs := w.bs.set k b', wire := l } := by
 refine ⟨fun _ h => h, fun d _ h c hc e => ?_, .inl fun _ => rfl, fun _ h => .inl h⟩
 have hc' : c ∈ cs { w with bs := w.bs.set k b' } d.bo := hc
 rw [cs_set hb] at hc'
 by_cases ek : d.bo = k
 ·rw [if_pos ek] at hc'
  obtain ⟨c', h1, h2⟩ := hg c hc'
  exact h c' (by rw [ek, cs_of hb]; exact h1) (h2.trans e)
 ·rw [if_neg ek] at hc'
  exact h c hc' e
theorem come_ev (H : Inv isP clash PS w) {m : Mg} (hm : GoodM w m) : Ev w (comeW isP clash w m) := by
 obtain ⟨d, hd, hn, x, y, l, T, E⟩ := come_tr H hm
 refine ⟨fun z h => by rw [E.deeds]; exact h, fun z hz h => (eff_un E T (H.uniq hd) hz).2.1 h, ?_, fun z h => by rw [E.deeds] at h; exact .inl h⟩
 cases T with
 | f_is _ _ h1 h2 => exact .inr ⟨m.to.toNat, d, hd, h1, h2, by rw [E.dn]; simp, fun j hj => by rw [E.dn]; simp [hj]⟩
 | _ => exact .inl fun g => E.dn g
theorem take_evs (H : Inv isP clash PS w) (i : Nat) (t : Bool) : Evs isP clash PS w (takeW isP clash w i t) := by
 have H' := H.take i t
 unfold takeW at H' ⊢
 cases hm : w.wire[i]? with
 | none => exact .refl _
 | some m =>
  rw [hm] at H'
  have hg := H.ms m (List.mem_of_getElem? hm)
  cases t with
  | true => exact Evs.one H (come_ev H hg) H'
  | false => exact .step H (Ev.wire w _) (H.loss i) (Evs.one (H.loss i) (come_ev (H.loss i) (hg.same rfl rfl rfl)) H')
theorem send_evs (H : Inv isP clash PS w) {l : List Mg} (h : ∀ m ∈ l, GoodM w m) : Evs isP clash PS w (sendW w l) := Evs.one H (Ev.wire w _) (H.send h)
theorem start_evs (H : Inv isP clash PS w) {k : Nat} {b : Bo} {grs : List Int} {pas : List (List UInt8)} (hb : w.bs[k]? = some b) (hu : grs.Pairwise (· < ·)) (hg : ∀ g ∈ grs, 0 ≤ g ∧ g < 4) (hp : ∀ p ∈ pas, p ∈ PS) : Evs isP clash PS w (startW isP w k b grs pas) := by
 have H' := H.start hb hu hg hp
 refine Evs.one H ?_ H'
 unfold startW startP sendW
 by_cases hm : mayP isP b grs pas = 0
 ·simp only [if_pos hm]
  have hbi := H.bi k b hb
  have hkl : k < w.bs.length := (List.getElem?_eq_some_iff.1 hb).1
  have hk4 : k < 4 := by have := H.lb; omega
  obtain ⟨d, hd⟩ : ∃ d, d = (⟨8 * (b.next + 1) + b.id, false, grs, false, pas⟩ : De) := ⟨_, rfl⟩
  have hdi : d.id = 8 * (b.next + 1) + b.id := by rw [hd]
  have hdb : d.bo = k := by unfold De.bo; rw [hdi, hbi.1]; omega
  have hnk := nx_of hb
  have fresh : ∀ x ∈ w.deeds, x.id ≠ d.id := fun x hx e => by
   have h1 := H.id x hx
   have h2 : x.bo = d.bo := by unfold De.bo; rw [e]
   rw [h2, hdb, hnk] at h1
   have := h1.2.2
   rw [e, hdi, hbi.1] at this
   omega
  rw [← hd]
  refine ⟨fun z h => List.mem_append_left _ h, fun z hz h c hc e => ?_, .inl fun _ => rfl, fun z h => ?_⟩
  ·have hc' : c ∈ cs { w with bs := w.bs.set k ⟨b.id, b.next + 1, false, b.cases ++ [⟨d, false, true, []⟩]⟩ } z.bo := hc
   rw [cs_set hb] at hc'
   by_cases ek : z.bo = k
   ·rw [if_pos ek] at hc'
    rcases List.mem_append.1 hc' with h1 | h1
    ·exact h c (by rw [ek, cs_of hb]; exact h1) e
    ·rw [List.mem_singleton.1 h1] at e
     exact fresh z hz e.symm
   ·rw [if_neg ek] at hc'
    exact h c hc' e
  ·rcases List.mem_append.1 h with h | h
   ·exact .inl h
   ·right
    rw [List.mem_singleton.1 h]
    intro g hg
    obtain ⟨⟨x, hx, e, _⟩, _⟩ := (H.pt g).di d.id hg
    exact fresh x hx e
 ·simp only [if_neg hm]
  rw [set_same hb]
  exact Ev.wire w _
theorem begin_evs (H : Inv isP clash PS w) (hPS : ∀ k, pathN k ∈ PS) (x : Ac) : Evs isP clash PS w (beginW isP w x) := by
 unfold beginW
 split
 ·exact .refl _
 ·rename_i b hb
  obtain ⟨h1, h2, h3⟩ := begL_ok x
  exact start_evs H hb h1 h2 fun p hp => by obtain ⟨k, rfl⟩ := h3 p hp; exact hPS k
theorem do_evs (H : Inv isP clash PS w) (hPS : ∀ k, pathN k ∈ PS) (x : Ac) : Evs isP clash PS w (doW isP clash w x) := by
 have H' := H.do hPS x
 unfold doW at H' ⊢
 cases hb : w.bs[x.who % 4]? with
 | none => exact .refl _
 | some b =>
  cases hp : w.ps[x.who % 4]? with
  | none => exact .refl _
  | some p =>
   rw [hb, hp] at H'
   simp only at H' ⊢
   by_cases c2 : x.op % 16 ≤ 2
   ·rw [if_pos c2]; exact begin_evs H hPS x
   ·rw [if_neg c2] at H' ⊢
    by_cases c3 : x.op % 16 = 3
    ·rw [if_pos c3]; exact send_evs H (again_good H hb)
    ·rw [if_neg c3] at H' ⊢
     by_cases c4 : x.op % 16 = 4
     ·rw [if_pos c4]; exact send_evs H (ask_good H hp)
     ·rw [if_neg c4] at H' ⊢
      by_cases c5 : x.op % 16 = 5
      ·rw [if_pos c5] at H' ⊢
       cases hc : b.cases with
       | nil => exact .refl _
       | cons c l =>
        rw [hc] at H'
        simp only at H' ⊢
        refine Evs.one H ?_ H'
        unfold giveW sendW giveP
        split
        ·simp only
         rw [set_same hb]; exact Ev.wire w _
        ·split
         ·simp only
          rw [set_same hb]; exact Ev.wire w _
         ·exact ev_bs hb (fun c hc => ⟨c, (List.eraseIdx_sublist ..).subset hc, rfl⟩) _
      ·rw [if_neg c5] at H' ⊢
       by_cases c6 : x.op % 16 = 6
       ·rw [if_pos c6] at H' ⊢
        exact Evs.one H (ev_bs hb (fun c hc => ⟨c, List.filter_sublist.subset hc, rfl⟩) w.wire) H'
       ·rw [if_neg c6] at H' ⊢
        by_cases cw : w.wire.length = 0
        ·rw [if_pos cw]; exact .refl _
        ·rw [if_neg cw] at H' ⊢
         by_cases c7 : x.op % 16 = 7
         ·rw [if_pos c7] at H' ⊢
          exact Evs.one H (Ev.wire w _) H'
         ·rw [if_neg c7]; exact take_evs H _ _
theorem drain_evs : ∀ (n : Nat) {w : Wd}, Inv isP clash PS w → Evs isP clash PS w (drainW isP clash n w)
 | 0, _, _ => .refl _
 | n + 1, w, H => by
  unfold drainW
  split
  ·exact .refl _
  ·exact (take_evs H 0 false).trans (drain_evs n (H.take 0 false))
theorem say_evs : ∀ (gs : List Nat) {w : Wd}, Inv isP clash PS w → Evs isP clash PS w (gs.foldl sayW w)
 | [], _, _ => .refl _
 | g :: gs, w, H => by
  rw [List.foldl_cons]
  refine Evs.trans ?_ (say_evs gs (H.say g))
  unfold sayW
  split
  ·rename_i b hb
   split
   ·rename_i p hp
    have H1 := H.send (again_good H hb)
    exact (send_evs H (again_good H hb)).trans (send_evs H1 (ask_good H1 hp))
   ·exact .refl _
  ·exact .refl _
theorem calm_evs : ∀ (n : Nat) {w : Wd}, Inv isP clash PS w → Evs isP clash PS w (calmW isP clash n w)
 | 0, _, _ => .refl _
 | n + 1, _, H => ((say_evs [0, 1, 2, 3] H).trans (drain_evs 2000 (H.sayL _))).trans (calm_evs n H.round)
def Cl2 (clash : List UInt8 → List UInt8 → Bool) (a b : De) : Prop := ∀ g p q, (g, p) ∈ a.grs.zip a.pas → (g, q) ∈ b.grs.zip b.pas → clash p q = true
def Ahead (w : Wd) (a b : De) : Prop := ∀ g : Nat, (g : Int) ∈ a.grs → (g : Int) ∈ b.grs → b.id ∈ dn w g → a.id ∈ dn w g ∧ (dn w g).findIdx (fun y => decide (y = a.id)) < (dn w g).findIdx (fun y => decide (y = b.id))
theorem findIdx_app {l m : List Int} {x : Int} (h : x ∈ l) : (l ++ m).findIdx (fun y => decide (y = x)) = l.findIdx fun y => decide (y = x) := by
 rw [List.findIdx_append, if_pos]
 exact List.findIdx_lt_length_of_exists ⟨x, h, by simp⟩
theorem findIdx_new {l : List Int} {x : Int} (h : x ∉ l) : (l ++ [x]).findIdx (fun y => decide (y = x)) = l.length := by
 rw [List.findIdx_append, if_neg]
 ·simp
 ·intro hl
  have := List.findIdx_getElem (w := hl)
  simp only [decide_eq_true_eq] at this
  exact h (this ▸ List.getElem_mem hl)
theorem did_all (H : Inv isP clash PS w) {d : De} (hd : d ∈ w.deeds) {g : Nat} (hg : d.id ∈ dn w g) : ∀ x ∈ d.grs, isR w x.toNat d.id ∨ d.id ∈ dn w x.toNat := by
 by_cases hgo : goneC w d
 ·rcases H.go d hd hgo with h | h
  ·exact fun x hx => .inr (h x hx)
  ·exact absurd hg (h g)
 ·simp only [goneC, Classical.not_forall] at hgo
  obtain ⟨c, hc, e⟩ := hgo
  have e : c.de.id = d.id := Classical.not_not.1 e
  have C := H.ca _ c hc
  have hcd : c.de = d := H.deq C.de hd e
  cases hs : c.sure with
  | true => have := (C.su hs).1; rw [hcd] at this; exact this
  | false => have := (C.un hs).1; rw [hcd] at this; exact absurd hg (this g)
theorem rd_path (H : Inv isP clash PS w) {d : De} (hd : d ∈ w.deeds) {g : Nat} (h : isR w g d.id) : ∃ r ∈ rd w g, r.id = d.id ∧ ((g : Int), r.path) ∈ d.grs.zip d.pas := by
 obtain ⟨r, hr, e⟩ := h
 obtain ⟨x, hx, e', hz⟩ := (H.pt g).re r hr
 rw [H.deq hx hd (e'.trans e)] at hz
 exact ⟨r, hr, e, hz⟩
theorem ahead_step (hcom : ∀ p q, clash p q = clash q p) {a b : Wd} (Ha : Inv isP clash PS a) (Hb : Inv isP clash PS b) (E : Ev a b) {x y : De} (hx : x ∈ a.deeds) (hy : y ∈ a.deeds) (hne : x.id ≠ y.id) (hc : Cl2 clash x y) (h : Ahead a x y ∨ Ahead a y x) : Ahead b x y ∨ Ahead b y x := by
 rcases E.dn with e | ⟨j, d, hd, hr, hs, e, eo⟩
 ·rcases h with h | h
  ·exact .inl fun g h1 h2 h3 => by rw [e] at h3 ⊢; exact h g h1 h2 h3
  ·exact .inr fun g h1 h2 h3 => by rw [e] at h3 ⊢; exact h g h1 h2 h3
 · -- for two deeds, as they come
  have hnd : d.id ∉ dn a j := fun hh => ((Ha.pt j).di _ hh).2 hr
  have mem : ∀ g i, i ∈ dn b g → i ∈ dn a g ∨ (g = j ∧ i = d.id) := fun g i hh => by
   by_cases hg : g = j
   ·rw [hg, e] at hh
    rcases List.mem_append.1 hh with hh | hh
    ·rw [hg]; exact .inl hh
    ·exact .inr ⟨hg, List.mem_singleton.1 hh⟩
   ·rw [eo g hg] at hh; exact .inl hh
  have idx : ∀ g i, i ∈ dn a g → (dn b g).findIdx (fun y => decide (y = i)) = (dn a g).findIdx fun y => decide (y = i) := fun g i hh => by
   by_cases hg : g = j
   ·subst hg; rw [e]; exact findIdx_app hh
   ·rw [eo g hg]
  have sub : ∀ g i, i ∈ dn a g → i ∈ dn b g := fun g i hh => by
   by_cases hg : g = j
   ·subst hg; rw [e]; exact List.mem_append_left _ hh
   ·rw [eo g hg]; exact hh
  -- a pair that is ahead stays so, unless its second deed is done now
  have keepA : ∀ x y : De, Ahead a x y → y.id ≠ d.id → Ahead b x y := fun x y h hy g h1 h2 h3 => by
   rcases mem g _ h3 with h4 | ⟨_, h4⟩
   ·obtain ⟨h5, h6⟩ := h g h1 h2 h4
    exact ⟨sub g _ h5, by rw [idx g _ h5, idx g _ h4]; exact h6⟩
   ·exact absurd h4 hy
  -- the second deed is done now
  have now : ∀ x : De, x ∈ a.deeds → x.id ≠ d.id → (∀ g p q, (g, p) ∈ x.grs.zip x.pas → (g, q) ∈ d.grs.zip d.pas → clash p q = true) → Ahead a x d ∨ Ahead a d x → Ahead b x d ∨ Ahead b d x := fun x hx hxd hcx h => by
   by_cases hany : ∃ g, x.id ∈ dn a g
   ·obtain ⟨g0, hg0⟩ := hany
    have hall := did_all Ha hx hg0
    -- here it is done, if this is a group of both
    have here : (j : Int) ∈ x.grs → x.id ∈ dn a j := fun hj => by
     rcases hall _ hj with h1 | h1
     ·simp only [Int.toNat_natCast] at h1
      obtain ⟨r, hr1, e1, z1⟩ := rd_path Ha hx h1
      obtain ⟨s, hr2, e2, z2⟩ := rd_path Ha hd hr
      have hcl := hcx _ _ _ z1 z2
      have hrs : r ≠ s := fun he => hxd (by rw [← e1, he, e2])
      have hp : clash r.path s.path = false := by
       have P := (Ha.pt j).ap
       obtain ⟨i1, l1, q1⟩ := List.getElem_of_mem hr1
       obtain ⟨i2, l2, q2⟩ := List.getElem_of_mem hr2
       rcases Nat.lt_trichotomy i1 i2 with h | h | h
       ·have := List.pairwise_iff_getElem.1 P i1 i2 l1 l2 h
        rwa [q1, q2] at this
       ·subst h; rw [q1] at q2; exact absurd q2 hrs
       ·have := List.pairwise_iff_getElem.1 P i2 i1 l2 l1 h
        rw [q1, q2] at this
        rw [hcom]; exact this
      rw [hcl] at hp; cases hp
     ·simpa using h1
    rcases h with h | h
    ·left
     intro g h1 h2 h3
     rcases mem g _ h3 with h4 | ⟨h4, _⟩
     ·obtain ⟨h5, h6⟩ := h g h1 h2 h4
      exact ⟨sub g _ h5, by rw [idx g _ h5, idx g _ h4]; exact h6⟩
     ·subst h4
      have h5 := here h1
      refine ⟨sub g _ h5, ?_⟩
      rw [idx g _ h5, e, findIdx_new hnd]
      exact List.findIdx_lt_length_of_exists ⟨x.id, h5, by simp⟩
    · -- it was the other one that was ahead: then this group is not of both
     by_cases hj : (j : Int) ∈ x.grs
     ·have h5 := here hj
      obtain ⟨r, _, _, z⟩ := rd_path Ha hd hr
      exact absurd (h j (List.of_mem_zip z).1 hj h5).1 hnd
     ·right
      exact keepA d x h hxd
   · -- the other one was done by none
    right
    intro g h1 h2 h3
    rcases mem g _ h3 with h4 | ⟨_, h4⟩
    ·exact absurd ⟨g, h4⟩ hany
    ·exact absurd h4 hxd
  by_cases hyd : y.id = d.id
  ·have := Ha.deq hy hd hyd
   subst this
   exact now x hx hne hc h
  ·by_cases hxd : x.id = d.id
   ·have := Ha.deq hx hd hxd
    subst this
    have hc' : ∀ g p q, (g, p) ∈ y.grs.zip y.pas → (g, q) ∈ x.grs.zip x.pas → clash p q = true := fun g p q h1 h2 => by
     rw [hcom]; exact hc g q p h2 h1
    exact (now y hy (Ne.symm hne) hc' h.symm).symm
   ·rcases h with h | h
    ·exact .inl (keepA x y h hyd)
    ·exact .inr (keepA y x h hxd)
theorem ahead_evs (hcom : ∀ p q, clash p q = clash q p) {a b : Wd} (h : Evs isP clash PS a b) (h0 : ∀ x ∈ a.deeds, ∀ y ∈ a.deeds, x.id ≠ y.id → Cl2 clash x y → Ahead a x y ∨ Ahead a y x) : ∀ x ∈ b.deeds, ∀ y ∈ b.deeds, x.id ≠ y.id → Cl2 clash x y → Ahead b x y ∨ Ahead b y x := by
 refine Evs.keep (P := fun v => ∀ x ∈ v.deeds, ∀ y ∈ v.deeds, x.id ≠ y.id → Cl2 clash x y → Ahead v x y ∨ Ahead v y x) (fun a b Ha Hb E h x hx y hy hne hc => ?_) h h0
 rcases E.nw x hx with hx' | hx'
 ·rcases E.nw y hy with hy' | hy'
  ·exact ahead_step hcom Ha Hb E hx' hy' hne hc (h x hx' y hy' hne hc)
  ·exact .inl fun g _ _ h3 => absurd h3 (hy' g)
 ·exact .inr fun g _ _ h3 => absurd h3 (hx' g)
end
end Go.Cr
