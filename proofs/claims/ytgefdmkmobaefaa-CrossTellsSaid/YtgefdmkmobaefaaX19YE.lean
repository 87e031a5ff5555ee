import Derived.Test.YtgefdmkmobaefaaX19YA
import Derived.Test.YtgefdmkmobaefaaCrGA
set_option linter.unusedSimpArgs false
set_option linter.unusedVariables false
namespace Go.Proofs.Ytgefdmkmobaefaa
open Go.Am Go.Am.Nm Go.Lib Go.Cr
def hearR (p : Pt) (m : Mg) : Pt × List Mg × Int :=
 if m.to = p.id ∧ m.nums.length = 1 then
  let id := m.nums.headD 0
  let did := decide (id ∈ p.did)
  let is := p.ready.any fun r => decide (r.id = id)
  if m.kind = 1 then
   if did = true then (p, [msgP p.id m.fr 5 id], 0)
   else if is = true then (p, [msgP p.id m.fr 2 id], 0)
   else if isPth m.data = false ∨ lockedP isPth clsh p m.data = true then (p, [msgP p.id m.fr 3 id], 0)
   else (⟨p.id, false, unrd p id ++ [⟨id, m.data⟩], p.fd, p.did⟩, [msgP p.id m.fr 2 id], 0)
  else if m.kind = 4 then
   if is = true then (⟨p.id, false, unrd p id, false, p.did ++ [id]⟩, [msgP p.id m.fr 5 id], id)
   else if did = true then (p, [msgP p.id m.fr 5 id], 0) else (p, [], 0)
  else if m.kind = 6 then (⟨p.id, false, unrd p id, p.fd, p.did⟩, [], 0)
  else (p, [], 0)
 else (p, [], 0)
theorem hearR_eq (p : Pt) (fr id k : Int) (fn fd : Bool) (da : List UInt8) : hearR p ⟨fr, p.id, k, fn, [id], fd, da⟩ =
  (if k = 1 then
   if decide (id ∈ p.did) = true then (p, [msgP p.id fr 5 id], 0)
   else if (p.ready.any fun r => decide (r.id = id)) = true then (p, [msgP p.id fr 2 id], 0)
   else if isPth da = false ∨ lockedP isPth clsh p da = true then (p, [msgP p.id fr 3 id], 0)
   else (⟨p.id, false, unrd p id ++ [⟨id, da⟩], p.fd, p.did⟩, [msgP p.id fr 2 id], 0)
  else if k = 4 then
   if (p.ready.any fun r => decide (r.id = id)) = true then (⟨p.id, false, unrd p id, false, p.did ++ [id]⟩, [msgP p.id fr 5 id], id)
   else if decide (id ∈ p.did) = true then (p, [msgP p.id fr 5 id], 0) else (p, [], 0)
  else if k = 6 then (⟨p.id, false, unrd p id, p.fd, p.did⟩, [], 0)
  else (p, [], 0)) := by
 unfold hearR
 exact if_pos ⟨rfl, rfl⟩
theorem s59_k {n : Nat} (hn : 84 < n) (p : Pt) (fr id k : Int) (fn fd : Bool) (da : List UInt8) (hl : p.ready.length ≤ 1000000) (hl2 : p.did.length ≤ 1000000) (hda : k = 1 → da.length ≤ 1000000000) (hr : ∀ r ∈ p.ready, r.path.length ≤ 1000000000) :
  (C19.tab n).p 59 [Pv p, Mv ⟨fr, p.id, k, fn, [id], fd, da⟩] = some (.tup [Pv (hearR p ⟨fr, p.id, k, fn, [id], fd, da⟩).1, .lst true ((hearR p ⟨fr, p.id, k, fn, [id], fd, da⟩).2.1.map Mv), I (hearR p ⟨fr, p.id, k, fn, [id], fd, da⟩).2.2]) := by
 rw [p59 hn, runP_eq, runH_eq]
 have h50 := s50 (n := 84) (by decide) p.did id p.fd hl2
 have h87 := s87 (n := 84) (by decide) p id hl
 have h27 := fun h1 => s27 (n := 84) (by decide) p da hl (hda h1) hr
 have h44 := fun h1 => s44 (n := 84) (by decide) da (hda h1)
 obtain ⟨E, hE, h88⟩ := s88 (n := 84) (by decide) p id hl
 obtain ⟨E1, E2, rfl⟩ : ∃ a b, E = [a, b] := by match E, hE with | [a, b], _ => exact ⟨a, b, rfl⟩
 have hszU := szR (unrd p id)
 have h38 := fun k => s38 (n := 84) (by decide) p.id fr k id
 have hbs := toBytes_Bs da
 have hul : (unrd p id).length ≤ 1000000 := Nat.le_trans (List.length_filter_le _ _) hl
 rw [hearR_eq]
 simp only [Pv, Mv, Bs, List.cons_append, List.nil_append] at h87 h27 h88 h38 hbs
 generalize unrd p id = U at h88 hul hszU ⊢
 generalize lockedP isPth clsh p da = lk at h27 ⊢
 generalize isPth da = ip at h44 ⊢
 generalize (p.ready.any fun r => decide (r.id = id)) = is at h87 ⊢
 generalize decide (id ∈ p.did) = dd at h50 ⊢
 by_cases k1 : k = 1
 ·have h27 := h27 k1
  have h44 := h44 k1
  subst k1
  simp only [if_true]
  cases dd with
  | true =>
   simp -implicitDefEqProofs (disch := omega) [c59, Pv, Mv, Bs, a50, h50, a87, h87, a27, h27, a44, h44, a38, h38, hbs]
   done
  | false =>
   cases is with
   | true =>
    simp -implicitDefEqProofs (disch := omega) [c59, Pv, Mv, Bs, a50, h50, a87, h87, a27, h27, a44, h44, a38, h38, hbs]
    done
   | false =>
    cases ip with
    | false =>
     simp -implicitDefEqProofs (disch := omega) [c59, Pv, Mv, Bs, a50, h50, a87, h87, a27, h27, a44, h44, a38, h38, hbs]
     done
    | true =>
     cases lk with
     | true =>
      simp -implicitDefEqProofs (disch := omega) [c59, Pv, Mv, Bs, a50, h50, a87, h87, a27, h27, a44, h44, a38, h38, hbs]
      done
     | false =>
      simp -implicitDefEqProofs (disch := omega) [c59, Pv, Mv, Bs, a50, h50, a87, h87, a27, h27, a44, h44, a38, h38, h88, hbs, hszU]
      rfl
 ·by_cases k4 : k = 4
  ·subst k4
   simp only [show ¬ (4 : Int) = 1 from by decide, if_false, if_true]
   cases is with
   | true =>
    simp -implicitDefEqProofs (disch := omega) [c59, Pv, Mv, Bs, a50, h50, a87, h87, a38, h38, h88, hszU]
    done
   | false =>
    cases dd with
    | true =>
     simp -implicitDefEqProofs (disch := omega) [c59, Pv, Mv, Bs, a50, h50, a87, h87, a38, h38]
     done
    | false =>
     simp -implicitDefEqProofs (disch := omega) [c59, Pv, Mv, Bs, a50, h50, a87, h87, a38, h38]
     done
  ·by_cases k6 : k = 6
   ·subst k6
    simp only [show ¬ (6 : Int) = 1 from by decide, show ¬ (6 : Int) = 4 from by decide, if_false, if_true]
    simp -implicitDefEqProofs (disch := omega) [c59, Pv, Mv, Bs, a50, h50, a87, h87, h88, hszU]
    done
   ·simp only [if_neg k1, if_neg k4, if_neg k6]
    simp -implicitDefEqProofs (disch := omega) [c59, Pv, Mv, Bs, a50, h50, a87, h87, k1, k4, k6]
    done
theorem s59 {n : Nat} (hn : 84 < n) (p : Pt) (m : Mg) (hl : p.ready.length ≤ 1000000) (hl2 : p.did.length ≤ 1000000) (hda : m.kind = 1 → m.data.length ≤ 1000000000) (hr : ∀ r ∈ p.ready, r.path.length ≤ 1000000000) :
  (C19.tab n).p 59 [Pv p, Mv m] = some (.tup [Pv (hearR p m).1, .lst true ((hearR p m).2.1.map Mv), I (hearR p m).2.2]) := by
 obtain ⟨fr, to, k, fn, nu, fd, da⟩ := m
 by_cases h1 : to = p.id ∧ nu.length = 1
 ·obtain ⟨rfl, h2⟩ := h1
  obtain ⟨id, rfl⟩ : ∃ x, nu = [x] := by match nu, h2 with | [x], _ => exact ⟨x, rfl⟩
  exact s59_k hn p fr id k fn fd da hl hl2 hda hr
 ·have ht : hearR p ⟨fr, to, k, fn, nu, fd, da⟩ = (p, [], 0) := by unfold hearR; rw [if_neg h1]
  rw [ht, p59 hn, runP_eq, runH_eq]
  by_cases c1 : to = p.id
  ·by_cases c2 : nu.length = 1
   ·exact absurd ⟨c1, c2⟩ h1
   ·simp -implicitDefEqProofs (disch := omega) [c59, Pv, Mv, Bs, c1, c2]
  ·simp -implicitDefEqProofs (disch := omega) [c59, Pv, Mv, Bs, c1]
end Go.Proofs.Ytgefdmkmobaefaa

namespace Go.Proofs.Ytgefdmkmobaefaa
open Go.Am Go.Am.Nm Go.Lib Go.Cr
theorem up_eq : ∀ {a b : List Int}, a.Pairwise (· < ·) → b.Pairwise (· < ·) → (∀ x, x ∈ a ↔ x ∈ b) → a = b
 | [], [], _, _, _ => rfl
 | [], y :: b, _, _, h => absurd ((h y).2 List.mem_cons_self) (by simp)
 | x :: a, [], _, _, h => absurd ((h x).1 List.mem_cons_self) (by simp)
 | x :: a, y :: b, ha, hb, h => by
  rw [List.pairwise_cons] at ha hb
  have hxy : x = y := by
   have h1 := (h x).1 List.mem_cons_self
   have h2 := (h y).2 List.mem_cons_self
   rw [List.mem_cons] at h1 h2
   rcases h1 with e | h1
   ·exact e
   ·rcases h2 with e | h2
    ·exact e.symm
    ·have := hb.1 x h1
     have := ha.1 y h2
     omega
  subst hxy
  have := up_eq ha.2 hb.2 (fun z => by
   have := h z
   simp only [List.mem_cons] at this
   constructor
   ·intro hz
    have := ha.1 z hz
    rcases (h z).1 (List.mem_cons_of_mem _ hz) with _ | ⟨_, h'⟩
    ·omega
    ·exact h'
   ·intro hz
    have := hb.1 z hz
    rcases (h z).2 (List.mem_cons_of_mem _ hz) with _ | ⟨_, h'⟩
    ·omega
    ·exact h')
  rw [this]
theorem G8_up : G8.Pairwise (· < ·) := by decide
theorem G8_mem {x : Int} : x ∈ G8 ↔ 0 ≤ x ∧ x < 8 := by
 unfold G8
 simp only [List.mem_map, List.mem_range]
 constructor
 ·rintro ⟨a, h, rfl⟩
  simp only [Int.ofNat_eq_natCast]
  omega
 ·rintro ⟨h1, h2⟩
  exact ⟨x.toNat, by omega, by simp only [Int.ofNat_eq_natCast]; omega⟩
theorem hear8_eq {l : List Int} {w : Int} (h : l.Pairwise (· < ·)) (hl : ∀ x ∈ l, 0 ≤ x ∧ x < 8) (hw : 0 ≤ w ∧ w < 8) : hear8 l w = hearL l w := by
 refine up_eq (List.Pairwise.filter _ G8_up) (hearL_up h) fun x => ?_
 unfold hear8
 rw [List.mem_filter, hearL_mem, G8_mem]
 simp only [Bool.or_eq_true, decide_eq_true_eq]
 constructor
 ·rintro ⟨-, h | h⟩
  ·exact .inr h
  ·exact .inl h
 ·rintro (rfl | h)
  ·exact ⟨hw, .inr rfl⟩
  ·exact ⟨hl x h, .inl h⟩
theorem Bz_withC (b : Bo) (l : List Ca) : Bz (withC b l) = ⟨b.id, b.next, true, l.map Cz⟩ := rfl
theorem telR_ok (b : Bo) (m : Mg) (hb : ∀ c ∈ b.cases, c.heard.Pairwise (· < ·) ∧ (∀ x ∈ c.heard, 0 ≤ x ∧ x < 8) ∧ ∀ x ∈ c.de.grs, 0 ≤ x ∧ x < 8) :
  Bz (tellP b m).1 = Bz (telR b m).1 ∧ (tellP b m).2 = (telR b m).2 := by
 unfold tellP telR
 by_cases hg : m.to = b.id ∧ m.nums.length = 1 ∧ (m.kind = 2 ∨ m.kind = 3 ∨ m.kind = 5 ∨ m.kind = 7)
 ·rw [if_pos hg, if_pos hg]
  cases hc : b.cases[caseAt b (m.nums.headD 0)]? with
  | none => exact ⟨by trivial, by trivial⟩
  | some c =>
   simp only
   by_cases hm : m.fr ∈ c.de.grs
   ·rw [if_pos hm, if_pos hm]
    obtain ⟨q1, q2, q3⟩ := hb c (List.mem_of_getElem? hc)
    have e := hear8_eq q1 q2 (q3 _ hm)
    unfold tellC telC
    rw [e]
    have hk := hg.2.2
    generalize m.kind = k at hk ⊢
    cases hs : c.sure with
    | true =>
     simp only [if_true]
     rcases hk with rfl | rfl | rfl | rfl
     ·exact ⟨by trivial, by trivial⟩
     ·exact ⟨by trivial, by trivial⟩
     ·simp only [show ¬ (5 : Int) = 3 from by decide, if_false, if_true]
      by_cases hq : (hearL c.heard m.fr).length = c.de.grs.length
      ·simp only [if_pos hq]; exact ⟨by trivial, by trivial⟩
      ·simp only [if_neg hq, Bz_withC, List.map_set]; exact ⟨by trivial, by trivial⟩
     ·exact ⟨by trivial, by trivial⟩
    | false =>
     simp only [Bool.false_eq_true, if_false]
     rcases hk with rfl | rfl | rfl | rfl
     ·simp only [show ¬ (2 : Int) = 3 from by decide, if_false, if_true]
      by_cases hq : (hearL c.heard m.fr).length = c.de.grs.length
      ·simp only [if_pos hq]; exact ⟨by trivial, by trivial⟩
      ·simp only [if_neg hq, Bz_withC, List.map_set]; exact ⟨by trivial, by trivial⟩
     ·exact ⟨by trivial, by trivial⟩
     ·exact ⟨by trivial, by trivial⟩
     ·exact ⟨by trivial, by trivial⟩
   ·rw [if_neg hm, if_neg hm]; exact ⟨by trivial, by trivial⟩
 ·rw [if_neg hg, if_neg hg]; exact ⟨by trivial, by trivial⟩
theorem unrd_none {p : Pt} {id : Int} (h : (p.ready.any fun r => decide (r.id = id)) = false) : unrd p id = p.ready := by
 unfold unrd
 rw [List.filter_eq_self]
 intro r hr
 rw [List.any_eq_false] at h
 have := h r hr
 simpa using this
theorem erase_filter (id : Int) : ∀ l : List Rd, (l.map fun r => r.id).Nodup → l.eraseIdx (l.findIdx fun r => decide (r.id = id)) = l.filter fun r => decide (r.id ≠ id)
 | [], _ => rfl
 | r :: l, h => by
  rw [List.map_cons, List.nodup_cons] at h
  rw [List.findIdx_cons, List.filter_cons]
  by_cases e : r.id = id
  ·simp only [e, decide_true, cond_true, List.eraseIdx_cons_zero, ne_eq, not_true_eq_false, decide_false, Bool.false_eq_true, if_false]
   symm
   rw [List.filter_eq_self]
   intro x hx
   simp only [decide_not, Bool.not_eq_true', decide_eq_false_iff_not]
   intro hxi
   exact h.1 (List.mem_map.2 ⟨x, hx, by rw [hxi, e]⟩)
  ·have := erase_filter id l h.2
   simp only [e, decide_false, cond_false, List.eraseIdx_cons_succ, ne_eq, not_false_eq_true, decide_true, if_true]
   rw [this]
theorem hearR_ok (p : Pt) (m : Mg) (hn : (p.ready.map fun r => r.id).Nodup) :
  Pz (hearP isPth clsh p m).1 = Pz (hearR p m).1 ∧ (hearP isPth clsh p m).2.1 = (hearR p m).2.1 ∧ (hearP isPth clsh p m).2.2 = (hearR p m).2.2 := by
 unfold hearP hearR
 by_cases hg : m.to = p.id ∧ m.nums.length = 1
 ·simp only [if_pos hg]
  generalize m.nums.headD 0 = id
  have e := erase_filter id p.ready hn
  cases hi : p.ready.any fun r => decide (r.id = id) with
  | true =>
   simp only [if_true]
   by_cases k1 : m.kind = 1
   ·simp only [if_pos k1]; exact ⟨by trivial, by trivial, by trivial⟩
   ·simp only [if_neg k1, e]
    by_cases k4 : m.kind = 4
    ·simp only [if_pos k4]; exact ⟨by trivial, by trivial, by trivial⟩
    ·simp only [if_neg k4]
     by_cases k6 : m.kind = 6
     ·simp only [if_pos k6]; exact ⟨by trivial, by trivial, by trivial⟩
     ·simp only [if_neg k6]; exact ⟨by trivial, by trivial, by trivial⟩
  | false =>
   simp only [Bool.false_eq_true, if_false, unrd_none hi]
   by_cases k1 : m.kind = 1
   ·simp only [if_pos k1]; exact ⟨by trivial, by trivial, by trivial⟩
   ·simp only [if_neg k1]
    by_cases k4 : m.kind = 4
    ·simp only [if_pos k4]; exact ⟨by trivial, by trivial, by trivial⟩
    ·simp only [if_neg k4]
     by_cases k6 : m.kind = 6
     ·simp only [if_pos k6]; exact ⟨by trivial, by trivial, by trivial⟩
     ·simp only [if_neg k6]; exact ⟨by trivial, by trivial, by trivial⟩
 ·simp only [if_neg hg]; exact ⟨by trivial, by trivial, by trivial⟩
end Go.Proofs.Ytgefdmkmobaefaa

namespace Go.Proofs.Ytgefdmkmobaefaa
open Go.Am Go.Am.Nm Go.Lib Go.Cr
def Sm (c : Ca) : Prop := c.de.grs.length ≤ 1000 ∧ c.de.pas.length ≤ 1000 ∧ c.heard.length ≤ 1000
theorem Sm.ok {c : Ca} (h : Sm c) : OkC c := ⟨by have := h.1; omega, by have := h.2.1; omega, by have := h.2.2; omega⟩
theorem okM_msg (fr to k id : Int) : OkM (msgP fr to k id) := ⟨by simp [msgP], by simp [msgP]⟩
theorem okM_all (b : Bo) (d : De) (k : Int) : ∀ x ∈ allP b d k, OkM x := fun x hx => by
 obtain ⟨g, -, rfl⟩ := List.mem_map.1 hx
 exact okM_msg _ _ _ _
theorem hearL_len (l : List Int) (g : Int) : (hearL l g).length ≤ l.length + 1 := by
 unfold hearL insI
 split
 ·omega
 ·simp; omega
def Fine (r : Bo × List Mg) : Prop := (r.1.cases.length ≤ 1000000 ∧ ∀ c ∈ r.1.cases, OkC c) ∧ r.2.length ≤ 1000000 ∧ ∀ x ∈ r.2, OkM x
theorem tellP_fine (b : Bo) (m : Mg) (hl : b.cases.length ≤ 1000000) (hb : ∀ c ∈ b.cases, Sm c) : Fine (tellP b m) := by
 have h0 : ∀ l : List Mg, l.length ≤ 1000000 → (∀ x ∈ l, OkM x) → Fine (b, l) := fun l h1 h2 => ⟨⟨hl, fun c hc => (hb c hc).ok⟩, h1, h2⟩
 have h1 : ∀ x, Fine (b, [msgP b.id x 6 (m.nums.headD 0)]) := fun x => h0 _ (by simp) (by simp [okM_msg])
 have hn : Fine (b, []) := h0 _ (by simp) (by simp)
 unfold tellP
 split
 ·split
  ·split
   ·exact h1 _
   ·exact hn
  ·rename_i c hc
   have hcm := List.mem_of_getElem? hc
   obtain ⟨q1, q2, q3⟩ := hb c hcm
   have hhl := hearL_len c.heard m.fr
   split
   ·have hw : ∀ l : List Mg, l.length ≤ 1000000 → (∀ x ∈ l, OkM x) → Fine (withC b b.cases, l) := fun l a1 a2 => ⟨⟨hl, fun c hc => (hb c hc).ok⟩, a1, a2⟩
    have he : ∀ (k : Nat) (l : List Mg), l.length ≤ 1000000 → (∀ x ∈ l, OkM x) → Fine (withC b (b.cases.eraseIdx k), l) := fun k l a1 a2 => ⟨⟨Nat.le_trans (List.length_eraseIdx_le _ _) hl, fun c hc => (hb c (List.mem_of_mem_eraseIdx hc)).ok⟩, a1, a2⟩
    have hs : ∀ (k : Nat) (c' : Ca) (l : List Mg), OkC c' → l.length ≤ 1000000 → (∀ x ∈ l, OkM x) → Fine (withC b (b.cases.set k c'), l) := fun k c' l a0 a1 a2 => ⟨⟨by simpa [withC] using hl, fun c hc => by
     rcases List.mem_or_eq_of_mem_set hc with h | rfl
     ·exact (hb c h).ok
     ·exact a0⟩, a1, a2⟩
    have ha : ∀ k, (allP b c.de k).length ≤ 1000000 := fun k => by rw [allP_len]; omega
    unfold tellC
    split
    ·split
     ·exact hw _ (by simp) (by simp)
     ·split
      ·split
       ·exact he _ _ (by simp) (by simp)
       ·exact hs _ _ _ ⟨by simp only; omega, by simp only; omega, by simp only; omega⟩ (by simp) (by simp)
      ·exact hw _ (by simp) (by simp [okM_msg])
    ·split
     ·exact he _ _ (ha _) (okM_all _ _ _)
     ·split
      ·split
       ·exact hs _ _ _ ⟨by simp only; omega, by simp only; omega, by simp⟩ (ha _) (okM_all _ _ _)
       ·exact hs _ _ _ ⟨by simp only; omega, by simp only; omega, by simp only; omega⟩ (by simp) (by simp)
      ·exact hw _ (by simp) (by simp)
   ·exact hn
 ·exact hn
theorem giveP_fine (b : Bo) (id : Int) (hl : b.cases.length ≤ 1000000) (hb : ∀ c ∈ b.cases, Sm c) : Fine (giveP b id) := by
 have hn : Fine (b, []) := ⟨⟨hl, fun c hc => (hb c hc).ok⟩, by simp, by simp⟩
 unfold giveP
 split
 ·exact hn
 ·rename_i c hc
  split
  ·exact hn
  ·refine ⟨⟨Nat.le_trans (List.length_eraseIdx_le _ _) hl, fun c hc => (hb c (List.mem_of_mem_eraseIdx hc)).ok⟩, ?_, okM_all _ _ _⟩
   rw [allP_len]
   have := (hb c (List.mem_of_getElem? hc)).1
   omega
theorem hearP_fine (p : Pt) (m : Mg) (hl : p.ready.length ≤ 1000) (hl2 : p.did.length ≤ 1000) :
  (hearP isPth clsh p m).1.ready.length ≤ 1000000 ∧ (hearP isPth clsh p m).1.did.length ≤ 1000000 ∧ (hearP isPth clsh p m).2.1.length ≤ 1000000 ∧ ∀ x ∈ (hearP isPth clsh p m).2.1, OkM x := by
 have he := fun k => List.length_eraseIdx_le p.ready k
 have h1 : ∀ (q : Pt) (k : Int) (i j : Int), q.ready.length ≤ 1000000 → q.did.length ≤ 1000000 → ∀ r : Pt × List Mg × Int, r = (q, [msgP p.id m.fr k i], j) → r.1.ready.length ≤ 1000000 ∧ r.1.did.length ≤ 1000000 ∧ r.2.1.length ≤ 1000000 ∧ ∀ x ∈ r.2.1, OkM x := fun q k i j a b r e => by
  subst e; exact ⟨a, b, by simp, by simp [okM_msg]⟩
 have h2 : ∀ (q : Pt) (j : Int), q.ready.length ≤ 1000000 → q.did.length ≤ 1000000 → ∀ r : Pt × List Mg × Int, r = (q, [], j) → r.1.ready.length ≤ 1000000 ∧ r.1.did.length ≤ 1000000 ∧ r.2.1.length ≤ 1000000 ∧ ∀ x ∈ r.2.1, OkM x := fun q j a b r e => by
  subst e; exact ⟨a, b, by simp, by simp⟩
 have w1 : p.ready.length ≤ 1000000 := by omega
 have w2 : p.did.length ≤ 1000000 := by omega
 unfold hearP
 split
 ·simp only
  split
  ·split
   ·exact h1 p _ _ _ w1 w2 _ rfl
   ·split
    ·exact h1 p _ _ _ w1 w2 _ rfl
    ·split
     ·exact h1 p _ _ _ w1 w2 _ rfl
     ·exact h1 ⟨p.id, false, p.ready ++ [⟨m.nums.headD 0, m.data⟩], p.fd, p.did⟩ _ _ _ (by simp only [List.length_append, List.length_cons, List.length_nil]; omega) w2 _ rfl
  ·split
   ·split
    ·exact h1 ⟨p.id, false, p.ready.eraseIdx (p.ready.findIdx fun r => decide (r.id = m.nums.headD 0)), false, p.did ++ [m.nums.headD 0]⟩ _ _ _ (Nat.le_trans (he _) w1) (by simp only [List.length_append, List.length_cons, List.length_nil]; omega) _ rfl
    ·split
     ·exact h1 p _ _ _ w1 w2 _ rfl
     ·exact h2 p _ w1 w2 _ rfl
   ·split
    ·split
     ·exact h2 ⟨p.id, false, p.ready.eraseIdx (p.ready.findIdx fun r => decide (r.id = m.nums.headD 0)), p.fd, p.did⟩ _ (Nat.le_trans (he _) w1) w2 _ rfl
     ·exact h2 p _ w1 w2 _ rfl
    ·exact h2 p _ w1 w2 _ rfl
 ·exact h2 p _ w1 w2 _ rfl
end Go.Proofs.Ytgefdmkmobaefaa

namespace Go.Proofs.Ytgefdmkmobaefaa
open Go.Am Go.Am.Nm Go.Lib Go.Cr
structure FitBP (b : Bo) (p : Pt) : Prop where
 bl : b.cases.length ≤ 1000
 bc : ∀ c ∈ b.cases, Sm c ∧ c.heard.Pairwise (· < ·) ∧ (∀ x ∈ c.heard, 0 ≤ x ∧ x < 8) ∧ ∀ x ∈ c.de.grs, 0 ≤ x ∧ x < 8
 rl : p.ready.length ≤ 1000
 dl : p.did.length ≤ 1000
 rp : ∀ r ∈ p.ready, r.path.length ≤ 1000000000
 nd : (p.ready.map fun r => r.id).Nodup
theorem FitBP.okB {b : Bo} {p : Pt} (h : FitBP b p) : OkB b := ⟨by have := h.bl; omega, fun c hc => ⟨(h.bc c hc).1.ok, (h.bc c hc).2.1⟩⟩
theorem s28 {n : Nat} (hn : 87 < n) (b : Bo) (p : Pt) (m : Mg) (h : FitBP b p) (hda : m.kind = 1 → m.data.length ≤ 1000000000) : (C19.tab n).p 28 [Bv b, Pv p, Mv m] = some (.bool true) := by
 rw [p28 hn, runP_eq, runH_eq]
 have hob := h.okB
 have hrl := h.rl
 have hdl := h.dl
 have hbl : b.cases.length ≤ 1000000 := by have := h.bl; omega
 obtain ⟨f1, h37⟩ := s37 (n := 87) (by decide) b m hob
 obtain ⟨f2, h58⟩ := s58 (n := 87) (by decide) b m hob
 have h35 := s35 (n := 87) (by decide) p m (by omega) (by omega)
 have h59 := s59 (n := 87) (by decide) p m (by omega) (by omega) hda h.rp
 obtain ⟨e1, e2⟩ := telR_ok b m fun c hc => (h.bc c hc).2
 obtain ⟨e3, e4, e5⟩ := hearR_ok p m h.nd
 obtain ⟨⟨g1, g2⟩, g3, g4⟩ := tellP_fine b m hbl fun c hc => (h.bc c hc).1
 obtain ⟨k1, k2, k3, k4⟩ := hearP_fine p m hrl hdl
 have h14 := s14 (n := 87) (by decide) _ _ e1 g1 g2
 have h15 := s15 (n := 87) (by decide) (tellP b m).2 (telR b m).2 f1 f2 (by rw [e2]) g3 g4
 have h60 := s60 (n := 87) (by decide) _ _ e3 k1 k2
 have h15' := s15 (n := 87) (by decide) (hearP isPth clsh p m).2.1 (hearR p m).2.1 true true (by rw [e4]) k3 k4
 rw [← e5] at h59
 generalize tellP b m = T at h37 h14 h15
 generalize telR b m = T' at h58 h14 h15
 generalize hearP isPth clsh p m = H at h35 h59 h60 h15'
 generalize hearR p m = H' at h59 h60 h15'
 simp only [Bv, Pv, Mv] at h37 h58 h35 h59 h14 h60
 obtain ⟨fr, to, k, fn, nu, fd, da⟩ := m
 simp only at h37 h58 h35 h59
 cases nu with
 | nil =>
  simp only [List.map_nil] at h37 h58 h35 h59
  simp -implicitDefEqProofs (disch := omega) [c28, Bv, Pv, Mv, a37, h37, a58, h58, a35, h35, a59, h59, a14, h14, a15, h15, h15', a60, h60]
  done
 | cons id nu =>
  obtain ⟨f3, h32⟩ := s32 (n := 87) (by decide) b id hob
  obtain ⟨f4, h61⟩ := s61 (n := 87) (by decide) b id hob
  obtain ⟨⟨q1, q2⟩, q3, q4⟩ := giveP_fine b id hbl fun c hc => (h.bc c hc).1
  have h14' := s14 (n := 87) (by decide) (giveP b id).1 (giveP b id).1 rfl q1 q2
  have h15'' := s15 (n := 87) (by decide) (giveP b id).2 (giveP b id).2 f3 f4 rfl q3 q4
  generalize giveP b id = G at h32 h61 h14' h15''
  simp only [Bv] at h32 h61 h14'
  simp only [List.map_cons] at h37 h58 h35 h59
  simp -implicitDefEqProofs (disch := omega) [c28, Bv, Pv, Mv, a37, h37, a58, h58, a35, h35, a59, h59, a14, h14, h14', a15, h15, h15', h15'', a60, h60, a32, h32, a61, h61]
  done
end Go.Proofs.Ytgefdmkmobaefaa
