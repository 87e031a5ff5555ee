/-
 Deeds of several groups, in plain Lean: bosses, parts, messages.
-/
set_option linter.unusedSimpArgs false
set_option linter.unusedVariables false
namespace Go.Cr
structure Mg where
 fr : Int
 to : Int
 kind : Int
 fn : Bool
 nums : List Int
 fd : Bool
 data : List UInt8
structure De where
 id : Int
 fg : Bool
 grs : List Int
 fp : Bool
 pas : List (List UInt8)
structure Ca where
 de : De
 sure : Bool
 fh : Bool
 heard : List Int
structure Bo where
 id : Int
 next : Int
 fc : Bool
 cases : List Ca
structure Rd where
 id : Int
 path : List UInt8
structure Pt where
 id : Int
 fr : Bool
 ready : List Rd
 fd : Bool
 did : List Int
structure Wd where
 bs : List Bo
 ps : List Pt
 wire : List Mg
 deeds : List De
 did : List (Bool × List Int)
def msgP (fr to kind id : Int) : Mg := ⟨fr, to, kind, true, [id], true, []⟩
def prepP (fr to id : Int) (path : List UInt8) : Mg := ⟨fr, to, 1, true, [id], false, path⟩
def allP (b : Bo) (d : De) (k : Int) : List Mg := d.grs.map fun g => msgP b.id g k d.id
def cutI (l : List Int) (x : Int) : Nat := l.findIdx fun y => decide (x ≤ y)
def insI (l : List Int) (x : Int) : List Int := l.take (cutI l x) ++ x :: l.drop (cutI l x)
def hearF (c : Ca) (g : Int) : Bool := if g ∈ c.heard then c.fh else false
def hearL (l : List Int) (g : Int) : List Int := if g ∈ l then l else insI l g
def caseAt (b : Bo) (id : Int) : Nat := b.cases.findIdx fun c => decide (c.de.id = id)
def withC (b : Bo) (l : List Ca) : Bo := ⟨b.id, b.next, false, l⟩
def tellC (b : Bo) (i : Nat) (c : Ca) (g k : Int) : Bo × List Mg :=
 if c.sure = true then
  if k = 3 then (withC b b.cases, [])
  else if k = 5 then
   if (hearL c.heard g).length = c.de.grs.length then (withC b (b.cases.eraseIdx i), []) else (withC b (b.cases.set i { c with fh := hearF c g, heard := hearL c.heard g }), [])
  else (withC b b.cases, [msgP b.id g 4 c.de.id])
 else
  if k = 3 then (withC b (b.cases.eraseIdx i), allP b c.de 6)
  else if k = 2 then
   if (hearL c.heard g).length = c.de.grs.length then (withC b (b.cases.set i { c with sure := true, fh := true, heard := [] }), allP b c.de 4) else (withC b (b.cases.set i { c with fh := hearF c g, heard := hearL c.heard g }), [])
  else (withC b b.cases, [])
def tellP (b : Bo) (m : Mg) : Bo × List Mg :=
 if m.to = b.id ∧ m.nums.length = 1 ∧ (m.kind = 2 ∨ m.kind = 3 ∨ m.kind = 5 ∨ m.kind = 7) then
  match b.cases[caseAt b (m.nums.headD 0)]? with
  | none => if m.kind = 2 ∨ m.kind = 7 then (b, [msgP b.id m.fr 6 (m.nums.headD 0)]) else (b, [])
  | some c => if m.fr ∈ c.de.grs then tellC b (caseAt b (m.nums.headD 0)) c m.fr m.kind else (b, [])
 else (b, [])
def againZ (b : Bo) (c : Ca) (g : Int) (p : List UInt8) : List Mg := if g ∈ c.heard then [] else if c.sure = true then [msgP b.id g 4 c.de.id] else [prepP b.id g c.de.id p]
def againC (b : Bo) (c : Ca) : List Mg := ((c.de.grs.zip c.de.pas).map fun x => againZ b c x.1 x.2).flatten
def againP (b : Bo) : List Mg := (b.cases.map (againC b)).flatten
def giveP (b : Bo) (id : Int) : Bo × List Mg := match b.cases[caseAt b id]? with
 | none => (b, [])
 | some c => if c.sure = true then (b, []) else (withC b (b.cases.eraseIdx (caseAt b id)), allP b c.de 6)
def backP (b : Bo) : Bo := withC b (b.cases.filter fun c => c.sure)
section
variable (isP : List UInt8 → Bool) (clash : List UInt8 → List UInt8 → Bool)
def goodG (l : List Int) (i : Nat) : Bool := decide (0 ≤ (l[i]?).getD 0 ∧ (l[i]?).getD 0 < 8) && (decide (i = 0) || decide ((l[i - 1]?).getD 0 < (l[i]?).getD 0))
def grsOK (l : List Int) : Bool := (List.range l.length).all (goodG l)
def mayP (b : Bo) (grs : List Int) (pas : List (List UInt8)) : Int :=
 if grs = [] ∨ grs.length ≠ pas.length then 1
 else if grsOK grs = false then 1
 else if (pas.all isP) = false then 60
 else if 16 ≤ b.cases.length ∨ 4294967296 ≤ b.next then 76 else 0
def startP (b : Bo) (grs : List Int) (pas : List (List UInt8)) : Bo × Int × List Mg × Int :=
 if mayP isP b grs pas = 0 then
  (⟨b.id, b.next + 1, false, b.cases ++ [⟨⟨8 * (b.next + 1) + b.id, false, grs, false, pas⟩, false, true, []⟩]⟩, 8 * (b.next + 1) + b.id,
   (grs.zip pas).map fun x => prepP b.id x.1 (8 * (b.next + 1) + b.id) x.2, 0)
 else (b, 0, [], mayP isP b grs pas)
def lockedP (p : Pt) (path : List UInt8) : Bool := isP path && p.ready.any fun r => clash r.path path
def hearP (p : Pt) (m : Mg) : Pt × List Mg × Int :=
 if m.to = p.id ∧ m.nums.length = 1 then
  let id := m.nums.headD 0
  let did := decide (id ∈ p.did)
  let is := p.ready.any fun r => decide (r.id = id)
  if m.kind = 1 then
   if did = true then (p, [msgP p.id m.fr 5 id], 0)
   else if is = true then (p, [msgP p.id m.fr 2 id], 0)
   else if isP m.data = false ∨ lockedP isP clash p m.data = true then (p, [msgP p.id m.fr 3 id], 0)
   else (⟨p.id, false, p.ready ++ [⟨id, m.data⟩], p.fd, p.did⟩, [msgP p.id m.fr 2 id], 0)
  else if m.kind = 4 then
   if is = true then (⟨p.id, false, p.ready.eraseIdx (p.ready.findIdx fun r => decide (r.id = id)), false, p.did ++ [id]⟩, [msgP p.id m.fr 5 id], id)
   else if did = true then (p, [msgP p.id m.fr 5 id], 0) else (p, [], 0)
  else if m.kind = 6 then
   if is = true then (⟨p.id, false, p.ready.eraseIdx (p.ready.findIdx fun r => decide (r.id = id)), p.fd, p.did⟩, [], 0) else (p, [], 0)
  else (p, [], 0)
 else (p, [], 0)
def askP (p : Pt) : List Mg := p.ready.map fun r => msgP p.id (r.id.tmod 8) 7 r.id
end
end Go.Cr

/-
 What becomes of a world by its acts.
-/
namespace Go.Cr
section
variable (isP : List UInt8 → Bool) (clash : List UInt8 → List UInt8 → Bool)
def sendL (w : List Mg) (l : List Mg) : List Mg := w ++ l.take (200 - w.length)
def sendW (w : Wd) (l : List Mg) : Wd := { w with wire := sendL w.wire l }
def lossW (w : Wd) (i : Nat) : Wd := { w with wire := w.wire.take i ++ w.wire.drop (i + 1) }
def tellW (w : Wd) (k : Nat) (b : Bo) (m : Mg) : Wd := sendW { w with bs := w.bs.set k (tellP b m).1 } (tellP b m).2
def doneW (w : Wd) (k : Nat) (d : Bool × List Int) (id : Int) : Wd := if id = 0 then w else { w with did := w.did.set k (false, d.2 ++ [id]) }
def hearW (w : Wd) (k : Nat) (p : Pt) (d : Bool × List Int) (m : Mg) : Wd :=
 sendW (doneW { w with ps := w.ps.set k (hearP isP clash p m).1 } k d (hearP isP clash p m).2.2) (hearP isP clash p m).2.1
def comeW (w : Wd) (m : Mg) : Wd :=
 if m.to < 0 ∨ 4 ≤ m.to then w else
 match w.bs[m.to.toNat]?, w.ps[m.to.toNat]?, w.did[m.to.toNat]? with
 | some b, some p, some d => hearW isP clash (tellW w m.to.toNat b m) m.to.toNat p d m
 | _, _, _ => w
def takeW (w : Wd) (i : Nat) (twice : Bool) : Wd := match w.wire[i]? with
 | none => w
 | some m => comeW isP clash (if twice = true then w else lossW w i) m
end
end Go.Cr

/-
 Acts, and what is always so of a world.
-/
namespace Go.Cr
structure Ac where
 op : Nat
 who : Nat
 to : Nat
 a0 : Nat
 a1 : Nat
 a2 : Nat
def pathN (n : Nat) : List UInt8 := ([[47, 97], [47, 98], [47, 97, 47, 98], [47, 99], [47, 100, 47, 101], [47, 100], [47, 101], [47, 102, 47, 103]][n % 8]?).getD []
def Ac.at3 (x : Ac) (k : Nat) : Nat := ([x.a0, x.a1, x.a2][k % 3]?).getD 0
def begS (x : Ac) (s : List Int × List (List UInt8) × Nat) (g : Nat) : List Int × List (List UInt8) × Nat :=
 if s.2.2 % 2 = 1 then (s.1 ++ [(g : Int)], s.2.1 ++ [pathN ((x.at3 (s.1.length + 1) + g) % 256)], s.2.2 / 2) else (s.1, s.2.1, s.2.2 / 2)
def begL (x : Ac) : List Int × List (List UInt8) × Nat := [0, 1, 2, 3].foldl (begS x) ([], [], x.to % 15 + 1)
section
variable (isP : List UInt8 → Bool) (clash : List UInt8 → List UInt8 → Bool)
def startW (w : Wd) (k : Nat) (b : Bo) (grs : List Int) (pas : List (List UInt8)) : Wd :=
 sendW { w with bs := w.bs.set k (startP isP b grs pas).1, deeds := if mayP isP b grs pas = 0 then w.deeds ++ [⟨(startP isP b grs pas).2.1, false, grs, false, pas⟩] else w.deeds } (startP isP b grs pas).2.2.1
def beginW (w : Wd) (x : Ac) : Wd := match w.bs[x.who % 4]? with
 | none => w
 | some b => startW isP w (x.who % 4) b (begL x).1 (begL x).2.1
def giveW (w : Wd) (k : Nat) (b : Bo) (id : Int) : Wd := sendW { w with bs := w.bs.set k (giveP b id).1 } (giveP b id).2
def doW (w : Wd) (x : Ac) : Wd :=
 match w.bs[x.who % 4]?, w.ps[x.who % 4]? with
 | some b, some p =>
  if x.op % 16 ≤ 2 then beginW isP w x
  else if x.op % 16 = 3 then sendW w (againP b)
  else if x.op % 16 = 4 then sendW w (askP p)
  else if x.op % 16 = 5 then match b.cases with
   | [] => w
   | c :: _ => giveW w (x.who % 4) b c.de.id
  else if x.op % 16 = 6 then { w with bs := w.bs.set (x.who % 4) (backP b) }
  else if w.wire.length = 0 then w
  else if x.op % 16 = 7 then lossW w ((x.to + 256 * x.who) % w.wire.length)
  else takeW isP clash w ((x.to + 256 * x.who) % w.wire.length) (decide (x.op % 16 = 8))
 | _, _ => w
end
def freshW : Wd := ⟨[⟨0, 0, true, []⟩, ⟨1, 0, true, []⟩, ⟨2, 0, true, []⟩, ⟨3, 0, true, []⟩], [⟨0, true, [], true, []⟩, ⟨1, true, [], true, []⟩, ⟨2, true, [], true, []⟩, ⟨3, true, [], true, []⟩], [], [], [(true, []), (true, []), (true, []), (true, [])]⟩
section keys
variable {α : Type} {key : α → Int}
theorem key_inj : ∀ {l : List α}, (l.map key).Nodup → ∀ {x y : α}, x ∈ l → y ∈ l → key x = key y → x = y
 | [], _, _, _, h, _, _ => by cases h
 | a :: l, hn, x, y, hx, hy, e => by
  rw [List.map_cons, List.nodup_cons] at hn
  rcases List.mem_cons.1 hx with rfl | hx
  ·rcases List.mem_cons.1 hy with rfl | hy
   ·rfl
   ·exact absurd (List.mem_map.2 ⟨y, hy, e.symm⟩) hn.1
  ·rcases List.mem_cons.1 hy with hy0 | hy
   ·rw [← hy0] at hn
    exact absurd (List.mem_map.2 ⟨x, hx, e⟩) hn.1
   ·exact key_inj hn.2 hx hy e
theorem mem_erase_key : ∀ {l : List α}, (l.map key).Nodup → ∀ {i : Nat} {a : α}, l[i]? = some a → ∀ x, x ∈ l.eraseIdx i ↔ x ∈ l ∧ key x ≠ key a
 | [], _, i, a, h, _ => by simp at h
 | b :: l, hn, 0, a, h, x => by
  simp only [List.getElem?_cons_zero, Option.some.injEq] at h
  subst h
  rw [List.map_cons, List.nodup_cons] at hn
  simp only [List.eraseIdx_cons_zero, List.mem_cons]
  constructor
  ·intro hx
   exact ⟨.inr hx, fun e => hn.1 (List.mem_map.2 ⟨x, hx, e⟩)⟩
  ·rintro ⟨rfl | hx, h2⟩
   ·exact absurd rfl h2
   ·exact hx
 | b :: l, hn, i + 1, a, h, x => by
  simp only [List.getElem?_cons_succ] at h
  rw [List.map_cons, List.nodup_cons] at hn
  simp only [List.eraseIdx_cons_succ, List.mem_cons, mem_erase_key hn.2 h x]
  constructor
  ·rintro (rfl | ⟨h1, h2⟩)
   ·exact ⟨.inl rfl, fun e => hn.1 (List.mem_map.2 ⟨a, List.mem_of_getElem? h, e.symm⟩)⟩
   ·exact ⟨.inr h1, h2⟩
  ·rintro ⟨rfl | h1, h2⟩
   ·exact .inl rfl
   ·exact .inr ⟨h1, h2⟩
theorem mem_set_key : ∀ {l : List α}, (l.map key).Nodup → ∀ {i : Nat} {a b : α}, l[i]? = some a → ∀ x, x ∈ l.set i b ↔ x = b ∨ (x ∈ l ∧ key x ≠ key a)
 | [], _, i, a, b, h, _ => by simp at h
 | c :: l, hn, 0, a, b, h, x => by
  simp only [List.getElem?_cons_zero, Option.some.injEq] at h
  subst h
  rw [List.map_cons, List.nodup_cons] at hn
  simp only [List.set_cons_zero, List.mem_cons]
  constructor
  ·rintro (rfl | hx)
   ·exact .inl rfl
   ·exact .inr ⟨.inr hx, fun e => hn.1 (List.mem_map.2 ⟨x, hx, e⟩)⟩
  ·rintro (rfl | ⟨rfl | hx, h2⟩)
   ·exact .inl rfl
   ·exact absurd rfl h2
   ·exact .inr hx
 | c :: l, hn, i + 1, a, b, h, x => by
  simp only [List.getElem?_cons_succ] at h
  rw [List.map_cons, List.nodup_cons] at hn
  simp only [List.set_cons_succ, List.mem_cons, mem_set_key hn.2 h x]
  constructor
  ·rintro (rfl | rfl | ⟨h1, h2⟩)
   ·exact .inr ⟨.inl rfl, fun e => hn.1 (List.mem_map.2 ⟨a, List.mem_of_getElem? h, e.symm⟩)⟩
   ·exact .inl rfl
   ·exact .inr ⟨.inr h1, h2⟩
  ·rintro (rfl | ⟨rfl | h1, h2⟩)
   ·exact .inr (.inl rfl)
   ·exact .inl rfl
   ·exact .inr (.inr ⟨h1, h2⟩)
theorem map_set_key {l : List α} {i : Nat} {a b : α} (h : l[i]? = some a) (e : key b = key a) : (l.set i b).map key = l.map key := by
 apply List.ext_getElem?
 intro j
 rw [List.getElem?_map, List.getElem?_map, List.getElem?_set]
 by_cases hj : i = j
 ·subst hj
  have := (List.getElem?_eq_some_iff.1 h).1
  simp only [if_true, this, h, Option.map_some, e]
 ·rw [if_neg hj]
theorem at_key {l : List α} {i : Int} {c : α} (h : l[l.findIdx fun c => decide (key c = i)]? = some c) : key c = i := by
 have := (List.getElem?_eq_some_iff.1 h)
 obtain ⟨h1, h2⟩ := this
 have h3 := List.findIdx_getElem (w := h1)
 rw [h2] at h3
 simpa using h3
theorem not_key {l : List α} {i : Int} (h : l[l.findIdx fun c => decide (key c = i)]? = none) : ∀ c ∈ l, key c ≠ i := by
 intro c hc e
 have h1 : l.findIdx (fun c => decide (key c = i)) < l.length := List.findIdx_lt_length_of_exists ⟨c, hc, by simp [e]⟩
 rw [List.getElem?_eq_none_iff] at h
 omega
end keys
def cs (w : Wd) (k : Nat) : List Ca := ((w.bs[k]?).map fun b => b.cases).getD []
def rd (w : Wd) (k : Nat) : List Rd := ((w.ps[k]?).map fun p => p.ready).getD []
def dn (w : Wd) (k : Nat) : List Int := ((w.ps[k]?).map fun p => p.did).getD []
def nx (w : Wd) (k : Nat) : Int := ((w.bs[k]?).map fun b => b.next).getD 0
def De.bo (d : De) : Nat := (d.id % 8).toNat
def isR (w : Wd) (g : Nat) (i : Int) : Prop := ∃ r ∈ rd w g, r.id = i
def unsure (w : Wd) (d : De) : Prop := ∃ c ∈ cs w d.bo, c.de.id = d.id ∧ c.sure = false
def sureC (w : Wd) (d : De) : Prop := ∃ c ∈ cs w d.bo, c.de.id = d.id ∧ c.sure = true
def goneC (w : Wd) (d : De) : Prop := ∀ c ∈ cs w d.bo, c.de.id ≠ d.id
def allD (w : Wd) (d : De) : Prop := ∀ g ∈ d.grs, d.id ∈ dn w g.toNat
def noneD (w : Wd) (d : De) : Prop := ∀ g, d.id ∉ dn w g
def GoodM (w : Wd) (m : Mg) : Prop := ∃ d ∈ w.deeds, m.nums = [d.id] ∧
 ((m.kind = 1 ∧ m.fr = d.bo ∧ (m.to, m.data) ∈ d.grs.zip d.pas) ∨
  (m.kind = 2 ∧ m.to = d.bo ∧ m.fr ∈ d.grs ∧ (unsure w d → isR w m.fr.toNat d.id)) ∨
  (m.kind = 3 ∧ m.to = d.bo ∧ m.fr ∈ d.grs) ∨
  (m.kind = 4 ∧ m.fr = d.bo ∧ m.to ∈ d.grs ∧ (sureC w d ∨ goneC w d ∧ allD w d)) ∨
  (m.kind = 5 ∧ m.to = d.bo ∧ m.fr ∈ d.grs ∧ d.id ∈ dn w m.fr.toNat) ∨
  (m.kind = 6 ∧ m.fr = d.bo ∧ m.to ∈ d.grs ∧ goneC w d) ∨
  (m.kind = 7 ∧ m.to = d.bo ∧ m.fr ∈ d.grs))
structure DeOK (isP : List UInt8 → Bool) (PS : List (List UInt8)) (d : De) : Prop where
 ne : d.grs ≠ []
 len : d.grs.length = d.pas.length
 up : d.grs.Pairwise (· < ·)
 le : ∀ g ∈ d.grs, 0 ≤ g ∧ g < 4
 pa : ∀ p ∈ d.pas, isP p = true ∧ p ∈ PS
structure CaOK (w : Wd) (k : Nat) (c : Ca) : Prop where
 de : c.de ∈ w.deeds
 bo : c.de.bo = k
 sub : ∀ g ∈ c.heard, g ∈ c.de.grs
 up : c.heard.Pairwise (· < ·)
 lt : c.heard.length < c.de.grs.length
 un : c.sure = false → (noneD w c.de) ∧ ∀ g ∈ c.heard, isR w g.toNat c.de.id
 su : c.sure = true → (∀ g ∈ c.de.grs, isR w g.toNat c.de.id ∨ c.de.id ∈ dn w g.toNat) ∧ ∀ g ∈ c.heard, c.de.id ∈ dn w g.toNat
structure PtOK (clash : List UInt8 → List UInt8 → Bool) (w : Wd) (g : Nat) : Prop where
 nd : ((rd w g).map fun r => r.id).Nodup
 ap : (rd w g).Pairwise fun r s => clash r.path s.path = false
 re : ∀ r ∈ rd w g, ∃ d ∈ w.deeds, d.id = r.id ∧ ((g : Int), r.path) ∈ d.grs.zip d.pas
 dd : (dn w g).Nodup
 di : ∀ i ∈ dn w g, (∃ d ∈ w.deeds, d.id = i ∧ (g : Int) ∈ d.grs) ∧ ¬ isR w g i
structure Inv (isP : List UInt8 → Bool) (clash : List UInt8 → List UInt8 → Bool) (PS : List (List UInt8)) (w : Wd) : Prop where
 lb : w.bs.length = 4
 lp : w.ps.length = 4
 ld : w.did.length = 4
 wi : w.wire.length ≤ 200
 bi : ∀ (k : Nat) (b : Bo), w.bs[k]? = some b → b.id = k ∧ 0 ≤ b.next ∧ b.cases.length ≤ 16
 pi : ∀ (k : Nat) (p : Pt), w.ps[k]? = some p → p.id = k
 dq : ∀ (k : Nat) (d : Bool × List Int), w.did[k]? = some d → d.2 = dn w k
 de : ∀ d ∈ w.deeds, DeOK isP PS d
 id : ∀ d ∈ w.deeds, 8 ≤ d.id ∧ d.bo < 4 ∧ d.id ≤ 8 * nx w d.bo + d.bo
 nd : (w.deeds.map fun d => d.id).Nodup
 cn : ∀ k, ((cs w k).map fun c => c.de.id).Nodup
 ca : ∀ k, ∀ c ∈ cs w k, CaOK w k c
 go : ∀ d ∈ w.deeds, goneC w d → allD w d ∨ noneD w d
 pt : ∀ g, PtOK clash w g
 ms : ∀ m ∈ w.wire, GoodM w m
end Go.Cr

/-
 What is always so stays so.
-/
namespace Go.Cr
section
variable {isP : List UInt8 → Bool} {clash : List UInt8 → List UInt8 → Bool} {PS : List (List UInt8)} {w w' : Wd}
theorem cs_of {k : Nat} {b : Bo} (h : w.bs[k]? = some b) : cs w k = b.cases := by simp [cs, h]
theorem nx_of {k : Nat} {b : Bo} (h : w.bs[k]? = some b) : nx w k = b.next := by simp [nx, h]
theorem rd_of {k : Nat} {p : Pt} (h : w.ps[k]? = some p) : rd w k = p.ready := by simp [rd, h]
theorem dn_of {k : Nat} {p : Pt} (h : w.ps[k]? = some p) : dn w k = p.did := by simp [dn, h]
structure Ph (w w' : Wd) (d : De) : Prop where
 k2 : unsure w' d → unsure w d ∧ ∀ g, isR w g d.id → isR w' g d.id
 k4 : (sureC w d ∨ goneC w d ∧ allD w d) → (sureC w' d ∨ goneC w' d ∧ allD w' d)
 k5 : ∀ g, d.id ∈ dn w g → d.id ∈ dn w' g
 k6 : goneC w d → goneC w' d
theorem GoodM.ph {m : Mg} (hm : GoodM w m) (h : ∀ d ∈ w.deeds, d ∈ w'.deeds ∧ Ph w w' d) : GoodM w' m := by
 obtain ⟨d, hd, hn, hm⟩ := hm
 obtain ⟨hd', P⟩ := h d hd
 refine ⟨d, hd', hn, ?_⟩
 rcases hm with hm | ⟨a, b, c, e⟩ | hm | ⟨a, b, c, e⟩ | ⟨a, b, c, e⟩ | ⟨a, b, c, e⟩ | hm
 ·exact .inl hm
 ·exact .inr (.inl ⟨a, b, c, fun hu => (P.k2 hu).2 _ (e (P.k2 hu).1)⟩)
 ·exact .inr (.inr (.inl hm))
 ·exact .inr (.inr (.inr (.inl ⟨a, b, c, P.k4 e⟩)))
 ·exact .inr (.inr (.inr (.inr (.inl ⟨a, b, c, P.k5 _ e⟩))))
 ·exact .inr (.inr (.inr (.inr (.inr (.inl ⟨a, b, c, P.k6 e⟩)))))
 ·exact .inr (.inr (.inr (.inr (.inr (.inr hm)))))
theorem Inv.deq (H : Inv isP clash PS w) {c d : De} (hc : c ∈ w.deeds) (hd : d ∈ w.deeds) (e : c.id = d.id) : c = d := key_inj H.nd hc hd e
theorem Inv.csb (H : Inv isP clash PS w) {k : Nat} {c : Ca} (hc : c ∈ cs w k) : c ∈ cs w c.de.bo := by rw [(H.ca k c hc).bo]; exact hc
theorem Inv.gone_sure (H : Inv isP clash PS w) {d : De} (h : goneC w d) : ¬ sureC w d ∧ ¬ unsure w d := ⟨fun ⟨c, hc, e, _⟩ => h c hc e, fun ⟨c, hc, e, _⟩ => h c hc e⟩
theorem Inv.sure_un (H : Inv isP clash PS w) {d : De} (h : sureC w d) : ¬ unsure w d := by
 rintro ⟨c, hc, e, s⟩
 obtain ⟨c', hc', e', s'⟩ := h
 have := key_inj (H.cn _) hc hc' (e.trans e'.symm)
 rw [this, s'] at s
 cases s
theorem Inv.wire (H : Inv isP clash PS w) {l : List Mg} (hl : l.length ≤ 200) (hm : ∀ m ∈ l, m ∈ w.wire ∨ GoodM w m) : Inv isP clash PS { w with wire := l } :=
 ⟨H.lb, H.lp, H.ld, hl, H.bi, H.pi, H.dq, H.de, H.id, H.nd, H.cn, fun k c hc => ⟨(H.ca k c hc).de, (H.ca k c hc).bo, (H.ca k c hc).sub, (H.ca k c hc).up, (H.ca k c hc).lt, (H.ca k c hc).un, (H.ca k c hc).su⟩, H.go, fun g => ⟨(H.pt g).nd, (H.pt g).ap, (H.pt g).re, (H.pt g).dd, (H.pt g).di⟩, fun m h => (by
  rcases hm m h with h | h
  ·exact H.ms m h
  ·exact h : GoodM w m)⟩
theorem Inv.send (H : Inv isP clash PS w) {l : List Mg} (hm : ∀ m ∈ l, GoodM w m) : Inv isP clash PS (sendW w l) :=
 H.wire (by have := H.wi; unfold sendL; simp; omega) fun m h => by
  unfold sendL at h
  rcases List.mem_append.1 h with h | h
  ·exact .inl h
  ·exact .inr (hm m (List.mem_of_mem_take h))
theorem Inv.loss (H : Inv isP clash PS w) (i : Nat) : Inv isP clash PS (lossW w i) :=
 H.wire (by have := H.wi; simp; omega) fun m h => by
  rcases List.mem_append.1 h with h | h
  ·exact .inl (List.mem_of_mem_take h)
  ·exact .inl (List.mem_of_mem_drop h)
theorem bs_step (H : Inv isP clash PS w) {k : Nat} {b b' : Bo} (hb : w.bs[k]? = some b) (e1 : b'.id = b.id) (e2 : b'.next = b.next) (e3 : b'.cases.length ≤ 16) (hn : (b'.cases.map fun c => c.de.id).Nodup)
  (hca : ∀ c ∈ b'.cases, CaOK { w with bs := w.bs.set k b' } k c) (hgo : ∀ d ∈ w.deeds, goneC { w with bs := w.bs.set k b' } d → allD w d ∨ noneD w d)
  (hph : ∀ d ∈ w.deeds, Ph w { w with bs := w.bs.set k b' } d) : Inv isP clash PS { w with bs := w.bs.set k b' } := by
 have hk : k < w.bs.length := (List.getElem?_eq_some_iff.1 hb).1
 have hg : ∀ j, (w.bs.set k b')[j]? = if j = k then some b' else w.bs[j]? := fun j => by
  by_cases e : j = k
  ·subst e; simp [hk]
  ·rw [if_neg e, List.getElem?_set_ne (Ne.symm e)]
 have hcs : ∀ j, cs { w with bs := w.bs.set k b' } j = if j = k then b'.cases else cs w j := fun j => by
  by_cases e : j = k
  ·subst e; simp [cs, hg]
  ·simp [cs, hg, e]
 have hnx : ∀ j, nx { w with bs := w.bs.set k b' } j = nx w j := fun j => by
  by_cases e : j = k
  ·subst e; simp [nx, hg, hb, e2]
  ·simp [nx, hg, e]
 refine ⟨by simpa using H.lb, H.lp, H.ld, H.wi, fun j c hc => ?_, H.pi, H.dq, H.de, fun d hd => ?_, H.nd, fun j => ?_, fun j c hc => ?_, hgo, fun g => ⟨(H.pt g).nd, (H.pt g).ap, (H.pt g).re, (H.pt g).dd, (H.pt g).di⟩, fun m hm => (H.ms m hm).ph fun d hd => ⟨hd, hph d hd⟩⟩
 ·rw [hg] at hc
  by_cases e : j = k
  ·rw [if_pos e] at hc
   cases hc
   have := H.bi k b hb
   exact ⟨by rw [e1, this.1, e], by rw [e2]; exact this.2.1, e3⟩
  ·rw [if_neg e] at hc
   exact H.bi j c hc
 ·rw [hnx]; exact H.id d hd
 ·rw [hcs]
  by_cases e : j = k
  ·rw [if_pos e]; exact hn
  ·rw [if_neg e]; exact H.cn j
 ·rw [hcs] at hc
  by_cases e : j = k
  ·rw [if_pos e] at hc
   subst e
   exact hca c hc
  ·rw [if_neg e] at hc
   have := H.ca j c hc
   exact ⟨this.de, this.bo, this.sub, this.up, this.lt, this.un, this.su⟩
theorem cs_set {k : Nat} {b b' : Bo} (hb : w.bs[k]? = some b) (j : Nat) : cs { w with bs := w.bs.set k b' } j = if j = k then b'.cases else cs w j := by
 have hk : k < w.bs.length := (List.getElem?_eq_some_iff.1 hb).1
 by_cases e : j = k
 ·subst e; simp [cs, hk]
 ·simp only [cs]; rw [List.getElem?_set_ne (Ne.symm e), if_neg e]
theorem Inv.fewer (H : Inv isP clash PS w) {k : Nat} {b b' : Bo} (hb : w.bs[k]? = some b) (e1 : b'.id = b.id) (e2 : b'.next = b.next) (hsub : b'.cases.Sublist b.cases)
  (hg : ∀ c ∈ b.cases, c ∈ b'.cases ∨ c.sure = false ∨ allD w c.de) : Inv isP clash PS { w with bs := w.bs.set k b' } := by
 have hcs := cs_set (b' := b') hb
 have hck : cs w k = b.cases := cs_of hb
 have sub : ∀ j, ∀ c ∈ cs { w with bs := w.bs.set k b' } j, c ∈ cs w j := fun j c hc => by
  rw [hcs] at hc
  by_cases e : j = k
  ·rw [if_pos e] at hc; rw [e, hck]; exact hsub.subset hc
  ·rwa [if_neg e] at hc
 have hkeep : ∀ j, ∀ c ∈ cs w j, c ∈ cs { w with bs := w.bs.set k b' } j ∨ c.sure = false ∨ allD w c.de := fun j c hc => by
  rw [hcs]
  by_cases e : j = k
  ·rw [if_pos e]; rw [e, hck] at hc; exact hg c hc
  ·rw [if_neg e]; exact .inl hc
 have gone' : ∀ c d, c ∈ cs w d.bo → c.de.id = d.id → c ∉ cs { w with bs := w.bs.set k b' } d.bo → goneC { w with bs := w.bs.set k b' } d := fun c d hc e hn x hx ex => by
  have := key_inj (H.cn _) (sub _ x hx) hc (ex.trans e.symm)
  rw [this] at hx
  exact hn hx
 refine bs_step H hb e1 e2 (Nat.le_trans hsub.length_le (H.bi k b hb).2.2) ?_ (fun c hc => ?_) (fun d hd hgo => ?_) fun d hd => ⟨fun hu => ?_, fun h => ?_, fun _ h => h, fun h c hc => h c (sub _ c hc)⟩
 ·have := H.cn k
  rw [hck] at this
  exact (hsub.map _).nodup this
 ·have := H.ca k c (by rw [hck]; exact hsub.subset hc)
  exact ⟨this.de, this.bo, this.sub, this.up, this.lt, this.un, this.su⟩
 ·by_cases h : goneC w d
  ·exact H.go d hd h
  ·simp only [goneC, Classical.not_forall] at h
   obtain ⟨c, hc, e⟩ := h
   have e : c.de.id = d.id := Classical.not_not.1 e
   have hcd : c.de = d := H.deq (H.ca _ c hc).de hd e
   rcases hkeep _ c hc with h1 | h1 | h1
   ·exact absurd e (hgo c h1)
   ·rw [← hcd]; exact .inr ((H.ca _ c hc).un h1).1
   ·rw [← hcd]; exact .inl h1
 ·obtain ⟨c, hc, e, s⟩ := hu
  exact ⟨⟨c, sub _ c hc, e, s⟩, fun _ h => h⟩
 ·rcases h with ⟨c, hc, e, s⟩ | ⟨h1, h2⟩
  ·by_cases hx : c ∈ cs { w with bs := w.bs.set k b' } d.bo
   ·exact .inl ⟨c, hx, e, s⟩
   ·refine .inr ⟨gone' c d hc e hx, ?_⟩
    rcases hkeep _ c hc with h1 | h1 | h1
    ·exact absurd h1 hx
    ·rw [s] at h1; cases h1
    ·have hcd : c.de = d := H.deq (H.ca _ c hc).de hd e
     rw [hcd] at h1; exact h1
  ·exact .inr ⟨fun c hc => h1 c (sub _ c hc), h2⟩
theorem Inv.other (H : Inv isP clash PS w) {k i : Nat} {b b' : Bo} {c c' : Ca} (hb : w.bs[k]? = some b) (e1 : b'.id = b.id) (e2 : b'.next = b.next) (hi : b.cases[i]? = some c) (e3 : b'.cases = b.cases.set i c') (e4 : c'.de = c.de)
  (hu : c'.heard.Pairwise (· < ·)) (hs : ∀ g ∈ c'.heard, g ∈ c.de.grs) (hl : c'.heard.length < c.de.grs.length)
  (h1 : c'.sure = false → c.sure = false ∧ ∀ g ∈ c'.heard, isR w g.toNat c.de.id) (h2 : c'.sure = true → (∀ g ∈ c.de.grs, isR w g.toNat c.de.id ∨ c.de.id ∈ dn w g.toNat) ∧ ∀ g ∈ c'.heard, c.de.id ∈ dn w g.toNat) :
  Inv isP clash PS { w with bs := w.bs.set k b' } := by
 have hcs := cs_set (b' := b') hb
 have hck : cs w k = b.cases := cs_of hb
 have hcm : c ∈ cs w k := by rw [hck]; exact List.mem_of_getElem? hi
 have hnd : (b.cases.map fun c => c.de.id).Nodup := by have := H.cn k; rwa [hck] at this
 have hC := H.ca k c hcm
 have mem : ∀ x, x ∈ b'.cases ↔ x = c' ∨ (x ∈ b.cases ∧ x.de.id ≠ c.de.id) := fun x => by rw [e3]; exact mem_set_key hnd hi x
 have ids : ∀ j, ∀ i, (∃ x ∈ cs { w with bs := w.bs.set k b' } j, x.de.id = i) → ∃ x ∈ cs w j, x.de.id = i := fun j i ⟨x, hx, e⟩ => by
  rw [hcs] at hx
  by_cases ej : j = k
  ·rw [if_pos ej] at hx
   subst ej
   rcases (mem x).1 hx with rfl | ⟨hx, _⟩
   ·exact ⟨c, hcm, by rw [← e, e4]⟩
   ·exact ⟨x, by rw [hck]; exact hx, e⟩
  ·rw [if_neg ej] at hx
   exact ⟨x, hx, e⟩
 have back : ∀ j, ∀ x ∈ cs w j, x.de.id ≠ c.de.id ∨ j ≠ k → x ∈ cs { w with bs := w.bs.set k b' } j := fun j x hx hne => by
  rw [hcs]
  by_cases ej : j = k
  ·rw [if_pos ej]
   rw [ej, hck] at hx
   exact (mem x).2 (.inr ⟨hx, hne.resolve_right (fun h => h ej)⟩)
  ·rw [if_neg ej]; exact hx
 have goneb : ∀ d, goneC { w with bs := w.bs.set k b' } d → goneC w d := fun d h x hx e => by
  by_cases hx2 : x.de.id ≠ c.de.id ∨ d.bo ≠ k
  ·exact h x (back _ x hx hx2) e
  ·have ⟨q1, q2⟩ : x.de.id = c.de.id ∧ d.bo = k := ⟨Classical.not_not.1 fun h => hx2 (.inl h), Classical.not_not.1 fun h => hx2 (.inr h)⟩
   refine h c' ?_ (by rw [e4, ← q1]; exact e)
   rw [hcs, if_pos q2]
   exact (mem c').2 (.inl rfl)
 refine bs_step H hb e1 e2 ?_ ?_ (fun x hx => ?_) (fun d hd h => H.go d hd (goneb d h)) fun d hd => ⟨fun ⟨x, hx, e, s⟩ => ⟨?_, fun _ h => h⟩, fun h => ?_, fun _ h => h, fun h x hx e => ?_⟩
 ·rw [e3, List.length_set]; exact (H.bi k b hb).2.2
 ·rw [e3, map_set_key (key := fun c : Ca => c.de.id) hi (by simp [e4])]
  exact hnd
 ·rcases (mem x).1 hx with rfl | ⟨hx, _⟩
  ·exact ⟨by rw [e4]; exact hC.de, by rw [e4]; exact hC.bo, by rw [e4]; exact hs, hu, by rw [e4]; exact hl, fun s => by rw [e4]; exact ⟨(hC.un (h1 s).1).1, (h1 s).2⟩, fun s => by rw [e4]; exact h2 s⟩
  ·have := H.ca k x (by rw [hck]; exact hx)
   exact ⟨this.de, this.bo, this.sub, this.up, this.lt, this.un, this.su⟩
 ·rw [hcs] at hx
  by_cases ej : d.bo = k
  ·rw [if_pos ej] at hx
   rcases (mem x).1 hx with rfl | ⟨hx, _⟩
   ·exact ⟨c, by rw [ej]; exact hcm, by rw [← e, e4], (h1 s).1⟩
   ·exact ⟨x, by rw [ej, hck]; exact hx, e, s⟩
  ·rw [if_neg ej] at hx
   exact ⟨x, hx, e, s⟩
 ·rcases h with ⟨x, hx, e, s⟩ | ⟨q1, q2⟩
  ·by_cases hx2 : x.de.id ≠ c.de.id ∨ d.bo ≠ k
   ·exact .inl ⟨x, back _ x hx hx2, e, s⟩
   ·have ⟨q1, q2⟩ : x.de.id = c.de.id ∧ d.bo = k := ⟨Classical.not_not.1 fun h => hx2 (.inl h), Classical.not_not.1 fun h => hx2 (.inr h)⟩
    refine .inl ⟨c', ?_, by rw [e4, ← q1]; exact e, ?_⟩
    ·rw [hcs, if_pos q2]
     exact (mem c').2 (.inl rfl)
    ·have : x = c := key_inj (H.cn k) (by rw [← q2]; exact hx) hcm q1
     rw [this] at s
     cases hs' : c'.sure with
     | true => rfl
     | false => rw [(h1 hs').1] at s; cases s
  ·exact .inr ⟨fun x hx e => by
    obtain ⟨y, hy, e'⟩ := ids _ _ ⟨x, hx, e⟩
    exact q1 y hy e', q2⟩
 ·obtain ⟨y, hy, e'⟩ := ids _ _ ⟨x, hx, e⟩
  exact h y hy e'
theorem Inv.part (H : Inv isP clash PS w) {g : Nat} {p p' : Pt} {dl : List (Bool × List Int)} (hp : w.ps[g]? = some p) (e1 : p'.id = p.id) (hdl : dl.length = 4) (hdq : ∀ (k : Nat) (d : Bool × List Int), dl[k]? = some d → d.2 = if k = g then p'.did else dn w k) (i : Int)
  (h0 : PtOK clash { w with ps := w.ps.set g p', did := dl } g)
  (h1 : ∀ j ∈ p.did, j ∈ p'.did)
  (h2 : ∀ j ∈ p'.did, j ∈ p.did ∨ (j = i ∧ ∀ d ∈ w.deeds, d.id = i → sureC w d ∨ goneC w d ∧ allD w d))
  (h3 : ∀ r ∈ p.ready, (∃ r' ∈ p'.ready, r'.id = r.id) ∨ (r.id = i ∧ ((∀ d ∈ w.deeds, d.id = i → goneC w d) ∨ (i ∈ p'.did ∧ ∀ d ∈ w.deeds, d.id = i → sureC w d ∨ goneC w d ∧ allD w d)))) :
  Inv isP clash PS { w with ps := w.ps.set g p', did := dl } := by
 have hk : g < w.ps.length := (List.getElem?_eq_some_iff.1 hp).1
 have hg : ∀ j, (w.ps.set g p')[j]? = if j = g then some p' else w.ps[j]? := fun j => by
  by_cases e : j = g
  ·subst e; simp [hk]
  ·rw [if_neg e, List.getElem?_set_ne (Ne.symm e)]
 have hrd : ∀ j, rd { w with ps := w.ps.set g p', did := dl } j = if j = g then p'.ready else rd w j := fun j => by
  by_cases e : j = g
  ·subst e; simp [rd, hg]
  ·simp [rd, hg, e]
 have hdn : ∀ j, dn { w with ps := w.ps.set g p', did := dl } j = if j = g then p'.did else dn w j := fun j => by
  by_cases e : j = g
  ·subst e; simp [dn, hg]
  ·simp [dn, hg, e]
 have hrg := rd_of hp
 have hdg := dn_of hp
 have mono : ∀ j i, i ∈ dn w j → i ∈ dn { w with ps := w.ps.set g p', did := dl } j := fun j i h => by
  rw [hdn]
  by_cases e : j = g
  ·rw [if_pos e]; rw [e, hdg] at h; exact h1 i h
  ·rw [if_neg e]; exact h
 have more : ∀ j i', i' ∈ dn { w with ps := w.ps.set g p', did := dl } j → i' ∈ dn w j ∨ (i' = i ∧ ∀ d ∈ w.deeds, d.id = i → sureC w d ∨ goneC w d ∧ allD w d) := fun j i' h => by
  rw [hdn] at h
  by_cases e : j = g
  ·rw [if_pos e] at h; rw [e, hdg]; exact h2 i' h
  ·rw [if_neg e] at h; exact .inl h
 have rdy : ∀ j i', isR w j i' → isR { w with ps := w.ps.set g p', did := dl } j i' ∨ (i' = i ∧ ((∀ d ∈ w.deeds, d.id = i → goneC w d) ∨ (i ∈ dn { w with ps := w.ps.set g p', did := dl } j ∧ ∀ d ∈ w.deeds, d.id = i → sureC w d ∨ goneC w d ∧ allD w d))) := fun j i' h => by
  obtain ⟨r, hr, e⟩ := h
  by_cases ej : j = g
  ·rw [ej, hrg] at hr
   rcases h3 r hr with ⟨r', h4, h5⟩ | ⟨h4, h5⟩
   ·exact .inl ⟨r', by rw [hrd, if_pos ej]; exact h4, by rw [h5, e]⟩
   ·refine .inr ⟨by rw [← e, h4], ?_⟩
    rw [hdn, if_pos ej]
    exact h5
  ·exact .inl ⟨r, by rw [hrd, if_neg ej]; exact hr, e⟩
 have all : ∀ d, allD w d → allD { w with ps := w.ps.set g p', did := dl } d := fun d h x hx => mono _ _ (h x hx)
 have nounsure : ∀ d ∈ w.deeds, (sureC w d ∨ goneC w d ∧ allD w d) → ¬ unsure w d := fun d _ h => by
  rcases h with h | h
  ·exact H.sure_un h
  ·exact (H.gone_sure h.1).2
 refine ⟨H.lb, by simpa using H.lp, hdl, H.wi, H.bi, fun j q hq => ?_, fun k d hd => ?_, H.de, H.id, H.nd, H.cn, fun k c hc => ?_, fun d hd hgo => ?_, fun j => ?_, fun m hm => (H.ms m hm).ph fun d hd => ⟨hd, fun hu => ⟨hu, fun j hj => ?_⟩, fun h => ?_, fun j h => mono j _ h, fun h => h⟩⟩
 ·rw [hg] at hq
  by_cases e : j = g
  ·rw [if_pos e] at hq; cases hq; rw [e1, e]; exact H.pi g p hp
  ·rw [if_neg e] at hq; exact H.pi j q hq
 ·rw [hdn]; exact hdq k d hd
 ·have C := H.ca k c hc
  refine ⟨C.de, C.bo, C.sub, C.up, C.lt, fun s => ⟨fun j hj => ?_, fun x hx => ?_⟩, fun s => ⟨fun x hx => ?_, fun x hx => mono _ _ ((C.su s).2 x hx)⟩⟩
  ·rcases more j _ hj with h | ⟨h, h'⟩
   ·exact (C.un s).1 j h
   ·exact nounsure c.de C.de (h' c.de C.de h) ⟨c, H.csb hc, rfl, s⟩
  ·rcases rdy _ _ ((C.un s).2 x hx) with h | ⟨h, h' | ⟨_, h'⟩⟩
   ·exact h
   ·exact absurd rfl (h' c.de C.de h c (H.csb hc))
   ·exact absurd ⟨c, H.csb hc, rfl, s⟩ (nounsure c.de C.de (h' c.de C.de h))
  ·rcases (C.su s).1 x hx with h | h
   ·rcases rdy _ _ h with h | ⟨h, h' | ⟨h', _⟩⟩
    ·exact .inl h
    ·exact absurd rfl (h' c.de C.de h c (H.csb hc))
    ·rw [h]; exact .inr h'
   ·exact .inr (mono _ _ h)
 ·rcases H.go d hd hgo with h | h
  ·exact .inl (all d h)
  ·by_cases hx : ∃ j, d.id ∈ dn { w with ps := w.ps.set g p', did := dl } j
   ·obtain ⟨j, hj⟩ := hx
    rcases more j _ hj with h' | ⟨h', h''⟩
    ·exact absurd h' (h j)
    ·rcases h'' d hd h' with h5 | h5
     ·exact absurd h5 (H.gone_sure hgo).1
     ·exact .inl (all d h5.2)
   ·exact .inr fun j hj => hx ⟨j, hj⟩
 ·by_cases e : j = g
  ·rw [e]; exact h0
  ·have P := H.pt j
   have r1 : rd { w with ps := w.ps.set g p', did := dl } j = rd w j := by rw [hrd, if_neg e]
   have r2 : dn { w with ps := w.ps.set g p', did := dl } j = dn w j := by rw [hdn, if_neg e]
   refine ⟨by rw [r1]; exact P.nd, by rw [r1]; exact P.ap, by rw [r1]; exact P.re, by rw [r2]; exact P.dd, fun x hx => ?_⟩
   rw [r2] at hx
   refine ⟨(P.di x hx).1, fun ⟨r, hr, e'⟩ => (P.di x hx).2 ⟨r, by rw [← r1]; exact hr, e'⟩⟩
 ·rcases rdy _ _ hj with h | ⟨h, h' | ⟨_, h'⟩⟩
  ·exact h
  ·exact absurd hu (H.gone_sure (h' d hd h)).2
  ·exact absurd hu (nounsure d hd (h' d hd h))
 ·rcases h with h | ⟨h, h'⟩
  ·exact .inl h
  ·exact .inr ⟨h, all d h'⟩
end
end Go.Cr

/-
 Each act keeps what is always so.
-/
namespace Go.Cr
section
variable {isP : List UInt8 → Bool} {clash : List UInt8 → List UInt8 → Bool} {PS : List (List UInt8)} {w w' : Wd}
theorem set_same {α : Type} {l : List α} {k : Nat} {x : α} (h : l[k]? = some x) : l.set k x = l := by
 obtain ⟨h1, h2⟩ := List.getElem?_eq_some_iff.1 h
 rw [← h2]; exact List.set_getElem_self h1
theorem sub_len : ∀ {A B : List Int}, A.Nodup → (∀ x ∈ A, x ∈ B) → A.length ≤ B.length
 | [], _, _, _ => Nat.zero_le _
 | a :: A, B, hn, h => by
  rw [List.nodup_cons] at hn
  have ha := h a (List.mem_cons_self ..)
  have := sub_len (A := A) (B := B.erase a) hn.2 (fun x hx => (List.mem_erase_of_ne (fun e => hn.1 (by rw [← e]; exact hx))).2 (h x (List.mem_cons_of_mem _ hx)))
  rw [List.length_erase_of_mem ha] at this
  have : 0 < B.length := List.length_pos_of_mem ha
  simp only [List.length_cons]
  omega
theorem up_nodup {l : List Int} (h : l.Pairwise (· < ·)) : l.Nodup := h.imp fun h => Int.ne_of_lt h
theorem full {A B : List Int} (hA : A.Nodup) (h : ∀ x ∈ A, x ∈ B) (hl : B.length ≤ A.length) : ∀ x ∈ B, x ∈ A := by
 intro x hx
 refine Classical.byContradiction fun hn => ?_
 have := sub_len (A := x :: A) (B := B) (List.nodup_cons.2 ⟨hn, hA⟩) fun y hy => by
  rcases List.mem_cons.1 hy with rfl | hy
  ·exact hx
  ·exact h y hy
 simp only [List.length_cons] at this
 omega
theorem insI_mem {l : List Int} {x y : Int} : y ∈ insI l x ↔ y = x ∨ y ∈ l := by
 unfold insI
 constructor
 ·intro h
  rcases List.mem_append.1 h with h | h
  ·exact .inr (List.mem_of_mem_take h)
  ·rcases List.mem_cons.1 h with h | h
   ·exact .inl h
   ·exact .inr (List.mem_of_mem_drop h)
 ·rintro (rfl | h)
  ·simp
  ·rw [← List.take_append_drop (cutI l x) l] at h
   rcases List.mem_append.1 h with h | h
   ·exact List.mem_append_left _ h
   ·exact List.mem_append_right _ (List.mem_cons_of_mem _ h)
theorem insI_up : ∀ {l : List Int} {x : Int}, l.Pairwise (· < ·) → x ∉ l → (insI l x).Pairwise (· < ·)
 | [], x, _, _ => by simp [insI, cutI]
 | a :: l, x, h, hx => by
  rw [List.pairwise_cons] at h
  by_cases c : x ≤ a
  ·have : insI (a :: l) x = x :: a :: l := by simp [insI, cutI, List.findIdx_cons, c]
   rw [this, List.pairwise_cons]
   have hne : x ≠ a := fun e => hx (by rw [e]; exact List.mem_cons_self ..)
   refine ⟨fun y hy => ?_, List.pairwise_cons.2 h⟩
   rcases List.mem_cons.1 hy with rfl | hy
   ·omega
   ·have := h.1 y hy; omega
  ·have : insI (a :: l) x = a :: insI l x := by simp [insI, cutI, List.findIdx_cons, c]
   rw [this, List.pairwise_cons]
   refine ⟨fun y hy => ?_, insI_up h.2 fun hh => hx (List.mem_cons_of_mem _ hh)⟩
   rcases insI_mem.1 hy with rfl | hy
   ·omega
   ·exact h.1 y hy
theorem hearL_mem {l : List Int} {x y : Int} : y ∈ hearL l x ↔ y = x ∨ y ∈ l := by
 unfold hearL
 by_cases h : x ∈ l
 ·rw [if_pos h]
  exact ⟨.inr, fun h' => h'.elim (fun e => e ▸ h) id⟩
 ·rw [if_neg h]; exact insI_mem
theorem hearL_up {l : List Int} {x : Int} (h : l.Pairwise (· < ·)) : (hearL l x).Pairwise (· < ·) := by
 unfold hearL
 by_cases c : x ∈ l
 ·rwa [if_pos c]
 ·rw [if_neg c]; exact insI_up h c
theorem GoodM.same {m : Mg} (hm : GoodM w m) (e1 : w'.bs = w.bs) (e2 : w'.ps = w.ps) (e3 : w'.deeds = w.deeds) : GoodM w' m := by
 obtain ⟨bs, ps, wi, de, di⟩ := w
 obtain ⟨bs', ps', wi', de', di'⟩ := w'
 simp only at e1 e2 e3
 subst e1 e2 e3
 exact hm
theorem Inv.bo_id (H : Inv isP clash PS w) {d : De} (hd : d ∈ w.deeds) : (d.bo : Int) = d.id % 8 := by
 unfold De.bo
 have := (H.id d hd).1
 omega
theorem Inv.erase (H : Inv isP clash PS w) {k i : Nat} {b : Bo} {c : Ca} (hb : w.bs[k]? = some b) (hi : b.cases[i]? = some c) (hc : c.sure = false ∨ allD w c.de) :
  Inv isP clash PS { w with bs := w.bs.set k (withC b (b.cases.eraseIdx i)) } ∧ goneC { w with bs := w.bs.set k (withC b (b.cases.eraseIdx i)) } c.de := by
 have hck : cs w k = b.cases := cs_of hb
 have hcm : c ∈ cs w k := by rw [hck]; exact List.mem_of_getElem? hi
 have hnd : (b.cases.map fun c => c.de.id).Nodup := by have := H.cn k; rwa [hck] at this
 have mem := mem_erase_key (key := fun c : Ca => c.de.id) hnd hi
 refine ⟨H.fewer hb rfl rfl (List.eraseIdx_sublist ..) fun x hx => ?_, fun x hx e => ?_⟩
 ·by_cases e : x.de.id = c.de.id
  ·have : x = c := key_inj hnd hx (List.mem_of_getElem? hi) e
   rw [this]
   exact .inr hc
  ·exact .inl ((mem x).2 ⟨hx, e⟩)
 ·rw [cs_set hb, (H.ca k c hcm).bo, if_pos rfl] at hx
  exact ((mem x).1 hx).2 e
theorem all_good {b : Bo} {d : De} {k : Int} (h : ∀ g ∈ d.grs, GoodM w (msgP b.id g k d.id)) : ∀ m ∈ allP b d k, GoodM w m := by
 intro m hm
 unfold allP at hm
 obtain ⟨g, hg, rfl⟩ := List.mem_map.1 hm
 exact h g hg
theorem Inv.tell (H : Inv isP clash PS w) {k : Nat} {b : Bo} {m : Mg} (hb : w.bs[k]? = some b) (hm : GoodM w m) : Inv isP clash PS (tellW w k b m) := by
 have same : ∀ l, b.cases = l → Inv isP clash PS { w with bs := w.bs.set k (withC b l) } := fun l e => H.fewer hb rfl rfl (by rw [← e]; exact List.Sublist.refl _) fun c hc => .inl (by rw [← e]; exact hc)
 have self : ({ w with bs := w.bs.set k b } : Wd) = w := by rw [set_same hb]
 have hbi := (H.bi k b hb).1
 have hck : cs w k = b.cases := cs_of hb
 unfold tellW tellP
 by_cases hc : m.to = b.id ∧ m.nums.length = 1 ∧ (m.kind = 2 ∨ m.kind = 3 ∨ m.kind = 5 ∨ m.kind = 7)
 ·rw [if_pos hc]
  obtain ⟨c1, c2, c3⟩ := hc
  obtain ⟨d, hd, hn, hm⟩ := hm
  have hh : m.nums.headD 0 = d.id := by rw [hn]; rfl
  have hdk : d.bo = k ∧ m.fr ∈ d.grs := by
   rcases hm with hm | hm | hm | hm | hm | hm | hm
   ·omega
   ·have : (k : Int) = d.bo := by rw [← hbi, ← c1]; exact hm.2.1
    exact ⟨by omega, hm.2.2.1⟩
   ·have : (k : Int) = d.bo := by rw [← hbi, ← c1]; exact hm.2.1
    exact ⟨by omega, hm.2.2⟩
   ·omega
   ·have : (k : Int) = d.bo := by rw [← hbi, ← c1]; exact hm.2.1
    exact ⟨by omega, hm.2.2.1⟩
   ·omega
   ·have : (k : Int) = d.bo := by rw [← hbi, ← c1]; exact hm.2.1
    exact ⟨by omega, hm.2.2⟩
  obtain ⟨hdk, hfr⟩ := hdk
  have hbd : b.id = d.bo := by rw [hbi, hdk]
  rw [hh]
  cases hx : b.cases[caseAt b d.id]? with
  | none =>
   have hg : goneC w d := by
    intro c hc
    rw [hdk, hck] at hc
    exact not_key (key := fun c : Ca => c.de.id) hx c hc
   simp only
   by_cases c4 : m.kind = 2 ∨ m.kind = 7
   ·rw [if_pos c4]
    dsimp only
    rw [self]
    refine H.send fun x hx => ?_
    rw [List.mem_singleton] at hx
    subst hx
    exact ⟨d, hd, rfl, .inr (.inr (.inr (.inr (.inr (.inl ⟨rfl, hbd, hfr, hg⟩)))))⟩
   ·rw [if_neg c4]
    dsimp only
    rw [self]
    exact H.send (l := []) fun x hx => by cases hx
  | some c =>
   have hcm : c ∈ cs w k := by rw [hck]; exact List.mem_of_getElem? hx
   have hid : c.de.id = d.id := at_key (key := fun c : Ca => c.de.id) hx
   have hcd : c.de = d := H.deq (H.ca k c hcm).de hd hid
   have C := H.ca k c hcm
   have hhu : (hearL c.heard m.fr).Pairwise (· < ·) := hearL_up C.up
   have hhs : ∀ g ∈ hearL c.heard m.fr, g ∈ c.de.grs := fun g hg => by
    rcases hearL_mem.1 hg with rfl | hg
    ·rw [hcd]; exact hfr
    ·exact C.sub g hg
   have hle : (hearL c.heard m.fr).length ≤ c.de.grs.length := sub_len (up_nodup hhu) hhs
   simp only
   rw [if_pos (by rw [hcd]; exact hfr)]
   unfold tellC
   by_cases hs : c.sure = true
   ·simp only [if_pos hs]
    by_cases k3 : m.kind = 3
    ·simp only [if_pos k3]
     exact (same _ rfl).send (l := []) fun x hx => by cases hx
    ·simp only [if_neg k3]
     by_cases k5 : m.kind = 5
     ·simp only [if_pos k5]
      have hdid : d.id ∈ dn w m.fr.toNat := by
       rcases hm with hm | hm | hm | hm | hm | hm | hm
       all_goals first | exact hm.2.2.2 | omega
      have hdids : ∀ g ∈ hearL c.heard m.fr, c.de.id ∈ dn w g.toNat := fun g hg => by
       rcases hearL_mem.1 hg with rfl | hg
       ·rw [hid]; exact hdid
       ·exact (C.su hs).2 g hg
      by_cases hf : (hearL c.heard m.fr).length = c.de.grs.length
      ·simp only [if_pos hf]
       refine (H.erase hb hx (.inr fun g hg => hdids g (full (up_nodup hhu) hhs (by omega) g hg))).1.send (l := []) fun x hx => by cases hx
      ·simp only [if_neg hf]
       exact (H.other (b' := withC b (b.cases.set (caseAt b d.id) { c with fh := hearF c m.fr, heard := hearL c.heard m.fr })) hb rfl rfl hx rfl rfl hhu hhs (by dsimp only; omega) (fun h => by dsimp only at h; rw [hs] at h; cases h) (fun _ => ⟨(C.su hs).1, hdids⟩)).send (l := []) fun x hx => by cases hx
     ·simp only [if_neg k5]
      refine (same _ rfl).send fun x hx => ?_
      rw [List.mem_singleton] at hx
      subst hx
      refine ⟨d, hd, by rw [hid]; rfl, .inr (.inr (.inr (.inl ⟨rfl, hbd, hfr, .inl ⟨c, ?_, hid, hs⟩⟩)))⟩
      rw [cs_set hb, if_pos hdk]
      exact List.mem_of_getElem? hx
   ·have hs : c.sure = false := by simpa using hs
    simp only [hs, Bool.false_eq_true, if_false]
    have hce := H.erase hb hx (.inl hs)
    by_cases k3 : m.kind = 3
    ·simp only [if_pos k3]
     have hgd := hce.2
     rw [hcd] at hgd
     exact hce.1.send (all_good fun g hg => ⟨d, hd, by rw [hid]; rfl, .inr (.inr (.inr (.inr (.inr (.inl ⟨rfl, hbd, by rw [← hcd]; exact hg, hgd⟩)))))⟩)
    ·simp only [if_neg k3]
     by_cases k2 : m.kind = 2
     ·simp only [if_pos k2]
      have hrd : isR w m.fr.toNat d.id := by
       rcases hm with hm | hm | hm | hm | hm | hm | hm
       all_goals first | exact hm.2.2.2 ⟨c, by rw [hdk]; exact hcm, hid, hs⟩ | omega
      have hrds : ∀ g ∈ hearL c.heard m.fr, isR w g.toNat c.de.id := fun g hg => by
       rcases hearL_mem.1 hg with rfl | hg
       ·rw [hid]; exact hrd
       ·exact (C.un hs).2 g hg
      by_cases hf : (hearL c.heard m.fr).length = c.de.grs.length
      ·simp only [if_pos hf]
       refine (H.other (b' := withC b (b.cases.set (caseAt b d.id) { c with sure := true, fh := true, heard := [] })) hb rfl rfl hx rfl rfl List.Pairwise.nil (fun g hg => by cases hg) (by have := C.lt; dsimp only [List.length_nil]; omega) (fun h => by cases h) (fun _ => ⟨fun g hg => .inl (hrds g (full (up_nodup hhu) hhs (by omega) g hg)), fun g hg => by cases hg⟩)).send (all_good fun g hg => ?_)
       refine ⟨d, hd, by rw [hid]; rfl, .inr (.inr (.inr (.inl ⟨rfl, hbd, by rw [← hcd]; exact hg, .inl ⟨{ c with sure := true, fh := true, heard := [] }, ?_, hid, rfl⟩⟩)))⟩
       rw [cs_set hb, if_pos hdk]
       exact List.mem_of_getElem? (List.getElem?_set_self (List.getElem?_eq_some_iff.1 hx).1)
      ·simp only [if_neg hf]
       exact (H.other (b' := withC b (b.cases.set (caseAt b d.id) ⟨c.de, false, hearF c m.fr, hearL c.heard m.fr⟩)) hb rfl rfl hx rfl rfl hhu hhs (by dsimp only; omega) (fun _ => ⟨hs, hrds⟩) (fun h => by cases h)).send (l := []) fun x hx => by cases hx
     ·simp only [if_neg k2]
      exact (same _ rfl).send (l := []) fun x hx => by cases hx
 ·rw [if_neg hc]
  dsimp only
  rw [self]
  exact H.send (l := []) fun x hx => by cases hx
theorem Inv.hear (H : Inv isP clash PS w) {g : Nat} {p : Pt} {dd : Bool × List Int} {m : Mg} (hp : w.ps[g]? = some p) (hd0 : w.did[g]? = some dd) (hm : m.kind = 1 ∨ m.kind = 4 ∨ m.kind = 6 → GoodM w m) : Inv isP clash PS (hearW isP clash w g p dd m) := by
 have self : ({ w with ps := w.ps.set g p } : Wd) = w := by rw [set_same hp]
 have hpi := H.pi g p hp
 have hrd := rd_of hp
 have hdn := dn_of hp
 have P := H.pt g
 have hk : g < w.ps.length := (List.getElem?_eq_some_iff.1 hp).1
 have hkd : g < w.did.length := (List.getElem?_eq_some_iff.1 hd0).1
 have rds : ∀ (q : Pt) (dl : List (Bool × List Int)), rd { w with ps := w.ps.set g q, did := dl } g = q.ready := fun q dl => by simp [rd, hk]
 have dns : ∀ (q : Pt) (dl : List (Bool × List Int)), dn { w with ps := w.ps.set g q, did := dl } g = q.did := fun q dl => by simp [dn, hk]
 have nothing : Inv isP clash PS (sendW w []) := H.send (l := []) fun x hx => by cases hx
 unfold hearW hearP
 by_cases hc : m.to = p.id ∧ m.nums.length = 1
 ·simp only [if_pos hc]
  obtain ⟨c1, c2⟩ := hc
  by_cases hk146 : m.kind = 1 ∨ m.kind = 4 ∨ m.kind = 6
  ·obtain ⟨d, hd, hn, hm⟩ := hm hk146
   have hh : m.nums.headD 0 = d.id := by rw [hn]; rfl
   rw [hh]
   have uniq : ∀ x ∈ w.deeds, x.id = d.id → x = d := fun x hx e => H.deq hx hd e
   have h8 := (H.id d hd).1
   have hisr : (p.ready.any (fun r => decide (r.id = d.id)) = true) ↔ isR w g d.id := by
    unfold isR
    rw [hrd]
    simp
   have hdid : (decide (d.id ∈ p.did) = true) ↔ d.id ∈ dn w g := by rw [hdn]; simp
   by_cases k1 : m.kind = 1
   ·simp only [if_pos k1]
    have hz : (m.fr = d.bo) ∧ (m.to, m.data) ∈ d.grs.zip d.pas := by
     rcases hm with hm | hm | hm | hm | hm | hm | hm
     all_goals first | exact hm.2 | omega
    obtain ⟨hfr, hz⟩ := hz
    rw [c1, hpi] at hz
    have hgg : (p.id : Int) ∈ d.grs := by rw [hpi]; exact (List.of_mem_zip hz).1
    have hpn : (p.id : Int).toNat = g := by rw [hpi]; simp
    by_cases q1 : decide (d.id ∈ p.did) = true
    ·simp only [if_pos q1, doneW, if_true]
     rw [self]
     refine H.send fun x hx => ?_
     rw [List.mem_singleton] at hx
     subst hx
     exact ⟨d, hd, rfl, .inr (.inr (.inr (.inr (.inl ⟨rfl, hfr, hgg, by rw [show (msgP p.id m.fr 5 d.id).fr.toNat = g from hpn]; exact hdid.1 q1⟩))))⟩
    ·simp only [if_neg q1]
     by_cases q2 : p.ready.any (fun r => decide (r.id = d.id)) = true
     ·simp only [if_pos q2, doneW, if_true]
      rw [self]
      refine H.send fun x hx => ?_
      rw [List.mem_singleton] at hx
      subst hx
      exact ⟨d, hd, rfl, .inr (.inl ⟨rfl, hfr, hgg, fun _ => by rw [show (msgP p.id m.fr 2 d.id).fr.toNat = g from hpn]; exact hisr.1 q2⟩)⟩
     ·simp only [if_neg q2]
      by_cases q3 : isP m.data = false ∨ lockedP isP clash p m.data = true
      ·simp only [if_pos q3, doneW, if_true]
       rw [self]
       refine H.send fun x hx => ?_
       rw [List.mem_singleton] at hx
       subst hx
       exact ⟨d, hd, rfl, .inr (.inr (.inl ⟨rfl, hfr, hgg⟩))⟩
      ·simp only [if_neg q3, doneW, if_true]
       have hip : isP m.data = true := by
        cases h : isP m.data with
        | true => rfl
        | false => exact absurd (.inl h) q3
       have hlk : ∀ r ∈ p.ready, clash r.path m.data = false := fun r hr => by
        cases h : clash r.path m.data with
        | false => rfl
        | true => exact absurd (.inr (by unfold lockedP; rw [hip, Bool.true_and, List.any_eq_true]; exact ⟨r, hr, h⟩)) q3
       have hnr : ∀ r ∈ p.ready, r.id ≠ d.id := fun r hr e => q2 (by rw [List.any_eq_true]; exact ⟨r, hr, by simp [e]⟩)
       have H1 : Inv isP clash PS { w with ps := w.ps.set g ⟨p.id, false, p.ready ++ [⟨d.id, m.data⟩], p.fd, p.did⟩, did := w.did } := by
        refine H.part hp rfl H.ld (fun k x hx => ?_) d.id ⟨?_, ?_, fun r hr => ?_, ?_, fun i hi => ?_⟩ (fun j h => h) (fun j h => .inl h) (fun r hr => .inl ⟨r, List.mem_append_left _ hr, rfl⟩)
        ·rw [H.dq k x hx]
         by_cases e : k = g
         ·rw [if_pos e, e, hdn]
         ·rw [if_neg e]
        ·rw [rds]
         simp only [List.map_append, List.map_cons, List.map_nil]
         rw [List.nodup_append]
         refine ⟨by have := P.nd; rwa [hrd] at this, by simp, fun x hx y hy => ?_⟩
         obtain ⟨r, hr, rfl⟩ := List.mem_map.1 hx
         rw [List.mem_singleton] at hy
         rw [hy]; exact hnr r hr
        ·rw [rds, List.pairwise_append]
         refine ⟨by have := P.ap; rwa [hrd] at this, by simp, fun x hx y hy => ?_⟩
         rw [List.mem_singleton] at hy
         rw [hy]; exact hlk x hx
        ·rw [rds] at hr
         rcases List.mem_append.1 hr with hr | hr
         ·exact P.re r (by rw [hrd]; exact hr)
         ·rw [List.mem_singleton] at hr
          subst hr
          exact ⟨d, hd, rfl, hz⟩
        ·rw [dns]; have := P.dd; rwa [hdn] at this
        ·rw [dns] at hi
         have := P.di i (by rw [hdn]; exact hi)
         refine ⟨this.1, fun ⟨r, hr, e⟩ => ?_⟩
         rw [rds] at hr
         rcases List.mem_append.1 hr with hr | hr
         ·exact this.2 ⟨r, by rw [hrd]; exact hr, e⟩
         ·rw [List.mem_singleton] at hr
          subst hr
          simp only at e
          subst e
          exact q1 (by simpa using hi)
       refine H1.send fun x hx => ?_
       rw [List.mem_singleton] at hx
       subst hx
       refine ⟨d, hd, rfl, .inr (.inl ⟨rfl, hfr, hgg, fun _ => ?_⟩)⟩
       rw [show (msgP p.id m.fr 2 d.id).fr.toNat = g from hpn]
       exact ⟨⟨d.id, m.data⟩, by rw [rds]; simp, rfl⟩
   ·simp only [if_neg k1]
    have erd : ∀ i r, p.ready[i]? = some r → r.id = d.id → ∀ x, x ∈ p.ready.eraseIdx i ↔ x ∈ p.ready ∧ x.id ≠ d.id := fun i r hi e x => by
     have := mem_erase_key (key := fun r : Rd => r.id) (l := p.ready) (by have := P.nd; rwa [hrd] at this) hi x
     rw [this, e]
    have find : isR w g d.id → ∃ r, p.ready[p.ready.findIdx fun r => decide (r.id = d.id)]? = some r ∧ r.id = d.id := fun ⟨r, hr, e⟩ => by
     rw [hrd] at hr
     have h1 : p.ready.findIdx (fun r => decide (r.id = d.id)) < p.ready.length := List.findIdx_lt_length_of_exists ⟨r, hr, by simp [e]⟩
     exact ⟨_, List.getElem?_eq_getElem h1, at_key (key := fun r : Rd => r.id) (List.getElem?_eq_getElem h1)⟩
    have sub : ∀ i, (p.ready.eraseIdx i).Sublist p.ready := fun i => List.eraseIdx_sublist ..
    by_cases k4 : m.kind = 4
    ·simp only [if_pos k4]
     have hz : m.fr = d.bo ∧ m.to ∈ d.grs ∧ (sureC w d ∨ goneC w d ∧ allD w d) := by
      rcases hm with hm | hm | hm | hm | hm | hm | hm
      all_goals first | exact hm.2 | omega
     obtain ⟨hfr, hgg, hs⟩ := hz
     have hgp : (p.id : Int) ∈ d.grs := by rw [← c1]; exact hgg
     have hpn : (p.id : Int).toNat = g := by rw [hpi]; simp
     by_cases q2 : p.ready.any (fun r => decide (r.id = d.id)) = true
     ·simp only [if_pos q2, doneW, if_neg (show ¬ d.id = 0 by omega)]
      obtain ⟨r0, hr0, er0⟩ := find (hisr.1 q2)
      have mem := erd _ r0 hr0 er0
      have hnd : d.id ∉ p.did := fun h => (P.di d.id (by rw [hdn]; exact h)).2 (hisr.1 q2)
      have H1 : Inv isP clash PS { w with ps := w.ps.set g ⟨p.id, false, p.ready.eraseIdx (p.ready.findIdx fun r => decide (r.id = d.id)), false, p.did ++ [d.id]⟩, did := w.did.set g (false, dd.2 ++ [d.id]) } := by
       refine H.part hp rfl (by simpa using H.ld) (fun k x hx => ?_) d.id ⟨?_, ?_, fun r hr => ?_, ?_, fun i hi => ?_⟩ (fun j h => List.mem_append_left _ h) (fun j h => ?_) (fun r hr => ?_)
       ·by_cases e : k = g
        ·subst e
         rw [List.getElem?_set_self hkd] at hx
         cases hx
         simp only [if_true]
         rw [H.dq k dd hd0, hdn]
        ·rw [List.getElem?_set_ne (Ne.symm e)] at hx
         rw [if_neg e]; exact H.dq k x hx
       ·rw [rds]; have := P.nd; rw [hrd] at this; exact ((sub _).map _).nodup this
       ·rw [rds]; have := P.ap; rw [hrd] at this; exact this.sublist (sub _)
       ·rw [rds] at hr; exact P.re r (by rw [hrd]; exact (sub _).subset hr)
       ·rw [dns, List.nodup_append]
        refine ⟨by have := P.dd; rwa [hdn] at this, by simp, fun x hx y hy => ?_⟩
        rw [List.mem_singleton] at hy
        rw [hy]
        exact fun e => hnd (e ▸ hx)
       ·rw [dns] at hi
        rcases List.mem_append.1 hi with hi | hi
        ·have := P.di i (by rw [hdn]; exact hi)
         exact ⟨this.1, fun ⟨r, hr, e⟩ => this.2 ⟨r, by rw [hrd]; rw [rds] at hr; exact (sub _).subset hr, e⟩⟩
        ·rw [List.mem_singleton] at hi
         subst hi
         refine ⟨⟨d, hd, rfl, by rw [← hpi]; exact hgp⟩, fun ⟨r, hr, e⟩ => ?_⟩
         rw [rds] at hr
         exact ((mem r).1 hr).2 e
       ·rcases List.mem_append.1 h with h | h
        ·exact .inl h
        ·rw [List.mem_singleton] at h
         exact .inr ⟨h, fun x hx e => by rw [uniq x hx e]; exact hs⟩
       ·by_cases e : r.id = d.id
        ·exact .inr ⟨e, .inr ⟨by simp, fun x hx e => by rw [uniq x hx e]; exact hs⟩⟩
        ·exact .inl ⟨r, (mem r).2 ⟨hr, e⟩, rfl⟩
      refine H1.send fun x hx => ?_
      rw [List.mem_singleton] at hx
      subst hx
      refine ⟨d, hd, rfl, .inr (.inr (.inr (.inr (.inl ⟨rfl, hfr, hgp, ?_⟩))))⟩
      rw [show (msgP p.id m.fr 5 d.id).fr.toNat = g from hpn, dns]
      simp
     ·simp only [if_neg q2]
      by_cases q1 : decide (d.id ∈ p.did) = true
      ·simp only [if_pos q1, doneW, if_true]
       rw [self]
       refine H.send fun x hx => ?_
       rw [List.mem_singleton] at hx
       subst hx
       exact ⟨d, hd, rfl, .inr (.inr (.inr (.inr (.inl ⟨rfl, hfr, hgp, by rw [show (msgP p.id m.fr 5 d.id).fr.toNat = g from hpn]; exact hdid.1 q1⟩))))⟩
      ·simp only [if_neg q1, doneW, if_true]
       rw [self]
       exact nothing
    ·simp only [if_neg k4]
     have k6 : m.kind = 6 := by omega
     simp only [if_pos k6]
     have hg : goneC w d := by
      rcases hm with hm | hm | hm | hm | hm | hm | hm
      all_goals first | exact hm.2.2.2 | omega
     by_cases q2 : p.ready.any (fun r => decide (r.id = d.id)) = true
     ·simp only [if_pos q2, doneW, if_true]
      obtain ⟨r0, hr0, er0⟩ := find (hisr.1 q2)
      have mem := erd _ r0 hr0 er0
      have H1 : Inv isP clash PS { w with ps := w.ps.set g ⟨p.id, false, p.ready.eraseIdx (p.ready.findIdx fun r => decide (r.id = d.id)), p.fd, p.did⟩, did := w.did } := by
       refine H.part hp rfl H.ld (fun k x hx => ?_) d.id ⟨?_, ?_, fun r hr => ?_, ?_, fun i hi => ?_⟩ (fun j h => h) (fun j h => .inl h) (fun r hr => ?_)
       ·rw [H.dq k x hx]
        by_cases e : k = g
        ·rw [if_pos e, e, hdn]
        ·rw [if_neg e]
       ·rw [rds]; have := P.nd; rw [hrd] at this; exact ((sub _).map _).nodup this
       ·rw [rds]; have := P.ap; rw [hrd] at this; exact this.sublist (sub _)
       ·rw [rds] at hr; exact P.re r (by rw [hrd]; exact (sub _).subset hr)
       ·rw [dns]; have := P.dd; rwa [hdn] at this
       ·rw [dns] at hi
        have := P.di i (by rw [hdn]; exact hi)
        exact ⟨this.1, fun ⟨r, hr, e⟩ => this.2 ⟨r, by rw [hrd]; rw [rds] at hr; exact (sub _).subset hr, e⟩⟩
       ·by_cases e : r.id = d.id
        ·exact .inr ⟨e, .inl fun x hx e => by rw [uniq x hx e]; exact hg⟩
        ·exact .inl ⟨r, (mem r).2 ⟨hr, e⟩, rfl⟩
      exact H1.send (l := []) fun x hx => by cases hx
     ·simp only [if_neg q2, doneW, if_true]
      rw [self]
      exact nothing
  ·have k1 : ¬ m.kind = 1 := fun e => hk146 (.inl e)
   have k4 : ¬ m.kind = 4 := fun e => hk146 (.inr (.inl e))
   have k6 : ¬ m.kind = 6 := fun e => hk146 (.inr (.inr e))
   simp only [if_neg k1, if_neg k4, if_neg k6, doneW, if_true]
   rw [self]
   exact nothing
 ·simp only [if_neg hc, doneW, if_true]
  rw [self]
  exact nothing
end
end Go.Cr

/-
 Acts keep what is always so.
-/
namespace Go.Cr
section
variable {isP : List UInt8 → Bool} {clash : List UInt8 → List UInt8 → Bool} {PS : List (List UInt8)} {w w' : Wd}
theorem mayP_ok {b : Bo} {grs : List Int} {pas : List (List UInt8)} (h : mayP isP b grs pas = 0) : grs ≠ [] ∧ grs.length = pas.length ∧ (∀ p ∈ pas, isP p = true) ∧ b.cases.length < 16 ∧ b.next < 4294967296 := by
 unfold mayP at h
 by_cases c1 : grs = [] ∨ grs.length ≠ pas.length
 ·rw [if_pos c1] at h; omega
 ·rw [if_neg c1] at h
  by_cases c2 : grsOK grs = false
  ·rw [if_pos c2] at h; omega
  ·rw [if_neg c2] at h
   by_cases c3 : (pas.all isP) = false
   ·rw [if_pos c3] at h; omega
   ·rw [if_neg c3] at h
    by_cases c4 : 16 ≤ b.cases.length ∨ 4294967296 ≤ b.next
    ·rw [if_pos c4] at h; omega
    ·refine ⟨fun e => c1 (.inl e), by omega, fun p hp => ?_, by omega, by omega⟩
     have : pas.all isP = true := by simpa using c3
     exact List.all_eq_true.1 this p hp
theorem DeOK.of {b : Bo} {grs : List Int} {pas : List (List UInt8)} (h : mayP isP b grs pas = 0) (hu : grs.Pairwise (· < ·)) (hg : ∀ g ∈ grs, 0 ≤ g ∧ g < 4) (hp : ∀ p ∈ pas, p ∈ PS) (i : Int) (f g : Bool) : DeOK isP PS ⟨i, f, grs, g, pas⟩ := by
 obtain ⟨h1, h2, h3, h4, h5⟩ := mayP_ok h
 exact ⟨h1, h2, hu, hg, fun p hp' => ⟨h3 p hp', hp p hp'⟩⟩
theorem Inv.start (H : Inv isP clash PS w) {k : Nat} {b : Bo} {grs : List Int} {pas : List (List UInt8)} (hb : w.bs[k]? = some b) (hu : grs.Pairwise (· < ·)) (hg : ∀ g ∈ grs, 0 ≤ g ∧ g < 4) (hp : ∀ p ∈ pas, p ∈ PS) : Inv isP clash PS (startW isP w k b grs pas) := by
 have self : ({ w with bs := w.bs.set k b } : Wd) = w := by rw [set_same hb]
 unfold startW startP
 by_cases hm : mayP isP b grs pas = 0
 ·simp only [if_pos hm]
  obtain ⟨hne, hlen, hip, h16, h32⟩ := mayP_ok hm
  have hD := DeOK.of (PS := PS) hm hu hg hp (8 * (b.next + 1) + b.id) false false
  have hbi := H.bi k b hb
  have hkl : k < w.bs.length := (List.getElem?_eq_some_iff.1 hb).1
  have hk4 : k < 4 := by have := H.lb; omega
  have hck := cs_of hb
  have hnk := nx_of hb
  obtain ⟨d, hd⟩ : ∃ d, d = (⟨8 * (b.next + 1) + b.id, false, grs, false, pas⟩ : De) := ⟨_, rfl⟩
  have hdi : d.id = 8 * (b.next + 1) + b.id := by rw [hd]
  have hdb : d.bo = k := by unfold De.bo; rw [hdi, hbi.1]; omega
  have hdb' : (d.bo : Int) = b.id := by rw [hdb, hbi.1]
  have fresh : ∀ x ∈ w.deeds, x.id ≠ d.id := fun x hx e => by
   have h1 := H.id x hx
   have h2 : x.bo = d.bo := by unfold De.bo; rw [e]
   have h3 : (x.bo : Int) = b.id := by rw [h2]; exact hdb'
   rw [h2, hdb, hnk] at h1
   rw [hdi] at e
   have := h1.2.2
   rw [e] at this
   omega
  rw [← hd]
  obtain ⟨b', hb'⟩ : ∃ b', b' = (⟨b.id, b.next + 1, false, b.cases ++ [⟨d, false, true, []⟩]⟩ : Bo) := ⟨_, rfl⟩
  rw [← hb', ← hdi]
  have hcs : ∀ j, cs { w with bs := w.bs.set k b', deeds := w.deeds ++ [d] } j = if j = k then b'.cases else cs w j := fun j => by
   by_cases e : j = k
   ·subst e; simp [cs, hkl]
   ·simp only [cs]; rw [List.getElem?_set_ne (Ne.symm e), if_neg e]
  have hnx : ∀ j, nx { w with bs := w.bs.set k b', deeds := w.deeds ++ [d] } j = if j = k then b.next + 1 else nx w j := fun j => by
   by_cases e : j = k
   ·subst e; simp [nx, hkl, hb']
   ·simp only [nx]; rw [List.getElem?_set_ne (Ne.symm e), if_neg e]
  have hbc : b'.cases = b.cases ++ [⟨d, false, true, []⟩] := by rw [hb']
  have into : ∀ j c, c ∈ cs w j → c ∈ cs { w with bs := w.bs.set k b', deeds := w.deeds ++ [d] } j := fun j c hc => by
   rw [hcs]
   by_cases e : j = k
   ·rw [if_pos e, hbc]; rw [e, hck] at hc; exact List.mem_append_left _ hc
   ·rwa [if_neg e]
  have from' : ∀ j c, c ∈ cs { w with bs := w.bs.set k b', deeds := w.deeds ++ [d] } j → c ∈ cs w j ∨ (j = k ∧ c = ⟨d, false, true, []⟩) := fun j c hc => by
   rw [hcs] at hc
   by_cases e : j = k
   ·rw [if_pos e, hbc] at hc
    rw [e, hck]
    rcases List.mem_append.1 hc with h | h
    ·exact .inl h
    ·exact .inr ⟨rfl, List.mem_singleton.1 h⟩
   ·rw [if_neg e] at hc; exact .inl hc
  have ph : ∀ x ∈ w.deeds, Ph w { w with bs := w.bs.set k b', deeds := w.deeds ++ [d] } x := fun x hx => by
   have gone : goneC w x → goneC { w with bs := w.bs.set k b', deeds := w.deeds ++ [d] } x := fun h c hc e => by
    rcases from' _ c hc with h1 | ⟨_, h1⟩
    ·exact h c h1 e
    ·rw [h1] at e
     exact fresh x hx e.symm
   refine ⟨fun ⟨c, hc, e, s⟩ => ⟨?_, fun _ h => h⟩, fun h => ?_, fun _ h => h, gone⟩
   ·rcases from' _ c hc with h | ⟨_, h⟩
    ·exact ⟨c, h, e, s⟩
    ·rw [h] at e
     exact absurd e.symm (fresh x hx)
   ·rcases h with ⟨c, hc, e, s⟩ | ⟨h1, h2⟩
    ·exact .inl ⟨c, into _ c hc, e, s⟩
    ·exact .inr ⟨gone h1, h2⟩
  have hnd : noneD w d := fun g hg => by
   obtain ⟨⟨x, hx, e, _⟩, _⟩ := (H.pt g).di d.id hg
   exact fresh x hx e
  have H1 : Inv isP clash PS { w with bs := w.bs.set k b', deeds := w.deeds ++ [d] } := by
   refine ⟨by simpa using H.lb, H.lp, H.ld, H.wi, fun j c hc => ?_, H.pi, H.dq, fun x hx => ?_, fun x hx => ?_, ?_, fun j => ?_, fun j c hc => ?_, fun x hx hgo => ?_, fun g => ⟨(H.pt g).nd, (H.pt g).ap, fun r hr => ?_, (H.pt g).dd, fun i hi => ⟨?_, ((H.pt g).di i hi).2⟩⟩, fun m hm => (H.ms m hm).ph fun x hx => ⟨List.mem_append_left _ hx, ph x hx⟩⟩
   ·by_cases e : j = k
    ·subst e
     simp only [List.getElem?_set_self hkl, Option.some.injEq] at hc
     subst hc
     rw [hb']
     exact ⟨hbi.1, by have := hbi.2.1; dsimp only; omega, by simp; omega⟩
    ·simp only [List.getElem?_set_ne (Ne.symm e)] at hc
     exact H.bi j c hc
   ·rcases List.mem_append.1 hx with hx | hx
    ·exact H.de x hx
    ·rw [List.mem_singleton.1 hx, hd]; exact hD
   ·rw [hnx]
    rcases List.mem_append.1 hx with hx | hx
    ·have := H.id x hx
     refine ⟨this.1, this.2.1, ?_⟩
     by_cases e : x.bo = k
     ·rw [if_pos e]
      rw [e, hnk] at this
      rw [e]; omega
     ·rw [if_neg e]; exact this.2.2
    ·rw [List.mem_singleton.1 hx, if_pos hdb, hdi, ← hdi]
     have := hbi.2.1
     exact ⟨by omega, by omega, by omega⟩
   ·simp only [List.map_append, List.map_cons, List.map_nil]
    rw [List.nodup_append]
    refine ⟨H.nd, by simp, fun x hx y hy => ?_⟩
    obtain ⟨z, hz, rfl⟩ := List.mem_map.1 hx
    rw [List.mem_singleton.1 hy]
    exact fresh z hz
   ·rw [hcs]
    by_cases e : j = k
    ·rw [if_pos e, hbc]
     simp only [List.map_append, List.map_cons, List.map_nil]
     rw [List.nodup_append]
     refine ⟨by have := H.cn k; rwa [hck] at this, by simp, fun x hx y hy => ?_⟩
     obtain ⟨z, hz, rfl⟩ := List.mem_map.1 hx
     rw [List.mem_singleton.1 hy]
     exact fresh z.de (H.ca k z (by rw [hck]; exact hz)).de
    ·rw [if_neg e]; exact H.cn j
   ·rcases from' j c hc with h | ⟨h, h'⟩
    ·have C := H.ca j c h
     exact ⟨List.mem_append_left _ C.de, C.bo, C.sub, C.up, C.lt, C.un, C.su⟩
    ·rw [h', h]
     exact ⟨List.mem_append_right _ (List.mem_singleton.2 rfl), hdb, (fun g hg => by cases hg), List.Pairwise.nil, by rw [hd]; exact List.length_pos_iff.2 hne, fun _ => ⟨hnd, fun g hg => by cases hg⟩, fun s => by cases s⟩
   ·rcases List.mem_append.1 hx with hx | hx
    ·exact H.go x hx fun c hc e => hgo c (into _ c hc) e
    ·rw [List.mem_singleton.1 hx] at hgo
     refine absurd rfl (hgo ⟨d, false, true, []⟩ ?_)
     rw [hcs, if_pos hdb, hbc]
     simp
   ·obtain ⟨x, hx, h⟩ := (H.pt g).re r hr
    exact ⟨x, List.mem_append_left _ hx, h⟩
   ·obtain ⟨⟨x, hx, h⟩, _⟩ := (H.pt g).di i hi
    exact ⟨x, List.mem_append_left _ hx, h⟩
  refine H1.send fun m hm => ?_
  obtain ⟨x, hx, rfl⟩ := List.mem_map.1 hm
  refine ⟨d, List.mem_append_right _ (List.mem_singleton.2 rfl), rfl, .inl ⟨rfl, hdb'.symm, ?_⟩⟩
  rw [hd]
  exact hx
 ·simp only [if_neg hm]
  rw [self]
  exact H.send (l := []) fun x hx => by cases hx
theorem again_good (H : Inv isP clash PS w) {k : Nat} {b : Bo} (hb : w.bs[k]? = some b) : ∀ m ∈ againP b, GoodM w m := by
 intro m hm
 unfold againP at hm
 obtain ⟨l, hl, hm⟩ := List.mem_flatten.1 hm
 obtain ⟨c, hc, rfl⟩ := List.mem_map.1 hl
 unfold againC at hm
 obtain ⟨l, hl, hm⟩ := List.mem_flatten.1 hm
 obtain ⟨x, hx, rfl⟩ := List.mem_map.1 hl
 have hcm : c ∈ cs w k := by rw [cs_of hb]; exact hc
 have C := H.ca k c hcm
 have hbi := (H.bi k b hb).1
 have hbd : b.id = c.de.bo := by rw [hbi, C.bo]
 unfold againZ at hm
 split at hm
 ·cases hm
 ·split at hm
  ·rename_i hs
   rw [List.mem_singleton] at hm
   subst hm
   exact ⟨c.de, C.de, rfl, .inr (.inr (.inr (.inl ⟨rfl, hbd, (List.of_mem_zip hx).1, .inl ⟨c, H.csb hcm, rfl, hs⟩⟩)))⟩
  ·rw [List.mem_singleton] at hm
   subst hm
   exact ⟨c.de, C.de, rfl, .inl ⟨rfl, hbd, hx⟩⟩
theorem ask_good (H : Inv isP clash PS w) {k : Nat} {p : Pt} (hp : w.ps[k]? = some p) : ∀ m ∈ askP p, GoodM w m := by
 intro m hm
 unfold askP at hm
 obtain ⟨r, hr, rfl⟩ := List.mem_map.1 hm
 obtain ⟨d, hd, e, hz⟩ := (H.pt k).re r (by rw [rd_of hp]; exact hr)
 have h8 := (H.id d hd).1
 refine ⟨d, hd, by rw [e]; rfl, .inr (.inr (.inr (.inr (.inr (.inr ⟨rfl, ?_, ?_⟩)))))⟩
 ·rw [H.bo_id hd, e]
  exact Int.tmod_eq_emod_of_nonneg (by omega)
 ·show p.id ∈ d.grs
  rw [H.pi k p hp]
  exact (List.of_mem_zip hz).1
theorem Inv.give (H : Inv isP clash PS w) {k : Nat} {b : Bo} (hb : w.bs[k]? = some b) (i : Int) : Inv isP clash PS (giveW w k b i) := by
 have self : ({ w with bs := w.bs.set k b } : Wd) = w := by rw [set_same hb]
 have hbi := (H.bi k b hb).1
 have hck : cs w k = b.cases := cs_of hb
 unfold giveW giveP
 cases hx : b.cases[caseAt b i]? with
 | none =>
  dsimp only
  rw [self]
  exact H.send (l := []) fun x hx => by cases hx
 | some c =>
  dsimp only
  by_cases hs : c.sure = true
  ·simp only [if_pos hs]
   rw [self]
   exact H.send (l := []) fun x hx => by cases hx
  ·simp only [if_neg hs]
   have C := H.ca k c (by rw [hck]; exact List.mem_of_getElem? hx)
   have hce := H.erase hb hx (.inl (by simpa using hs))
   refine hce.1.send (all_good fun g hg => ⟨c.de, C.de, rfl, .inr (.inr (.inr (.inr (.inr (.inl ⟨rfl, by rw [C.bo, ← hbi]; rfl, hg, hce.2⟩)))))⟩)
theorem Inv.back (H : Inv isP clash PS w) {k : Nat} {b : Bo} (hb : w.bs[k]? = some b) : Inv isP clash PS { w with bs := w.bs.set k (backP b) } := by
 unfold backP
 refine H.fewer hb rfl rfl List.filter_sublist fun c hc => ?_
 cases h : c.sure with
 | true => exact .inl (List.mem_filter.2 ⟨hc, h⟩)
 | false => exact .inr (.inl rfl)
theorem Inv.come (H : Inv isP clash PS w) {m : Mg} (hm : GoodM w m) : Inv isP clash PS (comeW isP clash w m) := by
 unfold comeW
 split
 ·exact H
 ·rename_i hto
  split
  ·rename_i b p d hb hp hd
   refine (H.tell hb hm).hear hp hd fun hk => ?_
   have : ¬ (m.to = b.id ∧ m.nums.length = 1 ∧ (m.kind = 2 ∨ m.kind = 3 ∨ m.kind = 5 ∨ m.kind = 7)) := fun h => by omega
   unfold tellW tellP
   rw [if_neg this]
   dsimp only
   rw [set_same hb]
   exact hm.same rfl rfl rfl
  ·exact H
theorem Inv.take (H : Inv isP clash PS w) (i : Nat) (t : Bool) : Inv isP clash PS (takeW isP clash w i t) := by
 unfold takeW
 split
 ·exact H
 ·rename_i m hm
  have hg := H.ms m (List.mem_of_getElem? hm)
  cases t with
  | true => exact H.come hg
  | false => exact (H.loss i).come (hg.same rfl rfl rfl)
theorem begS_ok (x : Ac) (n : Nat) : ∀ (l : List Nat), l.Pairwise (· < ·) → (∀ g ∈ l, n ≤ g ∧ g < 4) → ∀ s : List Int × List (List UInt8) × Nat, s.1.Pairwise (· < ·) ∧ (∀ g ∈ s.1, 0 ≤ g ∧ g < n) ∧ (∀ p ∈ s.2.1, ∃ k, p = pathN k) ∧ n ≤ 4 →
  (l.foldl (begS x) s).1.Pairwise (· < ·) ∧ (∀ g ∈ (l.foldl (begS x) s).1, 0 ≤ g ∧ g < 4) ∧ (∀ p ∈ (l.foldl (begS x) s).2.1, ∃ k, p = pathN k)
 | [], _, _, s, h => ⟨h.1, fun g hg => by have := h.2.1 g hg; omega, h.2.2.1⟩
 | g :: l, hl, hg, s, h => by
  rw [List.pairwise_cons] at hl
  rw [List.foldl_cons]
  have hgn := hg g (List.mem_cons_self ..)
  refine begS_ok x (g + 1) l hl.2 (fun y hy => ⟨hl.1 y hy, (hg y (List.mem_cons_of_mem _ hy)).2⟩) _ ?_
  unfold begS
  split
  ·refine ⟨?_, fun y hy => ?_, fun p hp => ?_, by omega⟩
   ·rw [List.pairwise_append]
    refine ⟨h.1, by simp, fun y hy z hz => ?_⟩
    rw [List.mem_singleton.1 hz]
    have := h.2.1 y hy
    omega
   ·rcases List.mem_append.1 hy with hy | hy
    ·have := h.2.1 y hy; omega
    ·rw [List.mem_singleton.1 hy]; omega
   ·rcases List.mem_append.1 hp with hp | hp
    ·exact h.2.2.1 p hp
    ·exact ⟨_, List.mem_singleton.1 hp⟩
  ·exact ⟨h.1, fun y hy => by have := h.2.1 y hy; omega, h.2.2.1, by omega⟩
theorem begL_ok (x : Ac) : (begL x).1.Pairwise (· < ·) ∧ (∀ g ∈ (begL x).1, 0 ≤ g ∧ g < 4) ∧ (∀ p ∈ (begL x).2.1, ∃ k, p = pathN k) :=
 begS_ok x 0 [0, 1, 2, 3] (by decide) (by decide) _ ⟨List.Pairwise.nil, (fun g hg => by cases hg), (fun p hp => by cases hp), by decide⟩
theorem Inv.begin (H : Inv isP clash PS w) (hPS : ∀ k, pathN k ∈ PS) (x : Ac) : Inv isP clash PS (beginW isP w x) := by
 unfold beginW
 split
 ·exact H
 ·rename_i b hb
  obtain ⟨h1, h2, h3⟩ := begL_ok x
  exact H.start hb h1 h2 fun p hp => by obtain ⟨k, rfl⟩ := h3 p hp; exact hPS k
theorem Inv.do (H : Inv isP clash PS w) (hPS : ∀ k, pathN k ∈ PS) (x : Ac) : Inv isP clash PS (doW isP clash w x) := by
 unfold doW
 split
 ·rename_i b p hb hp
  repeat' split
  ·exact H.begin hPS x
  ·exact H.send (again_good H hb)
  ·exact H.send (ask_good H hp)
  ·exact H
  ·exact H.give hb _
  ·exact H.back hb
  ·exact H
  ·exact H.loss _
  ·exact H.take _ _
 ·exact H
theorem Inv.fresh : Inv isP clash PS freshW := by
 have c0 : ∀ k, cs freshW k = [] := fun k => by
  match k with
  | 0 => rfl
  | 1 => rfl
  | 2 => rfl
  | 3 => rfl
  | _ + 4 => rfl
 have r0 : ∀ k, rd freshW k = [] := fun k => by
  match k with
  | 0 => rfl
  | 1 => rfl
  | 2 => rfl
  | 3 => rfl
  | _ + 4 => rfl
 have d0 : ∀ k, dn freshW k = [] := fun k => by
  match k with
  | 0 => rfl
  | 1 => rfl
  | 2 => rfl
  | 3 => rfl
  | _ + 4 => rfl
 refine ⟨rfl, rfl, rfl, by decide, fun k b hb => ?_, fun k p hp => ?_, fun k d hd => ?_, (fun d hd => by cases hd), (fun d hd => by cases hd), List.Pairwise.nil, (fun k => by rw [c0]; exact List.Pairwise.nil), (fun k c hc => by rw [c0] at hc; cases hc), (fun d hd => by cases hd), (fun g => ⟨by rw [r0]; exact List.Pairwise.nil, by rw [r0]; exact List.Pairwise.nil, (fun r hr => by rw [r0] at hr; cases hr), by rw [d0]; exact List.Pairwise.nil, (fun i hi => by rw [d0] at hi; cases hi)⟩), (fun m hm => by cases hm)⟩
 ·match k with
  | 0 => cases hb; decide
  | 1 => cases hb; decide
  | 2 => cases hb; decide
  | 3 => cases hb; decide
  | _ + 4 => simp [freshW] at hb
 ·match k with
  | 0 => cases hp; rfl
  | 1 => cases hp; rfl
  | 2 => cases hp; rfl
  | 3 => cases hp; rfl
  | _ + 4 => simp [freshW] at hp
 ·rw [d0]
  match k with
  | 0 => cases hd; rfl
  | 1 => cases hd; rfl
  | 2 => cases hd; rfl
  | 3 => cases hd; rfl
  | _ + 4 => simp [freshW] at hd
end
end Go.Cr
