/-
  Deeds of several groups, in plain Lean: bosses, parts, messages.
-/
set_option linter.unusedSimpArgs false
set_option linter.unusedVariables false
namespace Go.Cr

structure Mg where
  fr : Int
  to : Int
  kind : Int
  fn : Bool
  nums : List Int
  fd : Bool
  data : List UInt8
structure De where
  id : Int
  fg : Bool
  grs : List Int
  fp : Bool
  pas : List (List UInt8)
structure Ca where
  de : De
  sure : Bool
  fh : Bool
  heard : List Int
structure Bo where
  id : Int
  next : Int
  fc : Bool
  cases : List Ca
structure Rd where
  id : Int
  path : List UInt8
structure Pt where
  id : Int
  fr : Bool
  ready : List Rd
  fd : Bool
  did : List Int
structure Wd where
  bs : List Bo
  ps : List Pt
  wire : List Mg
  deeds : List De
  did : List (Bool × List Int)

def msgP (fr to kind id : Int) : Mg := ⟨fr, to, kind, true, [id], true, []⟩
def prepP (fr to id : Int) (path : List UInt8) : Mg := ⟨fr, to, 1, true, [id], false, path⟩
def allP (b : Bo) (d : De) (k : Int) : List Mg := d.grs.map fun g => msgP b.id g k d.id
/-- Where a number stands, or would, among some that rise. -/
def cutI (l : List Int) (x : Int) : Nat := l.findIdx fun y => decide (x ≤ y)
def insI (l : List Int) (x : Int) : List Int := l.take (cutI l x) ++ x :: l.drop (cutI l x)
def hearF (c : Ca) (g : Int) : Bool := if g ∈ c.heard then c.fh else false
def hearL (l : List Int) (g : Int) : List Int := if g ∈ l then l else insI l g
def caseAt (b : Bo) (id : Int) : Nat := b.cases.findIdx fun c => decide (c.de.id = id)
def withC (b : Bo) (l : List Ca) : Bo := ⟨b.id, b.next, false, l⟩
/-- A boss that hears of a case, at its place. -/
def tellC (b : Bo) (i : Nat) (c : Ca) (g k : Int) : Bo × List Mg :=
  if c.sure = true then
    if k = 3 then (withC b b.cases, [])
    else if k = 5 then
      if (hearL c.heard g).length = c.de.grs.length then (withC b (b.cases.eraseIdx i), []) else (withC b (b.cases.set i { c with fh := hearF c g, heard := hearL c.heard g }), [])
    else (withC b b.cases, [msgP b.id g 4 c.de.id])
  else
    if k = 3 then (withC b (b.cases.eraseIdx i), allP b c.de 6)
    else if k = 2 then
      if (hearL c.heard g).length = c.de.grs.length then (withC b (b.cases.set i { c with sure := true, fh := true, heard := [] }), allP b c.de 4) else (withC b (b.cases.set i { c with fh := hearF c g, heard := hearL c.heard g }), [])
    else (withC b b.cases, [])
def tellP (b : Bo) (m : Mg) : Bo × List Mg :=
  if m.to = b.id ∧ m.nums.length = 1 ∧ (m.kind = 2 ∨ m.kind = 3 ∨ m.kind = 5 ∨ m.kind = 7) then
    match b.cases[caseAt b (m.nums.headD 0)]? with
    | none => if m.kind = 2 ∨ m.kind = 7 then (b, [msgP b.id m.fr 6 (m.nums.headD 0)]) else (b, [])
    | some c => if m.fr ∈ c.de.grs then tellC b (caseAt b (m.nums.headD 0)) c m.fr m.kind else (b, [])
  else (b, [])
/-- The messages of one case that are said again. -/
def againZ (b : Bo) (c : Ca) (g : Int) (p : List UInt8) : List Mg := if g ∈ c.heard then [] else if c.sure = true then [msgP b.id g 4 c.de.id] else [prepP b.id g c.de.id p]
def againC (b : Bo) (c : Ca) : List Mg := ((c.de.grs.zip c.de.pas).map fun x => againZ b c x.1 x.2).flatten
def againP (b : Bo) : List Mg := (b.cases.map (againC b)).flatten
def giveP (b : Bo) (id : Int) : Bo × List Mg := match b.cases[caseAt b id]? with
  | none => (b, [])
  | some c => if c.sure = true then (b, []) else (withC b (b.cases.eraseIdx (caseAt b id)), allP b c.de 6)
def backP (b : Bo) : Bo := withC b (b.cases.filter fun c => c.sure)

section
variable (isP : List UInt8 → Bool) (clash : List UInt8 → List UInt8 → Bool)
def goodG (l : List Int) (i : Nat) : Bool := decide (0 ≤ (l[i]?).getD 0 ∧ (l[i]?).getD 0 < 8) && (decide (i = 0) || decide ((l[i - 1]?).getD 0 < (l[i]?).getD 0))
def grsOK (l : List Int) : Bool := (List.range l.length).all (goodG l)
def mayP (b : Bo) (grs : List Int) (pas : List (List UInt8)) : Int :=
  if grs = [] ∨ grs.length ≠ pas.length then 1
  else if grsOK grs = false then 1
  else if (pas.all isP) = false then 60
  else if 16 ≤ b.cases.length ∨ 4294967296 ≤ b.next then 76 else 0
def startP (b : Bo) (grs : List Int) (pas : List (List UInt8)) : Bo × Int × List Mg × Int :=
  if mayP isP b grs pas = 0 then
    (⟨b.id, b.next + 1, false, b.cases ++ [⟨⟨8 * (b.next + 1) + b.id, false, grs, false, pas⟩, false, true, []⟩]⟩, 8 * (b.next + 1) + b.id,
      (grs.zip pas).map fun x => prepP b.id x.1 (8 * (b.next + 1) + b.id) x.2, 0)
  else (b, 0, [], mayP isP b grs pas)
def lockedP (p : Pt) (path : List UInt8) : Bool := isP path && p.ready.any fun r => clash r.path path
def hearP (p : Pt) (m : Mg) : Pt × List Mg × Int :=
  if m.to = p.id ∧ m.nums.length = 1 then
    let id := m.nums.headD 0
    let did := decide (id ∈ p.did)
    let is := p.ready.any fun r => decide (r.id = id)
    if m.kind = 1 then
      if did = true then (p, [msgP p.id m.fr 5 id], 0)
      else if is = true then (p, [msgP p.id m.fr 2 id], 0)
      else if isP m.data = false ∨ lockedP isP clash p m.data = true then (p, [msgP p.id m.fr 3 id], 0)
      else (⟨p.id, false, p.ready ++ [⟨id, m.data⟩], p.fd, p.did⟩, [msgP p.id m.fr 2 id], 0)
    else if m.kind = 4 then
      if is = true then (⟨p.id, false, p.ready.eraseIdx (p.ready.findIdx fun r => decide (r.id = id)), false, p.did ++ [id]⟩, [msgP p.id m.fr 5 id], id)
      else if did = true then (p, [msgP p.id m.fr 5 id], 0) else (p, [], 0)
    else if m.kind = 6 then
      if is = true then (⟨p.id, false, p.ready.eraseIdx (p.ready.findIdx fun r => decide (r.id = id)), p.fd, p.did⟩, [], 0) else (p, [], 0)
    else (p, [], 0)
  else (p, [], 0)
def askP (p : Pt) : List Mg := p.ready.map fun r => msgP p.id (r.id.tmod 8) 7 r.id
end
end Go.Cr
