/-
  No cell of these rows narrows 'for every input' (looked for: loops, veiled, ifaces, maps, wideKeys, modest, calm, conditions, laid).
  DERIVED. THE GIVEN ROWS OF THIS SEAT. 6 by the template 'for every input the law returns true; each argument reads behind the call as it read before'; 0 by the template 'total and deterministic' (their statements: YtdnoopjpkcmpjaaTotals.lean).
  GIVEN WITH THE SEED: the statements are not yours to turn. If you find one false, say at which input.
  Laid BY PROGRAM, IN A SANDBOX (cutbox-rows.mjs): the forced cells as the released guide's own fill.sh prints them over the translation 4dc9dd203f52c5ac… (all of the seat's roots in one cut). By AI agents, Wed Nov 11 2026. No macro, syntax, notation, axiom, sorry.
-/
import Derived.Test.YtdnoopjpkcmpjaaChecked
import GoSem.Claim
import GoSem.ClaimJoined
import GoSem.ClaimMapViews
import Derived.JoinedTies
import Derived.KernelRfl
namespace Go.Proofs.Ytdnoopjpkcmpjaa
/- THE CELL 'sum', in the pinned program and in every row, IS THE sha256 OF THE DUMP (.gsa) THAT YtdnoopjpkcmpjaaProg.lean LOADS. Nothing in Lean hashes anything: it is a label: what it is worth is what the hold of that sum in a sandbox is worth. -/
noncomputable def Try.pinned : Pinned := { name := "ytdnoopjpkcmpjaa", sum := "4dc9dd203f52c5acf1303c3f0d6feca53d8ad47426ecc462d49199e7c413c171", checked := Try.checked }
namespace Rows
def none {H : Type} : Left H := { results := [], args := [] }

/-- 'catacomblaw08.HoldBack': WHATEVER THE INPUT: true; the input reads as it did. -/
def holdBackSpec : ChangeSpec := { name := "holdBack", fn := fun _ => fun
  | [d1, d2, d3] => { results := [.lit (.bool true)], args := [d1, d2, d3] }
  | _ => none }
def holdBackRow : OpenClaim := { program := "ytdnoopjpkcmpjaa", sum := "4dc9dd203f52c5acf1303c3f0d6feca53d8ad47426ecc462d49199e7c413c171", func := "catacomb/catacomblaw08.HoldBack", spec := "holdBack", inPlace := ["slices.overlaps[catacomb/api.Hold]"], unfollowed := true, recurses := true, apart := false }
def HoldBackSaid : Prop := holdBackRow.holds Try.pinned (OpenSpec.ofChange holdBackSpec)

/-- ITS FALSE NEIGHBOUR: 'it returns false'. Refute it at one input. -/
def holdBackWrong : ChangeSpec := { name := "holdBack", fn := fun _ => fun
  | [d1, d2, d3] => { results := [.lit (.bool false)], args := [d1, d2, d3] }
  | _ => none }
def HoldBackWrongFalsely : Prop := holdBackRow.holds Try.pinned (OpenSpec.ofChange holdBackWrong)

/-- 'catacomblaw08.HoldTells': WHATEVER THE INPUT: true; the input reads as it did. -/
def holdTellsSpec : ChangeSpec := { name := "holdTells", fn := fun _ => fun
  | [d1, d2, d3, d4, d5] => { results := [.lit (.bool true)], args := [d1, d2, d3, d4, d5] }
  | _ => none }
def holdTellsRow : OpenClaim := { program := "ytdnoopjpkcmpjaa", sum := "4dc9dd203f52c5acf1303c3f0d6feca53d8ad47426ecc462d49199e7c413c171", func := "catacomb/catacomblaw08.HoldTells", spec := "holdTells", inPlace := ["slices.overlaps[catacomb/api.Hold]"], unfollowed := true, recurses := true, apart := false }
def HoldTellsSaid : Prop := holdTellsRow.holds Try.pinned (OpenSpec.ofChange holdTellsSpec)

/-- ITS FALSE NEIGHBOUR: 'it returns false'. Refute it at one input. -/
def holdTellsWrong : ChangeSpec := { name := "holdTells", fn := fun _ => fun
  | [d1, d2, d3, d4, d5] => { results := [.lit (.bool false)], args := [d1, d2, d3, d4, d5] }
  | _ => none }
def HoldTellsWrongFalsely : Prop := holdTellsRow.holds Try.pinned (OpenSpec.ofChange holdTellsWrong)

/-- 'catacomblaw08.HoldRight': WHATEVER THE INPUT: true; the input reads as it did. -/
def holdRightSpec : ChangeSpec := { name := "holdRight", fn := fun _ => fun
  | [d1, d2, d3] => { results := [.lit (.bool true)], args := [d1, d2, d3] }
  | _ => none }
def holdRightRow : OpenClaim := { program := "ytdnoopjpkcmpjaa", sum := "4dc9dd203f52c5acf1303c3f0d6feca53d8ad47426ecc462d49199e7c413c171", func := "catacomb/catacomblaw08.HoldRight", spec := "holdRight", inPlace := ["slices.overlaps[catacomb/api.Hold]"], unfollowed := true, recurses := true, apart := false }
def HoldRightSaid : Prop := holdRightRow.holds Try.pinned (OpenSpec.ofChange holdRightSpec)

/-- ITS FALSE NEIGHBOUR: 'it returns false'. Refute it at one input. -/
def holdRightWrong : ChangeSpec := { name := "holdRight", fn := fun _ => fun
  | [d1, d2, d3] => { results := [.lit (.bool false)], args := [d1, d2, d3] }
  | _ => none }
def HoldRightWrongFalsely : Prop := holdRightRow.holds Try.pinned (OpenSpec.ofChange holdRightWrong)

/-- 'catacomblaw08.HoldKept': WHATEVER THE INPUT: true; the input reads as it did. -/
def holdKeptSpec : ChangeSpec := { name := "holdKept", fn := fun _ => fun
  | [d1, d2, d3] => { results := [.lit (.bool true)], args := [d1, d2, d3] }
  | _ => none }
def holdKeptRow : OpenClaim := { program := "ytdnoopjpkcmpjaa", sum := "4dc9dd203f52c5acf1303c3f0d6feca53d8ad47426ecc462d49199e7c413c171", func := "catacomb/catacomblaw08.HoldKept", spec := "holdKept", inPlace := ["slices.overlaps[catacomb/api.Hold]"], unfollowed := true, recurses := true, apart := false }
def HoldKeptSaid : Prop := holdKeptRow.holds Try.pinned (OpenSpec.ofChange holdKeptSpec)

/-- ITS FALSE NEIGHBOUR: 'it returns false'. Refute it at one input. -/
def holdKeptWrong : ChangeSpec := { name := "holdKept", fn := fun _ => fun
  | [d1, d2, d3] => { results := [.lit (.bool false)], args := [d1, d2, d3] }
  | _ => none }
def HoldKeptWrongFalsely : Prop := holdKeptRow.holds Try.pinned (OpenSpec.ofChange holdKeptWrong)

/-- 'catacomblaw08.HoldGone': WHATEVER THE INPUT: true; the input reads as it did. -/
def holdGoneSpec : ChangeSpec := { name := "holdGone", fn := fun _ => fun
  | [d1, d2, d3] => { results := [.lit (.bool true)], args := [d1, d2, d3] }
  | _ => none }
def holdGoneRow : OpenClaim := { program := "ytdnoopjpkcmpjaa", sum := "4dc9dd203f52c5acf1303c3f0d6feca53d8ad47426ecc462d49199e7c413c171", func := "catacomb/catacomblaw08.HoldGone", spec := "holdGone", inPlace := ["slices.overlaps[catacomb/api.Hold]"], unfollowed := true, recurses := true, apart := false }
def HoldGoneSaid : Prop := holdGoneRow.holds Try.pinned (OpenSpec.ofChange holdGoneSpec)

/-- ITS FALSE NEIGHBOUR: 'it returns false'. Refute it at one input. -/
def holdGoneWrong : ChangeSpec := { name := "holdGone", fn := fun _ => fun
  | [d1, d2, d3] => { results := [.lit (.bool false)], args := [d1, d2, d3] }
  | _ => none }
def HoldGoneWrongFalsely : Prop := holdGoneRow.holds Try.pinned (OpenSpec.ofChange holdGoneWrong)

/-- 'catacomblaw08.HoldOrphans': WHATEVER THE INPUT: true; the input reads as it did. -/
def holdOrphansSpec : ChangeSpec := { name := "holdOrphans", fn := fun _ => fun
  | [d1, d2] => { results := [.lit (.bool true)], args := [d1, d2] }
  | _ => none }
def holdOrphansRow : OpenClaim := { program := "ytdnoopjpkcmpjaa", sum := "4dc9dd203f52c5acf1303c3f0d6feca53d8ad47426ecc462d49199e7c413c171", func := "catacomb/catacomblaw08.HoldOrphans", spec := "holdOrphans", inPlace := ["slices.overlaps[catacomb/api.Hold]"], unfollowed := true, recurses := true, apart := false }
def HoldOrphansSaid : Prop := holdOrphansRow.holds Try.pinned (OpenSpec.ofChange holdOrphansSpec)

/-- ITS FALSE NEIGHBOUR: 'it returns false'. Refute it at one input. -/
def holdOrphansWrong : ChangeSpec := { name := "holdOrphans", fn := fun _ => fun
  | [d1, d2] => { results := [.lit (.bool false)], args := [d1, d2] }
  | _ => none }
def HoldOrphansWrongFalsely : Prop := holdOrphansRow.holds Try.pinned (OpenSpec.ofChange holdOrphansWrong)

/- THE SECOND FORM. 'bulk': how many values and letters a reading holds, each counted each time it is reached (what is shared counts as often as it is met; a slice's spare places count too). A statement '..UptoSaid' is the law's where the arguments, and the package variables that the reading takes, are together of bulk at most 1048576: NARROWER than '..Said'. Prove '..Said' where nothing that the law and all that it calls make is longer than what came in: it says more and counts as full. Else prove '..UptoSaid'. A law counts once. -/
mutual
def uptoBulk {H : Type} : DataW H → Nat
  | .lit (.string bytes) => bytes.length + 1
  | .lit _ => 1
  | .nil => 1
  | .ptr d => uptoBulk d + 1
  | .slice elems spare => uptoBulkAll elems + uptoBulkAll spare + 1
  | .agg parts => uptoBulkAll parts + 1
  | .iface _ d => uptoBulk d + 1
  | .map entries => uptoBulkEntries entries + 1
  | .held _ => 1
def uptoBulkAll {H : Type} : List (DataW H) → Nat
  | [] => 0
  | d :: r => uptoBulk d + uptoBulkAll r
def uptoBulkEntries {H : Type} : List (Lit × DataW H) → Nat
  | [] => 0
  | x :: r => uptoBulkEntry x + uptoBulkEntries r
def uptoBulkEntry {H : Type} : Lit × DataW H → Nat
  | (.string bytes, d) => bytes.length + uptoBulk d + 1
  | (_, d) => uptoBulk d + 1
 end
def uptoSmall : (H : Type) → List (DataW H) → Bool := fun _ ds => decide (uptoBulkAll ds ≤ 1048576)
def OpenSpec.upto (s : _root_.Go.ChangeSpec) : _root_.Go.OpenSpec := { _root_.Go.OpenSpec.ofChange s with cond := some uptoSmall }

/-- 'catacomblaw08.HoldBack', WHERE WHAT IT READS IS OF BULK AT MOST 1048576: true; the input reads as it did. -/
def holdBackUptoRow : OpenClaim := { program := "ytdnoopjpkcmpjaa", sum := "4dc9dd203f52c5acf1303c3f0d6feca53d8ad47426ecc462d49199e7c413c171", func := "catacomb/catacomblaw08.HoldBack", spec := "holdBack", inPlace := ["slices.overlaps[catacomb/api.Hold]"], unfollowed := true, recurses := true, apart := false, narrowed := true }
def HoldBackUptoSaid : Prop := holdBackUptoRow.holds Try.pinned (OpenSpec.upto holdBackSpec)

/-- 'catacomblaw08.HoldTells', WHERE WHAT IT READS IS OF BULK AT MOST 1048576: true; the input reads as it did. -/
def holdTellsUptoRow : OpenClaim := { program := "ytdnoopjpkcmpjaa", sum := "4dc9dd203f52c5acf1303c3f0d6feca53d8ad47426ecc462d49199e7c413c171", func := "catacomb/catacomblaw08.HoldTells", spec := "holdTells", inPlace := ["slices.overlaps[catacomb/api.Hold]"], unfollowed := true, recurses := true, apart := false, narrowed := true }
def HoldTellsUptoSaid : Prop := holdTellsUptoRow.holds Try.pinned (OpenSpec.upto holdTellsSpec)

/-- 'catacomblaw08.HoldRight', WHERE WHAT IT READS IS OF BULK AT MOST 1048576: true; the input reads as it did. -/
def holdRightUptoRow : OpenClaim := { program := "ytdnoopjpkcmpjaa", sum := "4dc9dd203f52c5acf1303c3f0d6feca53d8ad47426ecc462d49199e7c413c171", func := "catacomb/catacomblaw08.HoldRight", spec := "holdRight", inPlace := ["slices.overlaps[catacomb/api.Hold]"], unfollowed := true, recurses := true, apart := false, narrowed := true }
def HoldRightUptoSaid : Prop := holdRightUptoRow.holds Try.pinned (OpenSpec.upto holdRightSpec)

/-- 'catacomblaw08.HoldKept', WHERE WHAT IT READS IS OF BULK AT MOST 1048576: true; the input reads as it did. -/
def holdKeptUptoRow : OpenClaim := { program := "ytdnoopjpkcmpjaa", sum := "4dc9dd203f52c5acf1303c3f0d6feca53d8ad47426ecc462d49199e7c413c171", func := "catacomb/catacomblaw08.HoldKept", spec := "holdKept", inPlace := ["slices.overlaps[catacomb/api.Hold]"], unfollowed := true, recurses := true, apart := false, narrowed := true }
def HoldKeptUptoSaid : Prop := holdKeptUptoRow.holds Try.pinned (OpenSpec.upto holdKeptSpec)

/-- 'catacomblaw08.HoldGone', WHERE WHAT IT READS IS OF BULK AT MOST 1048576: true; the input reads as it did. -/
def holdGoneUptoRow : OpenClaim := { program := "ytdnoopjpkcmpjaa", sum := "4dc9dd203f52c5acf1303c3f0d6feca53d8ad47426ecc462d49199e7c413c171", func := "catacomb/catacomblaw08.HoldGone", spec := "holdGone", inPlace := ["slices.overlaps[catacomb/api.Hold]"], unfollowed := true, recurses := true, apart := false, narrowed := true }
def HoldGoneUptoSaid : Prop := holdGoneUptoRow.holds Try.pinned (OpenSpec.upto holdGoneSpec)

/-- 'catacomblaw08.HoldOrphans', WHERE WHAT IT READS IS OF BULK AT MOST 1048576: true; the input reads as it did. -/
def holdOrphansUptoRow : OpenClaim := { program := "ytdnoopjpkcmpjaa", sum := "4dc9dd203f52c5acf1303c3f0d6feca53d8ad47426ecc462d49199e7c413c171", func := "catacomb/catacomblaw08.HoldOrphans", spec := "holdOrphans", inPlace := ["slices.overlaps[catacomb/api.Hold]"], unfollowed := true, recurses := true, apart := false, narrowed := true }
def HoldOrphansUptoSaid : Prop := holdOrphansUptoRow.holds Try.pinned (OpenSpec.upto holdOrphansSpec)

end Rows
end Go.Proofs.Ytdnoopjpkcmpjaa
