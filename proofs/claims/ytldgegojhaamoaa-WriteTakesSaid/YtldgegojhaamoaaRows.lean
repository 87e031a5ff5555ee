/-
  No cell of these rows narrows 'for every input' (looked for: loops, veiled, ifaces, maps, wideKeys, modest, calm, conditions, laid).
  DERIVED. THE GIVEN ROWS OF THIS SEAT. 6 by the template 'for every input the law returns true; each argument reads behind the call as it read before'; 0 by the template 'total and deterministic' (their statements: YtldgegojhaamoaaTotals.lean).
  GIVEN WITH THE SEED: the statements are not yours to turn. If you find one false, say at which input.
  Laid BY PROGRAM, IN A SANDBOX (cutbox-rows.mjs): the forced cells as the released guide's own fill.sh prints them over the translation 9130cec613b4596b… (all of the seat's roots in one cut). By AI agents, Wed Nov 11 2026. No macro, syntax, notation, axiom, sorry.
-/
import Derived.Test.YtldgegojhaamoaaChecked
import GoSem.Claim
import GoSem.ClaimJoined
import GoSem.ClaimMapViews
import Derived.JoinedTies
import Derived.KernelRfl
namespace Go.Proofs.Ytldgegojhaamoaa
/- THE CELL 'sum', in the pinned program and in every row, IS THE sha256 OF THE DUMP (.gsa) THAT YtldgegojhaamoaaProg.lean LOADS. Nothing in Lean hashes anything: it is a label: what it is worth is what the hold of that sum in a sandbox is worth. -/
noncomputable def Try.pinned : Pinned := { name := "ytldgegojhaamoaa", sum := "9130cec613b4596bf49e05ce68d0b484e384173a3df5f514b7bcca9387ac257d", checked := Try.checked }
namespace Rows
def none {H : Type} : Left H := { results := [], args := [] }

/-- 'catacomblaw24.WriteTells': WHATEVER THE INPUT: true; the input reads as it did. -/
def writeTellsSpec : ChangeSpec := { name := "writeTells", fn := fun _ => fun
  | [d1, d2, d3, d4, d5] => { results := [.lit (.bool true)], args := [d1, d2, d3, d4, d5] }
  | _ => none }
def writeTellsRow : OpenClaim := { program := "ytldgegojhaamoaa", sum := "9130cec613b4596bf49e05ce68d0b484e384173a3df5f514b7bcca9387ac257d", func := "catacomb/catacomblaw24.WriteTells", spec := "writeTells", inPlace := ["slices.overlaps[catacomb/api.Stored]"], unfollowed := true, recurses := true, apart := false }
def WriteTellsSaid : Prop := writeTellsRow.holds Try.pinned (OpenSpec.ofChange writeTellsSpec)

/-- ITS FALSE NEIGHBOUR: 'it returns false'. Refute it at one input. -/
def writeTellsWrong : ChangeSpec := { name := "writeTells", fn := fun _ => fun
  | [d1, d2, d3, d4, d5] => { results := [.lit (.bool false)], args := [d1, d2, d3, d4, d5] }
  | _ => none }
def WriteTellsWrongFalsely : Prop := writeTellsRow.holds Try.pinned (OpenSpec.ofChange writeTellsWrong)

/-- 'catacomblaw24.WriteTakes': WHATEVER THE INPUT: true; the input reads as it did. -/
def writeTakesSpec : ChangeSpec := { name := "writeTakes", fn := fun _ => fun
  | [d1, d2, d3] => { results := [.lit (.bool true)], args := [d1, d2, d3] }
  | _ => none }
def writeTakesRow : OpenClaim := { program := "ytldgegojhaamoaa", sum := "9130cec613b4596bf49e05ce68d0b484e384173a3df5f514b7bcca9387ac257d", func := "catacomb/catacomblaw24.WriteTakes", spec := "writeTakes", inPlace := ["slices.overlaps[catacomb/api.Stored]"], unfollowed := true, recurses := true, apart := false }
def WriteTakesSaid : Prop := writeTakesRow.holds Try.pinned (OpenSpec.ofChange writeTakesSpec)

/-- ITS FALSE NEIGHBOUR: 'it returns false'. Refute it at one input. -/
def writeTakesWrong : ChangeSpec := { name := "writeTakes", fn := fun _ => fun
  | [d1, d2, d3] => { results := [.lit (.bool false)], args := [d1, d2, d3] }
  | _ => none }
def WriteTakesWrongFalsely : Prop := writeTakesRow.holds Try.pinned (OpenSpec.ofChange writeTakesWrong)

/-- 'catacomblaw24.WriteSees': WHATEVER THE INPUT: true; the input reads as it did. -/
def writeSeesSpec : ChangeSpec := { name := "writeSees", fn := fun _ => fun
  | [d1, d2, d3, d4] => { results := [.lit (.bool true)], args := [d1, d2, d3, d4] }
  | _ => none }
def writeSeesRow : OpenClaim := { program := "ytldgegojhaamoaa", sum := "9130cec613b4596bf49e05ce68d0b484e384173a3df5f514b7bcca9387ac257d", func := "catacomb/catacomblaw24.WriteSees", spec := "writeSees", inPlace := ["slices.overlaps[catacomb/api.Stored]"], unfollowed := true, recurses := true, apart := false }
def WriteSeesSaid : Prop := writeSeesRow.holds Try.pinned (OpenSpec.ofChange writeSeesSpec)

/-- ITS FALSE NEIGHBOUR: 'it returns false'. Refute it at one input. -/
def writeSeesWrong : ChangeSpec := { name := "writeSees", fn := fun _ => fun
  | [d1, d2, d3, d4] => { results := [.lit (.bool false)], args := [d1, d2, d3, d4] }
  | _ => none }
def WriteSeesWrongFalsely : Prop := writeSeesRow.holds Try.pinned (OpenSpec.ofChange writeSeesWrong)

/-- 'catacomblaw24.WriteBack': WHATEVER THE INPUT: true; the input reads as it did. -/
def writeBackSpec : ChangeSpec := { name := "writeBack", fn := fun _ => fun
  | [d1, d2, d3] => { results := [.lit (.bool true)], args := [d1, d2, d3] }
  | _ => none }
def writeBackRow : OpenClaim := { program := "ytldgegojhaamoaa", sum := "9130cec613b4596bf49e05ce68d0b484e384173a3df5f514b7bcca9387ac257d", func := "catacomb/catacomblaw24.WriteBack", spec := "writeBack", inPlace := ["slices.overlaps[catacomb/api.Stored]"], unfollowed := true, recurses := true, apart := false }
def WriteBackSaid : Prop := writeBackRow.holds Try.pinned (OpenSpec.ofChange writeBackSpec)

/-- ITS FALSE NEIGHBOUR: 'it returns false'. Refute it at one input. -/
def writeBackWrong : ChangeSpec := { name := "writeBack", fn := fun _ => fun
  | [d1, d2, d3] => { results := [.lit (.bool false)], args := [d1, d2, d3] }
  | _ => none }
def WriteBackWrongFalsely : Prop := writeBackRow.holds Try.pinned (OpenSpec.ofChange writeBackWrong)

/-- 'catacomblaw24.WriteLoses': WHATEVER THE INPUT: true; the input reads as it did. -/
def writeLosesSpec : ChangeSpec := { name := "writeLoses", fn := fun _ => fun
  | [d1, d2, d3, d4] => { results := [.lit (.bool true)], args := [d1, d2, d3, d4] }
  | _ => none }
def writeLosesRow : OpenClaim := { program := "ytldgegojhaamoaa", sum := "9130cec613b4596bf49e05ce68d0b484e384173a3df5f514b7bcca9387ac257d", func := "catacomb/catacomblaw24.WriteLoses", spec := "writeLoses", inPlace := ["slices.overlaps[catacomb/api.Stored]"], unfollowed := true, recurses := true, apart := false }
def WriteLosesSaid : Prop := writeLosesRow.holds Try.pinned (OpenSpec.ofChange writeLosesSpec)

/-- ITS FALSE NEIGHBOUR: 'it returns false'. Refute it at one input. -/
def writeLosesWrong : ChangeSpec := { name := "writeLoses", fn := fun _ => fun
  | [d1, d2, d3, d4] => { results := [.lit (.bool false)], args := [d1, d2, d3, d4] }
  | _ => none }
def WriteLosesWrongFalsely : Prop := writeLosesRow.holds Try.pinned (OpenSpec.ofChange writeLosesWrong)

/-- 'catacomblaw24.WriteFences': WHATEVER THE INPUT: true; the input reads as it did. -/
def writeFencesSpec : ChangeSpec := { name := "writeFences", fn := fun _ => fun
  | [d1, d2, d3, d4, d5] => { results := [.lit (.bool true)], args := [d1, d2, d3, d4, d5] }
  | _ => none }
def writeFencesRow : OpenClaim := { program := "ytldgegojhaamoaa", sum := "9130cec613b4596bf49e05ce68d0b484e384173a3df5f514b7bcca9387ac257d", func := "catacomb/catacomblaw24.WriteFences", spec := "writeFences", inPlace := ["slices.overlaps[catacomb/api.Stored]"], unfollowed := true, recurses := true, apart := false }
def WriteFencesSaid : Prop := writeFencesRow.holds Try.pinned (OpenSpec.ofChange writeFencesSpec)

/-- ITS FALSE NEIGHBOUR: 'it returns false'. Refute it at one input. -/
def writeFencesWrong : ChangeSpec := { name := "writeFences", fn := fun _ => fun
  | [d1, d2, d3, d4, d5] => { results := [.lit (.bool false)], args := [d1, d2, d3, d4, d5] }
  | _ => none }
def WriteFencesWrongFalsely : Prop := writeFencesRow.holds Try.pinned (OpenSpec.ofChange writeFencesWrong)

/- THE SECOND FORM. 'bulk': how many values and letters a reading holds, each counted each time it is reached (what is shared counts as often as it is met; a slice's spare places count too). A statement '..UptoSaid' is the law's where the arguments, and the package variables that the reading takes, are together of bulk at most 1048576: NARROWER than '..Said'. Prove '..Said' where nothing that the law and all that it calls make is longer than what came in: it says more and counts as full. Else prove '..UptoSaid'. A law counts once. -/
mutual
def uptoBulk {H : Type} : DataW H → Nat
  | .lit (.string bytes) => bytes.length + 1
  | .lit _ => 1
  | .nil => 1
  | .ptr d => uptoBulk d + 1
  | .slice elems spare => uptoBulkAll elems + uptoBulkAll spare + 1
  | .agg parts => uptoBulkAll parts + 1
  | .iface _ d => uptoBulk d + 1
  | .map entries => uptoBulkEntries entries + 1
  | .held _ => 1
def uptoBulkAll {H : Type} : List (DataW H) → Nat
  | [] => 0
  | d :: r => uptoBulk d + uptoBulkAll r
def uptoBulkEntries {H : Type} : List (Lit × DataW H) → Nat
  | [] => 0
  | x :: r => uptoBulkEntry x + uptoBulkEntries r
def uptoBulkEntry {H : Type} : Lit × DataW H → Nat
  | (.string bytes, d) => bytes.length + uptoBulk d + 1
  | (_, d) => uptoBulk d + 1
 end
def uptoSmall : (H : Type) → List (DataW H) → Bool := fun _ ds => decide (uptoBulkAll ds ≤ 1048576)
def OpenSpec.upto (s : _root_.Go.ChangeSpec) : _root_.Go.OpenSpec := { _root_.Go.OpenSpec.ofChange s with cond := some uptoSmall }

/-- 'catacomblaw24.WriteTells', WHERE WHAT IT READS IS OF BULK AT MOST 1048576: true; the input reads as it did. -/
def writeTellsUptoRow : OpenClaim := { program := "ytldgegojhaamoaa", sum := "9130cec613b4596bf49e05ce68d0b484e384173a3df5f514b7bcca9387ac257d", func := "catacomb/catacomblaw24.WriteTells", spec := "writeTells", inPlace := ["slices.overlaps[catacomb/api.Stored]"], unfollowed := true, recurses := true, apart := false, narrowed := true }
def WriteTellsUptoSaid : Prop := writeTellsUptoRow.holds Try.pinned (OpenSpec.upto writeTellsSpec)

/-- 'catacomblaw24.WriteTakes', WHERE WHAT IT READS IS OF BULK AT MOST 1048576: true; the input reads as it did. -/
def writeTakesUptoRow : OpenClaim := { program := "ytldgegojhaamoaa", sum := "9130cec613b4596bf49e05ce68d0b484e384173a3df5f514b7bcca9387ac257d", func := "catacomb/catacomblaw24.WriteTakes", spec := "writeTakes", inPlace := ["slices.overlaps[catacomb/api.Stored]"], unfollowed := true, recurses := true, apart := false, narrowed := true }
def WriteTakesUptoSaid : Prop := writeTakesUptoRow.holds Try.pinned (OpenSpec.upto writeTakesSpec)

/-- 'catacomblaw24.WriteSees', WHERE WHAT IT READS IS OF BULK AT MOST 1048576: true; the input reads as it did. -/
def writeSeesUptoRow : OpenClaim := { program := "ytldgegojhaamoaa", sum := "9130cec613b4596bf49e05ce68d0b484e384173a3df5f514b7bcca9387ac257d", func := "catacomb/catacomblaw24.WriteSees", spec := "writeSees", inPlace := ["slices.overlaps[catacomb/api.Stored]"], unfollowed := true, recurses := true, apart := false, narrowed := true }
def WriteSeesUptoSaid : Prop := writeSeesUptoRow.holds Try.pinned (OpenSpec.upto writeSeesSpec)

/-- 'catacomblaw24.WriteBack', WHERE WHAT IT READS IS OF BULK AT MOST 1048576: true; the input reads as it did. -/
def writeBackUptoRow : OpenClaim := { program := "ytldgegojhaamoaa", sum := "9130cec613b4596bf49e05ce68d0b484e384173a3df5f514b7bcca9387ac257d", func := "catacomb/catacomblaw24.WriteBack", spec := "writeBack", inPlace := ["slices.overlaps[catacomb/api.Stored]"], unfollowed := true, recurses := true, apart := false, narrowed := true }
def WriteBackUptoSaid : Prop := writeBackUptoRow.holds Try.pinned (OpenSpec.upto writeBackSpec)

/-- 'catacomblaw24.WriteLoses', WHERE WHAT IT READS IS OF BULK AT MOST 1048576: true; the input reads as it did. -/
def writeLosesUptoRow : OpenClaim := { program := "ytldgegojhaamoaa", sum := "9130cec613b4596bf49e05ce68d0b484e384173a3df5f514b7bcca9387ac257d", func := "catacomb/catacomblaw24.WriteLoses", spec := "writeLoses", inPlace := ["slices.overlaps[catacomb/api.Stored]"], unfollowed := true, recurses := true, apart := false, narrowed := true }
def WriteLosesUptoSaid : Prop := writeLosesUptoRow.holds Try.pinned (OpenSpec.upto writeLosesSpec)

/-- 'catacomblaw24.WriteFences', WHERE WHAT IT READS IS OF BULK AT MOST 1048576: true; the input reads as it did. -/
def writeFencesUptoRow : OpenClaim := { program := "ytldgegojhaamoaa", sum := "9130cec613b4596bf49e05ce68d0b484e384173a3df5f514b7bcca9387ac257d", func := "catacomb/catacomblaw24.WriteFences", spec := "writeFences", inPlace := ["slices.overlaps[catacomb/api.Stored]"], unfollowed := true, recurses := true, apart := false, narrowed := true }
def WriteFencesUptoSaid : Prop := writeFencesUptoRow.holds Try.pinned (OpenSpec.upto writeFencesSpec)

end Rows
end Go.Proofs.Ytldgegojhaamoaa
