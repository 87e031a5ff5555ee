/-
  No cell of these rows narrows 'for every input' (looked for: loops, veiled, ifaces, maps, wideKeys, modest, calm, conditions, laid).
  DERIVED. THE GIVEN ROWS OF THIS SEAT. 7 by the template 'for every input the law returns true; each argument reads behind the call as it read before'; 0 by the template 'total and deterministic' (their statements: YtgefdmkmobaefaaTotals.lean).
  GIVEN WITH THE SEED: the statements are not yours to turn. If you find one false, say at which input.
  Laid BY PROGRAM, IN A SANDBOX (cutbox-rows.mjs): the forced cells as the released guide's own fill.sh prints them over the translation a49bc65f10349e65… (all of the seat's roots in one cut). By AI agents, Wed Nov 11 2026. No macro, syntax, notation, axiom, sorry.
-/
import Derived.Test.YtgefdmkmobaefaaChecked
import GoSem.Claim
import GoSem.ClaimJoined
import GoSem.ClaimMapViews
import Derived.JoinedTies
import Derived.KernelRfl
namespace Go.Proofs.Ytgefdmkmobaefaa
/- THE CELL 'sum', in the pinned program and in every row, IS THE sha256 OF THE DUMP (.gsa) THAT YtgefdmkmobaefaaProg.lean LOADS. Nothing in Lean hashes anything: it is a label: what it is worth is what the hold of that sum in a sandbox is worth. -/
noncomputable def Try.pinned : Pinned := { name := "ytgefdmkmobaefaa", sum := "a49bc65f10349e6574fc0e4f64b02e9db1b16c79c9370470477a1f1f62fb21e8", checked := Try.checked }
namespace Rows
def none {H : Type} : Left H := { results := [], args := [] }

/-- 'catacomblaw19.CrossStarts': WHATEVER THE INPUT: true; the input reads as it did. -/
def crossStartsSpec : ChangeSpec := { name := "crossStarts", fn := fun _ => fun
  | [d1, d2] => { results := [.lit (.bool true)], args := [d1, d2] }
  | _ => none }
def crossStartsRow : OpenClaim := { program := "ytgefdmkmobaefaa", sum := "a49bc65f10349e6574fc0e4f64b02e9db1b16c79c9370470477a1f1f62fb21e8", func := "catacomb/catacomblaw19.CrossStarts", spec := "crossStarts", inPlace := ["internal/bytealg.IndexByteString", "slices.overlaps[int]"], unfollowed := true, recurses := true, apart := false }
def CrossStartsSaid : Prop := crossStartsRow.holds Try.pinned (OpenSpec.ofChange crossStartsSpec)

/-- ITS FALSE NEIGHBOUR: 'it returns false'. Refute it at one input. -/
def crossStartsWrong : ChangeSpec := { name := "crossStarts", fn := fun _ => fun
  | [d1, d2] => { results := [.lit (.bool false)], args := [d1, d2] }
  | _ => none }
def CrossStartsWrongFalsely : Prop := crossStartsRow.holds Try.pinned (OpenSpec.ofChange crossStartsWrong)

/-- 'catacomblaw19.CrossAlone': WHATEVER THE INPUT: true; the input reads as it did. -/
def crossAloneSpec : ChangeSpec := { name := "crossAlone", fn := fun _ => fun
  | [d1, d2] => { results := [.lit (.bool true)], args := [d1, d2] }
  | _ => none }
def crossAloneRow : OpenClaim := { program := "ytgefdmkmobaefaa", sum := "a49bc65f10349e6574fc0e4f64b02e9db1b16c79c9370470477a1f1f62fb21e8", func := "catacomb/catacomblaw19.CrossAlone", spec := "crossAlone", inPlace := ["internal/bytealg.IndexByteString", "slices.overlaps[int]"], unfollowed := true, recurses := true, apart := false }
def CrossAloneSaid : Prop := crossAloneRow.holds Try.pinned (OpenSpec.ofChange crossAloneSpec)

/-- ITS FALSE NEIGHBOUR: 'it returns false'. Refute it at one input. -/
def crossAloneWrong : ChangeSpec := { name := "crossAlone", fn := fun _ => fun
  | [d1, d2] => { results := [.lit (.bool false)], args := [d1, d2] }
  | _ => none }
def CrossAloneWrongFalsely : Prop := crossAloneRow.holds Try.pinned (OpenSpec.ofChange crossAloneWrong)

/-- 'catacomblaw19.CrossTells': WHATEVER THE INPUT: true; the input reads as it did. -/
def crossTellsSpec : ChangeSpec := { name := "crossTells", fn := fun _ => fun
  | [d1, d2, d3] => { results := [.lit (.bool true)], args := [d1, d2, d3] }
  | _ => none }
def crossTellsRow : OpenClaim := { program := "ytgefdmkmobaefaa", sum := "a49bc65f10349e6574fc0e4f64b02e9db1b16c79c9370470477a1f1f62fb21e8", func := "catacomb/catacomblaw19.CrossTells", spec := "crossTells", inPlace := ["internal/bytealg.IndexByteString", "slices.overlaps[int]"], unfollowed := true, recurses := true, apart := false }
def CrossTellsSaid : Prop := crossTellsRow.holds Try.pinned (OpenSpec.ofChange crossTellsSpec)

/-- ITS FALSE NEIGHBOUR: 'it returns false'. Refute it at one input. -/
def crossTellsWrong : ChangeSpec := { name := "crossTells", fn := fun _ => fun
  | [d1, d2, d3] => { results := [.lit (.bool false)], args := [d1, d2, d3] }
  | _ => none }
def CrossTellsWrongFalsely : Prop := crossTellsRow.holds Try.pinned (OpenSpec.ofChange crossTellsWrong)

/-- 'catacomblaw19.CrossWhole': WHATEVER THE INPUT: true; the input reads as it did. -/
def crossWholeSpec : ChangeSpec := { name := "crossWhole", fn := fun _ => fun
  | [d] => { results := [.lit (.bool true)], args := [d] }
  | _ => none }
def crossWholeRow : OpenClaim := { program := "ytgefdmkmobaefaa", sum := "a49bc65f10349e6574fc0e4f64b02e9db1b16c79c9370470477a1f1f62fb21e8", func := "catacomb/catacomblaw19.CrossWhole", spec := "crossWhole", inPlace := ["internal/bytealg.IndexByteString", "slices.overlaps[int]"], unfollowed := true, recurses := true, apart := false }
def CrossWholeSaid : Prop := crossWholeRow.holds Try.pinned (OpenSpec.ofChange crossWholeSpec)

/-- ITS FALSE NEIGHBOUR: 'it returns false'. Refute it at one input. -/
def crossWholeWrong : ChangeSpec := { name := "crossWhole", fn := fun _ => fun
  | [d] => { results := [.lit (.bool false)], args := [d] }
  | _ => none }
def CrossWholeWrongFalsely : Prop := crossWholeRow.holds Try.pinned (OpenSpec.ofChange crossWholeWrong)

/-- 'catacomblaw19.CrossEnds': WHATEVER THE INPUT: true; the input reads as it did. -/
def crossEndsSpec : ChangeSpec := { name := "crossEnds", fn := fun _ => fun
  | [d] => { results := [.lit (.bool true)], args := [d] }
  | _ => none }
def crossEndsRow : OpenClaim := { program := "ytgefdmkmobaefaa", sum := "a49bc65f10349e6574fc0e4f64b02e9db1b16c79c9370470477a1f1f62fb21e8", func := "catacomb/catacomblaw19.CrossEnds", spec := "crossEnds", inPlace := ["internal/bytealg.IndexByteString", "slices.overlaps[int]"], unfollowed := true, recurses := true, apart := false }
def CrossEndsSaid : Prop := crossEndsRow.holds Try.pinned (OpenSpec.ofChange crossEndsSpec)

/-- ITS FALSE NEIGHBOUR: 'it returns false'. Refute it at one input. -/
def crossEndsWrong : ChangeSpec := { name := "crossEnds", fn := fun _ => fun
  | [d] => { results := [.lit (.bool false)], args := [d] }
  | _ => none }
def CrossEndsWrongFalsely : Prop := crossEndsRow.holds Try.pinned (OpenSpec.ofChange crossEndsWrong)

/-- 'catacomblaw19.CrossGiven': WHATEVER THE INPUT: true; the input reads as it did. -/
def crossGivenSpec : ChangeSpec := { name := "crossGiven", fn := fun _ => fun
  | [d1, d2] => { results := [.lit (.bool true)], args := [d1, d2] }
  | _ => none }
def crossGivenRow : OpenClaim := { program := "ytgefdmkmobaefaa", sum := "a49bc65f10349e6574fc0e4f64b02e9db1b16c79c9370470477a1f1f62fb21e8", func := "catacomb/catacomblaw19.CrossGiven", spec := "crossGiven", inPlace := ["internal/bytealg.IndexByteString", "slices.overlaps[int]"], unfollowed := true, recurses := true, apart := false }
def CrossGivenSaid : Prop := crossGivenRow.holds Try.pinned (OpenSpec.ofChange crossGivenSpec)

/-- ITS FALSE NEIGHBOUR: 'it returns false'. Refute it at one input. -/
def crossGivenWrong : ChangeSpec := { name := "crossGiven", fn := fun _ => fun
  | [d1, d2] => { results := [.lit (.bool false)], args := [d1, d2] }
  | _ => none }
def CrossGivenWrongFalsely : Prop := crossGivenRow.holds Try.pinned (OpenSpec.ofChange crossGivenWrong)

/-- 'catacomblaw19.CrossSerial': WHATEVER THE INPUT: true; the input reads as it did. -/
def crossSerialSpec : ChangeSpec := { name := "crossSerial", fn := fun _ => fun
  | [d] => { results := [.lit (.bool true)], args := [d] }
  | _ => none }
def crossSerialRow : OpenClaim := { program := "ytgefdmkmobaefaa", sum := "a49bc65f10349e6574fc0e4f64b02e9db1b16c79c9370470477a1f1f62fb21e8", func := "catacomb/catacomblaw19.CrossSerial", spec := "crossSerial", inPlace := ["internal/bytealg.IndexByteString", "slices.overlaps[int]"], unfollowed := true, recurses := true, apart := false }
def CrossSerialSaid : Prop := crossSerialRow.holds Try.pinned (OpenSpec.ofChange crossSerialSpec)

/-- ITS FALSE NEIGHBOUR: 'it returns false'. Refute it at one input. -/
def crossSerialWrong : ChangeSpec := { name := "crossSerial", fn := fun _ => fun
  | [d] => { results := [.lit (.bool false)], args := [d] }
  | _ => none }
def CrossSerialWrongFalsely : Prop := crossSerialRow.holds Try.pinned (OpenSpec.ofChange crossSerialWrong)

/- THE SECOND FORM. 'bulk': how many values and letters a reading holds, each counted each time it is reached (what is shared counts as often as it is met; a slice's spare places count too). A statement '..UptoSaid' is the law's where the arguments, and the package variables that the reading takes, are together of bulk at most 1048576: NARROWER than '..Said'. Prove '..Said' where nothing that the law and all that it calls make is longer than what came in: it says more and counts as full. Else prove '..UptoSaid'. A law counts once. -/
mutual
def uptoBulk {H : Type} : DataW H → Nat
  | .lit (.string bytes) => bytes.length + 1
  | .lit _ => 1
  | .nil => 1
  | .ptr d => uptoBulk d + 1
  | .slice elems spare => uptoBulkAll elems + uptoBulkAll spare + 1
  | .agg parts => uptoBulkAll parts + 1
  | .iface _ d => uptoBulk d + 1
  | .map entries => uptoBulkEntries entries + 1
  | .held _ => 1
def uptoBulkAll {H : Type} : List (DataW H) → Nat
  | [] => 0
  | d :: r => uptoBulk d + uptoBulkAll r
def uptoBulkEntries {H : Type} : List (Lit × DataW H) → Nat
  | [] => 0
  | x :: r => uptoBulkEntry x + uptoBulkEntries r
def uptoBulkEntry {H : Type} : Lit × DataW H → Nat
  | (.string bytes, d) => bytes.length + uptoBulk d + 1
  | (_, d) => uptoBulk d + 1
 end
def uptoSmall : (H : Type) → List (DataW H) → Bool := fun _ ds => decide (uptoBulkAll ds ≤ 1048576)
def OpenSpec.upto (s : _root_.Go.ChangeSpec) : _root_.Go.OpenSpec := { _root_.Go.OpenSpec.ofChange s with cond := some uptoSmall }

/-- 'catacomblaw19.CrossStarts', WHERE WHAT IT READS IS OF BULK AT MOST 1048576: true; the input reads as it did. -/
def crossStartsUptoRow : OpenClaim := { program := "ytgefdmkmobaefaa", sum := "a49bc65f10349e6574fc0e4f64b02e9db1b16c79c9370470477a1f1f62fb21e8", func := "catacomb/catacomblaw19.CrossStarts", spec := "crossStarts", inPlace := ["internal/bytealg.IndexByteString", "slices.overlaps[int]"], unfollowed := true, recurses := true, apart := false, narrowed := true }
def CrossStartsUptoSaid : Prop := crossStartsUptoRow.holds Try.pinned (OpenSpec.upto crossStartsSpec)

/-- 'catacomblaw19.CrossAlone', WHERE WHAT IT READS IS OF BULK AT MOST 1048576: true; the input reads as it did. -/
def crossAloneUptoRow : OpenClaim := { program := "ytgefdmkmobaefaa", sum := "a49bc65f10349e6574fc0e4f64b02e9db1b16c79c9370470477a1f1f62fb21e8", func := "catacomb/catacomblaw19.CrossAlone", spec := "crossAlone", inPlace := ["internal/bytealg.IndexByteString", "slices.overlaps[int]"], unfollowed := true, recurses := true, apart := false, narrowed := true }
def CrossAloneUptoSaid : Prop := crossAloneUptoRow.holds Try.pinned (OpenSpec.upto crossAloneSpec)

/-- 'catacomblaw19.CrossTells', WHERE WHAT IT READS IS OF BULK AT MOST 1048576: true; the input reads as it did. -/
def crossTellsUptoRow : OpenClaim := { program := "ytgefdmkmobaefaa", sum := "a49bc65f10349e6574fc0e4f64b02e9db1b16c79c9370470477a1f1f62fb21e8", func := "catacomb/catacomblaw19.CrossTells", spec := "crossTells", inPlace := ["internal/bytealg.IndexByteString", "slices.overlaps[int]"], unfollowed := true, recurses := true, apart := false, narrowed := true }
def CrossTellsUptoSaid : Prop := crossTellsUptoRow.holds Try.pinned (OpenSpec.upto crossTellsSpec)

/-- 'catacomblaw19.CrossWhole', WHERE WHAT IT READS IS OF BULK AT MOST 1048576: true; the input reads as it did. -/
def crossWholeUptoRow : OpenClaim := { program := "ytgefdmkmobaefaa", sum := "a49bc65f10349e6574fc0e4f64b02e9db1b16c79c9370470477a1f1f62fb21e8", func := "catacomb/catacomblaw19.CrossWhole", spec := "crossWhole", inPlace := ["internal/bytealg.IndexByteString", "slices.overlaps[int]"], unfollowed := true, recurses := true, apart := false, narrowed := true }
def CrossWholeUptoSaid : Prop := crossWholeUptoRow.holds Try.pinned (OpenSpec.upto crossWholeSpec)

/-- 'catacomblaw19.CrossEnds', WHERE WHAT IT READS IS OF BULK AT MOST 1048576: true; the input reads as it did. -/
def crossEndsUptoRow : OpenClaim := { program := "ytgefdmkmobaefaa", sum := "a49bc65f10349e6574fc0e4f64b02e9db1b16c79c9370470477a1f1f62fb21e8", func := "catacomb/catacomblaw19.CrossEnds", spec := "crossEnds", inPlace := ["internal/bytealg.IndexByteString", "slices.overlaps[int]"], unfollowed := true, recurses := true, apart := false, narrowed := true }
def CrossEndsUptoSaid : Prop := crossEndsUptoRow.holds Try.pinned (OpenSpec.upto crossEndsSpec)

/-- 'catacomblaw19.CrossGiven', WHERE WHAT IT READS IS OF BULK AT MOST 1048576: true; the input reads as it did. -/
def crossGivenUptoRow : OpenClaim := { program := "ytgefdmkmobaefaa", sum := "a49bc65f10349e6574fc0e4f64b02e9db1b16c79c9370470477a1f1f62fb21e8", func := "catacomb/catacomblaw19.CrossGiven", spec := "crossGiven", inPlace := ["internal/bytealg.IndexByteString", "slices.overlaps[int]"], unfollowed := true, recurses := true, apart := false, narrowed := true }
def CrossGivenUptoSaid : Prop := crossGivenUptoRow.holds Try.pinned (OpenSpec.upto crossGivenSpec)

/-- 'catacomblaw19.CrossSerial', WHERE WHAT IT READS IS OF BULK AT MOST 1048576: true; the input reads as it did. -/
def crossSerialUptoRow : OpenClaim := { program := "ytgefdmkmobaefaa", sum := "a49bc65f10349e6574fc0e4f64b02e9db1b16c79c9370470477a1f1f62fb21e8", func := "catacomb/catacomblaw19.CrossSerial", spec := "crossSerial", inPlace := ["internal/bytealg.IndexByteString", "slices.overlaps[int]"], unfollowed := true, recurses := true, apart := false, narrowed := true }
def CrossSerialUptoSaid : Prop := crossSerialUptoRow.holds Try.pinned (OpenSpec.upto crossSerialSpec)

end Rows
end Go.Proofs.Ytgefdmkmobaefaa
