/-
  No cell of these rows narrows 'for every input' (looked for: loops, veiled, ifaces, maps, wideKeys, modest, calm, conditions, laid).
  DERIVED. THE GIVEN ROWS OF THIS SEAT. 7 by the template 'for every input the law returns true; each argument reads behind the call as it read before'; 0 by the template 'total and deterministic' (their statements: YtalckkfoplaeeaaTotals.lean).
  GIVEN WITH THE SEED: the statements are not yours to turn. If you find one false, say at which input.
  Laid BY PROGRAM, IN A SANDBOX (cutbox-rows.mjs): the forced cells as the released guide's own fill.sh prints them over the translation 3a0ac13346a293ae… (all of the seat's roots in one cut). By AI agents, Wed Nov 11 2026. No macro, syntax, notation, axiom, sorry.
-/
import Derived.Test.YtalckkfoplaeeaaChecked
import GoSem.Claim
import GoSem.ClaimJoined
import GoSem.ClaimMapViews
import Derived.JoinedTies
import Derived.KernelRfl
namespace Go.Proofs.Ytalckkfoplaeeaa
/- THE CELL 'sum', in the pinned program and in every row, IS THE sha256 OF THE DUMP (.gsa) THAT YtalckkfoplaeeaaProg.lean LOADS. Nothing in Lean hashes anything: it is a label: what it is worth is what the hold of that sum in a sandbox is worth. -/
noncomputable def Try.pinned : Pinned := { name := "ytalckkfoplaeeaa", sum := "3a0ac13346a293ae68ff1deda5d234f4d039f057ee3f033b2c243091f3050b85", checked := Try.checked }
namespace Rows
def none {H : Type} : Left H := { results := [], args := [] }

/-- 'catacomblaw06.NameTells': WHATEVER THE INPUT: true; the input reads as it did. -/
def nameTellsSpec : ChangeSpec := { name := "nameTells", fn := fun _ => fun
  | [d1, d2, d3] => { results := [.lit (.bool true)], args := [d1, d2, d3] }
  | _ => none }
def nameTellsRow : OpenClaim := { program := "ytalckkfoplaeeaa", sum := "3a0ac13346a293ae68ff1deda5d234f4d039f057ee3f033b2c243091f3050b85", func := "catacomb/catacomblaw06.NameTells", spec := "nameTells", inPlace := ["internal/bytealg.IndexByteString", "internal/abi.NoEscape", "internal/bytealg.MakeNoZero"], unfollowed := true, recurses := true, apart := false }
def NameTellsSaid : Prop := nameTellsRow.holds Try.pinned (OpenSpec.ofChange nameTellsSpec)

/-- ITS FALSE NEIGHBOUR: 'it returns false'. Refute it at one input. -/
def nameTellsWrong : ChangeSpec := { name := "nameTells", fn := fun _ => fun
  | [d1, d2, d3] => { results := [.lit (.bool false)], args := [d1, d2, d3] }
  | _ => none }
def NameTellsWrongFalsely : Prop := nameTellsRow.holds Try.pinned (OpenSpec.ofChange nameTellsWrong)

/-- 'catacomblaw06.NameBack': WHATEVER THE INPUT: true; the input reads as it did. -/
def nameBackSpec : ChangeSpec := { name := "nameBack", fn := fun _ => fun
  | [d] => { results := [.lit (.bool true)], args := [d] }
  | _ => none }
def nameBackRow : OpenClaim := { program := "ytalckkfoplaeeaa", sum := "3a0ac13346a293ae68ff1deda5d234f4d039f057ee3f033b2c243091f3050b85", func := "catacomb/catacomblaw06.NameBack", spec := "nameBack", inPlace := ["internal/bytealg.IndexByteString", "internal/abi.NoEscape", "internal/bytealg.MakeNoZero"], unfollowed := true, recurses := true, apart := false }
def NameBackSaid : Prop := nameBackRow.holds Try.pinned (OpenSpec.ofChange nameBackSpec)

/-- ITS FALSE NEIGHBOUR: 'it returns false'. Refute it at one input. -/
def nameBackWrong : ChangeSpec := { name := "nameBack", fn := fun _ => fun
  | [d] => { results := [.lit (.bool false)], args := [d] }
  | _ => none }
def NameBackWrongFalsely : Prop := nameBackRow.holds Try.pinned (OpenSpec.ofChange nameBackWrong)

/-- 'catacomblaw06.NameAgain': WHATEVER THE INPUT: true; the input reads as it did. -/
def nameAgainSpec : ChangeSpec := { name := "nameAgain", fn := fun _ => fun
  | [d] => { results := [.lit (.bool true)], args := [d] }
  | _ => none }
def nameAgainRow : OpenClaim := { program := "ytalckkfoplaeeaa", sum := "3a0ac13346a293ae68ff1deda5d234f4d039f057ee3f033b2c243091f3050b85", func := "catacomb/catacomblaw06.NameAgain", spec := "nameAgain", inPlace := ["internal/bytealg.IndexByteString", "internal/abi.NoEscape", "internal/bytealg.MakeNoZero"], unfollowed := true, recurses := true, apart := false }
def NameAgainSaid : Prop := nameAgainRow.holds Try.pinned (OpenSpec.ofChange nameAgainSpec)

/-- ITS FALSE NEIGHBOUR: 'it returns false'. Refute it at one input. -/
def nameAgainWrong : ChangeSpec := { name := "nameAgain", fn := fun _ => fun
  | [d] => { results := [.lit (.bool false)], args := [d] }
  | _ => none }
def NameAgainWrongFalsely : Prop := nameAgainRow.holds Try.pinned (OpenSpec.ofChange nameAgainWrong)

/-- 'catacomblaw06.NameOrder': WHATEVER THE INPUT: true; the input reads as it did. -/
def nameOrderSpec : ChangeSpec := { name := "nameOrder", fn := fun _ => fun
  | [d1, d2, d3] => { results := [.lit (.bool true)], args := [d1, d2, d3] }
  | _ => none }
def nameOrderRow : OpenClaim := { program := "ytalckkfoplaeeaa", sum := "3a0ac13346a293ae68ff1deda5d234f4d039f057ee3f033b2c243091f3050b85", func := "catacomb/catacomblaw06.NameOrder", spec := "nameOrder", inPlace := ["internal/bytealg.IndexByteString", "internal/abi.NoEscape", "internal/bytealg.MakeNoZero"], unfollowed := true, recurses := true, apart := false }
def NameOrderSaid : Prop := nameOrderRow.holds Try.pinned (OpenSpec.ofChange nameOrderSpec)

/-- ITS FALSE NEIGHBOUR: 'it returns false'. Refute it at one input. -/
def nameOrderWrong : ChangeSpec := { name := "nameOrder", fn := fun _ => fun
  | [d1, d2, d3] => { results := [.lit (.bool false)], args := [d1, d2, d3] }
  | _ => none }
def NameOrderWrongFalsely : Prop := nameOrderRow.holds Try.pinned (OpenSpec.ofChange nameOrderWrong)

/-- 'catacomblaw06.NameLast': WHATEVER THE INPUT: true; the input reads as it did. -/
def nameLastSpec : ChangeSpec := { name := "nameLast", fn := fun _ => fun
  | [d1, d2] => { results := [.lit (.bool true)], args := [d1, d2] }
  | _ => none }
def nameLastRow : OpenClaim := { program := "ytalckkfoplaeeaa", sum := "3a0ac13346a293ae68ff1deda5d234f4d039f057ee3f033b2c243091f3050b85", func := "catacomb/catacomblaw06.NameLast", spec := "nameLast", inPlace := ["internal/bytealg.IndexByteString", "internal/abi.NoEscape", "internal/bytealg.MakeNoZero"], unfollowed := true, recurses := true, apart := false }
def NameLastSaid : Prop := nameLastRow.holds Try.pinned (OpenSpec.ofChange nameLastSpec)

/-- ITS FALSE NEIGHBOUR: 'it returns false'. Refute it at one input. -/
def nameLastWrong : ChangeSpec := { name := "nameLast", fn := fun _ => fun
  | [d1, d2] => { results := [.lit (.bool false)], args := [d1, d2] }
  | _ => none }
def NameLastWrongFalsely : Prop := nameLastRow.holds Try.pinned (OpenSpec.ofChange nameLastWrong)

/-- 'catacomblaw06.NameBytes': WHATEVER THE INPUT: true; the input reads as it did. -/
def nameBytesSpec : ChangeSpec := { name := "nameBytes", fn := fun _ => fun
  | [d1, d2, d3] => { results := [.lit (.bool true)], args := [d1, d2, d3] }
  | _ => none }
def nameBytesRow : OpenClaim := { program := "ytalckkfoplaeeaa", sum := "3a0ac13346a293ae68ff1deda5d234f4d039f057ee3f033b2c243091f3050b85", func := "catacomb/catacomblaw06.NameBytes", spec := "nameBytes", inPlace := ["internal/bytealg.IndexByteString", "internal/abi.NoEscape", "internal/bytealg.MakeNoZero"], unfollowed := true, recurses := true, apart := false }
def NameBytesSaid : Prop := nameBytesRow.holds Try.pinned (OpenSpec.ofChange nameBytesSpec)

/-- ITS FALSE NEIGHBOUR: 'it returns false'. Refute it at one input. -/
def nameBytesWrong : ChangeSpec := { name := "nameBytes", fn := fun _ => fun
  | [d1, d2, d3] => { results := [.lit (.bool false)], args := [d1, d2, d3] }
  | _ => none }
def NameBytesWrongFalsely : Prop := nameBytesRow.holds Try.pinned (OpenSpec.ofChange nameBytesWrong)

/-- 'catacomblaw06.NameCut': WHATEVER THE INPUT: true; the input reads as it did. -/
def nameCutSpec : ChangeSpec := { name := "nameCut", fn := fun _ => fun
  | [d1, d2] => { results := [.lit (.bool true)], args := [d1, d2] }
  | _ => none }
def nameCutRow : OpenClaim := { program := "ytalckkfoplaeeaa", sum := "3a0ac13346a293ae68ff1deda5d234f4d039f057ee3f033b2c243091f3050b85", func := "catacomb/catacomblaw06.NameCut", spec := "nameCut", inPlace := ["internal/bytealg.IndexByteString", "internal/abi.NoEscape", "internal/bytealg.MakeNoZero"], unfollowed := true, recurses := true, apart := false }
def NameCutSaid : Prop := nameCutRow.holds Try.pinned (OpenSpec.ofChange nameCutSpec)

/-- ITS FALSE NEIGHBOUR: 'it returns false'. Refute it at one input. -/
def nameCutWrong : ChangeSpec := { name := "nameCut", fn := fun _ => fun
  | [d1, d2] => { results := [.lit (.bool false)], args := [d1, d2] }
  | _ => none }
def NameCutWrongFalsely : Prop := nameCutRow.holds Try.pinned (OpenSpec.ofChange nameCutWrong)

/- THE SECOND FORM. 'bulk': how many values and letters a reading holds, each counted each time it is reached (what is shared counts as often as it is met; a slice's spare places count too). A statement '..UptoSaid' is the law's where the arguments, and the package variables that the reading takes, are together of bulk at most 1048576: NARROWER than '..Said'. Prove '..Said' where nothing that the law and all that it calls make is longer than what came in: it says more and counts as full. Else prove '..UptoSaid'. A law counts once. -/
mutual
def uptoBulk {H : Type} : DataW H → Nat
  | .lit (.string bytes) => bytes.length + 1
  | .lit _ => 1
  | .nil => 1
  | .ptr d => uptoBulk d + 1
  | .slice elems spare => uptoBulkAll elems + uptoBulkAll spare + 1
  | .agg parts => uptoBulkAll parts + 1
  | .iface _ d => uptoBulk d + 1
  | .map entries => uptoBulkEntries entries + 1
  | .held _ => 1
def uptoBulkAll {H : Type} : List (DataW H) → Nat
  | [] => 0
  | d :: r => uptoBulk d + uptoBulkAll r
def uptoBulkEntries {H : Type} : List (Lit × DataW H) → Nat
  | [] => 0
  | x :: r => uptoBulkEntry x + uptoBulkEntries r
def uptoBulkEntry {H : Type} : Lit × DataW H → Nat
  | (.string bytes, d) => bytes.length + uptoBulk d + 1
  | (_, d) => uptoBulk d + 1
 end
def uptoSmall : (H : Type) → List (DataW H) → Bool := fun _ ds => decide (uptoBulkAll ds ≤ 1048576)
def OpenSpec.upto (s : _root_.Go.ChangeSpec) : _root_.Go.OpenSpec := { _root_.Go.OpenSpec.ofChange s with cond := some uptoSmall }

/-- 'catacomblaw06.NameTells', WHERE WHAT IT READS IS OF BULK AT MOST 1048576: true; the input reads as it did. -/
def nameTellsUptoRow : OpenClaim := { program := "ytalckkfoplaeeaa", sum := "3a0ac13346a293ae68ff1deda5d234f4d039f057ee3f033b2c243091f3050b85", func := "catacomb/catacomblaw06.NameTells", spec := "nameTells", inPlace := ["internal/bytealg.IndexByteString", "internal/abi.NoEscape", "internal/bytealg.MakeNoZero"], unfollowed := true, recurses := true, apart := false, narrowed := true }
def NameTellsUptoSaid : Prop := nameTellsUptoRow.holds Try.pinned (OpenSpec.upto nameTellsSpec)

/-- 'catacomblaw06.NameBack', WHERE WHAT IT READS IS OF BULK AT MOST 1048576: true; the input reads as it did. -/
def nameBackUptoRow : OpenClaim := { program := "ytalckkfoplaeeaa", sum := "3a0ac13346a293ae68ff1deda5d234f4d039f057ee3f033b2c243091f3050b85", func := "catacomb/catacomblaw06.NameBack", spec := "nameBack", inPlace := ["internal/bytealg.IndexByteString", "internal/abi.NoEscape", "internal/bytealg.MakeNoZero"], unfollowed := true, recurses := true, apart := false, narrowed := true }
def NameBackUptoSaid : Prop := nameBackUptoRow.holds Try.pinned (OpenSpec.upto nameBackSpec)

/-- 'catacomblaw06.NameAgain', WHERE WHAT IT READS IS OF BULK AT MOST 1048576: true; the input reads as it did. -/
def nameAgainUptoRow : OpenClaim := { program := "ytalckkfoplaeeaa", sum := "3a0ac13346a293ae68ff1deda5d234f4d039f057ee3f033b2c243091f3050b85", func := "catacomb/catacomblaw06.NameAgain", spec := "nameAgain", inPlace := ["internal/bytealg.IndexByteString", "internal/abi.NoEscape", "internal/bytealg.MakeNoZero"], unfollowed := true, recurses := true, apart := false, narrowed := true }
def NameAgainUptoSaid : Prop := nameAgainUptoRow.holds Try.pinned (OpenSpec.upto nameAgainSpec)

/-- 'catacomblaw06.NameOrder', WHERE WHAT IT READS IS OF BULK AT MOST 1048576: true; the input reads as it did. -/
def nameOrderUptoRow : OpenClaim := { program := "ytalckkfoplaeeaa", sum := "3a0ac13346a293ae68ff1deda5d234f4d039f057ee3f033b2c243091f3050b85", func := "catacomb/catacomblaw06.NameOrder", spec := "nameOrder", inPlace := ["internal/bytealg.IndexByteString", "internal/abi.NoEscape", "internal/bytealg.MakeNoZero"], unfollowed := true, recurses := true, apart := false, narrowed := true }
def NameOrderUptoSaid : Prop := nameOrderUptoRow.holds Try.pinned (OpenSpec.upto nameOrderSpec)

/-- 'catacomblaw06.NameLast', WHERE WHAT IT READS IS OF BULK AT MOST 1048576: true; the input reads as it did. -/
def nameLastUptoRow : OpenClaim := { program := "ytalckkfoplaeeaa", sum := "3a0ac13346a293ae68ff1deda5d234f4d039f057ee3f033b2c243091f3050b85", func := "catacomb/catacomblaw06.NameLast", spec := "nameLast", inPlace := ["internal/bytealg.IndexByteString", "internal/abi.NoEscape", "internal/bytealg.MakeNoZero"], unfollowed := true, recurses := true, apart := false, narrowed := true }
def NameLastUptoSaid : Prop := nameLastUptoRow.holds Try.pinned (OpenSpec.upto nameLastSpec)

/-- 'catacomblaw06.NameBytes', WHERE WHAT IT READS IS OF BULK AT MOST 1048576: true; the input reads as it did. -/
def nameBytesUptoRow : OpenClaim := { program := "ytalckkfoplaeeaa", sum := "3a0ac13346a293ae68ff1deda5d234f4d039f057ee3f033b2c243091f3050b85", func := "catacomb/catacomblaw06.NameBytes", spec := "nameBytes", inPlace := ["internal/bytealg.IndexByteString", "internal/abi.NoEscape", "internal/bytealg.MakeNoZero"], unfollowed := true, recurses := true, apart := false, narrowed := true }
def NameBytesUptoSaid : Prop := nameBytesUptoRow.holds Try.pinned (OpenSpec.upto nameBytesSpec)

/-- 'catacomblaw06.NameCut', WHERE WHAT IT READS IS OF BULK AT MOST 1048576: true; the input reads as it did. -/
def nameCutUptoRow : OpenClaim := { program := "ytalckkfoplaeeaa", sum := "3a0ac13346a293ae68ff1deda5d234f4d039f057ee3f033b2c243091f3050b85", func := "catacomb/catacomblaw06.NameCut", spec := "nameCut", inPlace := ["internal/bytealg.IndexByteString", "internal/abi.NoEscape", "internal/bytealg.MakeNoZero"], unfollowed := true, recurses := true, apart := false, narrowed := true }
def NameCutUptoSaid : Prop := nameCutUptoRow.holds Try.pinned (OpenSpec.upto nameCutSpec)

end Rows
end Go.Proofs.Ytalckkfoplaeeaa
