/-
  No cell of these rows narrows 'for every input' (looked for: loops, veiled, ifaces, maps, wideKeys, modest, calm, conditions, laid).
  DERIVED. THE GIVEN ROWS OF THIS SEAT. 7 by the template 'for every input the law returns true; each argument reads behind the call as it read before'; 0 by the template 'total and deterministic' (their statements: YtlooipgkklaijaaTotals.lean).
  GIVEN WITH THE SEED: the statements are not yours to turn. If you find one false, say at which input.
  Laid BY PROGRAM, IN A SANDBOX (cutbox-rows.mjs): the forced cells as the released guide's own fill.sh prints them over the translation 53961bbdf482faf4… (all of the seat's roots in one cut). By AI agents, Wed Nov 11 2026. No macro, syntax, notation, axiom, sorry.
-/
import Derived.Test.YtlooipgkklaijaaChecked
import GoSem.Claim
import GoSem.ClaimJoined
import GoSem.ClaimMapViews
import Derived.JoinedTies
import Derived.KernelRfl
namespace Go.Proofs.Ytlooipgkklaijaa
/- THE CELL 'sum', in the pinned program and in every row, IS THE sha256 OF THE DUMP (.gsa) THAT YtlooipgkklaijaaProg.lean LOADS. Nothing in Lean hashes anything: it is a label: what it is worth is what the hold of that sum in a sandbox is worth. -/
noncomputable def Try.pinned : Pinned := { name := "ytlooipgkklaijaa", sum := "53961bbdf482faf45788acb05645de49b0be473b42e6d6d841c860a75f245378", checked := Try.checked }
namespace Rows
def none {H : Type} : Left H := { results := [], args := [] }

/-- 'catacomblaw18.ShardTells': WHATEVER THE INPUT: true; the input reads as it did. -/
def shardTellsSpec : ChangeSpec := { name := "shardTells", fn := fun _ => fun
  | [d1, d2, d3, d4, d5] => { results := [.lit (.bool true)], args := [d1, d2, d3, d4, d5] }
  | _ => none }
def shardTellsRow : OpenClaim := { program := "ytlooipgkklaijaa", sum := "53961bbdf482faf45788acb05645de49b0be473b42e6d6d841c860a75f245378", func := "catacomb/catacomblaw18.ShardTells", spec := "shardTells", inPlace := ["internal/bytealg.IndexByteString", "internal/bytealg.abigen_runtime_cmpstring", "slices.overlaps[catacomb/api.Piece]", "internal/abi.NoEscape", "internal/bytealg.MakeNoZero"], unfollowed := true, recurses := true, apart := false }
def ShardTellsSaid : Prop := shardTellsRow.holds Try.pinned (OpenSpec.ofChange shardTellsSpec)

/-- ITS FALSE NEIGHBOUR: 'it returns false'. Refute it at one input. -/
def shardTellsWrong : ChangeSpec := { name := "shardTells", fn := fun _ => fun
  | [d1, d2, d3, d4, d5] => { results := [.lit (.bool false)], args := [d1, d2, d3, d4, d5] }
  | _ => none }
def ShardTellsWrongFalsely : Prop := shardTellsRow.holds Try.pinned (OpenSpec.ofChange shardTellsWrong)

/-- 'catacomblaw18.ShardRight': WHATEVER THE INPUT: true; the input reads as it did. -/
def shardRightSpec : ChangeSpec := { name := "shardRight", fn := fun _ => fun
  | [d1, d2, d3] => { results := [.lit (.bool true)], args := [d1, d2, d3] }
  | _ => none }
def shardRightRow : OpenClaim := { program := "ytlooipgkklaijaa", sum := "53961bbdf482faf45788acb05645de49b0be473b42e6d6d841c860a75f245378", func := "catacomb/catacomblaw18.ShardRight", spec := "shardRight", inPlace := ["internal/bytealg.IndexByteString", "internal/bytealg.abigen_runtime_cmpstring", "slices.overlaps[catacomb/api.Piece]", "internal/abi.NoEscape", "internal/bytealg.MakeNoZero"], unfollowed := true, recurses := true, apart := false }
def ShardRightSaid : Prop := shardRightRow.holds Try.pinned (OpenSpec.ofChange shardRightSpec)

/-- ITS FALSE NEIGHBOUR: 'it returns false'. Refute it at one input. -/
def shardRightWrong : ChangeSpec := { name := "shardRight", fn := fun _ => fun
  | [d1, d2, d3] => { results := [.lit (.bool false)], args := [d1, d2, d3] }
  | _ => none }
def ShardRightWrongFalsely : Prop := shardRightRow.holds Try.pinned (OpenSpec.ofChange shardRightWrong)

/-- 'catacomblaw18.ShardOf': WHATEVER THE INPUT: true; the input reads as it did. -/
def shardOfSpec : ChangeSpec := { name := "shardOf", fn := fun _ => fun
  | [d1, d2, d3] => { results := [.lit (.bool true)], args := [d1, d2, d3] }
  | _ => none }
def shardOfRow : OpenClaim := { program := "ytlooipgkklaijaa", sum := "53961bbdf482faf45788acb05645de49b0be473b42e6d6d841c860a75f245378", func := "catacomb/catacomblaw18.ShardOf", spec := "shardOf", inPlace := ["internal/bytealg.IndexByteString", "internal/bytealg.abigen_runtime_cmpstring", "slices.overlaps[catacomb/api.Piece]", "internal/abi.NoEscape", "internal/bytealg.MakeNoZero"], unfollowed := true, recurses := true, apart := false }
def ShardOfSaid : Prop := shardOfRow.holds Try.pinned (OpenSpec.ofChange shardOfSpec)

/-- ITS FALSE NEIGHBOUR: 'it returns false'. Refute it at one input. -/
def shardOfWrong : ChangeSpec := { name := "shardOf", fn := fun _ => fun
  | [d1, d2, d3] => { results := [.lit (.bool false)], args := [d1, d2, d3] }
  | _ => none }
def ShardOfWrongFalsely : Prop := shardOfRow.holds Try.pinned (OpenSpec.ofChange shardOfWrong)

/-- 'catacomblaw18.ShardCut': WHATEVER THE INPUT: true; the input reads as it did. -/
def shardCutSpec : ChangeSpec := { name := "shardCut", fn := fun _ => fun
  | [d1, d2, d3, d4, d5] => { results := [.lit (.bool true)], args := [d1, d2, d3, d4, d5] }
  | _ => none }
def shardCutRow : OpenClaim := { program := "ytlooipgkklaijaa", sum := "53961bbdf482faf45788acb05645de49b0be473b42e6d6d841c860a75f245378", func := "catacomb/catacomblaw18.ShardCut", spec := "shardCut", inPlace := ["internal/bytealg.IndexByteString", "internal/bytealg.abigen_runtime_cmpstring", "slices.overlaps[catacomb/api.Piece]", "internal/abi.NoEscape", "internal/bytealg.MakeNoZero"], unfollowed := true, recurses := true, apart := false }
def ShardCutSaid : Prop := shardCutRow.holds Try.pinned (OpenSpec.ofChange shardCutSpec)

/-- ITS FALSE NEIGHBOUR: 'it returns false'. Refute it at one input. -/
def shardCutWrong : ChangeSpec := { name := "shardCut", fn := fun _ => fun
  | [d1, d2, d3, d4, d5] => { results := [.lit (.bool false)], args := [d1, d2, d3, d4, d5] }
  | _ => none }
def ShardCutWrongFalsely : Prop := shardCutRow.holds Try.pinned (OpenSpec.ofChange shardCutWrong)

/-- 'catacomblaw18.ShardEpochs': WHATEVER THE INPUT: true; the input reads as it did. -/
def shardEpochsSpec : ChangeSpec := { name := "shardEpochs", fn := fun _ => fun
  | [d1, d2, d3, d4] => { results := [.lit (.bool true)], args := [d1, d2, d3, d4] }
  | _ => none }
def shardEpochsRow : OpenClaim := { program := "ytlooipgkklaijaa", sum := "53961bbdf482faf45788acb05645de49b0be473b42e6d6d841c860a75f245378", func := "catacomb/catacomblaw18.ShardEpochs", spec := "shardEpochs", inPlace := ["internal/bytealg.IndexByteString", "internal/bytealg.abigen_runtime_cmpstring", "slices.overlaps[catacomb/api.Piece]", "internal/abi.NoEscape", "internal/bytealg.MakeNoZero"], unfollowed := true, recurses := true, apart := false }
def ShardEpochsSaid : Prop := shardEpochsRow.holds Try.pinned (OpenSpec.ofChange shardEpochsSpec)

/-- ITS FALSE NEIGHBOUR: 'it returns false'. Refute it at one input. -/
def shardEpochsWrong : ChangeSpec := { name := "shardEpochs", fn := fun _ => fun
  | [d1, d2, d3, d4] => { results := [.lit (.bool false)], args := [d1, d2, d3, d4] }
  | _ => none }
def ShardEpochsWrongFalsely : Prop := shardEpochsRow.holds Try.pinned (OpenSpec.ofChange shardEpochsWrong)

/-- 'catacomblaw18.ShardBack': WHATEVER THE INPUT: true; the input reads as it did. -/
def shardBackSpec : ChangeSpec := { name := "shardBack", fn := fun _ => fun
  | [d1, d2, d3, d4, d5] => { results := [.lit (.bool true)], args := [d1, d2, d3, d4, d5] }
  | _ => none }
def shardBackRow : OpenClaim := { program := "ytlooipgkklaijaa", sum := "53961bbdf482faf45788acb05645de49b0be473b42e6d6d841c860a75f245378", func := "catacomb/catacomblaw18.ShardBack", spec := "shardBack", inPlace := ["internal/bytealg.IndexByteString", "internal/bytealg.abigen_runtime_cmpstring", "slices.overlaps[catacomb/api.Piece]", "internal/abi.NoEscape", "internal/bytealg.MakeNoZero"], unfollowed := true, recurses := true, apart := false }
def ShardBackSaid : Prop := shardBackRow.holds Try.pinned (OpenSpec.ofChange shardBackSpec)

/-- ITS FALSE NEIGHBOUR: 'it returns false'. Refute it at one input. -/
def shardBackWrong : ChangeSpec := { name := "shardBack", fn := fun _ => fun
  | [d1, d2, d3, d4, d5] => { results := [.lit (.bool false)], args := [d1, d2, d3, d4, d5] }
  | _ => none }
def ShardBackWrongFalsely : Prop := shardBackRow.holds Try.pinned (OpenSpec.ofChange shardBackWrong)

/-- 'catacomblaw18.ShardBelow': WHATEVER THE INPUT: true; the input reads as it did. -/
def shardBelowSpec : ChangeSpec := { name := "shardBelow", fn := fun _ => fun
  | [d1, d2, d3, d4] => { results := [.lit (.bool true)], args := [d1, d2, d3, d4] }
  | _ => none }
def shardBelowRow : OpenClaim := { program := "ytlooipgkklaijaa", sum := "53961bbdf482faf45788acb05645de49b0be473b42e6d6d841c860a75f245378", func := "catacomb/catacomblaw18.ShardBelow", spec := "shardBelow", inPlace := ["internal/bytealg.IndexByteString", "internal/bytealg.abigen_runtime_cmpstring", "slices.overlaps[catacomb/api.Piece]", "internal/abi.NoEscape", "internal/bytealg.MakeNoZero"], unfollowed := true, recurses := true, apart := false }
def ShardBelowSaid : Prop := shardBelowRow.holds Try.pinned (OpenSpec.ofChange shardBelowSpec)

/-- ITS FALSE NEIGHBOUR: 'it returns false'. Refute it at one input. -/
def shardBelowWrong : ChangeSpec := { name := "shardBelow", fn := fun _ => fun
  | [d1, d2, d3, d4] => { results := [.lit (.bool false)], args := [d1, d2, d3, d4] }
  | _ => none }
def ShardBelowWrongFalsely : Prop := shardBelowRow.holds Try.pinned (OpenSpec.ofChange shardBelowWrong)

/- THE SECOND FORM. 'bulk': how many values and letters a reading holds, each counted each time it is reached (what is shared counts as often as it is met; a slice's spare places count too). A statement '..UptoSaid' is the law's where the arguments, and the package variables that the reading takes, are together of bulk at most 1048576: NARROWER than '..Said'. Prove '..Said' where nothing that the law and all that it calls make is longer than what came in: it says more and counts as full. Else prove '..UptoSaid'. A law counts once. -/
mutual
def uptoBulk {H : Type} : DataW H → Nat
  | .lit (.string bytes) => bytes.length + 1
  | .lit _ => 1
  | .nil => 1
  | .ptr d => uptoBulk d + 1
  | .slice elems spare => uptoBulkAll elems + uptoBulkAll spare + 1
  | .agg parts => uptoBulkAll parts + 1
  | .iface _ d => uptoBulk d + 1
  | .map entries => uptoBulkEntries entries + 1
  | .held _ => 1
def uptoBulkAll {H : Type} : List (DataW H) → Nat
  | [] => 0
  | d :: r => uptoBulk d + uptoBulkAll r
def uptoBulkEntries {H : Type} : List (Lit × DataW H) → Nat
  | [] => 0
  | x :: r => uptoBulkEntry x + uptoBulkEntries r
def uptoBulkEntry {H : Type} : Lit × DataW H → Nat
  | (.string bytes, d) => bytes.length + uptoBulk d + 1
  | (_, d) => uptoBulk d + 1
 end
def uptoSmall : (H : Type) → List (DataW H) → Bool := fun _ ds => decide (uptoBulkAll ds ≤ 1048576)
def OpenSpec.upto (s : _root_.Go.ChangeSpec) : _root_.Go.OpenSpec := { _root_.Go.OpenSpec.ofChange s with cond := some uptoSmall }

/-- 'catacomblaw18.ShardTells', WHERE WHAT IT READS IS OF BULK AT MOST 1048576: true; the input reads as it did. -/
def shardTellsUptoRow : OpenClaim := { program := "ytlooipgkklaijaa", sum := "53961bbdf482faf45788acb05645de49b0be473b42e6d6d841c860a75f245378", func := "catacomb/catacomblaw18.ShardTells", spec := "shardTells", inPlace := ["internal/bytealg.IndexByteString", "internal/bytealg.abigen_runtime_cmpstring", "slices.overlaps[catacomb/api.Piece]", "internal/abi.NoEscape", "internal/bytealg.MakeNoZero"], unfollowed := true, recurses := true, apart := false, narrowed := true }
def ShardTellsUptoSaid : Prop := shardTellsUptoRow.holds Try.pinned (OpenSpec.upto shardTellsSpec)

/-- 'catacomblaw18.ShardRight', WHERE WHAT IT READS IS OF BULK AT MOST 1048576: true; the input reads as it did. -/
def shardRightUptoRow : OpenClaim := { program := "ytlooipgkklaijaa", sum := "53961bbdf482faf45788acb05645de49b0be473b42e6d6d841c860a75f245378", func := "catacomb/catacomblaw18.ShardRight", spec := "shardRight", inPlace := ["internal/bytealg.IndexByteString", "internal/bytealg.abigen_runtime_cmpstring", "slices.overlaps[catacomb/api.Piece]", "internal/abi.NoEscape", "internal/bytealg.MakeNoZero"], unfollowed := true, recurses := true, apart := false, narrowed := true }
def ShardRightUptoSaid : Prop := shardRightUptoRow.holds Try.pinned (OpenSpec.upto shardRightSpec)

/-- 'catacomblaw18.ShardOf', WHERE WHAT IT READS IS OF BULK AT MOST 1048576: true; the input reads as it did. -/
def shardOfUptoRow : OpenClaim := { program := "ytlooipgkklaijaa", sum := "53961bbdf482faf45788acb05645de49b0be473b42e6d6d841c860a75f245378", func := "catacomb/catacomblaw18.ShardOf", spec := "shardOf", inPlace := ["internal/bytealg.IndexByteString", "internal/bytealg.abigen_runtime_cmpstring", "slices.overlaps[catacomb/api.Piece]", "internal/abi.NoEscape", "internal/bytealg.MakeNoZero"], unfollowed := true, recurses := true, apart := false, narrowed := true }
def ShardOfUptoSaid : Prop := shardOfUptoRow.holds Try.pinned (OpenSpec.upto shardOfSpec)

/-- 'catacomblaw18.ShardCut', WHERE WHAT IT READS IS OF BULK AT MOST 1048576: true; the input reads as it did. -/
def shardCutUptoRow : OpenClaim := { program := "ytlooipgkklaijaa", sum := "53961bbdf482faf45788acb05645de49b0be473b42e6d6d841c860a75f245378", func := "catacomb/catacomblaw18.ShardCut", spec := "shardCut", inPlace := ["internal/bytealg.IndexByteString", "internal/bytealg.abigen_runtime_cmpstring", "slices.overlaps[catacomb/api.Piece]", "internal/abi.NoEscape", "internal/bytealg.MakeNoZero"], unfollowed := true, recurses := true, apart := false, narrowed := true }
def ShardCutUptoSaid : Prop := shardCutUptoRow.holds Try.pinned (OpenSpec.upto shardCutSpec)

/-- 'catacomblaw18.ShardEpochs', WHERE WHAT IT READS IS OF BULK AT MOST 1048576: true; the input reads as it did. -/
def shardEpochsUptoRow : OpenClaim := { program := "ytlooipgkklaijaa", sum := "53961bbdf482faf45788acb05645de49b0be473b42e6d6d841c860a75f245378", func := "catacomb/catacomblaw18.ShardEpochs", spec := "shardEpochs", inPlace := ["internal/bytealg.IndexByteString", "internal/bytealg.abigen_runtime_cmpstring", "slices.overlaps[catacomb/api.Piece]", "internal/abi.NoEscape", "internal/bytealg.MakeNoZero"], unfollowed := true, recurses := true, apart := false, narrowed := true }
def ShardEpochsUptoSaid : Prop := shardEpochsUptoRow.holds Try.pinned (OpenSpec.upto shardEpochsSpec)

/-- 'catacomblaw18.ShardBack', WHERE WHAT IT READS IS OF BULK AT MOST 1048576: true; the input reads as it did. -/
def shardBackUptoRow : OpenClaim := { program := "ytlooipgkklaijaa", sum := "53961bbdf482faf45788acb05645de49b0be473b42e6d6d841c860a75f245378", func := "catacomb/catacomblaw18.ShardBack", spec := "shardBack", inPlace := ["internal/bytealg.IndexByteString", "internal/bytealg.abigen_runtime_cmpstring", "slices.overlaps[catacomb/api.Piece]", "internal/abi.NoEscape", "internal/bytealg.MakeNoZero"], unfollowed := true, recurses := true, apart := false, narrowed := true }
def ShardBackUptoSaid : Prop := shardBackUptoRow.holds Try.pinned (OpenSpec.upto shardBackSpec)

/-- 'catacomblaw18.ShardBelow', WHERE WHAT IT READS IS OF BULK AT MOST 1048576: true; the input reads as it did. -/
def shardBelowUptoRow : OpenClaim := { program := "ytlooipgkklaijaa", sum := "53961bbdf482faf45788acb05645de49b0be473b42e6d6d841c860a75f245378", func := "catacomb/catacomblaw18.ShardBelow", spec := "shardBelow", inPlace := ["internal/bytealg.IndexByteString", "internal/bytealg.abigen_runtime_cmpstring", "slices.overlaps[catacomb/api.Piece]", "internal/abi.NoEscape", "internal/bytealg.MakeNoZero"], unfollowed := true, recurses := true, apart := false, narrowed := true }
def ShardBelowUptoSaid : Prop := shardBelowUptoRow.holds Try.pinned (OpenSpec.upto shardBelowSpec)

end Rows
end Go.Proofs.Ytlooipgkklaijaa
