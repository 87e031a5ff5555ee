/-
  No cell of these rows narrows 'for every input' (looked for: loops, veiled, ifaces, maps, wideKeys, modest, calm, conditions, laid).
  DERIVED. THE GIVEN ROWS OF THIS SEAT. 5 by the template 'for every input the law returns true; each argument reads behind the call as it read before'; 0 by the template 'total and deterministic' (their statements: YtfdenmkoampgnaaTotals.lean).
  GIVEN WITH THE SEED: the statements are not yours to turn. If you find one false, say at which input.
  Laid BY PROGRAM, IN A SANDBOX (cutbox-rows.mjs): the forced cells as the released guide's own fill.sh prints them over the translation ecfca23ad94de834… (all of the seat's roots in one cut). By AI agents, Wed Nov 11 2026. No macro, syntax, notation, axiom, sorry.
-/
import Derived.Test.YtfdenmkoampgnaaChecked
import GoSem.Claim
import GoSem.ClaimJoined
import GoSem.ClaimMapViews
import Derived.JoinedTies
import Derived.KernelRfl
namespace Go.Proofs.Ytfdenmkoampgnaa
/- THE CELL 'sum', in the pinned program and in every row, IS THE sha256 OF THE DUMP (.gsa) THAT YtfdenmkoampgnaaProg.lean LOADS. Nothing in Lean hashes anything: it is a label: what it is worth is what the hold of that sum in a sandbox is worth. -/
noncomputable def Try.pinned : Pinned := { name := "ytfdenmkoampgnaa", sum := "ecfca23ad94de834803a0cdd2618b8c533e7ea00a765b35f0005f75e1d3fdc74", checked := Try.checked }
namespace Rows
def none {H : Type} : Left H := { results := [], args := [] }

/-- 'catacomblaw09.QuotaTells': WHATEVER THE INPUT: true; the input reads as it did. -/
def quotaTellsSpec : ChangeSpec := { name := "quotaTells", fn := fun _ => fun
  | [d1, d2, d3, d4, d5, d6] => { results := [.lit (.bool true)], args := [d1, d2, d3, d4, d5, d6] }
  | _ => none }
def quotaTellsRow : OpenClaim := { program := "ytfdenmkoampgnaa", sum := "ecfca23ad94de834803a0cdd2618b8c533e7ea00a765b35f0005f75e1d3fdc74", func := "catacomb/catacomblaw09.QuotaTells", spec := "quotaTells", inPlace := ["slices.overlaps[catacomb/api.Quota]"], unfollowed := true, recurses := true, apart := false }
def QuotaTellsSaid : Prop := quotaTellsRow.holds Try.pinned (OpenSpec.ofChange quotaTellsSpec)

/-- ITS FALSE NEIGHBOUR: 'it returns false'. Refute it at one input. -/
def quotaTellsWrong : ChangeSpec := { name := "quotaTells", fn := fun _ => fun
  | [d1, d2, d3, d4, d5, d6] => { results := [.lit (.bool false)], args := [d1, d2, d3, d4, d5, d6] }
  | _ => none }
def QuotaTellsWrongFalsely : Prop := quotaTellsRow.holds Try.pinned (OpenSpec.ofChange quotaTellsWrong)

/-- 'catacomblaw09.QuotaAll': WHATEVER THE INPUT: true; the input reads as it did. -/
def quotaAllSpec : ChangeSpec := { name := "quotaAll", fn := fun _ => fun
  | [d1, d2] => { results := [.lit (.bool true)], args := [d1, d2] }
  | _ => none }
def quotaAllRow : OpenClaim := { program := "ytfdenmkoampgnaa", sum := "ecfca23ad94de834803a0cdd2618b8c533e7ea00a765b35f0005f75e1d3fdc74", func := "catacomb/catacomblaw09.QuotaAll", spec := "quotaAll", inPlace := ["slices.overlaps[catacomb/api.Quota]"], unfollowed := true, recurses := true, apart := false }
def QuotaAllSaid : Prop := quotaAllRow.holds Try.pinned (OpenSpec.ofChange quotaAllSpec)

/-- ITS FALSE NEIGHBOUR: 'it returns false'. Refute it at one input. -/
def quotaAllWrong : ChangeSpec := { name := "quotaAll", fn := fun _ => fun
  | [d1, d2] => { results := [.lit (.bool false)], args := [d1, d2] }
  | _ => none }
def QuotaAllWrongFalsely : Prop := quotaAllRow.holds Try.pinned (OpenSpec.ofChange quotaAllWrong)

/-- 'catacomblaw09.QuotaSet': WHATEVER THE INPUT: true; the input reads as it did. -/
def quotaSetSpec : ChangeSpec := { name := "quotaSet", fn := fun _ => fun
  | [d1, d2, d3, d4, d5] => { results := [.lit (.bool true)], args := [d1, d2, d3, d4, d5] }
  | _ => none }
def quotaSetRow : OpenClaim := { program := "ytfdenmkoampgnaa", sum := "ecfca23ad94de834803a0cdd2618b8c533e7ea00a765b35f0005f75e1d3fdc74", func := "catacomb/catacomblaw09.QuotaSet", spec := "quotaSet", inPlace := ["slices.overlaps[catacomb/api.Quota]"], unfollowed := true, recurses := true, apart := false }
def QuotaSetSaid : Prop := quotaSetRow.holds Try.pinned (OpenSpec.ofChange quotaSetSpec)

/-- ITS FALSE NEIGHBOUR: 'it returns false'. Refute it at one input. -/
def quotaSetWrong : ChangeSpec := { name := "quotaSet", fn := fun _ => fun
  | [d1, d2, d3, d4, d5] => { results := [.lit (.bool false)], args := [d1, d2, d3, d4, d5] }
  | _ => none }
def QuotaSetWrongFalsely : Prop := quotaSetRow.holds Try.pinned (OpenSpec.ofChange quotaSetWrong)

/-- 'catacomblaw09.QuotaNearest': WHATEVER THE INPUT: true; the input reads as it did. -/
def quotaNearestSpec : ChangeSpec := { name := "quotaNearest", fn := fun _ => fun
  | [d1, d2, d3] => { results := [.lit (.bool true)], args := [d1, d2, d3] }
  | _ => none }
def quotaNearestRow : OpenClaim := { program := "ytfdenmkoampgnaa", sum := "ecfca23ad94de834803a0cdd2618b8c533e7ea00a765b35f0005f75e1d3fdc74", func := "catacomb/catacomblaw09.QuotaNearest", spec := "quotaNearest", inPlace := ["slices.overlaps[catacomb/api.Quota]"], unfollowed := true, recurses := true, apart := false }
def QuotaNearestSaid : Prop := quotaNearestRow.holds Try.pinned (OpenSpec.ofChange quotaNearestSpec)

/-- ITS FALSE NEIGHBOUR: 'it returns false'. Refute it at one input. -/
def quotaNearestWrong : ChangeSpec := { name := "quotaNearest", fn := fun _ => fun
  | [d1, d2, d3] => { results := [.lit (.bool false)], args := [d1, d2, d3] }
  | _ => none }
def QuotaNearestWrongFalsely : Prop := quotaNearestRow.holds Try.pinned (OpenSpec.ofChange quotaNearestWrong)

/-- 'catacomblaw09.QuotaBytes': WHATEVER THE INPUT: true; the input reads as it did. -/
def quotaBytesSpec : ChangeSpec := { name := "quotaBytes", fn := fun _ => fun
  | [d1, d2, d3, d4, d5] => { results := [.lit (.bool true)], args := [d1, d2, d3, d4, d5] }
  | _ => none }
def quotaBytesRow : OpenClaim := { program := "ytfdenmkoampgnaa", sum := "ecfca23ad94de834803a0cdd2618b8c533e7ea00a765b35f0005f75e1d3fdc74", func := "catacomb/catacomblaw09.QuotaBytes", spec := "quotaBytes", inPlace := ["slices.overlaps[catacomb/api.Quota]", "slices.overlaps[catacomb/api.Node]"], unfollowed := true, recurses := true, apart := false }
def QuotaBytesSaid : Prop := quotaBytesRow.holds Try.pinned (OpenSpec.ofChange quotaBytesSpec)

/-- ITS FALSE NEIGHBOUR: 'it returns false'. Refute it at one input. -/
def quotaBytesWrong : ChangeSpec := { name := "quotaBytes", fn := fun _ => fun
  | [d1, d2, d3, d4, d5] => { results := [.lit (.bool false)], args := [d1, d2, d3, d4, d5] }
  | _ => none }
def QuotaBytesWrongFalsely : Prop := quotaBytesRow.holds Try.pinned (OpenSpec.ofChange quotaBytesWrong)

/- THE SECOND FORM. 'bulk': how many values and letters a reading holds, each counted each time it is reached (what is shared counts as often as it is met; a slice's spare places count too). A statement '..UptoSaid' is the law's where the arguments, and the package variables that the reading takes, are together of bulk at most 1048576: NARROWER than '..Said'. Prove '..Said' where nothing that the law and all that it calls make is longer than what came in: it says more and counts as full. Else prove '..UptoSaid'. A law counts once. -/
mutual
def uptoBulk {H : Type} : DataW H → Nat
  | .lit (.string bytes) => bytes.length + 1
  | .lit _ => 1
  | .nil => 1
  | .ptr d => uptoBulk d + 1
  | .slice elems spare => uptoBulkAll elems + uptoBulkAll spare + 1
  | .agg parts => uptoBulkAll parts + 1
  | .iface _ d => uptoBulk d + 1
  | .map entries => uptoBulkEntries entries + 1
  | .held _ => 1
def uptoBulkAll {H : Type} : List (DataW H) → Nat
  | [] => 0
  | d :: r => uptoBulk d + uptoBulkAll r
def uptoBulkEntries {H : Type} : List (Lit × DataW H) → Nat
  | [] => 0
  | x :: r => uptoBulkEntry x + uptoBulkEntries r
def uptoBulkEntry {H : Type} : Lit × DataW H → Nat
  | (.string bytes, d) => bytes.length + uptoBulk d + 1
  | (_, d) => uptoBulk d + 1
 end
def uptoSmall : (H : Type) → List (DataW H) → Bool := fun _ ds => decide (uptoBulkAll ds ≤ 1048576)
def OpenSpec.upto (s : _root_.Go.ChangeSpec) : _root_.Go.OpenSpec := { _root_.Go.OpenSpec.ofChange s with cond := some uptoSmall }

/-- 'catacomblaw09.QuotaTells', WHERE WHAT IT READS IS OF BULK AT MOST 1048576: true; the input reads as it did. -/
def quotaTellsUptoRow : OpenClaim := { program := "ytfdenmkoampgnaa", sum := "ecfca23ad94de834803a0cdd2618b8c533e7ea00a765b35f0005f75e1d3fdc74", func := "catacomb/catacomblaw09.QuotaTells", spec := "quotaTells", inPlace := ["slices.overlaps[catacomb/api.Quota]"], unfollowed := true, recurses := true, apart := false, narrowed := true }
def QuotaTellsUptoSaid : Prop := quotaTellsUptoRow.holds Try.pinned (OpenSpec.upto quotaTellsSpec)

/-- 'catacomblaw09.QuotaAll', WHERE WHAT IT READS IS OF BULK AT MOST 1048576: true; the input reads as it did. -/
def quotaAllUptoRow : OpenClaim := { program := "ytfdenmkoampgnaa", sum := "ecfca23ad94de834803a0cdd2618b8c533e7ea00a765b35f0005f75e1d3fdc74", func := "catacomb/catacomblaw09.QuotaAll", spec := "quotaAll", inPlace := ["slices.overlaps[catacomb/api.Quota]"], unfollowed := true, recurses := true, apart := false, narrowed := true }
def QuotaAllUptoSaid : Prop := quotaAllUptoRow.holds Try.pinned (OpenSpec.upto quotaAllSpec)

/-- 'catacomblaw09.QuotaSet', WHERE WHAT IT READS IS OF BULK AT MOST 1048576: true; the input reads as it did. -/
def quotaSetUptoRow : OpenClaim := { program := "ytfdenmkoampgnaa", sum := "ecfca23ad94de834803a0cdd2618b8c533e7ea00a765b35f0005f75e1d3fdc74", func := "catacomb/catacomblaw09.QuotaSet", spec := "quotaSet", inPlace := ["slices.overlaps[catacomb/api.Quota]"], unfollowed := true, recurses := true, apart := false, narrowed := true }
def QuotaSetUptoSaid : Prop := quotaSetUptoRow.holds Try.pinned (OpenSpec.upto quotaSetSpec)

/-- 'catacomblaw09.QuotaNearest', WHERE WHAT IT READS IS OF BULK AT MOST 1048576: true; the input reads as it did. -/
def quotaNearestUptoRow : OpenClaim := { program := "ytfdenmkoampgnaa", sum := "ecfca23ad94de834803a0cdd2618b8c533e7ea00a765b35f0005f75e1d3fdc74", func := "catacomb/catacomblaw09.QuotaNearest", spec := "quotaNearest", inPlace := ["slices.overlaps[catacomb/api.Quota]"], unfollowed := true, recurses := true, apart := false, narrowed := true }
def QuotaNearestUptoSaid : Prop := quotaNearestUptoRow.holds Try.pinned (OpenSpec.upto quotaNearestSpec)

/-- 'catacomblaw09.QuotaBytes', WHERE WHAT IT READS IS OF BULK AT MOST 1048576: true; the input reads as it did. -/
def quotaBytesUptoRow : OpenClaim := { program := "ytfdenmkoampgnaa", sum := "ecfca23ad94de834803a0cdd2618b8c533e7ea00a765b35f0005f75e1d3fdc74", func := "catacomb/catacomblaw09.QuotaBytes", spec := "quotaBytes", inPlace := ["slices.overlaps[catacomb/api.Quota]", "slices.overlaps[catacomb/api.Node]"], unfollowed := true, recurses := true, apart := false, narrowed := true }
def QuotaBytesUptoSaid : Prop := quotaBytesUptoRow.holds Try.pinned (OpenSpec.upto quotaBytesSpec)

end Rows
end Go.Proofs.Ytfdenmkoampgnaa
