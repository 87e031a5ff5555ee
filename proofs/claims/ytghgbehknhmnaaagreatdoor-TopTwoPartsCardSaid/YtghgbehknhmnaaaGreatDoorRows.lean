/-
  NARROWER THAN 'FOR EVERY INPUT', by the rows' own cells (each row's printed sentence says how): TopRetries: laid · TopSteps: laid · TopTwoParts: laid.
  DERIVED. THE GIVEN ROWS OF THIS SEAT. 3 by the template 'for every input the law returns true; each argument reads behind the call as it read before'; 0 by the template 'total and deterministic' (their statements: YtghgbehknhmnaaaGreatDoorTotals.lean).
  GIVEN WITH THE SEED: the statements are not yours to turn. If you find one false, say at which input.
  Laid BY PROGRAM, IN A SANDBOX (cutbox-rows.mjs): the forced cells as the released guide's own fill.sh prints them over the translation e5187430ff83fe86… (all of the seat's roots in one cut). By AI agents, Wed Nov 11 2026. No macro, syntax, notation, axiom, sorry.
-/
import Derived.Test.YtghgbehknhmnaaaGreatDoorChecked
import GoSem.Claim
import GoSem.ClaimJoined
import GoSem.ClaimMapViews
import Derived.JoinedTies
import Derived.KernelRfl
namespace Go.Proofs.YtghgbehknhmnaaaGreatDoor
/- THE CELL 'sum', in the pinned program and in every row, IS THE sha256 OF THE DUMP (.gsa) THAT YtghgbehknhmnaaaGreatDoorProg.lean LOADS. Nothing in Lean hashes anything: it is a label: what it is worth is what the hold of that sum in a sandbox is worth. -/
noncomputable def Tryz.pinned : Pinned := { name := "ytghgbehknhmnaaagreatdoor", sum := "e5187430ff83fe861904a4d6c3aa80ec51897d477f5323f26dfddac093c84966", checked := Tryz.checked }
namespace Rows
def none {H : Type} : Left H := { results := [], args := [] }

/- WHAT THE LISTED PACKAGE-LEVEL VARIABLES READ AS WHEN THE CALL BEGINS. Each datum BY PROGRAM (the guide's laid-datum.mjs) off the statement by which the dump's own 'gosem.cut.vars' lays the variable. In a bare row this is a premise. The card (YtghgbehknhmnaaaGreatDoorCards.lean) ties it to the program's text. -/
def laid_errors_errorType {H : Type} : DataW H := .iface "internal/reflectlite.rtype" (.agg [.ptr (.lit (.string [101, 114, 114, 111, 114]))])

/-- 'catacombtop.TopRetries': WHATEVER THE INPUT: true; the input reads as it did. -/
def topRetriesSpec : ChangeSpec := { name := "topRetries", fn := fun _ => fun
  | [d1, d2, d3] => { results := [.lit (.bool true)], args := [d1, d2, d3] }
  | _ => none }
def topRetriesRow : OpenClaim := { program := "ytghgbehknhmnaaagreatdoor", sum := "e5187430ff83fe861904a4d6c3aa80ec51897d477f5323f26dfddac093c84966", func := "catacomb/catacombtop.TopRetries", spec := "topRetries", inPlace := ["internal/reflectlite.ValueOf", "(internal/reflectlite.Value).Type", "(internal/reflectlite.Value).IsNil", "internal/reflectlite.TypeOf", "(internal/reflectlite.Value).Elem", "(internal/reflectlite.Value).Set", "internal/bytealg.IndexByteString", "internal/bytealg.abigen_runtime_cmpstring", "internal/abi.NoEscape", "internal/bytealg.MakeNoZero", "slices.overlaps[catacomb/api.Node]", "slices.overlaps[catacomb/api.Ent]", "slices.overlaps[catacomb/api.Hold]", "slices.overlaps[catacomb/api.Quota]", "slices.overlaps[catacomb/api.Sess]"], unfollowed := true, recurses := true, named := ["errors.errorType"], apart := false, laid := [("errors.errorType", laid_errors_errorType)] }
def TopRetriesSaid : Prop := topRetriesRow.holds Tryz.pinned (OpenSpec.ofChange topRetriesSpec)

/-- ITS FALSE NEIGHBOUR: 'it returns false'. Refute it at one input. -/
def topRetriesWrong : ChangeSpec := { name := "topRetries", fn := fun _ => fun
  | [d1, d2, d3] => { results := [.lit (.bool false)], args := [d1, d2, d3] }
  | _ => none }
def TopRetriesWrongFalsely : Prop := topRetriesRow.holds Tryz.pinned (OpenSpec.ofChange topRetriesWrong)

/-- 'catacombtop.TopSteps': WHATEVER THE INPUT: true; the input reads as it did. -/
def topStepsSpec : ChangeSpec := { name := "topSteps", fn := fun _ => fun
  | [d1, d2, d3] => { results := [.lit (.bool true)], args := [d1, d2, d3] }
  | _ => none }
def topStepsRow : OpenClaim := { program := "ytghgbehknhmnaaagreatdoor", sum := "e5187430ff83fe861904a4d6c3aa80ec51897d477f5323f26dfddac093c84966", func := "catacomb/catacombtop.TopSteps", spec := "topSteps", inPlace := ["internal/reflectlite.ValueOf", "(internal/reflectlite.Value).Type", "(internal/reflectlite.Value).IsNil", "internal/reflectlite.TypeOf", "(internal/reflectlite.Value).Elem", "(internal/reflectlite.Value).Set", "internal/bytealg.IndexByteString", "internal/bytealg.abigen_runtime_cmpstring", "internal/abi.NoEscape", "internal/bytealg.MakeNoZero", "slices.overlaps[catacomb/api.Node]", "slices.overlaps[catacomb/api.Ent]", "slices.overlaps[catacomb/api.Hold]", "slices.overlaps[catacomb/api.Quota]", "slices.overlaps[catacomb/api.Sess]"], unfollowed := true, recurses := true, named := ["errors.errorType"], apart := false, laid := [("errors.errorType", laid_errors_errorType)] }
def TopStepsSaid : Prop := topStepsRow.holds Tryz.pinned (OpenSpec.ofChange topStepsSpec)

/-- ITS FALSE NEIGHBOUR: 'it returns false'. Refute it at one input. -/
def topStepsWrong : ChangeSpec := { name := "topSteps", fn := fun _ => fun
  | [d1, d2, d3] => { results := [.lit (.bool false)], args := [d1, d2, d3] }
  | _ => none }
def TopStepsWrongFalsely : Prop := topStepsRow.holds Tryz.pinned (OpenSpec.ofChange topStepsWrong)

/-- 'catacombtop.TopTwoParts': WHATEVER THE INPUT: true; the input reads as it did. -/
def topTwoPartsSpec : ChangeSpec := { name := "topTwoParts", fn := fun _ => fun
  | [d1, d2, d3, d4, d5] => { results := [.lit (.bool true)], args := [d1, d2, d3, d4, d5] }
  | _ => none }
def topTwoPartsRow : OpenClaim := { program := "ytghgbehknhmnaaagreatdoor", sum := "e5187430ff83fe861904a4d6c3aa80ec51897d477f5323f26dfddac093c84966", func := "catacomb/catacombtop.TopTwoParts", spec := "topTwoParts", inPlace := ["internal/reflectlite.ValueOf", "(internal/reflectlite.Value).Type", "(internal/reflectlite.Value).IsNil", "internal/reflectlite.TypeOf", "(internal/reflectlite.Value).Elem", "(internal/reflectlite.Value).Set", "internal/bytealg.IndexByteString", "internal/bytealg.abigen_runtime_cmpstring", "internal/abi.NoEscape", "internal/bytealg.MakeNoZero", "slices.overlaps[catacomb/api.Node]", "slices.overlaps[catacomb/api.Ent]", "slices.overlaps[catacomb/api.Hold]", "slices.overlaps[catacomb/api.Quota]", "slices.overlaps[catacomb/api.Sess]"], unfollowed := true, recurses := true, named := ["errors.errorType"], apart := false, laid := [("errors.errorType", laid_errors_errorType)] }
def TopTwoPartsSaid : Prop := topTwoPartsRow.holds Tryz.pinned (OpenSpec.ofChange topTwoPartsSpec)

/-- ITS FALSE NEIGHBOUR: 'it returns false'. Refute it at one input. -/
def topTwoPartsWrong : ChangeSpec := { name := "topTwoParts", fn := fun _ => fun
  | [d1, d2, d3, d4, d5] => { results := [.lit (.bool false)], args := [d1, d2, d3, d4, d5] }
  | _ => none }
def TopTwoPartsWrongFalsely : Prop := topTwoPartsRow.holds Tryz.pinned (OpenSpec.ofChange topTwoPartsWrong)

/- THE SECOND FORM. 'bulk': how many values and letters a reading holds, each counted each time it is reached (what is shared counts as often as it is met; a slice's spare places count too). A statement '..UptoSaid' is the law's where the arguments, and the package variables that the reading takes, are together of bulk at most 1048576: NARROWER than '..Said'. Prove '..Said' where nothing that the law and all that it calls make is longer than what came in: it says more and counts as full. Else prove '..UptoSaid'. A law counts once. -/
mutual
def uptoBulk {H : Type} : DataW H → Nat
  | .lit (.string bytes) => bytes.length + 1
  | .lit _ => 1
  | .nil => 1
  | .ptr d => uptoBulk d + 1
  | .slice elems spare => uptoBulkAll elems + uptoBulkAll spare + 1
  | .agg parts => uptoBulkAll parts + 1
  | .iface _ d => uptoBulk d + 1
  | .map entries => uptoBulkEntries entries + 1
  | .held _ => 1
def uptoBulkAll {H : Type} : List (DataW H) → Nat
  | [] => 0
  | d :: r => uptoBulk d + uptoBulkAll r
def uptoBulkEntries {H : Type} : List (Lit × DataW H) → Nat
  | [] => 0
  | x :: r => uptoBulkEntry x + uptoBulkEntries r
def uptoBulkEntry {H : Type} : Lit × DataW H → Nat
  | (.string bytes, d) => bytes.length + uptoBulk d + 1
  | (_, d) => uptoBulk d + 1
 end
def uptoSmall : (H : Type) → List (DataW H) → Bool := fun _ ds => decide (uptoBulkAll ds ≤ 1048576)
def OpenSpec.upto (s : _root_.Go.ChangeSpec) : _root_.Go.OpenSpec := { _root_.Go.OpenSpec.ofChange s with cond := some uptoSmall }

/-- 'catacombtop.TopRetries', WHERE WHAT IT READS IS OF BULK AT MOST 1048576: true; the input reads as it did. -/
def topRetriesUptoRow : OpenClaim := { program := "ytghgbehknhmnaaagreatdoor", sum := "e5187430ff83fe861904a4d6c3aa80ec51897d477f5323f26dfddac093c84966", func := "catacomb/catacombtop.TopRetries", spec := "topRetries", inPlace := ["internal/reflectlite.ValueOf", "(internal/reflectlite.Value).Type", "(internal/reflectlite.Value).IsNil", "internal/reflectlite.TypeOf", "(internal/reflectlite.Value).Elem", "(internal/reflectlite.Value).Set", "internal/bytealg.IndexByteString", "internal/bytealg.abigen_runtime_cmpstring", "internal/abi.NoEscape", "internal/bytealg.MakeNoZero", "slices.overlaps[catacomb/api.Node]", "slices.overlaps[catacomb/api.Ent]", "slices.overlaps[catacomb/api.Hold]", "slices.overlaps[catacomb/api.Quota]", "slices.overlaps[catacomb/api.Sess]"], unfollowed := true, recurses := true, named := ["errors.errorType"], apart := false, laid := [("errors.errorType", laid_errors_errorType)], narrowed := true }
def TopRetriesUptoSaid : Prop := topRetriesUptoRow.holds Tryz.pinned (OpenSpec.upto topRetriesSpec)

/-- 'catacombtop.TopSteps', WHERE WHAT IT READS IS OF BULK AT MOST 1048576: true; the input reads as it did. -/
def topStepsUptoRow : OpenClaim := { program := "ytghgbehknhmnaaagreatdoor", sum := "e5187430ff83fe861904a4d6c3aa80ec51897d477f5323f26dfddac093c84966", func := "catacomb/catacombtop.TopSteps", spec := "topSteps", inPlace := ["internal/reflectlite.ValueOf", "(internal/reflectlite.Value).Type", "(internal/reflectlite.Value).IsNil", "internal/reflectlite.TypeOf", "(internal/reflectlite.Value).Elem", "(internal/reflectlite.Value).Set", "internal/bytealg.IndexByteString", "internal/bytealg.abigen_runtime_cmpstring", "internal/abi.NoEscape", "internal/bytealg.MakeNoZero", "slices.overlaps[catacomb/api.Node]", "slices.overlaps[catacomb/api.Ent]", "slices.overlaps[catacomb/api.Hold]", "slices.overlaps[catacomb/api.Quota]", "slices.overlaps[catacomb/api.Sess]"], unfollowed := true, recurses := true, named := ["errors.errorType"], apart := false, laid := [("errors.errorType", laid_errors_errorType)], narrowed := true }
def TopStepsUptoSaid : Prop := topStepsUptoRow.holds Tryz.pinned (OpenSpec.upto topStepsSpec)

/-- 'catacombtop.TopTwoParts', WHERE WHAT IT READS IS OF BULK AT MOST 1048576: true; the input reads as it did. -/
def topTwoPartsUptoRow : OpenClaim := { program := "ytghgbehknhmnaaagreatdoor", sum := "e5187430ff83fe861904a4d6c3aa80ec51897d477f5323f26dfddac093c84966", func := "catacomb/catacombtop.TopTwoParts", spec := "topTwoParts", inPlace := ["internal/reflectlite.ValueOf", "(internal/reflectlite.Value).Type", "(internal/reflectlite.Value).IsNil", "internal/reflectlite.TypeOf", "(internal/reflectlite.Value).Elem", "(internal/reflectlite.Value).Set", "internal/bytealg.IndexByteString", "internal/bytealg.abigen_runtime_cmpstring", "internal/abi.NoEscape", "internal/bytealg.MakeNoZero", "slices.overlaps[catacomb/api.Node]", "slices.overlaps[catacomb/api.Ent]", "slices.overlaps[catacomb/api.Hold]", "slices.overlaps[catacomb/api.Quota]", "slices.overlaps[catacomb/api.Sess]"], unfollowed := true, recurses := true, named := ["errors.errorType"], apart := false, laid := [("errors.errorType", laid_errors_errorType)], narrowed := true }
def TopTwoPartsUptoSaid : Prop := topTwoPartsUptoRow.holds Tryz.pinned (OpenSpec.upto topTwoPartsSpec)

end Rows
end Go.Proofs.YtghgbehknhmnaaaGreatDoor
