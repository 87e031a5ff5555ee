/-
  No cell of these rows narrows 'for every input' (looked for: loops, veiled, ifaces, maps, wideKeys, modest, calm, conditions, laid).
  DERIVED. THE GIVEN ROWS OF THIS SEAT. 6 by the template 'for every input the law returns true; each argument reads behind the call as it read before'; 0 by the template 'total and deterministic' (their statements: YtjblbmcgpdmahaaTotals.lean).
  GIVEN WITH THE SEED: the statements are not yours to turn. If you find one false, say at which input.
  Laid BY PROGRAM, IN A SANDBOX (cutbox-rows.mjs): the forced cells as the released guide's own fill.sh prints them over the translation 673f740442c5899f… (all of the seat's roots in one cut). By AI agents, Wed Nov 11 2026. No macro, syntax, notation, axiom, sorry.
-/
import Derived.Test.YtjblbmcgpdmahaaChecked
import GoSem.Claim
import GoSem.ClaimJoined
import GoSem.ClaimMapViews
import Derived.JoinedTies
import Derived.KernelRfl
namespace Go.Proofs.Ytjblbmcgpdmahaa
/- THE CELL 'sum', in the pinned program and in every row, IS THE sha256 OF THE DUMP (.gsa) THAT YtjblbmcgpdmahaaProg.lean LOADS. Nothing in Lean hashes anything: it is a label: what it is worth is what the hold of that sum in a sandbox is worth. -/
noncomputable def Try.pinned : Pinned := { name := "ytjblbmcgpdmahaa", sum := "673f740442c5899fc7e004c42d139c57c0ef45e21976d13d93a7a3ba14224796", checked := Try.checked }
namespace Rows
def none {H : Type} : Left H := { results := [], args := [] }

/-- 'catacomblaw16.MemberTells': WHATEVER THE INPUT: true; the input reads as it did. -/
def memberTellsSpec : ChangeSpec := { name := "memberTells", fn := fun _ => fun
  | [d1, d2, d3, d4, d5, d6] => { results := [.lit (.bool true)], args := [d1, d2, d3, d4, d5, d6] }
  | _ => none }
def memberTellsRow : OpenClaim := { program := "ytjblbmcgpdmahaa", sum := "673f740442c5899fc7e004c42d139c57c0ef45e21976d13d93a7a3ba14224796", func := "catacomb/catacomblaw16.MemberTells", spec := "memberTells", inPlace := ["slices.overlaps[int]"], unfollowed := true, recurses := true, apart := false }
def MemberTellsSaid : Prop := memberTellsRow.holds Try.pinned (OpenSpec.ofChange memberTellsSpec)

/-- ITS FALSE NEIGHBOUR: 'it returns false'. Refute it at one input. -/
def memberTellsWrong : ChangeSpec := { name := "memberTells", fn := fun _ => fun
  | [d1, d2, d3, d4, d5, d6] => { results := [.lit (.bool false)], args := [d1, d2, d3, d4, d5, d6] }
  | _ => none }
def MemberTellsWrongFalsely : Prop := memberTellsRow.holds Try.pinned (OpenSpec.ofChange memberTellsWrong)

/-- 'catacomblaw16.MemberNext': WHATEVER THE INPUT: true; the input reads as it did. -/
def memberNextSpec : ChangeSpec := { name := "memberNext", fn := fun _ => fun
  | [d1, d2, d3, d4, d5] => { results := [.lit (.bool true)], args := [d1, d2, d3, d4, d5] }
  | _ => none }
def memberNextRow : OpenClaim := { program := "ytjblbmcgpdmahaa", sum := "673f740442c5899fc7e004c42d139c57c0ef45e21976d13d93a7a3ba14224796", func := "catacomb/catacomblaw16.MemberNext", spec := "memberNext", inPlace := ["slices.overlaps[int]"], unfollowed := true, recurses := true, apart := false }
def MemberNextSaid : Prop := memberNextRow.holds Try.pinned (OpenSpec.ofChange memberNextSpec)

/-- ITS FALSE NEIGHBOUR: 'it returns false'. Refute it at one input. -/
def memberNextWrong : ChangeSpec := { name := "memberNext", fn := fun _ => fun
  | [d1, d2, d3, d4, d5] => { results := [.lit (.bool false)], args := [d1, d2, d3, d4, d5] }
  | _ => none }
def MemberNextWrongFalsely : Prop := memberNextRow.holds Try.pinned (OpenSpec.ofChange memberNextWrong)

/-- 'catacomblaw16.MemberMeet': WHATEVER THE INPUT: true; the input reads as it did. -/
def memberMeetSpec : ChangeSpec := { name := "memberMeet", fn := fun _ => fun
  | [d1, d2, d3] => { results := [.lit (.bool true)], args := [d1, d2, d3] }
  | _ => none }
def memberMeetRow : OpenClaim := { program := "ytjblbmcgpdmahaa", sum := "673f740442c5899fc7e004c42d139c57c0ef45e21976d13d93a7a3ba14224796", func := "catacomb/catacomblaw16.MemberMeet", spec := "memberMeet", inPlace := ["slices.overlaps[int]"], unfollowed := true, recurses := true, apart := false }
def MemberMeetSaid : Prop := memberMeetRow.holds Try.pinned (OpenSpec.ofChange memberMeetSpec)

/-- ITS FALSE NEIGHBOUR: 'it returns false'. Refute it at one input. -/
def memberMeetWrong : ChangeSpec := { name := "memberMeet", fn := fun _ => fun
  | [d1, d2, d3] => { results := [.lit (.bool false)], args := [d1, d2, d3] }
  | _ => none }
def MemberMeetWrongFalsely : Prop := memberMeetRow.holds Try.pinned (OpenSpec.ofChange memberMeetWrong)

/-- 'catacomblaw16.MemberGone': WHATEVER THE INPUT: true; the input reads as it did. -/
def memberGoneSpec : ChangeSpec := { name := "memberGone", fn := fun _ => fun
  | [d1, d2, d3, d4, d5, d6] => { results := [.lit (.bool true)], args := [d1, d2, d3, d4, d5, d6] }
  | _ => none }
def memberGoneRow : OpenClaim := { program := "ytjblbmcgpdmahaa", sum := "673f740442c5899fc7e004c42d139c57c0ef45e21976d13d93a7a3ba14224796", func := "catacomb/catacomblaw16.MemberGone", spec := "memberGone", inPlace := ["slices.overlaps[int]"], unfollowed := true, recurses := true, apart := false }
def MemberGoneSaid : Prop := memberGoneRow.holds Try.pinned (OpenSpec.ofChange memberGoneSpec)

/-- ITS FALSE NEIGHBOUR: 'it returns false'. Refute it at one input. -/
def memberGoneWrong : ChangeSpec := { name := "memberGone", fn := fun _ => fun
  | [d1, d2, d3, d4, d5, d6] => { results := [.lit (.bool false)], args := [d1, d2, d3, d4, d5, d6] }
  | _ => none }
def MemberGoneWrongFalsely : Prop := memberGoneRow.holds Try.pinned (OpenSpec.ofChange memberGoneWrong)

/-- 'catacomblaw16.MemberOver': WHATEVER THE INPUT: true; the input reads as it did. -/
def memberOverSpec : ChangeSpec := { name := "memberOver", fn := fun _ => fun
  | [d1, d2, d3, d4] => { results := [.lit (.bool true)], args := [d1, d2, d3, d4] }
  | _ => none }
def memberOverRow : OpenClaim := { program := "ytjblbmcgpdmahaa", sum := "673f740442c5899fc7e004c42d139c57c0ef45e21976d13d93a7a3ba14224796", func := "catacomb/catacomblaw16.MemberOver", spec := "memberOver", inPlace := ["slices.overlaps[int]"], unfollowed := true, recurses := true, apart := false }
def MemberOverSaid : Prop := memberOverRow.holds Try.pinned (OpenSpec.ofChange memberOverSpec)

/-- ITS FALSE NEIGHBOUR: 'it returns false'. Refute it at one input. -/
def memberOverWrong : ChangeSpec := { name := "memberOver", fn := fun _ => fun
  | [d1, d2, d3, d4] => { results := [.lit (.bool false)], args := [d1, d2, d3, d4] }
  | _ => none }
def MemberOverWrongFalsely : Prop := memberOverRow.holds Try.pinned (OpenSpec.ofChange memberOverWrong)

/-- 'catacomblaw16.MemberHanded': WHATEVER THE INPUT: true; the input reads as it did. -/
def memberHandedSpec : ChangeSpec := { name := "memberHanded", fn := fun _ => fun
  | [d1, d2, d3, d4] => { results := [.lit (.bool true)], args := [d1, d2, d3, d4] }
  | _ => none }
def memberHandedRow : OpenClaim := { program := "ytjblbmcgpdmahaa", sum := "673f740442c5899fc7e004c42d139c57c0ef45e21976d13d93a7a3ba14224796", func := "catacomb/catacomblaw16.MemberHanded", spec := "memberHanded", inPlace := ["slices.overlaps[int]"], unfollowed := true, recurses := true, apart := false }
def MemberHandedSaid : Prop := memberHandedRow.holds Try.pinned (OpenSpec.ofChange memberHandedSpec)

/-- ITS FALSE NEIGHBOUR: 'it returns false'. Refute it at one input. -/
def memberHandedWrong : ChangeSpec := { name := "memberHanded", fn := fun _ => fun
  | [d1, d2, d3, d4] => { results := [.lit (.bool false)], args := [d1, d2, d3, d4] }
  | _ => none }
def MemberHandedWrongFalsely : Prop := memberHandedRow.holds Try.pinned (OpenSpec.ofChange memberHandedWrong)

/- THE SECOND FORM. 'bulk': how many values and letters a reading holds, each counted each time it is reached (what is shared counts as often as it is met; a slice's spare places count too). A statement '..UptoSaid' is the law's where the arguments, and the package variables that the reading takes, are together of bulk at most 1048576: NARROWER than '..Said'. Prove '..Said' where nothing that the law and all that it calls make is longer than what came in: it says more and counts as full. Else prove '..UptoSaid'. A law counts once. -/
mutual
def uptoBulk {H : Type} : DataW H → Nat
  | .lit (.string bytes) => bytes.length + 1
  | .lit _ => 1
  | .nil => 1
  | .ptr d => uptoBulk d + 1
  | .slice elems spare => uptoBulkAll elems + uptoBulkAll spare + 1
  | .agg parts => uptoBulkAll parts + 1
  | .iface _ d => uptoBulk d + 1
  | .map entries => uptoBulkEntries entries + 1
  | .held _ => 1
def uptoBulkAll {H : Type} : List (DataW H) → Nat
  | [] => 0
  | d :: r => uptoBulk d + uptoBulkAll r
def uptoBulkEntries {H : Type} : List (Lit × DataW H) → Nat
  | [] => 0
  | x :: r => uptoBulkEntry x + uptoBulkEntries r
def uptoBulkEntry {H : Type} : Lit × DataW H → Nat
  | (.string bytes, d) => bytes.length + uptoBulk d + 1
  | (_, d) => uptoBulk d + 1
 end
def uptoSmall : (H : Type) → List (DataW H) → Bool := fun _ ds => decide (uptoBulkAll ds ≤ 1048576)
def OpenSpec.upto (s : _root_.Go.ChangeSpec) : _root_.Go.OpenSpec := { _root_.Go.OpenSpec.ofChange s with cond := some uptoSmall }

/-- 'catacomblaw16.MemberTells', WHERE WHAT IT READS IS OF BULK AT MOST 1048576: true; the input reads as it did. -/
def memberTellsUptoRow : OpenClaim := { program := "ytjblbmcgpdmahaa", sum := "673f740442c5899fc7e004c42d139c57c0ef45e21976d13d93a7a3ba14224796", func := "catacomb/catacomblaw16.MemberTells", spec := "memberTells", inPlace := ["slices.overlaps[int]"], unfollowed := true, recurses := true, apart := false, narrowed := true }
def MemberTellsUptoSaid : Prop := memberTellsUptoRow.holds Try.pinned (OpenSpec.upto memberTellsSpec)

/-- 'catacomblaw16.MemberNext', WHERE WHAT IT READS IS OF BULK AT MOST 1048576: true; the input reads as it did. -/
def memberNextUptoRow : OpenClaim := { program := "ytjblbmcgpdmahaa", sum := "673f740442c5899fc7e004c42d139c57c0ef45e21976d13d93a7a3ba14224796", func := "catacomb/catacomblaw16.MemberNext", spec := "memberNext", inPlace := ["slices.overlaps[int]"], unfollowed := true, recurses := true, apart := false, narrowed := true }
def MemberNextUptoSaid : Prop := memberNextUptoRow.holds Try.pinned (OpenSpec.upto memberNextSpec)

/-- 'catacomblaw16.MemberMeet', WHERE WHAT IT READS IS OF BULK AT MOST 1048576: true; the input reads as it did. -/
def memberMeetUptoRow : OpenClaim := { program := "ytjblbmcgpdmahaa", sum := "673f740442c5899fc7e004c42d139c57c0ef45e21976d13d93a7a3ba14224796", func := "catacomb/catacomblaw16.MemberMeet", spec := "memberMeet", inPlace := ["slices.overlaps[int]"], unfollowed := true, recurses := true, apart := false, narrowed := true }
def MemberMeetUptoSaid : Prop := memberMeetUptoRow.holds Try.pinned (OpenSpec.upto memberMeetSpec)

/-- 'catacomblaw16.MemberGone', WHERE WHAT IT READS IS OF BULK AT MOST 1048576: true; the input reads as it did. -/
def memberGoneUptoRow : OpenClaim := { program := "ytjblbmcgpdmahaa", sum := "673f740442c5899fc7e004c42d139c57c0ef45e21976d13d93a7a3ba14224796", func := "catacomb/catacomblaw16.MemberGone", spec := "memberGone", inPlace := ["slices.overlaps[int]"], unfollowed := true, recurses := true, apart := false, narrowed := true }
def MemberGoneUptoSaid : Prop := memberGoneUptoRow.holds Try.pinned (OpenSpec.upto memberGoneSpec)

/-- 'catacomblaw16.MemberOver', WHERE WHAT IT READS IS OF BULK AT MOST 1048576: true; the input reads as it did. -/
def memberOverUptoRow : OpenClaim := { program := "ytjblbmcgpdmahaa", sum := "673f740442c5899fc7e004c42d139c57c0ef45e21976d13d93a7a3ba14224796", func := "catacomb/catacomblaw16.MemberOver", spec := "memberOver", inPlace := ["slices.overlaps[int]"], unfollowed := true, recurses := true, apart := false, narrowed := true }
def MemberOverUptoSaid : Prop := memberOverUptoRow.holds Try.pinned (OpenSpec.upto memberOverSpec)

/-- 'catacomblaw16.MemberHanded', WHERE WHAT IT READS IS OF BULK AT MOST 1048576: true; the input reads as it did. -/
def memberHandedUptoRow : OpenClaim := { program := "ytjblbmcgpdmahaa", sum := "673f740442c5899fc7e004c42d139c57c0ef45e21976d13d93a7a3ba14224796", func := "catacomb/catacomblaw16.MemberHanded", spec := "memberHanded", inPlace := ["slices.overlaps[int]"], unfollowed := true, recurses := true, apart := false, narrowed := true }
def MemberHandedUptoSaid : Prop := memberHandedUptoRow.holds Try.pinned (OpenSpec.upto memberHandedSpec)

end Rows
end Go.Proofs.Ytjblbmcgpdmahaa
