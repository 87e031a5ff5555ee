/-
  DERIVED. GIVEN WITH THE SEED: THE CARDS: each row of YtaepagegdgdlhaaGreatDoorRows.lean that lists a variable, with what it lists TIED to the program's text (the seventh form; the later family's looks); each row that meets fmt, with fmt's text TOLD by the authors' own Lean function (tested against real Go, not proved from fmt's source: count such statements apart). THE CARD IS WHAT COUNTS. Prove the row's statement (the work); the ties are given (YtaepagegdgdlhaaGreatDoorTie.lean); close each card by the builder's one call (the guide's Derived/Test/ToyasCard.lean, 'card_holds'). Laid BY PROGRAM, IN A SANDBOX (cutbox-door.mjs). By AI agents, Wed Nov 11 2026. No macro, syntax, notation, axiom, sorry.
-/
import Derived.Test.YtaepagegdgdlhaaGreatDoorRows
import GoSem.ClaimSeven
namespace Go.Proofs.YtaepagegdgdlhaaGreatDoor
namespace Rows

/-- THE TIED CARD OF 'catacombtop.TopPassed'. -/
def topPassedCard : Claim7 := { stood := { row := topPassedRow, standIns := [], harness := (true, "6b55c337922b76c9f8010ee04d64425ff75da9b5ab055ce374eb3984960ff740"), looks := true }, kinds := [], alts := [], laidByText := true, laidKinds := [.handle], laidTests := true, laidLooks := .later }
def TopPassedCardSaid : Prop := Claim7.holds Tryz.pinned (.plain (OpenSpec.ofChange topPassedSpec)) topPassedCard

/-- THE SECOND FORM's CARD OF 'catacombtop.TopPassed'. -/
def topPassedUptoCard : Claim7 := { stood := { row := topPassedUptoRow, standIns := [], harness := (true, "6b55c337922b76c9f8010ee04d64425ff75da9b5ab055ce374eb3984960ff740"), looks := true }, kinds := [], alts := [], laidByText := true, laidKinds := [.handle], laidTests := true, laidLooks := .later }
def TopPassedUptoCardSaid : Prop := Claim7.holds Tryz.pinned (.plain (OpenSpec.upto topPassedSpec)) topPassedUptoCard
end Rows
end Go.Proofs.YtaepagegdgdlhaaGreatDoor
