/-
  DERIVED. GIVEN WITH THE SEED: THE CARDS: each row of YtghgbehknhmnaaaGreatDoorRows.lean that lists a variable, with what it lists TIED to the program's text (the seventh form; the later family's looks); each row that meets fmt, with fmt's text TOLD by the authors' own Lean function (tested against real Go, not proved from fmt's source: count such statements apart). THE CARD IS WHAT COUNTS. Prove the row's statement (the work); the ties are given (YtghgbehknhmnaaaGreatDoorTie.lean); close each card by the builder's one call (the guide's Derived/Test/ToyasCard.lean, 'card_holds'). Laid BY PROGRAM, IN A SANDBOX (cutbox-door.mjs). By AI agents, Wed Nov 11 2026. No macro, syntax, notation, axiom, sorry.
-/
import Derived.Test.YtghgbehknhmnaaaGreatDoorRows
import GoSem.ClaimSeven
namespace Go.Proofs.YtghgbehknhmnaaaGreatDoor
namespace Rows

/-- THE TIED CARD OF 'catacombtop.TopRetries'. -/
def topRetriesCard : Claim7 := { stood := { row := topRetriesRow, standIns := [], harness := (true, "5d0d6756769c300c637b1f1dda3132952f0fa0ffa3173ebdfd981d8c2fc82d29"), looks := true }, kinds := [], alts := [], laidByText := true, laidKinds := [.handle], laidTests := true, laidLooks := .later }
def TopRetriesCardSaid : Prop := Claim7.holds Tryz.pinned (.plain (OpenSpec.ofChange topRetriesSpec)) topRetriesCard

/-- THE TIED CARD OF 'catacombtop.TopSteps'. -/
def topStepsCard : Claim7 := { stood := { row := topStepsRow, standIns := [], harness := (true, "5d0d6756769c300c637b1f1dda3132952f0fa0ffa3173ebdfd981d8c2fc82d29"), looks := true }, kinds := [], alts := [], laidByText := true, laidKinds := [.handle], laidTests := true, laidLooks := .later }
def TopStepsCardSaid : Prop := Claim7.holds Tryz.pinned (.plain (OpenSpec.ofChange topStepsSpec)) topStepsCard

/-- THE TIED CARD OF 'catacombtop.TopTwoParts'. -/
def topTwoPartsCard : Claim7 := { stood := { row := topTwoPartsRow, standIns := [], harness := (true, "5d0d6756769c300c637b1f1dda3132952f0fa0ffa3173ebdfd981d8c2fc82d29"), looks := true }, kinds := [], alts := [], laidByText := true, laidKinds := [.handle], laidTests := true, laidLooks := .later }
def TopTwoPartsCardSaid : Prop := Claim7.holds Tryz.pinned (.plain (OpenSpec.ofChange topTwoPartsSpec)) topTwoPartsCard

/-- THE SECOND FORM's CARD OF 'catacombtop.TopRetries'. -/
def topRetriesUptoCard : Claim7 := { stood := { row := topRetriesUptoRow, standIns := [], harness := (true, "5d0d6756769c300c637b1f1dda3132952f0fa0ffa3173ebdfd981d8c2fc82d29"), looks := true }, kinds := [], alts := [], laidByText := true, laidKinds := [.handle], laidTests := true, laidLooks := .later }
def TopRetriesUptoCardSaid : Prop := Claim7.holds Tryz.pinned (.plain (OpenSpec.upto topRetriesSpec)) topRetriesUptoCard

/-- THE SECOND FORM's CARD OF 'catacombtop.TopSteps'. -/
def topStepsUptoCard : Claim7 := { stood := { row := topStepsUptoRow, standIns := [], harness := (true, "5d0d6756769c300c637b1f1dda3132952f0fa0ffa3173ebdfd981d8c2fc82d29"), looks := true }, kinds := [], alts := [], laidByText := true, laidKinds := [.handle], laidTests := true, laidLooks := .later }
def TopStepsUptoCardSaid : Prop := Claim7.holds Tryz.pinned (.plain (OpenSpec.upto topStepsSpec)) topStepsUptoCard

/-- THE SECOND FORM's CARD OF 'catacombtop.TopTwoParts'. -/
def topTwoPartsUptoCard : Claim7 := { stood := { row := topTwoPartsUptoRow, standIns := [], harness := (true, "5d0d6756769c300c637b1f1dda3132952f0fa0ffa3173ebdfd981d8c2fc82d29"), looks := true }, kinds := [], alts := [], laidByText := true, laidKinds := [.handle], laidTests := true, laidLooks := .later }
def TopTwoPartsUptoCardSaid : Prop := Claim7.holds Tryz.pinned (.plain (OpenSpec.upto topTwoPartsSpec)) topTwoPartsUptoCard
end Rows
end Go.Proofs.YtghgbehknhmnaaaGreatDoor
