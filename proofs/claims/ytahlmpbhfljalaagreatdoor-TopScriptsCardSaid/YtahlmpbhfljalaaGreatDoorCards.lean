/-
  DERIVED. GIVEN WITH THE SEED: THE CARDS: each row of YtahlmpbhfljalaaGreatDoorRows.lean that lists a variable, with what it lists TIED to the program's text (the seventh form; the later family's looks); each row that meets fmt, with fmt's text TOLD by the authors' own Lean function (tested against real Go, not proved from fmt's source: count such statements apart). THE CARD IS WHAT COUNTS. Prove the row's statement (the work); the ties are given (YtahlmpbhfljalaaGreatDoorTie.lean); close each card by the builder's one call (the guide's Derived/Test/ToyasCard.lean, 'card_holds'). Laid BY PROGRAM, IN A SANDBOX (cutbox-door.mjs). By AI agents, Wed Nov 11 2026. No macro, syntax, notation, axiom, sorry.
-/
import Derived.Test.YtahlmpbhfljalaaGreatDoorRows
import GoSem.ClaimSeven
namespace Go.Proofs.YtahlmpbhfljalaaGreatDoor
namespace Rows

/-- THE TIED CARD OF 'catacombtop.TopScripts'. -/
def topScriptsCard : Claim7 := { stood := { row := topScriptsRow, standIns := [], harness := (true, "92b28c4b143193c7d143eda59d840fc3f2c3dd58ac71b6d09d13068897d530d8"), looks := true }, kinds := [], alts := [], laidByText := true, laidKinds := [.data, .data, .data, .data, .handle, .sentinel, .sentinel, .data, .pinned], laidTests := true, laidLooks := .later }
def TopScriptsCardSaid : Prop := Claim7.holds Tryz.pinned (.plain (OpenSpec.ofChange topScriptsSpec)) topScriptsCard

/-- THE TIED CARD OF 'catacombtop.TopTold'. -/
def topToldCard : Claim7 := { stood := { row := topToldRow, standIns := [], harness := (true, "92b28c4b143193c7d143eda59d840fc3f2c3dd58ac71b6d09d13068897d530d8"), looks := true }, kinds := [], alts := [], laidByText := true, laidKinds := [.data, .data, .data, .data, .handle, .sentinel, .sentinel, .data, .pinned], laidTests := true, laidLooks := .later }
def TopToldCardSaid : Prop := Claim7.holds Tryz.pinned (.plain (OpenSpec.ofChange topToldSpec)) topToldCard

/-- THE SECOND FORM's CARD OF 'catacombtop.TopScripts'. -/
def topScriptsUptoCard : Claim7 := { stood := { row := topScriptsUptoRow, standIns := [], harness := (true, "92b28c4b143193c7d143eda59d840fc3f2c3dd58ac71b6d09d13068897d530d8"), looks := true }, kinds := [], alts := [], laidByText := true, laidKinds := [.data, .data, .data, .data, .handle, .sentinel, .sentinel, .data, .pinned], laidTests := true, laidLooks := .later }
def TopScriptsUptoCardSaid : Prop := Claim7.holds Tryz.pinned (.plain (OpenSpec.upto topScriptsSpec)) topScriptsUptoCard

/-- THE SECOND FORM's CARD OF 'catacombtop.TopTold'. -/
def topToldUptoCard : Claim7 := { stood := { row := topToldUptoRow, standIns := [], harness := (true, "92b28c4b143193c7d143eda59d840fc3f2c3dd58ac71b6d09d13068897d530d8"), looks := true }, kinds := [], alts := [], laidByText := true, laidKinds := [.data, .data, .data, .data, .handle, .sentinel, .sentinel, .data, .pinned], laidTests := true, laidLooks := .later }
def TopToldUptoCardSaid : Prop := Claim7.holds Tryz.pinned (.plain (OpenSpec.upto topToldSpec)) topToldUptoCard
end Rows
end Go.Proofs.YtahlmpbhfljalaaGreatDoor
