/-
  DERIVED. GIVEN WITH THE SEED: THE CARDS: each row of YtmbffncmogpkfaaGreatDoorRows.lean that lists a variable, with what it lists TIED to the program's text (the seventh form; the later family's looks); each row that meets fmt, with fmt's text TOLD by the authors' own Lean function (tested against real Go, not proved from fmt's source: count such statements apart). THE CARD IS WHAT COUNTS. Prove the row's statement (the work); the ties are given (YtmbffncmogpkfaaGreatDoorTie.lean); close each card by the builder's one call (the guide's Derived/Test/ToyasCard.lean, 'card_holds'). Laid BY PROGRAM, IN A SANDBOX (cutbox-door.mjs). By AI agents, Wed Nov 11 2026. No macro, syntax, notation, axiom, sorry.
-/
import Derived.Test.YtmbffncmogpkfaaGreatDoorRows
import GoSem.ClaimSeven
namespace Go.Proofs.YtmbffncmogpkfaaGreatDoor
namespace Rows

/-- THE TIED CARD OF 'ligaturelaw10.RecordCodes'. -/
def recordCodesCard : Claim7 := { stood := { row := recordCodesRow, standIns := [], harness := (true, "f979fbf5a24d5da20e9403f269488493367823d8da74f834ed6ba782dea97f44"), looks := false }, kinds := [], alts := [], laidByText := true, laidKinds := [.data, .pinned], laidTests := true, laidLooks := .later }
def RecordCodesCardSaid : Prop := Claim7.holds Tryz.pinned (.plain (OpenSpec.ofChange recordCodesSpec)) recordCodesCard

/-- THE SECOND FORM's CARD OF 'ligaturelaw10.RecordCodes'. -/
def recordCodesUptoCard : Claim7 := { stood := { row := recordCodesUptoRow, standIns := [], harness := (true, "f979fbf5a24d5da20e9403f269488493367823d8da74f834ed6ba782dea97f44"), looks := false }, kinds := [], alts := [], laidByText := true, laidKinds := [.data, .pinned], laidTests := true, laidLooks := .later }
def RecordCodesUptoCardSaid : Prop := Claim7.holds Tryz.pinned (.plain (OpenSpec.upto recordCodesSpec)) recordCodesUptoCard
end Rows
end Go.Proofs.YtmbffncmogpkfaaGreatDoor
