/-
  DERIVED. GIVEN WITH THE SEED: THE CARDS: each row of YtlllbacjdjllbaaDoorRows.lean that lists a variable, with what it lists TIED to the program's text (the seventh form; the later family's looks); each row that meets fmt, with fmt's text TOLD by the authors' own Lean function (tested against real Go, not proved from fmt's source: count such statements apart). THE CARD IS WHAT COUNTS. Prove the row's statement (the work); the ties are given (YtlllbacjdjllbaaDoorTie.lean); close each card by the builder's one call (the guide's Derived/Test/ToyasCard.lean, 'card_holds'). Laid BY PROGRAM, IN A SANDBOX (cutbox-door.mjs). By AI agents, Wed Nov 11 2026. No macro, syntax, notation, axiom, sorry.
-/
import Derived.Test.YtlllbacjdjllbaaDoorRows
import GoSem.ClaimSeven
namespace Go.Proofs.YtlllbacjdjllbaaDoor
namespace Rows

/-- THE TIED CARD OF 'ligaturelaw5.RedoDead'. -/
def redoDeadCard : Claim7 := { stood := { row := redoDeadRow, standIns := [], harness := (true, "dd7a55a5cccbce23cb00ac2b5e5852b1032fab19ea76a8bab41f02b207d2f0f8"), looks := false }, kinds := [], alts := [], laidByText := true, laidKinds := [.data, .pinned], laidTests := true, laidLooks := .later }
def RedoDeadCardSaid : Prop := Claim7.holds Tryd.pinned (.plain (OpenSpec.ofChange redoDeadSpec)) redoDeadCard

/-- THE TIED CARD OF 'ligaturelaw5.RedoOfNothing'. -/
def redoOfNothingCard : Claim7 := { stood := { row := redoOfNothingRow, standIns := [], harness := (true, "dd7a55a5cccbce23cb00ac2b5e5852b1032fab19ea76a8bab41f02b207d2f0f8"), looks := false }, kinds := [], alts := [], laidByText := true, laidKinds := [.data, .pinned], laidTests := true, laidLooks := .later }
def RedoOfNothingCardSaid : Prop := Claim7.holds Tryd.pinned (.plain (OpenSpec.ofChange redoOfNothingSpec)) redoOfNothingCard

/-- THE TIED CARD OF 'ligaturelaw5.RedoOrder'. -/
def redoOrderCard : Claim7 := { stood := { row := redoOrderRow, standIns := [], harness := (true, "dd7a55a5cccbce23cb00ac2b5e5852b1032fab19ea76a8bab41f02b207d2f0f8"), looks := false }, kinds := [], alts := [], laidByText := true, laidKinds := [.data, .pinned], laidTests := true, laidLooks := .later }
def RedoOrderCardSaid : Prop := Claim7.holds Tryd.pinned (.plain (OpenSpec.ofChange redoOrderSpec)) redoOrderCard

/-- THE TIED CARD OF 'ligaturelaw5.RedoTwice'. -/
def redoTwiceCard : Claim7 := { stood := { row := redoTwiceRow, standIns := [], harness := (true, "dd7a55a5cccbce23cb00ac2b5e5852b1032fab19ea76a8bab41f02b207d2f0f8"), looks := false }, kinds := [], alts := [], laidByText := true, laidKinds := [.data, .pinned], laidTests := true, laidLooks := .later }
def RedoTwiceCardSaid : Prop := Claim7.holds Tryd.pinned (.plain (OpenSpec.ofChange redoTwiceSpec)) redoTwiceCard

/-- THE TIED CARD OF 'ligaturelaw5.RedoBig'. -/
def redoBigCard : Claim7 := { stood := { row := redoBigRow, standIns := [], harness := (true, "dd7a55a5cccbce23cb00ac2b5e5852b1032fab19ea76a8bab41f02b207d2f0f8"), looks := false }, kinds := [], alts := [], laidByText := true, laidKinds := [.data, .pinned], laidTests := true, laidLooks := .later }
def RedoBigCardSaid : Prop := Claim7.holds Tryd.pinned (.plain (OpenSpec.ofChange redoBigSpec)) redoBigCard

/-- THE TIED CARD OF 'ligaturelaw5.RedoLasts'. -/
def redoLastsCard : Claim7 := { stood := { row := redoLastsRow, standIns := [], harness := (true, "dd7a55a5cccbce23cb00ac2b5e5852b1032fab19ea76a8bab41f02b207d2f0f8"), looks := false }, kinds := [], alts := [], laidByText := true, laidKinds := [.data, .pinned], laidTests := true, laidLooks := .later }
def RedoLastsCardSaid : Prop := Claim7.holds Tryd.pinned (.plain (OpenSpec.ofChange redoLastsSpec)) redoLastsCard

/-- THE TIED CARD OF 'ligaturelaw5.RedoPlays'. -/
def redoPlaysCard : Claim7 := { stood := { row := redoPlaysRow, standIns := [], harness := (true, "dd7a55a5cccbce23cb00ac2b5e5852b1032fab19ea76a8bab41f02b207d2f0f8"), looks := false }, kinds := [], alts := [], laidByText := true, laidKinds := [.data, .pinned], laidTests := true, laidLooks := .later }
def RedoPlaysCardSaid : Prop := Claim7.holds Tryd.pinned (.plain (OpenSpec.ofChange redoPlaysSpec)) redoPlaysCard

/-- THE SECOND FORM's CARD OF 'ligaturelaw5.RedoDead'. -/
def redoDeadUptoCard : Claim7 := { stood := { row := redoDeadUptoRow, standIns := [], harness := (true, "dd7a55a5cccbce23cb00ac2b5e5852b1032fab19ea76a8bab41f02b207d2f0f8"), looks := false }, kinds := [], alts := [], laidByText := true, laidKinds := [.data, .pinned], laidTests := true, laidLooks := .later }
def RedoDeadUptoCardSaid : Prop := Claim7.holds Tryd.pinned (.plain (OpenSpec.upto redoDeadSpec)) redoDeadUptoCard

/-- THE SECOND FORM's CARD OF 'ligaturelaw5.RedoOfNothing'. -/
def redoOfNothingUptoCard : Claim7 := { stood := { row := redoOfNothingUptoRow, standIns := [], harness := (true, "dd7a55a5cccbce23cb00ac2b5e5852b1032fab19ea76a8bab41f02b207d2f0f8"), looks := false }, kinds := [], alts := [], laidByText := true, laidKinds := [.data, .pinned], laidTests := true, laidLooks := .later }
def RedoOfNothingUptoCardSaid : Prop := Claim7.holds Tryd.pinned (.plain (OpenSpec.upto redoOfNothingSpec)) redoOfNothingUptoCard

/-- THE SECOND FORM's CARD OF 'ligaturelaw5.RedoOrder'. -/
def redoOrderUptoCard : Claim7 := { stood := { row := redoOrderUptoRow, standIns := [], harness := (true, "dd7a55a5cccbce23cb00ac2b5e5852b1032fab19ea76a8bab41f02b207d2f0f8"), looks := false }, kinds := [], alts := [], laidByText := true, laidKinds := [.data, .pinned], laidTests := true, laidLooks := .later }
def RedoOrderUptoCardSaid : Prop := Claim7.holds Tryd.pinned (.plain (OpenSpec.upto redoOrderSpec)) redoOrderUptoCard

/-- THE SECOND FORM's CARD OF 'ligaturelaw5.RedoTwice'. -/
def redoTwiceUptoCard : Claim7 := { stood := { row := redoTwiceUptoRow, standIns := [], harness := (true, "dd7a55a5cccbce23cb00ac2b5e5852b1032fab19ea76a8bab41f02b207d2f0f8"), looks := false }, kinds := [], alts := [], laidByText := true, laidKinds := [.data, .pinned], laidTests := true, laidLooks := .later }
def RedoTwiceUptoCardSaid : Prop := Claim7.holds Tryd.pinned (.plain (OpenSpec.upto redoTwiceSpec)) redoTwiceUptoCard

/-- THE SECOND FORM's CARD OF 'ligaturelaw5.RedoBig'. -/
def redoBigUptoCard : Claim7 := { stood := { row := redoBigUptoRow, standIns := [], harness := (true, "dd7a55a5cccbce23cb00ac2b5e5852b1032fab19ea76a8bab41f02b207d2f0f8"), looks := false }, kinds := [], alts := [], laidByText := true, laidKinds := [.data, .pinned], laidTests := true, laidLooks := .later }
def RedoBigUptoCardSaid : Prop := Claim7.holds Tryd.pinned (.plain (OpenSpec.upto redoBigSpec)) redoBigUptoCard

/-- THE SECOND FORM's CARD OF 'ligaturelaw5.RedoLasts'. -/
def redoLastsUptoCard : Claim7 := { stood := { row := redoLastsUptoRow, standIns := [], harness := (true, "dd7a55a5cccbce23cb00ac2b5e5852b1032fab19ea76a8bab41f02b207d2f0f8"), looks := false }, kinds := [], alts := [], laidByText := true, laidKinds := [.data, .pinned], laidTests := true, laidLooks := .later }
def RedoLastsUptoCardSaid : Prop := Claim7.holds Tryd.pinned (.plain (OpenSpec.upto redoLastsSpec)) redoLastsUptoCard

/-- THE SECOND FORM's CARD OF 'ligaturelaw5.RedoPlays'. -/
def redoPlaysUptoCard : Claim7 := { stood := { row := redoPlaysUptoRow, standIns := [], harness := (true, "dd7a55a5cccbce23cb00ac2b5e5852b1032fab19ea76a8bab41f02b207d2f0f8"), looks := false }, kinds := [], alts := [], laidByText := true, laidKinds := [.data, .pinned], laidTests := true, laidLooks := .later }
def RedoPlaysUptoCardSaid : Prop := Claim7.holds Tryd.pinned (.plain (OpenSpec.upto redoPlaysSpec)) redoPlaysUptoCard
end Rows
end Go.Proofs.YtlllbacjdjllbaaDoor
