/-
  DERIVED. GIVEN WITH THE SEED: THE CARDS: each row of YthfckbiciddfdaaDoorRows.lean that lists a variable, with what it lists TIED to the program's text (the seventh form; the later family's looks); each row that meets fmt, with fmt's text TOLD by the authors' own Lean function (tested against real Go, not proved from fmt's source: count such statements apart). THE CARD IS WHAT COUNTS. Prove the row's statement (the work); the ties are given (YthfckbiciddfdaaDoorTie.lean); close each card by the builder's one call (the guide's Derived/Test/ToyasCard.lean, 'card_holds'). Laid BY PROGRAM, IN A SANDBOX (cutbox-door.mjs). By AI agents, Wed Nov 11 2026. No macro, syntax, notation, axiom, sorry.
-/
import Derived.Test.YthfckbiciddfdaaDoorRows
import GoSem.ClaimSeven
namespace Go.Proofs.YthfckbiciddfdaaDoor
namespace Rows

/-- THE TIED CARD OF 'ligaturelaw10.RecordTwice'. -/
def recordTwiceCard : Claim7 := { stood := { row := recordTwiceRow, standIns := [], harness := (true, "3d39ef1ab7ef68bb9ad4252a5683278574787842bbd934c49bc4f6e39393e742"), looks := false }, kinds := [], alts := [], laidByText := true, laidKinds := [.data, .pinned], laidTests := true, laidLooks := .later }
def RecordTwiceCardSaid : Prop := Claim7.holds Tryd.pinned (.plain (OpenSpec.ofChange recordTwiceSpec)) recordTwiceCard

/-- THE TIED CARD OF 'ligaturelaw10.RecordNames'. -/
def recordNamesCard : Claim7 := { stood := { row := recordNamesRow, standIns := [], harness := (true, "3d39ef1ab7ef68bb9ad4252a5683278574787842bbd934c49bc4f6e39393e742"), looks := false }, kinds := [], alts := [], laidByText := true, laidKinds := [.data, .pinned], laidTests := true, laidLooks := .later }
def RecordNamesCardSaid : Prop := Claim7.holds Tryd.pinned (.plain (OpenSpec.ofChange recordNamesSpec)) recordNamesCard

/-- THE TIED CARD OF 'ligaturelaw10.RecordRises'. -/
def recordRisesCard : Claim7 := { stood := { row := recordRisesRow, standIns := [], harness := (true, "3d39ef1ab7ef68bb9ad4252a5683278574787842bbd934c49bc4f6e39393e742"), looks := false }, kinds := [], alts := [], laidByText := true, laidKinds := [.data, .pinned], laidTests := true, laidLooks := .later }
def RecordRisesCardSaid : Prop := Claim7.holds Tryd.pinned (.plain (OpenSpec.ofChange recordRisesSpec)) recordRisesCard

/-- THE TIED CARD OF 'ligaturelaw10.RecordEnds'. -/
def recordEndsCard : Claim7 := { stood := { row := recordEndsRow, standIns := [], harness := (true, "3d39ef1ab7ef68bb9ad4252a5683278574787842bbd934c49bc4f6e39393e742"), looks := false }, kinds := [], alts := [], laidByText := true, laidKinds := [.data, .pinned], laidTests := true, laidLooks := .later }
def RecordEndsCardSaid : Prop := Claim7.holds Tryd.pinned (.plain (OpenSpec.ofChange recordEndsSpec)) recordEndsCard

/-- THE TIED CARD OF 'ligaturelaw10.RecordBack'. -/
def recordBackCard : Claim7 := { stood := { row := recordBackRow, standIns := [], harness := (true, "3d39ef1ab7ef68bb9ad4252a5683278574787842bbd934c49bc4f6e39393e742"), looks := false }, kinds := [], alts := [], laidByText := true, laidKinds := [.data, .pinned], laidTests := true, laidLooks := .later }
def RecordBackCardSaid : Prop := Claim7.holds Tryd.pinned (.plain (OpenSpec.ofChange recordBackSpec)) recordBackCard

/-- THE TIED CARD OF 'ligaturelaw10.RecordReals'. -/
def recordRealsCard : Claim7 := { stood := { row := recordRealsRow, standIns := [], harness := (true, "3d39ef1ab7ef68bb9ad4252a5683278574787842bbd934c49bc4f6e39393e742"), looks := false }, kinds := [], alts := [], laidByText := true, laidKinds := [.data, .pinned], laidTests := true, laidLooks := .later }
def RecordRealsCardSaid : Prop := Claim7.holds Tryd.pinned (.plain (OpenSpec.ofChange recordRealsSpec)) recordRealsCard

/-- THE SECOND FORM's CARD OF 'ligaturelaw10.RecordTwice'. -/
def recordTwiceUptoCard : Claim7 := { stood := { row := recordTwiceUptoRow, standIns := [], harness := (true, "3d39ef1ab7ef68bb9ad4252a5683278574787842bbd934c49bc4f6e39393e742"), looks := false }, kinds := [], alts := [], laidByText := true, laidKinds := [.data, .pinned], laidTests := true, laidLooks := .later }
def RecordTwiceUptoCardSaid : Prop := Claim7.holds Tryd.pinned (.plain (OpenSpec.upto recordTwiceSpec)) recordTwiceUptoCard

/-- THE SECOND FORM's CARD OF 'ligaturelaw10.RecordNames'. -/
def recordNamesUptoCard : Claim7 := { stood := { row := recordNamesUptoRow, standIns := [], harness := (true, "3d39ef1ab7ef68bb9ad4252a5683278574787842bbd934c49bc4f6e39393e742"), looks := false }, kinds := [], alts := [], laidByText := true, laidKinds := [.data, .pinned], laidTests := true, laidLooks := .later }
def RecordNamesUptoCardSaid : Prop := Claim7.holds Tryd.pinned (.plain (OpenSpec.upto recordNamesSpec)) recordNamesUptoCard

/-- THE SECOND FORM's CARD OF 'ligaturelaw10.RecordRises'. -/
def recordRisesUptoCard : Claim7 := { stood := { row := recordRisesUptoRow, standIns := [], harness := (true, "3d39ef1ab7ef68bb9ad4252a5683278574787842bbd934c49bc4f6e39393e742"), looks := false }, kinds := [], alts := [], laidByText := true, laidKinds := [.data, .pinned], laidTests := true, laidLooks := .later }
def RecordRisesUptoCardSaid : Prop := Claim7.holds Tryd.pinned (.plain (OpenSpec.upto recordRisesSpec)) recordRisesUptoCard

/-- THE SECOND FORM's CARD OF 'ligaturelaw10.RecordEnds'. -/
def recordEndsUptoCard : Claim7 := { stood := { row := recordEndsUptoRow, standIns := [], harness := (true, "3d39ef1ab7ef68bb9ad4252a5683278574787842bbd934c49bc4f6e39393e742"), looks := false }, kinds := [], alts := [], laidByText := true, laidKinds := [.data, .pinned], laidTests := true, laidLooks := .later }
def RecordEndsUptoCardSaid : Prop := Claim7.holds Tryd.pinned (.plain (OpenSpec.upto recordEndsSpec)) recordEndsUptoCard

/-- THE SECOND FORM's CARD OF 'ligaturelaw10.RecordBack'. -/
def recordBackUptoCard : Claim7 := { stood := { row := recordBackUptoRow, standIns := [], harness := (true, "3d39ef1ab7ef68bb9ad4252a5683278574787842bbd934c49bc4f6e39393e742"), looks := false }, kinds := [], alts := [], laidByText := true, laidKinds := [.data, .pinned], laidTests := true, laidLooks := .later }
def RecordBackUptoCardSaid : Prop := Claim7.holds Tryd.pinned (.plain (OpenSpec.upto recordBackSpec)) recordBackUptoCard

/-- THE SECOND FORM's CARD OF 'ligaturelaw10.RecordReals'. -/
def recordRealsUptoCard : Claim7 := { stood := { row := recordRealsUptoRow, standIns := [], harness := (true, "3d39ef1ab7ef68bb9ad4252a5683278574787842bbd934c49bc4f6e39393e742"), looks := false }, kinds := [], alts := [], laidByText := true, laidKinds := [.data, .pinned], laidTests := true, laidLooks := .later }
def RecordRealsUptoCardSaid : Prop := Claim7.holds Tryd.pinned (.plain (OpenSpec.upto recordRealsSpec)) recordRealsUptoCard
end Rows
end Go.Proofs.YthfckbiciddfdaaDoor
