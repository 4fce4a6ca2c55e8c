/-
  DERIVED. GIVEN WITH THE SEED: THE CARDS: each row of YtlgglkkafcbikaaDoorRows.lean that lists a variable, with what it lists TIED to the program's text (the seventh form; the later family's looks); each row that meets fmt, with fmt's text TOLD by the authors' own Lean function (tested against real Go, not proved from fmt's source: count such statements apart). THE CARD IS WHAT COUNTS. Prove the row's statement (the work); the ties are given (YtlgglkkafcbikaaDoorTie.lean); close each card by the builder's one call (the guide's Derived/Test/ToyasCard.lean, 'card_holds'). Laid BY PROGRAM, IN A SANDBOX (cutbox-door.mjs). By AI agents, Wed Nov 11 2026. No macro, syntax, notation, axiom, sorry.
-/
import Derived.Test.YtlgglkkafcbikaaDoorRows
import GoSem.ClaimSeven
namespace Go.Proofs.YtlgglkkafcbikaaDoor
namespace Rows

/-- THE TIED CARD OF 'ligaturelaw12.ShapeMay'. -/
def shapeMayCard : Claim7 := { stood := { row := shapeMayRow, standIns := [], harness := (true, "3ef1b2b186f9091a4a25beafc96104baab6e99fcedd8dc633d11b9a86d852f1b"), looks := false }, kinds := [], alts := [], laidByText := true, laidKinds := [.data, .pinned], laidTests := true, laidLooks := .later }
def ShapeMayCardSaid : Prop := Claim7.holds Tryd.pinned (.plain (OpenSpec.ofChange shapeMaySpec)) shapeMayCard

/-- THE TIED CARD OF 'ligaturelaw12.ShapeEither'. -/
def shapeEitherCard : Claim7 := { stood := { row := shapeEitherRow, standIns := [], harness := (true, "3ef1b2b186f9091a4a25beafc96104baab6e99fcedd8dc633d11b9a86d852f1b"), looks := false }, kinds := [], alts := [], laidByText := true, laidKinds := [.data, .pinned], laidTests := true, laidLooks := .later }
def ShapeEitherCardSaid : Prop := Claim7.holds Tryd.pinned (.plain (OpenSpec.ofChange shapeEitherSpec)) shapeEitherCard

/-- THE TIED CARD OF 'ligaturelaw12.ShapeBounds'. -/
def shapeBoundsCard : Claim7 := { stood := { row := shapeBoundsRow, standIns := [], harness := (true, "3ef1b2b186f9091a4a25beafc96104baab6e99fcedd8dc633d11b9a86d852f1b"), looks := false }, kinds := [], alts := [], laidByText := true, laidKinds := [.data, .pinned], laidTests := true, laidLooks := .later }
def ShapeBoundsCardSaid : Prop := Claim7.holds Tryd.pinned (.plain (OpenSpec.ofChange shapeBoundsSpec)) shapeBoundsCard

/-- THE TIED CARD OF 'ligaturelaw12.ShapeTypes'. -/
def shapeTypesCard : Claim7 := { stood := { row := shapeTypesRow, standIns := [], harness := (true, "3ef1b2b186f9091a4a25beafc96104baab6e99fcedd8dc633d11b9a86d852f1b"), looks := false }, kinds := [], alts := [], laidByText := true, laidKinds := [.data, .pinned], laidTests := true, laidLooks := .later }
def ShapeTypesCardSaid : Prop := Claim7.holds Tryd.pinned (.plain (OpenSpec.ofChange shapeTypesSpec)) shapeTypesCard

/-- THE TIED CARD OF 'ligaturelaw12.ShapeFits'. -/
def shapeFitsCard : Claim7 := { stood := { row := shapeFitsRow, standIns := [], harness := (true, "3ef1b2b186f9091a4a25beafc96104baab6e99fcedd8dc633d11b9a86d852f1b"), looks := false }, kinds := [], alts := [], laidByText := true, laidKinds := [.data, .pinned], laidTests := true, laidLooks := .later }
def ShapeFitsCardSaid : Prop := Claim7.holds Tryd.pinned (.plain (OpenSpec.ofChange shapeFitsSpec)) shapeFitsCard

/-- THE TIED CARD OF 'ligaturelaw12.ShapeKeys'. -/
def shapeKeysCard : Claim7 := { stood := { row := shapeKeysRow, standIns := [], harness := (true, "3ef1b2b186f9091a4a25beafc96104baab6e99fcedd8dc633d11b9a86d852f1b"), looks := false }, kinds := [], alts := [], laidByText := true, laidKinds := [.data, .pinned], laidTests := true, laidLooks := .later }
def ShapeKeysCardSaid : Prop := Claim7.holds Tryd.pinned (.plain (OpenSpec.ofChange shapeKeysSpec)) shapeKeysCard

/-- THE TIED CARD OF 'ligaturelaw12.ShapeLabels'. -/
def shapeLabelsCard : Claim7 := { stood := { row := shapeLabelsRow, standIns := [], harness := (true, "3ef1b2b186f9091a4a25beafc96104baab6e99fcedd8dc633d11b9a86d852f1b"), looks := false }, kinds := [], alts := [], laidByText := true, laidKinds := [.data, .pinned], laidTests := true, laidLooks := .later }
def ShapeLabelsCardSaid : Prop := Claim7.holds Tryd.pinned (.plain (OpenSpec.ofChange shapeLabelsSpec)) shapeLabelsCard

/-- THE SECOND FORM's CARD OF 'ligaturelaw12.ShapeMay'. -/
def shapeMayUptoCard : Claim7 := { stood := { row := shapeMayUptoRow, standIns := [], harness := (true, "3ef1b2b186f9091a4a25beafc96104baab6e99fcedd8dc633d11b9a86d852f1b"), looks := false }, kinds := [], alts := [], laidByText := true, laidKinds := [.data, .pinned], laidTests := true, laidLooks := .later }
def ShapeMayUptoCardSaid : Prop := Claim7.holds Tryd.pinned (.plain (OpenSpec.upto shapeMaySpec)) shapeMayUptoCard

/-- THE SECOND FORM's CARD OF 'ligaturelaw12.ShapeEither'. -/
def shapeEitherUptoCard : Claim7 := { stood := { row := shapeEitherUptoRow, standIns := [], harness := (true, "3ef1b2b186f9091a4a25beafc96104baab6e99fcedd8dc633d11b9a86d852f1b"), looks := false }, kinds := [], alts := [], laidByText := true, laidKinds := [.data, .pinned], laidTests := true, laidLooks := .later }
def ShapeEitherUptoCardSaid : Prop := Claim7.holds Tryd.pinned (.plain (OpenSpec.upto shapeEitherSpec)) shapeEitherUptoCard

/-- THE SECOND FORM's CARD OF 'ligaturelaw12.ShapeBounds'. -/
def shapeBoundsUptoCard : Claim7 := { stood := { row := shapeBoundsUptoRow, standIns := [], harness := (true, "3ef1b2b186f9091a4a25beafc96104baab6e99fcedd8dc633d11b9a86d852f1b"), looks := false }, kinds := [], alts := [], laidByText := true, laidKinds := [.data, .pinned], laidTests := true, laidLooks := .later }
def ShapeBoundsUptoCardSaid : Prop := Claim7.holds Tryd.pinned (.plain (OpenSpec.upto shapeBoundsSpec)) shapeBoundsUptoCard

/-- THE SECOND FORM's CARD OF 'ligaturelaw12.ShapeTypes'. -/
def shapeTypesUptoCard : Claim7 := { stood := { row := shapeTypesUptoRow, standIns := [], harness := (true, "3ef1b2b186f9091a4a25beafc96104baab6e99fcedd8dc633d11b9a86d852f1b"), looks := false }, kinds := [], alts := [], laidByText := true, laidKinds := [.data, .pinned], laidTests := true, laidLooks := .later }
def ShapeTypesUptoCardSaid : Prop := Claim7.holds Tryd.pinned (.plain (OpenSpec.upto shapeTypesSpec)) shapeTypesUptoCard

/-- THE SECOND FORM's CARD OF 'ligaturelaw12.ShapeFits'. -/
def shapeFitsUptoCard : Claim7 := { stood := { row := shapeFitsUptoRow, standIns := [], harness := (true, "3ef1b2b186f9091a4a25beafc96104baab6e99fcedd8dc633d11b9a86d852f1b"), looks := false }, kinds := [], alts := [], laidByText := true, laidKinds := [.data, .pinned], laidTests := true, laidLooks := .later }
def ShapeFitsUptoCardSaid : Prop := Claim7.holds Tryd.pinned (.plain (OpenSpec.upto shapeFitsSpec)) shapeFitsUptoCard

/-- THE SECOND FORM's CARD OF 'ligaturelaw12.ShapeKeys'. -/
def shapeKeysUptoCard : Claim7 := { stood := { row := shapeKeysUptoRow, standIns := [], harness := (true, "3ef1b2b186f9091a4a25beafc96104baab6e99fcedd8dc633d11b9a86d852f1b"), looks := false }, kinds := [], alts := [], laidByText := true, laidKinds := [.data, .pinned], laidTests := true, laidLooks := .later }
def ShapeKeysUptoCardSaid : Prop := Claim7.holds Tryd.pinned (.plain (OpenSpec.upto shapeKeysSpec)) shapeKeysUptoCard

/-- THE SECOND FORM's CARD OF 'ligaturelaw12.ShapeLabels'. -/
def shapeLabelsUptoCard : Claim7 := { stood := { row := shapeLabelsUptoRow, standIns := [], harness := (true, "3ef1b2b186f9091a4a25beafc96104baab6e99fcedd8dc633d11b9a86d852f1b"), looks := false }, kinds := [], alts := [], laidByText := true, laidKinds := [.data, .pinned], laidTests := true, laidLooks := .later }
def ShapeLabelsUptoCardSaid : Prop := Claim7.holds Tryd.pinned (.plain (OpenSpec.upto shapeLabelsSpec)) shapeLabelsUptoCard
end Rows
end Go.Proofs.YtlgglkkafcbikaaDoor
