/-
  NARROWER THAN 'FOR EVERY INPUT', by the rows' own cells (each row's printed sentence says how): ShapeMay: laid · ShapeEither: laid · ShapeBounds: laid · ShapeTypes: laid · ShapeFits: laid · ShapeKeys: laid · ShapeLabels: laid.
  DERIVED. THE GIVEN ROWS OF THIS SEAT. 7 by the template 'for every input the law returns true; each argument reads behind the call as it read before'; 0 by the template 'total and deterministic' (their statements: YtlgglkkafcbikaaDoorTotals.lean).
  GIVEN WITH THE SEED: the statements are not yours to turn. If you find one false, say at which input.
  Laid BY PROGRAM, IN A SANDBOX (cutbox-rows.mjs): the forced cells as the released guide's own fill.sh prints them over the translation cf33e84159dd2763… (all of the seat's roots in one cut). By AI agents, Wed Nov 11 2026. No macro, syntax, notation, axiom, sorry.
-/
import Derived.Test.YtlgglkkafcbikaaDoorChecked
import GoSem.PinnedTables
import GoSem.Claim
import GoSem.ClaimJoined
import GoSem.ClaimMapViews
import Derived.JoinedTies
import Derived.KernelRfl
namespace Go.Proofs.YtlgglkkafcbikaaDoor
/- THE CELL 'sum', in the pinned program and in every row, IS THE sha256 OF THE DUMP (.gsa) THAT YtlgglkkafcbikaaDoorProg.lean LOADS. Nothing in Lean hashes anything: it is a label: what it is worth is what the hold of that sum in a sandbox is worth. -/
noncomputable def Tryd.pinned : Pinned := { name := "ytlgglkkafcbikaadoor", sum := "cf33e84159dd2763edce71161170a96b23629e5bc0c011698fc96c72d3be2527", checked := Tryd.checked }
namespace Rows
def none {H : Type} : Left H := { results := [], args := [] }

/- WHAT THE LISTED PACKAGE-LEVEL VARIABLES READ AS WHEN THE CALL BEGINS. Each datum BY PROGRAM (the guide's laid-datum.mjs) off the statement by which the dump's own 'gosem.cut.vars' lays the variable. In a bare row this is a premise. The card (YtlgglkkafcbikaaDoorCards.lean) ties it to the program's text. -/
def laid_unicode_utf8_acceptRanges {H : Type} : DataW H := .agg [.agg [.lit (.int .u8 128), .lit (.int .u8 191)], .agg [.lit (.int .u8 160), .lit (.int .u8 191)], .agg [.lit (.int .u8 128), .lit (.int .u8 159)], .agg [.lit (.int .u8 144), .lit (.int .u8 191)], .agg [.lit (.int .u8 128), .lit (.int .u8 143)], .agg [.lit (.int .u8 0), .lit (.int .u8 0)], .agg [.lit (.int .u8 0), .lit (.int .u8 0)], .agg [.lit (.int .u8 0), .lit (.int .u8 0)], .agg [.lit (.int .u8 0), .lit (.int .u8 0)], .agg [.lit (.int .u8 0), .lit (.int .u8 0)], .agg [.lit (.int .u8 0), .lit (.int .u8 0)], .agg [.lit (.int .u8 0), .lit (.int .u8 0)], .agg [.lit (.int .u8 0), .lit (.int .u8 0)], .agg [.lit (.int .u8 0), .lit (.int .u8 0)], .agg [.lit (.int .u8 0), .lit (.int .u8 0)], .agg [.lit (.int .u8 0), .lit (.int .u8 0)]]
/-- One of Go's own tables, pinned by name: the form's constant. -/
def laid_unicode_utf8_first : DataW Unit := Go.Pinned.utf8First

/-- 'ligaturelaw12.ShapeMay': WHATEVER THE INPUT: true; the input reads as it did. -/
def shapeMaySpec : ChangeSpec := { name := "shapeMay", fn := fun _ => fun
  | [d] => { results := [.lit (.bool true)], args := [d] }
  | _ => none }
def shapeMayRow : OpenClaim := { program := "ytlgglkkafcbikaadoor", sum := "cf33e84159dd2763edce71161170a96b23629e5bc0c011698fc96c72d3be2527", func := "ligature/ligaturelaw12.ShapeMay", spec := "shapeMay", inPlace := ["internal/bytealg.IndexByteString", "internal/bytealg.IndexString", "math.Float64frombits", "math.Float64bits"], unfollowed := true, recurses := true, named := ["unicode/utf8.first", "unicode/utf8.acceptRanges", "internal/bytealg.MaxLen"], apart := false, laid := [("unicode/utf8.acceptRanges", laid_unicode_utf8_acceptRanges), ("unicode/utf8.first", laid_unicode_utf8_first)] }
def ShapeMaySaid : Prop := shapeMayRow.holds Tryd.pinned (OpenSpec.ofChange shapeMaySpec)

/-- ITS FALSE NEIGHBOUR: 'it returns false'. Refute it at one input. -/
def shapeMayWrong : ChangeSpec := { name := "shapeMay", fn := fun _ => fun
  | [d] => { results := [.lit (.bool false)], args := [d] }
  | _ => none }
def ShapeMayWrongFalsely : Prop := shapeMayRow.holds Tryd.pinned (OpenSpec.ofChange shapeMayWrong)

/-- 'ligaturelaw12.ShapeEither': WHATEVER THE INPUT: true; the input reads as it did. -/
def shapeEitherSpec : ChangeSpec := { name := "shapeEither", fn := fun _ => fun
  | [d1, d2, d3, d4] => { results := [.lit (.bool true)], args := [d1, d2, d3, d4] }
  | _ => none }
def shapeEitherRow : OpenClaim := { program := "ytlgglkkafcbikaadoor", sum := "cf33e84159dd2763edce71161170a96b23629e5bc0c011698fc96c72d3be2527", func := "ligature/ligaturelaw12.ShapeEither", spec := "shapeEither", inPlace := ["internal/bytealg.IndexByteString", "internal/bytealg.IndexString", "math.Float64frombits", "math.Float64bits"], unfollowed := true, recurses := true, named := ["unicode/utf8.first", "unicode/utf8.acceptRanges", "internal/bytealg.MaxLen"], apart := false, laid := [("unicode/utf8.acceptRanges", laid_unicode_utf8_acceptRanges), ("unicode/utf8.first", laid_unicode_utf8_first)] }
def ShapeEitherSaid : Prop := shapeEitherRow.holds Tryd.pinned (OpenSpec.ofChange shapeEitherSpec)

/-- ITS FALSE NEIGHBOUR: 'it returns false'. Refute it at one input. -/
def shapeEitherWrong : ChangeSpec := { name := "shapeEither", fn := fun _ => fun
  | [d1, d2, d3, d4] => { results := [.lit (.bool false)], args := [d1, d2, d3, d4] }
  | _ => none }
def ShapeEitherWrongFalsely : Prop := shapeEitherRow.holds Tryd.pinned (OpenSpec.ofChange shapeEitherWrong)

/-- 'ligaturelaw12.ShapeBounds': WHATEVER THE INPUT: true; the input reads as it did. -/
def shapeBoundsSpec : ChangeSpec := { name := "shapeBounds", fn := fun _ => fun
  | [d1, d2, d3, d4] => { results := [.lit (.bool true)], args := [d1, d2, d3, d4] }
  | _ => none }
def shapeBoundsRow : OpenClaim := { program := "ytlgglkkafcbikaadoor", sum := "cf33e84159dd2763edce71161170a96b23629e5bc0c011698fc96c72d3be2527", func := "ligature/ligaturelaw12.ShapeBounds", spec := "shapeBounds", inPlace := ["internal/bytealg.IndexByteString", "internal/bytealg.IndexString", "math.Float64frombits", "math.Float64bits"], unfollowed := true, recurses := true, named := ["unicode/utf8.first", "unicode/utf8.acceptRanges", "internal/bytealg.MaxLen"], apart := false, laid := [("unicode/utf8.acceptRanges", laid_unicode_utf8_acceptRanges), ("unicode/utf8.first", laid_unicode_utf8_first)] }
def ShapeBoundsSaid : Prop := shapeBoundsRow.holds Tryd.pinned (OpenSpec.ofChange shapeBoundsSpec)

/-- ITS FALSE NEIGHBOUR: 'it returns false'. Refute it at one input. -/
def shapeBoundsWrong : ChangeSpec := { name := "shapeBounds", fn := fun _ => fun
  | [d1, d2, d3, d4] => { results := [.lit (.bool false)], args := [d1, d2, d3, d4] }
  | _ => none }
def ShapeBoundsWrongFalsely : Prop := shapeBoundsRow.holds Tryd.pinned (OpenSpec.ofChange shapeBoundsWrong)

/-- 'ligaturelaw12.ShapeTypes': WHATEVER THE INPUT: true; the input reads as it did. -/
def shapeTypesSpec : ChangeSpec := { name := "shapeTypes", fn := fun _ => fun
  | [d1, d2, d3, d4] => { results := [.lit (.bool true)], args := [d1, d2, d3, d4] }
  | _ => none }
def shapeTypesRow : OpenClaim := { program := "ytlgglkkafcbikaadoor", sum := "cf33e84159dd2763edce71161170a96b23629e5bc0c011698fc96c72d3be2527", func := "ligature/ligaturelaw12.ShapeTypes", spec := "shapeTypes", inPlace := ["internal/bytealg.IndexByteString", "internal/bytealg.IndexString", "math.Float64frombits", "math.Float64bits"], unfollowed := true, recurses := true, named := ["unicode/utf8.first", "unicode/utf8.acceptRanges", "internal/bytealg.MaxLen"], apart := false, laid := [("unicode/utf8.acceptRanges", laid_unicode_utf8_acceptRanges), ("unicode/utf8.first", laid_unicode_utf8_first)] }
def ShapeTypesSaid : Prop := shapeTypesRow.holds Tryd.pinned (OpenSpec.ofChange shapeTypesSpec)

/-- ITS FALSE NEIGHBOUR: 'it returns false'. Refute it at one input. -/
def shapeTypesWrong : ChangeSpec := { name := "shapeTypes", fn := fun _ => fun
  | [d1, d2, d3, d4] => { results := [.lit (.bool false)], args := [d1, d2, d3, d4] }
  | _ => none }
def ShapeTypesWrongFalsely : Prop := shapeTypesRow.holds Tryd.pinned (OpenSpec.ofChange shapeTypesWrong)

/-- 'ligaturelaw12.ShapeFits': WHATEVER THE INPUT: true; the input reads as it did. -/
def shapeFitsSpec : ChangeSpec := { name := "shapeFits", fn := fun _ => fun
  | [d1, d2, d3, d4, d5] => { results := [.lit (.bool true)], args := [d1, d2, d3, d4, d5] }
  | _ => none }
def shapeFitsRow : OpenClaim := { program := "ytlgglkkafcbikaadoor", sum := "cf33e84159dd2763edce71161170a96b23629e5bc0c011698fc96c72d3be2527", func := "ligature/ligaturelaw12.ShapeFits", spec := "shapeFits", inPlace := ["math.Float64bits", "math.Float64frombits", "internal/bytealg.IndexByteString", "internal/bytealg.IndexString"], unfollowed := true, recurses := true, named := ["unicode/utf8.first", "unicode/utf8.acceptRanges", "internal/bytealg.MaxLen"], apart := false, laid := [("unicode/utf8.acceptRanges", laid_unicode_utf8_acceptRanges), ("unicode/utf8.first", laid_unicode_utf8_first)] }
def ShapeFitsSaid : Prop := shapeFitsRow.holds Tryd.pinned (OpenSpec.ofChange shapeFitsSpec)

/-- ITS FALSE NEIGHBOUR: 'it returns false'. Refute it at one input. -/
def shapeFitsWrong : ChangeSpec := { name := "shapeFits", fn := fun _ => fun
  | [d1, d2, d3, d4, d5] => { results := [.lit (.bool false)], args := [d1, d2, d3, d4, d5] }
  | _ => none }
def ShapeFitsWrongFalsely : Prop := shapeFitsRow.holds Tryd.pinned (OpenSpec.ofChange shapeFitsWrong)

/-- 'ligaturelaw12.ShapeKeys': WHATEVER THE INPUT: true; the input reads as it did. -/
def shapeKeysSpec : ChangeSpec := { name := "shapeKeys", fn := fun _ => fun
  | [d1, d2, d3] => { results := [.lit (.bool true)], args := [d1, d2, d3] }
  | _ => none }
def shapeKeysRow : OpenClaim := { program := "ytlgglkkafcbikaadoor", sum := "cf33e84159dd2763edce71161170a96b23629e5bc0c011698fc96c72d3be2527", func := "ligature/ligaturelaw12.ShapeKeys", spec := "shapeKeys", inPlace := ["math.Float64bits", "math.Float64frombits", "internal/bytealg.IndexByteString", "internal/bytealg.IndexString"], unfollowed := true, recurses := true, named := ["unicode/utf8.first", "unicode/utf8.acceptRanges", "internal/bytealg.MaxLen"], apart := false, laid := [("unicode/utf8.acceptRanges", laid_unicode_utf8_acceptRanges), ("unicode/utf8.first", laid_unicode_utf8_first)] }
def ShapeKeysSaid : Prop := shapeKeysRow.holds Tryd.pinned (OpenSpec.ofChange shapeKeysSpec)

/-- ITS FALSE NEIGHBOUR: 'it returns false'. Refute it at one input. -/
def shapeKeysWrong : ChangeSpec := { name := "shapeKeys", fn := fun _ => fun
  | [d1, d2, d3] => { results := [.lit (.bool false)], args := [d1, d2, d3] }
  | _ => none }
def ShapeKeysWrongFalsely : Prop := shapeKeysRow.holds Tryd.pinned (OpenSpec.ofChange shapeKeysWrong)

/-- 'ligaturelaw12.ShapeLabels': WHATEVER THE INPUT: true; the input reads as it did. -/
def shapeLabelsSpec : ChangeSpec := { name := "shapeLabels", fn := fun _ => fun
  | [d1, d2] => { results := [.lit (.bool true)], args := [d1, d2] }
  | _ => none }
def shapeLabelsRow : OpenClaim := { program := "ytlgglkkafcbikaadoor", sum := "cf33e84159dd2763edce71161170a96b23629e5bc0c011698fc96c72d3be2527", func := "ligature/ligaturelaw12.ShapeLabels", spec := "shapeLabels", inPlace := ["math.Float64frombits", "math.Float64bits", "internal/bytealg.IndexByteString", "internal/bytealg.IndexString"], unfollowed := true, recurses := true, named := ["unicode/utf8.first", "unicode/utf8.acceptRanges", "internal/bytealg.MaxLen"], apart := false, laid := [("unicode/utf8.acceptRanges", laid_unicode_utf8_acceptRanges), ("unicode/utf8.first", laid_unicode_utf8_first)] }
def ShapeLabelsSaid : Prop := shapeLabelsRow.holds Tryd.pinned (OpenSpec.ofChange shapeLabelsSpec)

/-- ITS FALSE NEIGHBOUR: 'it returns false'. Refute it at one input. -/
def shapeLabelsWrong : ChangeSpec := { name := "shapeLabels", fn := fun _ => fun
  | [d1, d2] => { results := [.lit (.bool false)], args := [d1, d2] }
  | _ => none }
def ShapeLabelsWrongFalsely : Prop := shapeLabelsRow.holds Tryd.pinned (OpenSpec.ofChange shapeLabelsWrong)

/- THE SECOND FORM. 'bulk': how many values and letters a reading holds, each counted each time it is reached (what is shared counts as often as it is met; a slice's spare places count too). A statement '..UptoSaid' is the law's where the arguments, and the package variables that the reading takes, are together of bulk at most 1048576: NARROWER than '..Said'. Prove '..Said' where nothing that the law and all that it calls make is longer than what came in: it says more and counts as full. Else prove '..UptoSaid'. A law counts once. -/
mutual
def uptoBulk {H : Type} : DataW H → Nat
  | .lit (.string bytes) => bytes.length + 1
  | .lit _ => 1
  | .nil => 1
  | .ptr d => uptoBulk d + 1
  | .slice elems spare => uptoBulkAll elems + uptoBulkAll spare + 1
  | .agg parts => uptoBulkAll parts + 1
  | .iface _ d => uptoBulk d + 1
  | .map entries => uptoBulkEntries entries + 1
  | .held _ => 1
def uptoBulkAll {H : Type} : List (DataW H) → Nat
  | [] => 0
  | d :: r => uptoBulk d + uptoBulkAll r
def uptoBulkEntries {H : Type} : List (Lit × DataW H) → Nat
  | [] => 0
  | x :: r => uptoBulkEntry x + uptoBulkEntries r
def uptoBulkEntry {H : Type} : Lit × DataW H → Nat
  | (.string bytes, d) => bytes.length + uptoBulk d + 1
  | (_, d) => uptoBulk d + 1
 end
def uptoSmall : (H : Type) → List (DataW H) → Bool := fun _ ds => decide (uptoBulkAll ds ≤ 1048576)
def OpenSpec.upto (s : _root_.Go.ChangeSpec) : _root_.Go.OpenSpec := { _root_.Go.OpenSpec.ofChange s with cond := some uptoSmall }

/-- 'ligaturelaw12.ShapeMay', WHERE WHAT IT READS IS OF BULK AT MOST 1048576: true; the input reads as it did. -/
def shapeMayUptoRow : OpenClaim := { program := "ytlgglkkafcbikaadoor", sum := "cf33e84159dd2763edce71161170a96b23629e5bc0c011698fc96c72d3be2527", func := "ligature/ligaturelaw12.ShapeMay", spec := "shapeMay", inPlace := ["internal/bytealg.IndexByteString", "internal/bytealg.IndexString", "math.Float64frombits", "math.Float64bits"], unfollowed := true, recurses := true, named := ["unicode/utf8.first", "unicode/utf8.acceptRanges", "internal/bytealg.MaxLen"], apart := false, laid := [("unicode/utf8.acceptRanges", laid_unicode_utf8_acceptRanges), ("unicode/utf8.first", laid_unicode_utf8_first)], narrowed := true }
def ShapeMayUptoSaid : Prop := shapeMayUptoRow.holds Tryd.pinned (OpenSpec.upto shapeMaySpec)

/-- 'ligaturelaw12.ShapeEither', WHERE WHAT IT READS IS OF BULK AT MOST 1048576: true; the input reads as it did. -/
def shapeEitherUptoRow : OpenClaim := { program := "ytlgglkkafcbikaadoor", sum := "cf33e84159dd2763edce71161170a96b23629e5bc0c011698fc96c72d3be2527", func := "ligature/ligaturelaw12.ShapeEither", spec := "shapeEither", inPlace := ["internal/bytealg.IndexByteString", "internal/bytealg.IndexString", "math.Float64frombits", "math.Float64bits"], unfollowed := true, recurses := true, named := ["unicode/utf8.first", "unicode/utf8.acceptRanges", "internal/bytealg.MaxLen"], apart := false, laid := [("unicode/utf8.acceptRanges", laid_unicode_utf8_acceptRanges), ("unicode/utf8.first", laid_unicode_utf8_first)], narrowed := true }
def ShapeEitherUptoSaid : Prop := shapeEitherUptoRow.holds Tryd.pinned (OpenSpec.upto shapeEitherSpec)

/-- 'ligaturelaw12.ShapeBounds', WHERE WHAT IT READS IS OF BULK AT MOST 1048576: true; the input reads as it did. -/
def shapeBoundsUptoRow : OpenClaim := { program := "ytlgglkkafcbikaadoor", sum := "cf33e84159dd2763edce71161170a96b23629e5bc0c011698fc96c72d3be2527", func := "ligature/ligaturelaw12.ShapeBounds", spec := "shapeBounds", inPlace := ["internal/bytealg.IndexByteString", "internal/bytealg.IndexString", "math.Float64frombits", "math.Float64bits"], unfollowed := true, recurses := true, named := ["unicode/utf8.first", "unicode/utf8.acceptRanges", "internal/bytealg.MaxLen"], apart := false, laid := [("unicode/utf8.acceptRanges", laid_unicode_utf8_acceptRanges), ("unicode/utf8.first", laid_unicode_utf8_first)], narrowed := true }
def ShapeBoundsUptoSaid : Prop := shapeBoundsUptoRow.holds Tryd.pinned (OpenSpec.upto shapeBoundsSpec)

/-- 'ligaturelaw12.ShapeTypes', WHERE WHAT IT READS IS OF BULK AT MOST 1048576: true; the input reads as it did. -/
def shapeTypesUptoRow : OpenClaim := { program := "ytlgglkkafcbikaadoor", sum := "cf33e84159dd2763edce71161170a96b23629e5bc0c011698fc96c72d3be2527", func := "ligature/ligaturelaw12.ShapeTypes", spec := "shapeTypes", inPlace := ["internal/bytealg.IndexByteString", "internal/bytealg.IndexString", "math.Float64frombits", "math.Float64bits"], unfollowed := true, recurses := true, named := ["unicode/utf8.first", "unicode/utf8.acceptRanges", "internal/bytealg.MaxLen"], apart := false, laid := [("unicode/utf8.acceptRanges", laid_unicode_utf8_acceptRanges), ("unicode/utf8.first", laid_unicode_utf8_first)], narrowed := true }
def ShapeTypesUptoSaid : Prop := shapeTypesUptoRow.holds Tryd.pinned (OpenSpec.upto shapeTypesSpec)

/-- 'ligaturelaw12.ShapeFits', WHERE WHAT IT READS IS OF BULK AT MOST 1048576: true; the input reads as it did. -/
def shapeFitsUptoRow : OpenClaim := { program := "ytlgglkkafcbikaadoor", sum := "cf33e84159dd2763edce71161170a96b23629e5bc0c011698fc96c72d3be2527", func := "ligature/ligaturelaw12.ShapeFits", spec := "shapeFits", inPlace := ["math.Float64bits", "math.Float64frombits", "internal/bytealg.IndexByteString", "internal/bytealg.IndexString"], unfollowed := true, recurses := true, named := ["unicode/utf8.first", "unicode/utf8.acceptRanges", "internal/bytealg.MaxLen"], apart := false, laid := [("unicode/utf8.acceptRanges", laid_unicode_utf8_acceptRanges), ("unicode/utf8.first", laid_unicode_utf8_first)], narrowed := true }
def ShapeFitsUptoSaid : Prop := shapeFitsUptoRow.holds Tryd.pinned (OpenSpec.upto shapeFitsSpec)

/-- 'ligaturelaw12.ShapeKeys', WHERE WHAT IT READS IS OF BULK AT MOST 1048576: true; the input reads as it did. -/
def shapeKeysUptoRow : OpenClaim := { program := "ytlgglkkafcbikaadoor", sum := "cf33e84159dd2763edce71161170a96b23629e5bc0c011698fc96c72d3be2527", func := "ligature/ligaturelaw12.ShapeKeys", spec := "shapeKeys", inPlace := ["math.Float64bits", "math.Float64frombits", "internal/bytealg.IndexByteString", "internal/bytealg.IndexString"], unfollowed := true, recurses := true, named := ["unicode/utf8.first", "unicode/utf8.acceptRanges", "internal/bytealg.MaxLen"], apart := false, laid := [("unicode/utf8.acceptRanges", laid_unicode_utf8_acceptRanges), ("unicode/utf8.first", laid_unicode_utf8_first)], narrowed := true }
def ShapeKeysUptoSaid : Prop := shapeKeysUptoRow.holds Tryd.pinned (OpenSpec.upto shapeKeysSpec)

/-- 'ligaturelaw12.ShapeLabels', WHERE WHAT IT READS IS OF BULK AT MOST 1048576: true; the input reads as it did. -/
def shapeLabelsUptoRow : OpenClaim := { program := "ytlgglkkafcbikaadoor", sum := "cf33e84159dd2763edce71161170a96b23629e5bc0c011698fc96c72d3be2527", func := "ligature/ligaturelaw12.ShapeLabels", spec := "shapeLabels", inPlace := ["math.Float64frombits", "math.Float64bits", "internal/bytealg.IndexByteString", "internal/bytealg.IndexString"], unfollowed := true, recurses := true, named := ["unicode/utf8.first", "unicode/utf8.acceptRanges", "internal/bytealg.MaxLen"], apart := false, laid := [("unicode/utf8.acceptRanges", laid_unicode_utf8_acceptRanges), ("unicode/utf8.first", laid_unicode_utf8_first)], narrowed := true }
def ShapeLabelsUptoSaid : Prop := shapeLabelsUptoRow.holds Tryd.pinned (OpenSpec.upto shapeLabelsSpec)

end Rows
end Go.Proofs.YtlgglkkafcbikaaDoor
