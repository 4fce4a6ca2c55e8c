/-
  No cell of these rows narrows 'for every input' (looked for: loops, veiled, ifaces, maps, wideKeys, modest, calm, conditions, laid).
  DERIVED. THE GIVEN ROWS OF THIS SEAT. 6 by the template 'for every input the law returns true; each argument reads behind the call as it read before'; 0 by the template 'total and deterministic' (their statements: YthbjkkfpahhfiaaTotals.lean).
  GIVEN WITH THE SEED: the statements are not yours to turn. If you find one false, say at which input.
  Laid BY PROGRAM, IN A SANDBOX (cutbox-rows.mjs): the forced cells as the released guide's own fill.sh prints them over the translation c31704e10070ff1d… (all of the seat's roots in one cut). By AI agents, Wed Nov 11 2026. No macro, syntax, notation, axiom, sorry.
-/
import Derived.Test.YthbjkkfpahhfiaaChecked
import GoSem.Claim
import GoSem.ClaimJoined
import GoSem.ClaimMapViews
import Derived.JoinedTies
import Derived.KernelRfl
namespace Go.Proofs.Ythbjkkfpahhfiaa
/- THE CELL 'sum', in the pinned program and in every row, IS THE sha256 OF THE DUMP (.gsa) THAT YthbjkkfpahhfiaaProg.lean LOADS. Nothing in Lean hashes anything: it is a label: what it is worth is what the hold of that sum in a sandbox is worth. -/
noncomputable def Try.pinned : Pinned := { name := "ythbjkkfpahhfiaa", sum := "c31704e10070ff1dbb13c6f680d3eff315042d48c0be36b1c71a4d3313f13c23", checked := Try.checked }
namespace Rows
def none {H : Type} : Left H := { results := [], args := [] }

/-- 'ligaturelaw9.TreeReals': WHATEVER THE INPUT: true; the input reads as it did. -/
def treeRealsSpec : ChangeSpec := { name := "treeReals", fn := fun _ => fun
  | [d1, d2, d3] => { results := [.lit (.bool true)], args := [d1, d2, d3] }
  | _ => none }
def treeRealsRow : OpenClaim := { program := "ythbjkkfpahhfiaa", sum := "c31704e10070ff1dbb13c6f680d3eff315042d48c0be36b1c71a4d3313f13c23", func := "ligature/ligaturelaw9.TreeReals", spec := "treeReals", inPlace := ["math.Float64frombits", "math.Float64bits", "slices.overlaps[ligature/api.Entry]"], unfollowed := true, recurses := true, apart := false }
def TreeRealsSaid : Prop := treeRealsRow.holds Try.pinned (OpenSpec.ofChange treeRealsSpec)

/-- ITS FALSE NEIGHBOUR: 'it returns false'. Refute it at one input. -/
def treeRealsWrong : ChangeSpec := { name := "treeReals", fn := fun _ => fun
  | [d1, d2, d3] => { results := [.lit (.bool false)], args := [d1, d2, d3] }
  | _ => none }
def TreeRealsWrongFalsely : Prop := treeRealsRow.holds Try.pinned (OpenSpec.ofChange treeRealsWrong)

/-- 'ligaturelaw9.TreeAlike': WHATEVER THE INPUT: true; the input reads as it did. -/
def treeAlikeSpec : ChangeSpec := { name := "treeAlike", fn := fun _ => fun
  | [d1, d2] => { results := [.lit (.bool true)], args := [d1, d2] }
  | _ => none }
def treeAlikeRow : OpenClaim := { program := "ythbjkkfpahhfiaa", sum := "c31704e10070ff1dbb13c6f680d3eff315042d48c0be36b1c71a4d3313f13c23", func := "ligature/ligaturelaw9.TreeAlike", spec := "treeAlike", inPlace := ["math.Float64frombits", "math.Float64bits", "slices.overlaps[ligature/api.Entry]"], unfollowed := true, recurses := true, apart := false }
def TreeAlikeSaid : Prop := treeAlikeRow.holds Try.pinned (OpenSpec.ofChange treeAlikeSpec)

/-- ITS FALSE NEIGHBOUR: 'it returns false'. Refute it at one input. -/
def treeAlikeWrong : ChangeSpec := { name := "treeAlike", fn := fun _ => fun
  | [d1, d2] => { results := [.lit (.bool false)], args := [d1, d2] }
  | _ => none }
def TreeAlikeWrongFalsely : Prop := treeAlikeRow.holds Try.pinned (OpenSpec.ofChange treeAlikeWrong)

/-- 'ligaturelaw9.TreeBack': WHATEVER THE INPUT: true; the input reads as it did. -/
def treeBackSpec : ChangeSpec := { name := "treeBack", fn := fun _ => fun
  | [d1, d2] => { results := [.lit (.bool true)], args := [d1, d2] }
  | _ => none }
def treeBackRow : OpenClaim := { program := "ythbjkkfpahhfiaa", sum := "c31704e10070ff1dbb13c6f680d3eff315042d48c0be36b1c71a4d3313f13c23", func := "ligature/ligaturelaw9.TreeBack", spec := "treeBack", inPlace := ["math.Float64bits", "math.Float64frombits", "slices.overlaps[ligature/api.Entry]"], unfollowed := true, recurses := true, apart := false }
def TreeBackSaid : Prop := treeBackRow.holds Try.pinned (OpenSpec.ofChange treeBackSpec)

/-- ITS FALSE NEIGHBOUR: 'it returns false'. Refute it at one input. -/
def treeBackWrong : ChangeSpec := { name := "treeBack", fn := fun _ => fun
  | [d1, d2] => { results := [.lit (.bool false)], args := [d1, d2] }
  | _ => none }
def TreeBackWrongFalsely : Prop := treeBackRow.holds Try.pinned (OpenSpec.ofChange treeBackWrong)

/-- 'ligaturelaw9.TreeRanges': WHATEVER THE INPUT: true; the input reads as it did. -/
def treeRangesSpec : ChangeSpec := { name := "treeRanges", fn := fun _ => fun
  | [d1, d2, d3] => { results := [.lit (.bool true)], args := [d1, d2, d3] }
  | _ => none }
def treeRangesRow : OpenClaim := { program := "ythbjkkfpahhfiaa", sum := "c31704e10070ff1dbb13c6f680d3eff315042d48c0be36b1c71a4d3313f13c23", func := "ligature/ligaturelaw9.TreeRanges", spec := "treeRanges", inPlace := ["math.Float64bits", "math.Float64frombits", "slices.overlaps[ligature/api.Entry]"], unfollowed := true, recurses := true, apart := false }
def TreeRangesSaid : Prop := treeRangesRow.holds Try.pinned (OpenSpec.ofChange treeRangesSpec)

/-- ITS FALSE NEIGHBOUR: 'it returns false'. Refute it at one input. -/
def treeRangesWrong : ChangeSpec := { name := "treeRanges", fn := fun _ => fun
  | [d1, d2, d3] => { results := [.lit (.bool false)], args := [d1, d2, d3] }
  | _ => none }
def TreeRangesWrongFalsely : Prop := treeRangesRow.holds Try.pinned (OpenSpec.ofChange treeRangesWrong)

/-- 'ligaturelaw9.TreePlays': WHATEVER THE INPUT: true; the input reads as it did. -/
def treePlaysSpec : ChangeSpec := { name := "treePlays", fn := fun _ => fun
  | [d] => { results := [.lit (.bool true)], args := [d] }
  | _ => none }
def treePlaysRow : OpenClaim := { program := "ythbjkkfpahhfiaa", sum := "c31704e10070ff1dbb13c6f680d3eff315042d48c0be36b1c71a4d3313f13c23", func := "ligature/ligaturelaw9.TreePlays", spec := "treePlays", inPlace := ["math.Float64bits", "math.Float64frombits", "slices.overlaps[ligature/api.Entry]"], unfollowed := true, recurses := true, apart := false }
def TreePlaysSaid : Prop := treePlaysRow.holds Try.pinned (OpenSpec.ofChange treePlaysSpec)

/-- ITS FALSE NEIGHBOUR: 'it returns false'. Refute it at one input. -/
def treePlaysWrong : ChangeSpec := { name := "treePlays", fn := fun _ => fun
  | [d] => { results := [.lit (.bool false)], args := [d] }
  | _ => none }
def TreePlaysWrongFalsely : Prop := treePlaysRow.holds Try.pinned (OpenSpec.ofChange treePlaysWrong)

/-- 'ligaturelaw9.TreeOfNothing': WHATEVER THE INPUT: true; the input reads as it did. -/
def treeOfNothingSpec : ChangeSpec := { name := "treeOfNothing", fn := fun _ => fun
  | [d] => { results := [.lit (.bool true)], args := [d] }
  | _ => none }
def treeOfNothingRow : OpenClaim := { program := "ythbjkkfpahhfiaa", sum := "c31704e10070ff1dbb13c6f680d3eff315042d48c0be36b1c71a4d3313f13c23", func := "ligature/ligaturelaw9.TreeOfNothing", spec := "treeOfNothing", inPlace := ["math.Float64bits", "math.Float64frombits", "slices.overlaps[ligature/api.Entry]"], unfollowed := true, recurses := true, apart := false }
def TreeOfNothingSaid : Prop := treeOfNothingRow.holds Try.pinned (OpenSpec.ofChange treeOfNothingSpec)

/-- ITS FALSE NEIGHBOUR: 'it returns false'. Refute it at one input. -/
def treeOfNothingWrong : ChangeSpec := { name := "treeOfNothing", fn := fun _ => fun
  | [d] => { results := [.lit (.bool false)], args := [d] }
  | _ => none }
def TreeOfNothingWrongFalsely : Prop := treeOfNothingRow.holds Try.pinned (OpenSpec.ofChange treeOfNothingWrong)

/- THE SECOND FORM. 'bulk': how many values and letters a reading holds, each counted each time it is reached (what is shared counts as often as it is met; a slice's spare places count too). A statement '..UptoSaid' is the law's where the arguments, and the package variables that the reading takes, are together of bulk at most 1048576: NARROWER than '..Said'. Prove '..Said' where nothing that the law and all that it calls make is longer than what came in: it says more and counts as full. Else prove '..UptoSaid'. A law counts once. -/
mutual
def uptoBulk {H : Type} : DataW H → Nat
  | .lit (.string bytes) => bytes.length + 1
  | .lit _ => 1
  | .nil => 1
  | .ptr d => uptoBulk d + 1
  | .slice elems spare => uptoBulkAll elems + uptoBulkAll spare + 1
  | .agg parts => uptoBulkAll parts + 1
  | .iface _ d => uptoBulk d + 1
  | .map entries => uptoBulkEntries entries + 1
  | .held _ => 1
def uptoBulkAll {H : Type} : List (DataW H) → Nat
  | [] => 0
  | d :: r => uptoBulk d + uptoBulkAll r
def uptoBulkEntries {H : Type} : List (Lit × DataW H) → Nat
  | [] => 0
  | x :: r => uptoBulkEntry x + uptoBulkEntries r
def uptoBulkEntry {H : Type} : Lit × DataW H → Nat
  | (.string bytes, d) => bytes.length + uptoBulk d + 1
  | (_, d) => uptoBulk d + 1
 end
def uptoSmall : (H : Type) → List (DataW H) → Bool := fun _ ds => decide (uptoBulkAll ds ≤ 1048576)
def OpenSpec.upto (s : _root_.Go.ChangeSpec) : _root_.Go.OpenSpec := { _root_.Go.OpenSpec.ofChange s with cond := some uptoSmall }

/-- 'ligaturelaw9.TreeReals', WHERE WHAT IT READS IS OF BULK AT MOST 1048576: true; the input reads as it did. -/
def treeRealsUptoRow : OpenClaim := { program := "ythbjkkfpahhfiaa", sum := "c31704e10070ff1dbb13c6f680d3eff315042d48c0be36b1c71a4d3313f13c23", func := "ligature/ligaturelaw9.TreeReals", spec := "treeReals", inPlace := ["math.Float64frombits", "math.Float64bits", "slices.overlaps[ligature/api.Entry]"], unfollowed := true, recurses := true, apart := false, narrowed := true }
def TreeRealsUptoSaid : Prop := treeRealsUptoRow.holds Try.pinned (OpenSpec.upto treeRealsSpec)

/-- 'ligaturelaw9.TreeAlike', WHERE WHAT IT READS IS OF BULK AT MOST 1048576: true; the input reads as it did. -/
def treeAlikeUptoRow : OpenClaim := { program := "ythbjkkfpahhfiaa", sum := "c31704e10070ff1dbb13c6f680d3eff315042d48c0be36b1c71a4d3313f13c23", func := "ligature/ligaturelaw9.TreeAlike", spec := "treeAlike", inPlace := ["math.Float64frombits", "math.Float64bits", "slices.overlaps[ligature/api.Entry]"], unfollowed := true, recurses := true, apart := false, narrowed := true }
def TreeAlikeUptoSaid : Prop := treeAlikeUptoRow.holds Try.pinned (OpenSpec.upto treeAlikeSpec)

/-- 'ligaturelaw9.TreeBack', WHERE WHAT IT READS IS OF BULK AT MOST 1048576: true; the input reads as it did. -/
def treeBackUptoRow : OpenClaim := { program := "ythbjkkfpahhfiaa", sum := "c31704e10070ff1dbb13c6f680d3eff315042d48c0be36b1c71a4d3313f13c23", func := "ligature/ligaturelaw9.TreeBack", spec := "treeBack", inPlace := ["math.Float64bits", "math.Float64frombits", "slices.overlaps[ligature/api.Entry]"], unfollowed := true, recurses := true, apart := false, narrowed := true }
def TreeBackUptoSaid : Prop := treeBackUptoRow.holds Try.pinned (OpenSpec.upto treeBackSpec)

/-- 'ligaturelaw9.TreeRanges', WHERE WHAT IT READS IS OF BULK AT MOST 1048576: true; the input reads as it did. -/
def treeRangesUptoRow : OpenClaim := { program := "ythbjkkfpahhfiaa", sum := "c31704e10070ff1dbb13c6f680d3eff315042d48c0be36b1c71a4d3313f13c23", func := "ligature/ligaturelaw9.TreeRanges", spec := "treeRanges", inPlace := ["math.Float64bits", "math.Float64frombits", "slices.overlaps[ligature/api.Entry]"], unfollowed := true, recurses := true, apart := false, narrowed := true }
def TreeRangesUptoSaid : Prop := treeRangesUptoRow.holds Try.pinned (OpenSpec.upto treeRangesSpec)

/-- 'ligaturelaw9.TreePlays', WHERE WHAT IT READS IS OF BULK AT MOST 1048576: true; the input reads as it did. -/
def treePlaysUptoRow : OpenClaim := { program := "ythbjkkfpahhfiaa", sum := "c31704e10070ff1dbb13c6f680d3eff315042d48c0be36b1c71a4d3313f13c23", func := "ligature/ligaturelaw9.TreePlays", spec := "treePlays", inPlace := ["math.Float64bits", "math.Float64frombits", "slices.overlaps[ligature/api.Entry]"], unfollowed := true, recurses := true, apart := false, narrowed := true }
def TreePlaysUptoSaid : Prop := treePlaysUptoRow.holds Try.pinned (OpenSpec.upto treePlaysSpec)

/-- 'ligaturelaw9.TreeOfNothing', WHERE WHAT IT READS IS OF BULK AT MOST 1048576: true; the input reads as it did. -/
def treeOfNothingUptoRow : OpenClaim := { program := "ythbjkkfpahhfiaa", sum := "c31704e10070ff1dbb13c6f680d3eff315042d48c0be36b1c71a4d3313f13c23", func := "ligature/ligaturelaw9.TreeOfNothing", spec := "treeOfNothing", inPlace := ["math.Float64bits", "math.Float64frombits", "slices.overlaps[ligature/api.Entry]"], unfollowed := true, recurses := true, apart := false, narrowed := true }
def TreeOfNothingUptoSaid : Prop := treeOfNothingUptoRow.holds Try.pinned (OpenSpec.upto treeOfNothingSpec)

end Rows
end Go.Proofs.Ythbjkkfpahhfiaa
