/-
  No cell of these rows narrows 'for every input' (looked for: loops, veiled, ifaces, maps, wideKeys, modest, calm, conditions, laid).
  DERIVED. THE GIVEN ROWS OF THIS SEAT. 15 by the template 'for every input the law returns true; each argument reads behind the call as it read before'; 0 by the template 'total and deterministic' (their statements: YtbnhepcfjjephaaTotals.lean).
  GIVEN WITH THE SEED: the statements are not yours to turn. If you find one false, say at which input.
  Laid BY PROGRAM, IN A SANDBOX (cutbox-rows.mjs): the forced cells as the released guide's own fill.sh prints them over the translation 6781b42603881a83… (all of the seat's roots in one cut). By AI agents, Wed Nov 11 2026. No macro, syntax, notation, axiom, sorry.
-/
import Derived.Test.YtbnhepcfjjephaaChecked
import GoSem.Claim
import GoSem.ClaimJoined
import GoSem.ClaimMapViews
import Derived.JoinedTies
import Derived.KernelRfl
namespace Go.Proofs.Ytbnhepcfjjephaa
/- THE CELL 'sum', in the pinned program and in every row, IS THE sha256 OF THE DUMP (.gsa) THAT YtbnhepcfjjephaaProg.lean LOADS. Nothing in Lean hashes anything: it is a label: what it is worth is what the hold of that sum in a sandbox is worth. -/
noncomputable def Try.pinned : Pinned := { name := "ytbnhepcfjjephaa", sum := "6781b42603881a83af057b58508f8ce6e11270b756f744d8a3cf1d2600f0d8c5", checked := Try.checked }
namespace Rows
def none {H : Type} : Left H := { results := [], args := [] }

/-- 'ligaturelaw3.LebJoins': WHATEVER THE INPUT: true; the input reads as it did. -/
def lebJoinsSpec : ChangeSpec := { name := "lebJoins", fn := fun _ => fun
  | [d1, d2, d3] => { results := [.lit (.bool true)], args := [d1, d2, d3] }
  | _ => none }
def lebJoinsRow : OpenClaim := { program := "ytbnhepcfjjephaa", sum := "6781b42603881a83af057b58508f8ce6e11270b756f744d8a3cf1d2600f0d8c5", func := "ligature/ligaturelaw3.LebJoins", spec := "lebJoins", apart := false }
def LebJoinsSaid : Prop := lebJoinsRow.holds Try.pinned (OpenSpec.ofChange lebJoinsSpec)

/-- ITS FALSE NEIGHBOUR: 'it returns false'. Refute it at one input. -/
def lebJoinsWrong : ChangeSpec := { name := "lebJoins", fn := fun _ => fun
  | [d1, d2, d3] => { results := [.lit (.bool false)], args := [d1, d2, d3] }
  | _ => none }
def LebJoinsWrongFalsely : Prop := lebJoinsRow.holds Try.pinned (OpenSpec.ofChange lebJoinsWrong)

/-- 'ligaturelaw3.LebLays': WHATEVER THE INPUT: true; the input reads as it did. -/
def lebLaysSpec : ChangeSpec := { name := "lebLays", fn := fun _ => fun
  | [d1, d2, d3, d4] => { results := [.lit (.bool true)], args := [d1, d2, d3, d4] }
  | _ => none }
def lebLaysRow : OpenClaim := { program := "ytbnhepcfjjephaa", sum := "6781b42603881a83af057b58508f8ce6e11270b756f744d8a3cf1d2600f0d8c5", func := "ligature/ligaturelaw3.LebLays", spec := "lebLays", inPlace := ["math.Float64frombits", "math.Float64bits"], apart := false }
def LebLaysSaid : Prop := lebLaysRow.holds Try.pinned (OpenSpec.ofChange lebLaysSpec)

/-- ITS FALSE NEIGHBOUR: 'it returns false'. Refute it at one input. -/
def lebLaysWrong : ChangeSpec := { name := "lebLays", fn := fun _ => fun
  | [d1, d2, d3, d4] => { results := [.lit (.bool false)], args := [d1, d2, d3, d4] }
  | _ => none }
def LebLaysWrongFalsely : Prop := lebLaysRow.holds Try.pinned (OpenSpec.ofChange lebLaysWrong)

/-- 'ligaturelaw3.LebOne': WHATEVER THE INPUT: true; the input reads as it did. -/
def lebOneSpec : ChangeSpec := { name := "lebOne", fn := fun _ => fun
  | [d] => { results := [.lit (.bool true)], args := [d] }
  | _ => none }
def lebOneRow : OpenClaim := { program := "ytbnhepcfjjephaa", sum := "6781b42603881a83af057b58508f8ce6e11270b756f744d8a3cf1d2600f0d8c5", func := "ligature/ligaturelaw3.LebOne", spec := "lebOne", apart := false }
def LebOneSaid : Prop := lebOneRow.holds Try.pinned (OpenSpec.ofChange lebOneSpec)

/-- ITS FALSE NEIGHBOUR: 'it returns false'. Refute it at one input. -/
def lebOneWrong : ChangeSpec := { name := "lebOne", fn := fun _ => fun
  | [d] => { results := [.lit (.bool false)], args := [d] }
  | _ => none }
def LebOneWrongFalsely : Prop := lebOneRow.holds Try.pinned (OpenSpec.ofChange lebOneWrong)

/-- 'ligaturelaw3.LebReals': WHATEVER THE INPUT: true; the input reads as it did. -/
def lebRealsSpec : ChangeSpec := { name := "lebReals", fn := fun _ => fun
  | [d] => { results := [.lit (.bool true)], args := [d] }
  | _ => none }
def lebRealsRow : OpenClaim := { program := "ytbnhepcfjjephaa", sum := "6781b42603881a83af057b58508f8ce6e11270b756f744d8a3cf1d2600f0d8c5", func := "ligature/ligaturelaw3.LebReals", spec := "lebReals", inPlace := ["math.Float64frombits", "math.Float64bits"], apart := false }
def LebRealsSaid : Prop := lebRealsRow.holds Try.pinned (OpenSpec.ofChange lebRealsSpec)

/-- ITS FALSE NEIGHBOUR: 'it returns false'. Refute it at one input. -/
def lebRealsWrong : ChangeSpec := { name := "lebReals", fn := fun _ => fun
  | [d] => { results := [.lit (.bool false)], args := [d] }
  | _ => none }
def LebRealsWrongFalsely : Prop := lebRealsRow.holds Try.pinned (OpenSpec.ofChange lebRealsWrong)

/-- 'ligaturelaw3.LebTakes': WHATEVER THE INPUT: true; the input reads as it did. -/
def lebTakesSpec : ChangeSpec := { name := "lebTakes", fn := fun _ => fun
  | [d1, d2] => { results := [.lit (.bool true)], args := [d1, d2] }
  | _ => none }
def lebTakesRow : OpenClaim := { program := "ytbnhepcfjjephaa", sum := "6781b42603881a83af057b58508f8ce6e11270b756f744d8a3cf1d2600f0d8c5", func := "ligature/ligaturelaw3.LebTakes", spec := "lebTakes", inPlace := ["math.Float64frombits", "math.Float64bits"], apart := false }
def LebTakesSaid : Prop := lebTakesRow.holds Try.pinned (OpenSpec.ofChange lebTakesSpec)

/-- ITS FALSE NEIGHBOUR: 'it returns false'. Refute it at one input. -/
def lebTakesWrong : ChangeSpec := { name := "lebTakes", fn := fun _ => fun
  | [d1, d2] => { results := [.lit (.bool false)], args := [d1, d2] }
  | _ => none }
def LebTakesWrongFalsely : Prop := lebTakesRow.holds Try.pinned (OpenSpec.ofChange lebTakesWrong)

/-- 'ligaturelaw3.LebOfNothing': WHATEVER THE INPUT: true; the input reads as it did. -/
def lebOfNothingSpec : ChangeSpec := { name := "lebOfNothing", fn := fun _ => fun
  | [d] => { results := [.lit (.bool true)], args := [d] }
  | _ => none }
def lebOfNothingRow : OpenClaim := { program := "ytbnhepcfjjephaa", sum := "6781b42603881a83af057b58508f8ce6e11270b756f744d8a3cf1d2600f0d8c5", func := "ligature/ligaturelaw3.LebOfNothing", spec := "lebOfNothing", inPlace := ["math.Float64frombits", "math.Float64bits"], apart := false }
def LebOfNothingSaid : Prop := lebOfNothingRow.holds Try.pinned (OpenSpec.ofChange lebOfNothingSpec)

/-- ITS FALSE NEIGHBOUR: 'it returns false'. Refute it at one input. -/
def lebOfNothingWrong : ChangeSpec := { name := "lebOfNothing", fn := fun _ => fun
  | [d] => { results := [.lit (.bool false)], args := [d] }
  | _ => none }
def LebOfNothingWrongFalsely : Prop := lebOfNothingRow.holds Try.pinned (OpenSpec.ofChange lebOfNothingWrong)

/-- 'ligaturelaw3.LebBack': WHATEVER THE INPUT: true; the input reads as it did. -/
def lebBackSpec : ChangeSpec := { name := "lebBack", fn := fun _ => fun
  | [d1, d2, d3] => { results := [.lit (.bool true)], args := [d1, d2, d3] }
  | _ => none }
def lebBackRow : OpenClaim := { program := "ytbnhepcfjjephaa", sum := "6781b42603881a83af057b58508f8ce6e11270b756f744d8a3cf1d2600f0d8c5", func := "ligature/ligaturelaw3.LebBack", spec := "lebBack", inPlace := ["math.Float64frombits", "math.Float64bits"], apart := false }
def LebBackSaid : Prop := lebBackRow.holds Try.pinned (OpenSpec.ofChange lebBackSpec)

/-- ITS FALSE NEIGHBOUR: 'it returns false'. Refute it at one input. -/
def lebBackWrong : ChangeSpec := { name := "lebBack", fn := fun _ => fun
  | [d1, d2, d3] => { results := [.lit (.bool false)], args := [d1, d2, d3] }
  | _ => none }
def LebBackWrongFalsely : Prop := lebBackRow.holds Try.pinned (OpenSpec.ofChange lebBackWrong)

/-- 'ligaturelaw2.ValueOrders': WHATEVER THE INPUT: true; the input reads as it did. -/
def valueOrdersSpec : ChangeSpec := { name := "valueOrders", fn := fun _ => fun
  | [d1, d2, d3] => { results := [.lit (.bool true)], args := [d1, d2, d3] }
  | _ => none }
def valueOrdersRow : OpenClaim := { program := "ytbnhepcfjjephaa", sum := "6781b42603881a83af057b58508f8ce6e11270b756f744d8a3cf1d2600f0d8c5", func := "ligature/ligaturelaw2.ValueOrders", spec := "valueOrders", inPlace := ["math.Float64bits", "math.Float64frombits"], unfollowed := true, recurses := true, apart := false }
def ValueOrdersSaid : Prop := valueOrdersRow.holds Try.pinned (OpenSpec.ofChange valueOrdersSpec)

/-- ITS FALSE NEIGHBOUR: 'it returns false'. Refute it at one input. -/
def valueOrdersWrong : ChangeSpec := { name := "valueOrders", fn := fun _ => fun
  | [d1, d2, d3] => { results := [.lit (.bool false)], args := [d1, d2, d3] }
  | _ => none }
def ValueOrdersWrongFalsely : Prop := valueOrdersRow.holds Try.pinned (OpenSpec.ofChange valueOrdersWrong)

/-- 'ligaturelaw2.ValueReals': WHATEVER THE INPUT: true; the input reads as it did. -/
def valueRealsSpec : ChangeSpec := { name := "valueReals", fn := fun _ => fun
  | [d1, d2] => { results := [.lit (.bool true)], args := [d1, d2] }
  | _ => none }
def valueRealsRow : OpenClaim := { program := "ytbnhepcfjjephaa", sum := "6781b42603881a83af057b58508f8ce6e11270b756f744d8a3cf1d2600f0d8c5", func := "ligature/ligaturelaw2.ValueReals", spec := "valueReals", inPlace := ["math.Float64frombits", "math.Float64bits"], unfollowed := true, recurses := true, apart := false }
def ValueRealsSaid : Prop := valueRealsRow.holds Try.pinned (OpenSpec.ofChange valueRealsSpec)

/-- ITS FALSE NEIGHBOUR: 'it returns false'. Refute it at one input. -/
def valueRealsWrong : ChangeSpec := { name := "valueReals", fn := fun _ => fun
  | [d1, d2] => { results := [.lit (.bool false)], args := [d1, d2] }
  | _ => none }
def ValueRealsWrongFalsely : Prop := valueRealsRow.holds Try.pinned (OpenSpec.ofChange valueRealsWrong)

/-- 'ligaturelaw2.ValueKinds': WHATEVER THE INPUT: true; the input reads as it did. -/
def valueKindsSpec : ChangeSpec := { name := "valueKinds", fn := fun _ => fun
  | [d1, d2] => { results := [.lit (.bool true)], args := [d1, d2] }
  | _ => none }
def valueKindsRow : OpenClaim := { program := "ytbnhepcfjjephaa", sum := "6781b42603881a83af057b58508f8ce6e11270b756f744d8a3cf1d2600f0d8c5", func := "ligature/ligaturelaw2.ValueKinds", spec := "valueKinds", inPlace := ["math.Float64bits", "math.Float64frombits"], unfollowed := true, recurses := true, apart := false }
def ValueKindsSaid : Prop := valueKindsRow.holds Try.pinned (OpenSpec.ofChange valueKindsSpec)

/-- ITS FALSE NEIGHBOUR: 'it returns false'. Refute it at one input. -/
def valueKindsWrong : ChangeSpec := { name := "valueKinds", fn := fun _ => fun
  | [d1, d2] => { results := [.lit (.bool false)], args := [d1, d2] }
  | _ => none }
def ValueKindsWrongFalsely : Prop := valueKindsRow.holds Try.pinned (OpenSpec.ofChange valueKindsWrong)

/-- 'ligaturelaw2.ValueTexts': WHATEVER THE INPUT: true; the input reads as it did. -/
def valueTextsSpec : ChangeSpec := { name := "valueTexts", fn := fun _ => fun
  | [d1, d2] => { results := [.lit (.bool true)], args := [d1, d2] }
  | _ => none }
def valueTextsRow : OpenClaim := { program := "ytbnhepcfjjephaa", sum := "6781b42603881a83af057b58508f8ce6e11270b756f744d8a3cf1d2600f0d8c5", func := "ligature/ligaturelaw2.ValueTexts", spec := "valueTexts", inPlace := ["math.Float64frombits", "math.Float64bits"], unfollowed := true, recurses := true, apart := false }
def ValueTextsSaid : Prop := valueTextsRow.holds Try.pinned (OpenSpec.ofChange valueTextsSpec)

/-- ITS FALSE NEIGHBOUR: 'it returns false'. Refute it at one input. -/
def valueTextsWrong : ChangeSpec := { name := "valueTexts", fn := fun _ => fun
  | [d1, d2] => { results := [.lit (.bool false)], args := [d1, d2] }
  | _ => none }
def ValueTextsWrongFalsely : Prop := valueTextsRow.holds Try.pinned (OpenSpec.ofChange valueTextsWrong)

/-- 'ligaturelaw2.ValueOdd': WHATEVER THE INPUT: true; the input reads as it did. -/
def valueOddSpec : ChangeSpec := { name := "valueOdd", fn := fun _ => fun
  | [d1, d2, d3] => { results := [.lit (.bool true)], args := [d1, d2, d3] }
  | _ => none }
def valueOddRow : OpenClaim := { program := "ytbnhepcfjjephaa", sum := "6781b42603881a83af057b58508f8ce6e11270b756f744d8a3cf1d2600f0d8c5", func := "ligature/ligaturelaw2.ValueOdd", spec := "valueOdd", inPlace := ["math.Float64frombits", "math.Float64bits"], unfollowed := true, recurses := true, apart := false }
def ValueOddSaid : Prop := valueOddRow.holds Try.pinned (OpenSpec.ofChange valueOddSpec)

/-- ITS FALSE NEIGHBOUR: 'it returns false'. Refute it at one input. -/
def valueOddWrong : ChangeSpec := { name := "valueOdd", fn := fun _ => fun
  | [d1, d2, d3] => { results := [.lit (.bool false)], args := [d1, d2, d3] }
  | _ => none }
def ValueOddWrongFalsely : Prop := valueOddRow.holds Try.pinned (OpenSpec.ofChange valueOddWrong)

/-- 'ligaturelaw2.ValueTells': WHATEVER THE INPUT: true; the input reads as it did. -/
def valueTellsSpec : ChangeSpec := { name := "valueTells", fn := fun _ => fun
  | [d1, d2, d3] => { results := [.lit (.bool true)], args := [d1, d2, d3] }
  | _ => none }
def valueTellsRow : OpenClaim := { program := "ytbnhepcfjjephaa", sum := "6781b42603881a83af057b58508f8ce6e11270b756f744d8a3cf1d2600f0d8c5", func := "ligature/ligaturelaw2.ValueTells", spec := "valueTells", inPlace := ["math.Float64frombits", "math.Float64bits"], unfollowed := true, recurses := true, apart := false }
def ValueTellsSaid : Prop := valueTellsRow.holds Try.pinned (OpenSpec.ofChange valueTellsSpec)

/-- ITS FALSE NEIGHBOUR: 'it returns false'. Refute it at one input. -/
def valueTellsWrong : ChangeSpec := { name := "valueTells", fn := fun _ => fun
  | [d1, d2, d3] => { results := [.lit (.bool false)], args := [d1, d2, d3] }
  | _ => none }
def ValueTellsWrongFalsely : Prop := valueTellsRow.holds Try.pinned (OpenSpec.ofChange valueTellsWrong)

/-- 'ligaturelaw2.ValueBetween': WHATEVER THE INPUT: true; the input reads as it did. -/
def valueBetweenSpec : ChangeSpec := { name := "valueBetween", fn := fun _ => fun
  | [d1, d2, d3] => { results := [.lit (.bool true)], args := [d1, d2, d3] }
  | _ => none }
def valueBetweenRow : OpenClaim := { program := "ytbnhepcfjjephaa", sum := "6781b42603881a83af057b58508f8ce6e11270b756f744d8a3cf1d2600f0d8c5", func := "ligature/ligaturelaw2.ValueBetween", spec := "valueBetween", inPlace := ["math.Float64bits", "math.Float64frombits"], unfollowed := true, recurses := true, apart := false }
def ValueBetweenSaid : Prop := valueBetweenRow.holds Try.pinned (OpenSpec.ofChange valueBetweenSpec)

/-- ITS FALSE NEIGHBOUR: 'it returns false'. Refute it at one input. -/
def valueBetweenWrong : ChangeSpec := { name := "valueBetween", fn := fun _ => fun
  | [d1, d2, d3] => { results := [.lit (.bool false)], args := [d1, d2, d3] }
  | _ => none }
def ValueBetweenWrongFalsely : Prop := valueBetweenRow.holds Try.pinned (OpenSpec.ofChange valueBetweenWrong)

/-- 'ligaturelaw2.ValueInts': WHATEVER THE INPUT: true; the input reads as it did. -/
def valueIntsSpec : ChangeSpec := { name := "valueInts", fn := fun _ => fun
  | [d1, d2, d3] => { results := [.lit (.bool true)], args := [d1, d2, d3] }
  | _ => none }
def valueIntsRow : OpenClaim := { program := "ytbnhepcfjjephaa", sum := "6781b42603881a83af057b58508f8ce6e11270b756f744d8a3cf1d2600f0d8c5", func := "ligature/ligaturelaw2.ValueInts", spec := "valueInts", inPlace := ["math.Float64frombits", "math.Float64bits"], unfollowed := true, recurses := true, apart := false }
def ValueIntsSaid : Prop := valueIntsRow.holds Try.pinned (OpenSpec.ofChange valueIntsSpec)

/-- ITS FALSE NEIGHBOUR: 'it returns false'. Refute it at one input. -/
def valueIntsWrong : ChangeSpec := { name := "valueInts", fn := fun _ => fun
  | [d1, d2, d3] => { results := [.lit (.bool false)], args := [d1, d2, d3] }
  | _ => none }
def ValueIntsWrongFalsely : Prop := valueIntsRow.holds Try.pinned (OpenSpec.ofChange valueIntsWrong)

/- THE SECOND FORM. 'bulk': how many values and letters a reading holds, each counted each time it is reached (what is shared counts as often as it is met; a slice's spare places count too). A statement '..UptoSaid' is the law's where the arguments, and the package variables that the reading takes, are together of bulk at most 1048576: NARROWER than '..Said'. Prove '..Said' where nothing that the law and all that it calls make is longer than what came in: it says more and counts as full. Else prove '..UptoSaid'. A law counts once. -/
mutual
def uptoBulk {H : Type} : DataW H → Nat
  | .lit (.string bytes) => bytes.length + 1
  | .lit _ => 1
  | .nil => 1
  | .ptr d => uptoBulk d + 1
  | .slice elems spare => uptoBulkAll elems + uptoBulkAll spare + 1
  | .agg parts => uptoBulkAll parts + 1
  | .iface _ d => uptoBulk d + 1
  | .map entries => uptoBulkEntries entries + 1
  | .held _ => 1
def uptoBulkAll {H : Type} : List (DataW H) → Nat
  | [] => 0
  | d :: r => uptoBulk d + uptoBulkAll r
def uptoBulkEntries {H : Type} : List (Lit × DataW H) → Nat
  | [] => 0
  | x :: r => uptoBulkEntry x + uptoBulkEntries r
def uptoBulkEntry {H : Type} : Lit × DataW H → Nat
  | (.string bytes, d) => bytes.length + uptoBulk d + 1
  | (_, d) => uptoBulk d + 1
 end
def uptoSmall : (H : Type) → List (DataW H) → Bool := fun _ ds => decide (uptoBulkAll ds ≤ 1048576)
def OpenSpec.upto (s : _root_.Go.ChangeSpec) : _root_.Go.OpenSpec := { _root_.Go.OpenSpec.ofChange s with cond := some uptoSmall }

/-- 'ligaturelaw3.LebJoins', WHERE WHAT IT READS IS OF BULK AT MOST 1048576: true; the input reads as it did. -/
def lebJoinsUptoRow : OpenClaim := { program := "ytbnhepcfjjephaa", sum := "6781b42603881a83af057b58508f8ce6e11270b756f744d8a3cf1d2600f0d8c5", func := "ligature/ligaturelaw3.LebJoins", spec := "lebJoins", apart := false, narrowed := true }
def LebJoinsUptoSaid : Prop := lebJoinsUptoRow.holds Try.pinned (OpenSpec.upto lebJoinsSpec)

/-- 'ligaturelaw3.LebLays', WHERE WHAT IT READS IS OF BULK AT MOST 1048576: true; the input reads as it did. -/
def lebLaysUptoRow : OpenClaim := { program := "ytbnhepcfjjephaa", sum := "6781b42603881a83af057b58508f8ce6e11270b756f744d8a3cf1d2600f0d8c5", func := "ligature/ligaturelaw3.LebLays", spec := "lebLays", inPlace := ["math.Float64frombits", "math.Float64bits"], apart := false, narrowed := true }
def LebLaysUptoSaid : Prop := lebLaysUptoRow.holds Try.pinned (OpenSpec.upto lebLaysSpec)

/-- 'ligaturelaw3.LebOne', WHERE WHAT IT READS IS OF BULK AT MOST 1048576: true; the input reads as it did. -/
def lebOneUptoRow : OpenClaim := { program := "ytbnhepcfjjephaa", sum := "6781b42603881a83af057b58508f8ce6e11270b756f744d8a3cf1d2600f0d8c5", func := "ligature/ligaturelaw3.LebOne", spec := "lebOne", apart := false, narrowed := true }
def LebOneUptoSaid : Prop := lebOneUptoRow.holds Try.pinned (OpenSpec.upto lebOneSpec)

/-- 'ligaturelaw3.LebReals', WHERE WHAT IT READS IS OF BULK AT MOST 1048576: true; the input reads as it did. -/
def lebRealsUptoRow : OpenClaim := { program := "ytbnhepcfjjephaa", sum := "6781b42603881a83af057b58508f8ce6e11270b756f744d8a3cf1d2600f0d8c5", func := "ligature/ligaturelaw3.LebReals", spec := "lebReals", inPlace := ["math.Float64frombits", "math.Float64bits"], apart := false, narrowed := true }
def LebRealsUptoSaid : Prop := lebRealsUptoRow.holds Try.pinned (OpenSpec.upto lebRealsSpec)

/-- 'ligaturelaw3.LebTakes', WHERE WHAT IT READS IS OF BULK AT MOST 1048576: true; the input reads as it did. -/
def lebTakesUptoRow : OpenClaim := { program := "ytbnhepcfjjephaa", sum := "6781b42603881a83af057b58508f8ce6e11270b756f744d8a3cf1d2600f0d8c5", func := "ligature/ligaturelaw3.LebTakes", spec := "lebTakes", inPlace := ["math.Float64frombits", "math.Float64bits"], apart := false, narrowed := true }
def LebTakesUptoSaid : Prop := lebTakesUptoRow.holds Try.pinned (OpenSpec.upto lebTakesSpec)

/-- 'ligaturelaw3.LebOfNothing', WHERE WHAT IT READS IS OF BULK AT MOST 1048576: true; the input reads as it did. -/
def lebOfNothingUptoRow : OpenClaim := { program := "ytbnhepcfjjephaa", sum := "6781b42603881a83af057b58508f8ce6e11270b756f744d8a3cf1d2600f0d8c5", func := "ligature/ligaturelaw3.LebOfNothing", spec := "lebOfNothing", inPlace := ["math.Float64frombits", "math.Float64bits"], apart := false, narrowed := true }
def LebOfNothingUptoSaid : Prop := lebOfNothingUptoRow.holds Try.pinned (OpenSpec.upto lebOfNothingSpec)

/-- 'ligaturelaw3.LebBack', WHERE WHAT IT READS IS OF BULK AT MOST 1048576: true; the input reads as it did. -/
def lebBackUptoRow : OpenClaim := { program := "ytbnhepcfjjephaa", sum := "6781b42603881a83af057b58508f8ce6e11270b756f744d8a3cf1d2600f0d8c5", func := "ligature/ligaturelaw3.LebBack", spec := "lebBack", inPlace := ["math.Float64frombits", "math.Float64bits"], apart := false, narrowed := true }
def LebBackUptoSaid : Prop := lebBackUptoRow.holds Try.pinned (OpenSpec.upto lebBackSpec)

/-- 'ligaturelaw2.ValueOrders', WHERE WHAT IT READS IS OF BULK AT MOST 1048576: true; the input reads as it did. -/
def valueOrdersUptoRow : OpenClaim := { program := "ytbnhepcfjjephaa", sum := "6781b42603881a83af057b58508f8ce6e11270b756f744d8a3cf1d2600f0d8c5", func := "ligature/ligaturelaw2.ValueOrders", spec := "valueOrders", inPlace := ["math.Float64bits", "math.Float64frombits"], unfollowed := true, recurses := true, apart := false, narrowed := true }
def ValueOrdersUptoSaid : Prop := valueOrdersUptoRow.holds Try.pinned (OpenSpec.upto valueOrdersSpec)

/-- 'ligaturelaw2.ValueReals', WHERE WHAT IT READS IS OF BULK AT MOST 1048576: true; the input reads as it did. -/
def valueRealsUptoRow : OpenClaim := { program := "ytbnhepcfjjephaa", sum := "6781b42603881a83af057b58508f8ce6e11270b756f744d8a3cf1d2600f0d8c5", func := "ligature/ligaturelaw2.ValueReals", spec := "valueReals", inPlace := ["math.Float64frombits", "math.Float64bits"], unfollowed := true, recurses := true, apart := false, narrowed := true }
def ValueRealsUptoSaid : Prop := valueRealsUptoRow.holds Try.pinned (OpenSpec.upto valueRealsSpec)

/-- 'ligaturelaw2.ValueKinds', WHERE WHAT IT READS IS OF BULK AT MOST 1048576: true; the input reads as it did. -/
def valueKindsUptoRow : OpenClaim := { program := "ytbnhepcfjjephaa", sum := "6781b42603881a83af057b58508f8ce6e11270b756f744d8a3cf1d2600f0d8c5", func := "ligature/ligaturelaw2.ValueKinds", spec := "valueKinds", inPlace := ["math.Float64bits", "math.Float64frombits"], unfollowed := true, recurses := true, apart := false, narrowed := true }
def ValueKindsUptoSaid : Prop := valueKindsUptoRow.holds Try.pinned (OpenSpec.upto valueKindsSpec)

/-- 'ligaturelaw2.ValueTexts', WHERE WHAT IT READS IS OF BULK AT MOST 1048576: true; the input reads as it did. -/
def valueTextsUptoRow : OpenClaim := { program := "ytbnhepcfjjephaa", sum := "6781b42603881a83af057b58508f8ce6e11270b756f744d8a3cf1d2600f0d8c5", func := "ligature/ligaturelaw2.ValueTexts", spec := "valueTexts", inPlace := ["math.Float64frombits", "math.Float64bits"], unfollowed := true, recurses := true, apart := false, narrowed := true }
def ValueTextsUptoSaid : Prop := valueTextsUptoRow.holds Try.pinned (OpenSpec.upto valueTextsSpec)

/-- 'ligaturelaw2.ValueOdd', WHERE WHAT IT READS IS OF BULK AT MOST 1048576: true; the input reads as it did. -/
def valueOddUptoRow : OpenClaim := { program := "ytbnhepcfjjephaa", sum := "6781b42603881a83af057b58508f8ce6e11270b756f744d8a3cf1d2600f0d8c5", func := "ligature/ligaturelaw2.ValueOdd", spec := "valueOdd", inPlace := ["math.Float64frombits", "math.Float64bits"], unfollowed := true, recurses := true, apart := false, narrowed := true }
def ValueOddUptoSaid : Prop := valueOddUptoRow.holds Try.pinned (OpenSpec.upto valueOddSpec)

/-- 'ligaturelaw2.ValueTells', WHERE WHAT IT READS IS OF BULK AT MOST 1048576: true; the input reads as it did. -/
def valueTellsUptoRow : OpenClaim := { program := "ytbnhepcfjjephaa", sum := "6781b42603881a83af057b58508f8ce6e11270b756f744d8a3cf1d2600f0d8c5", func := "ligature/ligaturelaw2.ValueTells", spec := "valueTells", inPlace := ["math.Float64frombits", "math.Float64bits"], unfollowed := true, recurses := true, apart := false, narrowed := true }
def ValueTellsUptoSaid : Prop := valueTellsUptoRow.holds Try.pinned (OpenSpec.upto valueTellsSpec)

/-- 'ligaturelaw2.ValueBetween', WHERE WHAT IT READS IS OF BULK AT MOST 1048576: true; the input reads as it did. -/
def valueBetweenUptoRow : OpenClaim := { program := "ytbnhepcfjjephaa", sum := "6781b42603881a83af057b58508f8ce6e11270b756f744d8a3cf1d2600f0d8c5", func := "ligature/ligaturelaw2.ValueBetween", spec := "valueBetween", inPlace := ["math.Float64bits", "math.Float64frombits"], unfollowed := true, recurses := true, apart := false, narrowed := true }
def ValueBetweenUptoSaid : Prop := valueBetweenUptoRow.holds Try.pinned (OpenSpec.upto valueBetweenSpec)

/-- 'ligaturelaw2.ValueInts', WHERE WHAT IT READS IS OF BULK AT MOST 1048576: true; the input reads as it did. -/
def valueIntsUptoRow : OpenClaim := { program := "ytbnhepcfjjephaa", sum := "6781b42603881a83af057b58508f8ce6e11270b756f744d8a3cf1d2600f0d8c5", func := "ligature/ligaturelaw2.ValueInts", spec := "valueInts", inPlace := ["math.Float64frombits", "math.Float64bits"], unfollowed := true, recurses := true, apart := false, narrowed := true }
def ValueIntsUptoSaid : Prop := valueIntsUptoRow.holds Try.pinned (OpenSpec.upto valueIntsSpec)

end Rows
end Go.Proofs.Ytbnhepcfjjephaa
